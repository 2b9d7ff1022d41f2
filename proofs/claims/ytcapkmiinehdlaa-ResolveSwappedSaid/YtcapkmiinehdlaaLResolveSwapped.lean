/-
  ResolveSwapped: for a normal along an axis, exchanging the bodies and negating the normal exchanges the results. Conditions: none.
-/
import Derived.Test.YtcapkmiinehdlaaRows
import Derived.Test.YtcapkmiinehdlaaHead
import Derived.Test.YtcapkmiinehdlaaOpen
import Derived.Test.YtcapkmiinehdlaaResL
import Derived.Test.YtcapkmiinehdlaaBlk
namespace Go.Proofs.Ytcapkmiinehdlaa.resolveSwapped
open Go.ChangeShapes Go.WideShapes Go.ChangeAt Go.RowKit Go.Sort
attribute [local go_sem ↓] Go.wp_at_zero Go.wp_at_succ

theorem axis_neg {n : Int} (k : Int) (h : n = 0 ∨ n = 1024 ∨ n = -1024) : mdv (-n) k 1024 = -mdv n k 1024 := by
  rcases h with rfl | rfl | rfl <;> rw [mdv_one, mdv_one] <;> omega
theorem rpos_neg {n : Int} (p d m t : Int) (h : n = 0 ∨ n = 1024 ∨ n = -1024) : rpos' p (-n) d m t = rpos p n d m t ∧ rpos p (-n) d m t = rpos' p n d m t := by
  unfold rpos rpos'; rw [axis_neg _ h]
  exact ⟨by rw [Int.sub_eq_add_neg], by rw [Int.sub_neg]⟩
theorem rvel_neg {n : Int} (v j m : Int) (h : n = 0 ∨ n = 1024 ∨ n = -1024) : rvel' v (-n) j m = rvel v n j m ∧ rvel v (-n) j m = rvel' v n j m := by
  unfold rvel rvel'; rw [axis_neg _ h]
  exact ⟨by rw [Int.sub_eq_add_neg], by rw [Int.sub_neg]⟩
theorem imp_swap (avx avy am bvx bvy bm nx ny e : Int) : imp bvx bvy bm avx avy am (-nx) (-ny) e = imp avx avy am bvx bvy bm nx ny e := by
  unfold imp dotz
  have e1 : (avx - bvx) * -nx = (bvx - avx) * nx := by rw [Int.mul_neg, ← Int.neg_mul]; congr 1; omega
  have e2 : (avy - bvy) * -ny = (bvy - avy) * ny := by rw [Int.mul_neg, ← Int.neg_mul]; congr 1; omega
  rw [e1, e2, Int.add_comm bm am]
theorem axx_one (n : Int) : axx n = 0 ∨ axx n = 1024 ∨ axx n = -1024 := by unfold axx; omega
theorem axy_one (n : Int) : axy n = 0 ∨ axy n = 1024 ∨ axy n = -1024 := by unfold axy; omega

/-- Resolve where it is asked: what the two calls return. -/
def Res (apx apy avx avy am bpx bpy bvx bvy bm nx ny d e : Int) (p q r s t p' q' r' s' t' : Int) : Prop :=
  ∀ w, Calls Try.prog 68 #[.agg #[.int .i64 apx, .int .i64 apy, .int .i64 avx, .int .i64 avy, .int .i64 am], .agg #[.int .i64 bpx, .int .i64 bpy, .int .i64 bvx, .int .i64 bvy, .int .i64 bm], .agg #[.int .i64 nx, .int .i64 ny, .int .i64 d], .int .i64 e] w
      fun r0 w' => r0 = .returned (.tuple #[.agg #[.int .i64 p, .int .i64 q, .int .i64 r, .int .i64 s, .int .i64 t], .agg #[.int .i64 p', .int .i64 q', .int .i64 r', .int .i64 s', .int .i64 t']]) ∧ Below w.heap.size w w'
theorem two (apx apy avx avy am bpx bpy bvx bvy bm nx ny d e : Int) (hA : RB apx apy avx avy am) (hB : RB bpx bpy bvx bvy bm) (h1 : nx = 0 ∨ nx = 1024 ∨ nx = -1024) (h2 : ny = 0 ∨ ny = 1024 ∨ ny = -1024) (hd : 0 ≤ d ∧ d ≤ 1048576) (he : 0 ≤ e ∧ e ≤ 1024) :
    ∃ a1 a2 a3 a4 b1 b2 b3 b4, Res apx apy avx avy am bpx bpy bvx bvy bm nx ny d e a1 a2 a3 a4 am b1 b2 b3 b4 bm ∧ Res bpx bpy bvx bvy bm apx apy avx avy am (-nx) (-ny) d e b1 b2 b3 b4 bm a1 a2 a3 a4 am := by
  have g1 := fun w => Resolve_any apx apy avx avy am bpx bpy bvx bvy bm nx ny d e w hA hB (by omega) hd he
  have g2 := fun w => Resolve_any bpx bpy bvx bvy bm apx apy avx avy am (-nx) (-ny) d e w hB hA (by omega) hd he
  simp only [imp_swap, (rpos_neg _ _ _ _ h1).1, (rpos_neg _ _ _ _ h1).2, (rpos_neg _ _ _ _ h2).1, (rpos_neg _ _ _ _ h2).2, (rvel_neg _ _ _ h1).1, (rvel_neg _ _ _ h1).2, (rvel_neg _ _ _ h2).1, (rvel_neg _ _ _ h2).2, Int.add_comm bm am] at g2
  exact ⟨_, _, _, _, _, _, _, _, g1, g2⟩

abbrev Mot (W : World) (b : Nat) (p q r s t : Int) : Prop := W.cell? ⟨b, 0, none⟩ = some (.int .i64 p) ∧ W.cell? ⟨b, 1, none⟩ = some (.int .i64 q) ∧ W.cell? ⟨b, 2, none⟩ = some (.int .i64 r) ∧ W.cell? ⟨b, 3, none⟩ = some (.int .i64 s) ∧ W.cell? ⟨b, 4, none⟩ = some (.int .i64 t)

set_option maxRecDepth 100000 in
set_option maxHeartbeats 8000000 in
theorem walk (w : World) (A : Option Addr) (lA cA : Nat) (zA : List Int) (hA : IsRow .i64 w A lA cA zA) (B : Option Addr) (lB cB : Nat) (zB : List Int) (hB : IsRow .i64 w B lB cB zB)
    (x : Int) (lx : -9223372036854775808 ≤ x) (ux : x ≤ 9223372036854775807) (y : Int) (ly : -9223372036854775808 ≤ y) (uy : y ≤ 9223372036854775807) (r : Int) (lr : -9223372036854775808 ≤ r) (ur : r ≤ 9223372036854775807) :
    Calls Try.prog 23 #[.slice A lA cA, .slice B lB cB, .int .i64 x, .int .i64 y, .int .i64 r] w fun e w' => e = .returned (.bool true) ∧ Below w.heap.size w w' := by
  have CA := fun W h => Motion_any A lA cA zA W h
  have CB := fun W h => Motion_any B lB cB zB W h
  have CC := fun W => Axis_any x W lx ux
  have CD := fun W => Around_any y 1048577 W (by omega) ly uy
  have CE := fun W => Around_any r 1025 W (by omega) lr ur
  have mA := motion_bd zA lA
  have mB := motion_bd zB lB
  have mx := axx_one x
  have my := axy_one x
  have md := arnd_bd y (most := 1048577) (by decide)
  have me := arnd_bd r (most := 1025) (by decide)
  have HA := Lib.hid hA; clear hA
  have HB := Lib.hid hB; clear hB
  generalize mpx zA lA = apx at *
  generalize mpy zA lA = apy at *
  generalize mvx zA lA = avx at *
  generalize mvy zA lA = avy at *
  generalize mms zA lA = am at *
  generalize mpx zB lB = bpx at *
  generalize mpy zB lB = bpy at *
  generalize mvx zB lB = bvx at *
  generalize mvy zB lB = bvy at *
  generalize mms zB lB = bm at *
  generalize axx x = nx at *
  generalize axy x = ny at *
  generalize arnd y 1048577 = d at *
  generalize arnd r 1025 = E at *
  obtain ⟨a1, a2, a3, a4, b1, b2, b3, b4, F1, F2⟩ := two apx apy avx avy am bpx bpy bvx bvy bm nx ny d E mA mB mx my (by omega) (by omega)
  have HF1 := Lib.hid F1; clear F1
  have HF2 := Lib.hid F2; clear F2
  have HCA := Lib.hid CA; clear CA
  have HCB := Lib.hid CB; clear CB
  have HCC := Lib.hid CC; clear CC
  have HCD := Lib.hid CD; clear CD
  have HCE := Lib.hid CE; clear CE
  have q1 : -1024 ≤ nx ∧ nx ≤ 1024 := by omega
  have q2 : -1024 ≤ ny ∧ ny ≤ 1024 := by omega
  clear mA mB mx my md me
  go_enter Try.func23, Try.ntmps23
  go_wp2_with fail
  refine (HCA.out _ (HA.out.below (by repeat (first | with_reducible exact Below.refl _ _ | with_reducible refine below_alloc ?_ _ | with_reducible refine Below.drew ?_ | with_reducible refine below_set ?_ (by (first | (simp; done) | (simp; omega))) _ | with_reducible refine below_step (by assumption) ?_)))).mono ?_
  rintro e w1 ⟨rfl, hb1⟩; have d1 : Below w.heap.size w w1 := below_step hb1 (by repeat (first | with_reducible exact Below.refl _ _ | with_reducible refine below_alloc ?_ _ | with_reducible refine Below.drew ?_ | with_reducible refine below_set ?_ (by (first | (simp; done) | (simp; omega))) _ | with_reducible refine below_step (by assumption) ?_)); have z1 := hb1.size; (try simp at z1)
  go_wp2_with fail
  refine (HCB.out _ (HB.out.below (by repeat (first | with_reducible exact Below.refl _ _ | with_reducible refine below_alloc ?_ _ | with_reducible refine Below.drew ?_ | with_reducible refine below_set ?_ (by (first | (simp; done) | (simp; omega))) _ | with_reducible refine below_step (by assumption) ?_)))).mono ?_
  rintro e w2 ⟨rfl, hb2⟩; have d2 : Below w1.heap.size w1 w2 := below_step hb2 (by repeat (first | with_reducible exact Below.refl _ _ | with_reducible refine below_alloc ?_ _ | with_reducible refine Below.drew ?_ | with_reducible refine below_set ?_ (by (first | (simp; done) | (simp; omega))) _ | with_reducible refine below_step (by assumption) ?_)); have z2 := hb2.size; (try simp at z2)
  have XA : B5 w2 (w1.heap.size) (.int .i64 (apx)) (.int .i64 (apy)) (.int .i64 (avx)) (.int .i64 (avy)) (.int .i64 (am)) := B5.below (by unfold B5 Cel; simp [go_sem]) hb2; have lXA := XA.lt
  go_wp2_with fail
  refine (HCC.out _).mono ?_
  rintro e w3 ⟨rfl, hb3⟩; have d3 : Below w2.heap.size w2 w3 := below_step hb3 (by repeat (first | with_reducible exact Below.refl _ _ | with_reducible refine below_alloc ?_ _ | with_reducible refine Below.drew ?_ | with_reducible refine below_set ?_ (by (first | (simp; done) | (simp; omega))) _ | with_reducible refine below_step (by assumption) ?_)); have z3 := hb3.size; (try simp at z3); replace XA := XA.below d3; (try clear lXA); have lXA := XA.lt
  have XB : B5 w3 (w2.heap.size) (.int .i64 (bpx)) (.int .i64 (bpy)) (.int .i64 (bvx)) (.int .i64 (bvy)) (.int .i64 (bm)) := B5.below (by unfold B5 Cel; simp [go_sem]) hb3; have lXB := XB.lt
  go_wp2_with fail
  refine (HCD.out _).mono ?_
  rintro e w' ⟨rfl, rfl⟩
  go_wp2_with fail
  refine (HCE.out _).mono ?_
  rintro e w' ⟨rfl, rfl⟩
  go_wp2_with fail
  refine (HF1.out _).mono ?_
  rintro e w4 ⟨rfl, hb4⟩; have d4 : Below w3.heap.size w3 w4 := below_step hb4 (by repeat (first | with_reducible exact Below.refl _ _ | with_reducible refine below_alloc ?_ _ | with_reducible refine Below.drew ?_ | with_reducible refine below_set ?_ (by (first | (simp; done) | (simp; omega))) _ | with_reducible refine below_step (by assumption) ?_)); have z4 := hb4.size; (try simp at z4); replace XA := XA.below d4; (try clear lXA); have lXA := XA.lt; replace XB := XB.below d4; (try clear lXB); have lXB := XB.lt
  have XC : B2 w4 (w3.heap.size) (.int .i64 (nx)) (.int .i64 (ny)) := B2.below (by unfold B2 Cel; simp [go_sem]) hb4; have lXC := XC.lt
  go_wp2_with fail
  refine code_named ?_; intro W4 hW; have dW4 : Below w4.heap.size w4 W4 := (by rw [hW]; exact (by repeat (first | with_reducible exact Below.refl _ _ | with_reducible refine below_alloc ?_ _ | with_reducible refine Below.drew ?_ | with_reducible refine below_set ?_ (by (first | (simp; done) | (simp; omega))) _ | with_reducible refine below_step (by assumption) ?_))); replace XA := XA.below dW4; (try clear lXA); have lXA := XA.lt; replace XB := XB.below dW4; (try clear lXB); have lXB := XB.lt; replace XC := XC.below dW4; (try clear lXC); have lXC := XC.lt
  have XV : B5 W4 (w4.heap.size) (.int .i64 (a1)) (.int .i64 (a2)) (.int .i64 (a3)) (.int .i64 (a4)) (.int .i64 (am)) := (by rw [hW]; unfold B5 Cel; simp [go_sem]); have lXV := XV.lt
  have XW : B5 W4 (w4.heap.size + 1) (.int .i64 (b1)) (.int .i64 (b2)) (.int .i64 (b3)) (.int .i64 (b4)) (.int .i64 (bm)) := (by rw [hW]; unfold B5 Cel; simp [go_sem]); have lXW := XW.lt
  clear hW
  go_upto_region 7 with fail
  go_cut [18, 19] (fun s18 s19 w' => ∃ g h : Nat, s18 = .pointer (some ⟨g, 0, none⟩) ∧ s19 = .pointer (some ⟨h, 0, none⟩) ∧ Mot w' g b1 b2 b3 b4 bm ∧ Mot w' h a1 a2 a3 a4 am ∧ Below W4.heap.size W4 w')
  case first =>
    clear HA HB HF1 HCA HCB HCC HCD HCE XV XW lXV lXW hb1 hb2 hb3 hb4 d1 d2 d3 d4 dW4 z1 z2 z3 z4 lx ux ly uy lr ur
    have KS := Lib.hid (show ∀ w', Below W4.heap.size W4 w' → (B5 w' w1.heap.size (.int .i64 apx) (.int .i64 apy) (.int .i64 avx) (.int .i64 avy) (.int .i64 am) ∧ B5 w' w2.heap.size (.int .i64 bpx) (.int .i64 bpy) (.int .i64 bvx) (.int .i64 bvy) (.int .i64 bm) ∧ B2 w' w3.heap.size (.int .i64 nx) (.int .i64 ny) ∧ Below W4.heap.size W4 w') from fun w' hb => ⟨XA.below hb, XB.below hb, XC.below hb, hb⟩)
    go_region_held3 (fun w' => B5 w' w1.heap.size (.int .i64 apx) (.int .i64 apy) (.int .i64 avx) (.int .i64 avy) (.int .i64 am) ∧ B5 w' w2.heap.size (.int .i64 bpx) (.int .i64 bpy) (.int .i64 bvx) (.int .i64 bvy) (.int .i64 bm) ∧ B2 w' w3.heap.size (.int .i64 nx) (.int .i64 ny) ∧ Below W4.heap.size W4 w') (refine KS.out _ (by repeat (first | with_reducible exact Below.refl _ _ | with_reducible refine below_alloc ?_ _ | with_reducible refine Below.drew ?_ | with_reducible refine below_set ?_ (by (first | (simp; done) | (simp; omega))) _ | with_reducible refine below_step (by assumption) ?_)))
      (first
        | (go_at_call 52; refine (Neg_any _ _ _ (by omega) (by omega) (by omega) (by omega)).mono ?_; rintro e w9 ⟨rfl, hb9⟩; obtain ⟨hc9, hf9, hx9, hy9, hn9, hz9⟩ := bcellA hb9; (try simp at hz9); (try have ltw9_0 : W4.heap.size < w9.heap.size := by omega); (try have lew9_0 : W4.heap.size ≤ w9.heap.size := by omega); (try have ltw9_1 : W4.heap.size + 1 < w9.heap.size := by omega); (try have lew9_1 : W4.heap.size + 1 ≤ w9.heap.size := by omega))
        | (go_at_call 68; refine (HF2.out _).mono ?_; rintro e w8 ⟨rfl, hb8⟩; obtain ⟨hc8, hf8, hx8, hy8, hn8, hz8⟩ := bcellA hb8; (try simp at hz8); (try have ltw8_0 : W4.heap.size < w8.heap.size := by omega); (try have lew8_0 : W4.heap.size ≤ w8.heap.size := by omega); (try have ltw8_1 : W4.heap.size + 1 < w8.heap.size := by omega); (try have lew8_1 : W4.heap.size + 1 ≤ w8.heap.size := by omega); (try have ltw8_2 : w9.heap.size < w8.heap.size := by omega); (try have lew8_2 : w9.heap.size ≤ w8.heap.size := by omega); (try have ltw8_3 : w9.heap.size + 1 < w8.heap.size := by omega); (try have lew8_3 : w9.heap.size + 1 ≤ w8.heap.size := by omega)))
    all_goals (rename _ ∧ _ ∧ _ ∧ Below W4.heap.size W4 _ => hS; go_wp2_with fail; go_meet; exact ⟨_, _, rfl, rfl, (by unfold Mot; simp (maxDischargeDepth := 6) [go_sem, World.cell?_setCell_same', *]), (by unfold Mot; simp (maxDischargeDepth := 6) [go_sem, World.cell?_setCell_same', *]), hS.2.2.2⟩)
  case rest =>
    rename World => w5
    obtain ⟨g, h, rfl, rfl, XG, XH, d5⟩ := hcut
    replace XV := XV.below d5
    replace XW := XW.below d5
    clear XA XB XC lXA lXB lXC
    go_wp2_with fail
    refine (lives7_any _).mono ?_
    rintro e w6 ⟨rfl, hb6⟩
    go_wp2_with fail
    go_ret
    exact ⟨rfl, (by repeat (first | with_reducible exact Below.refl _ _ | with_reducible refine below_alloc ?_ _ | with_reducible refine Below.drew ?_ | with_reducible refine below_set ?_ (by (first | (simp; done) | (simp; omega))) _ | with_reducible refine below_step (by assumption) ?_))⟩

theorem own : ownKnob Try.prog.godebug = none := by kernel_rfl
theorem laidOut : laidOutB Try.prog = true := by kernel_rfl

set_option maxRecDepth 100000 in
theorem lifted (os : Os) (started : os.Started) (H : Type) (enc : TypeId × Value → H) :
    ReturnsInHanded {} Try.checked os 23 .any (Rows.resolveSwappedSpec.pre6 enc Try.prog Try.f23 Rows.resolveSwappedRow.domain false) (Rows.resolveSwappedSpec.post enc Try.prog Try.f23 false true false false) := by
  refine returnsInHanded_of_change (C := Try.checked) own started (by kernel_rfl) Try.func23
    (ChangeSpec.witness6 (enc := enc) (C := Try.checked) false ⟨#[], #[.slice none 0 0, .slice none 0 0, .int .i64 0, .int .i64 0, .int .i64 0], []⟩ 8 (by kernel_rfl) (by kernel_rfl) (by kernel_rfl) (by kernel_rfl)) ?_
  intro W base args ds gs before hval0 hW hcnd _
  have hval : ∀ (j : Nat) t v, Try.f23.params[j]? = some t → args[j]? = some v → Value.okWide Try.prog W .any base t v := hval0
  have hW' := hW
  obtain ⟨p, q, hA0, hV, rfl, hfz, hnd⟩ := hW
  have hA : DataW.TrodAll enc Try.prog W 0 (fun _ => true) true Try.f23.params.toList args.toList ds p := hA0
  rw [Try.params23] at hA hval
  obtain ⟨v0, vs0, d0, ds0, p0, q0, hargs, rfl, rfl, h0, r0⟩ := trodAll_cons hA
  obtain ⟨v1, vs1, d1, ds1, p1, q1, rfl, rfl, rfl, h1, r1⟩ := trodAll_cons r0
  obtain ⟨v2, vs2, d2, ds2, p2, q2, rfl, rfl, rfl, h2, r2⟩ := trodAll_cons r1
  obtain ⟨v3, vs3, d3, ds3, p3, q3, rfl, rfl, rfl, h3, r3⟩ := trodAll_cons r2
  obtain ⟨v4, vs4, d4, ds4, p4, q4, rfl, rfl, rfl, h4, r4⟩ := trodAll_cons r3
  obtain ⟨rfl, rfl, rfl⟩ := trodAll_nil r4
  obtain rfl : args = #[v0, v1, v2, v3, v4] := by cases args; simp_all
  obtain ⟨rfl, rfl⟩ := trodVars_none hV
  obtain ⟨a0, len0, cap0, rfl⟩ := okWide_slice Try.underlying44 (hval 0 44 v0 rfl rfl)
  have k0 := h0
  have lt0 : ∀ x ∈ p0, x.block < W.heap.size := by obtain ⟨m, hm⟩ := k0; exact DataW.trod_lt m _ _ _ hm
  obtain ⟨z0, w0⟩ : ∃ zs, IsRow .i64 W a0 len0 cap0 zs := by
    obtain ⟨fuel, hf⟩ := h0
    rcases open_ints Try.underlying44 Try.underlying3 (by kernel_rfl) hf with ⟨hcs, _⟩ | ⟨x, l, c, zs, hcs, _, hl, hm, hz, _, hcell, hwz⟩
    · simp [Value.cells] at hcs
      obtain ⟨rfl, rfl, rfl⟩ := hcs
      exact ⟨[], .inl ⟨rfl, rfl, rfl, rfl⟩⟩
    · simp [Value.cells] at hcs
      obtain ⟨rfl, rfl, rfl⟩ := hcs
      exact ⟨zs, .inr ⟨_, rfl, hl, hm, by simpa using hz, hcell, hwz⟩⟩
  obtain ⟨a1, len1, cap1, rfl⟩ := okWide_slice Try.underlying44 (hval 1 44 v1 rfl rfl)
  have k1 := h1
  have lt1 : ∀ x ∈ p1, x.block < W.heap.size := by obtain ⟨m, hm⟩ := k1; exact DataW.trod_lt m _ _ _ hm
  obtain ⟨z1, w1⟩ : ∃ zs, IsRow .i64 W a1 len1 cap1 zs := by
    obtain ⟨fuel, hf⟩ := h1
    rcases open_ints Try.underlying44 Try.underlying3 (by kernel_rfl) hf with ⟨hcs, _⟩ | ⟨x, l, c, zs, hcs, _, hl, hm, hz, _, hcell, hwz⟩
    · simp [Value.cells] at hcs
      obtain ⟨rfl, rfl, rfl⟩ := hcs
      exact ⟨[], .inl ⟨rfl, rfl, rfl, rfl⟩⟩
    · simp [Value.cells] at hcs
      obtain ⟨rfl, rfl, rfl⟩ := hcs
      exact ⟨zs, .inr ⟨_, rfl, hl, hm, by simpa using hz, hcell, hwz⟩⟩
  obtain ⟨a2, rfl, rfl, rfl, w2⟩ := open_int Try.underlying3 (hval 2 3 v2 rfl rfl) h2
  obtain ⟨a3, rfl, rfl, rfl, w3⟩ := open_int Try.underlying3 (hval 3 3 v3 rfl rfl) h3
  obtain ⟨a4, rfl, rfl, rfl, w4⟩ := open_int Try.underlying3 (hval 4 3 v4 rfl rfl) h4
  clear hA0 hval0
  refine (walk W a0 len0 cap0 z0 w0 a1 len1 cap1 z1 w1 a2 (bounds_i64 w2).1 (bounds_i64 w2).2 a3 (bounds_i64 w3).1 (bounds_i64 w3).2 a4 (bounds_i64 w4).1 (bounds_i64 w4).2).mono fun e W' ⟨he, bel⟩ => ?_
  subst he
  exact ⟨_, rfl, _, _, _, [], _, [], hW', trodAll_mk1 (shut_bool Try.underlying4 _), (trodAll_cons_mk (Below.trod laidOut (by kernel_rfl) (of_decide_eq_true (by kernel_rfl)) k0 bel lt0) (trodAll_cons_mk (Below.trod laidOut (by kernel_rfl) (of_decide_eq_true (by kernel_rfl)) k1 bel lt1) (trodAll_cons_mk (shut_int Try.underlying3 w2) (trodAll_cons_mk (shut_int Try.underlying3 w3) (trodAll_cons_mk (shut_int Try.underlying3 w4) trodAll_mk0))))), rfl, bel.frame _, fun h => by cases h⟩

theorem closed : joinedFacts Try.prog 23 Try.f23 Rows.resolveSwappedSpec Rows.resolveSwappedRow = true := by
  unfold joinedFacts
  repeat' (with_reducible refine both_of ?_ ?_)
  all_goals (first | with_reducible exact mayEnter_ok | (rw [liftsFinal_is]; as_aux_lemma => kernel_rfl) | (rw [make_is]; as_aux_lemma => kernel_rfl) | (as_aux_lemma => kernel_rfl))

theorem over : Rows.resolveSwappedRow.holds Try.pinned (OpenSpec.ofChange Rows.resolveSwappedSpec) :=
  OpenClaim.holds_of_wide 23 Try.f23 rfl rfl rfl rfl rfl rfl rfl ⟨rfl, rfl, rfl, rfl, rfl⟩ rfl rfl rfl rfl rfl (by kernel_rfl) Try.func23 closed
    (of_decide_eq_true (by kernel_rfl)) (by unfold Func.isWrapper; first | (rw [if_pos (by decide +kernel)]; kernel_rfl) | (rw [if_neg (by decide +kernel)]; exact ⟨rfl, rfl⟩))
    (fun os started H enc _ => lifted os started H enc)

theorem proved : Rows.ResolveSwappedSaid := over
#print axioms proved

end Go.Proofs.Ytcapkmiinehdlaa.resolveSwapped
