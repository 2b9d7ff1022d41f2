/-
  ToiShift: two generated bodies both moved by the same multiples of One: the result stays. Conditions: none.
-/
import Derived.Test.YtipcppbbpmdijaaRows
import Derived.Test.YtipcppbbpmdijaaHead
import Derived.Test.YtipcppbbpmdijaaOpen
import Derived.Test.YtipcppbbpmdijaaPaj
namespace Go.Proofs.Ytipcppbbpmdijaa.toiShift
open Go.ChangeShapes Go.WideShapes Go.ChangeAt Go.RowKit Go.Sort
attribute [local go_sem ↓] Go.wp_at_zero Go.wp_at_succ

theorem stp_mov (p u : V2) (i k j : Int) : stp (mov p i k) u j = mov (stp p u j) i k := by
  unfold stp mov; dsimp only; congr 1 <;> omega
theorem tch_mov (Ra : Int) (va : List V2) (p u : V2) (Rb : Int) (vb : List V2) (q v : V2) (i k : Int) : tch Ra va (mov p i k) u Rb vb (mov q i k) v = tch Ra va p u Rb vb q v := by
  funext j; unfold tch; rw [stp_mov, stp_mov]; exact (con_mov _ _ _ _ _ _ _ _).1

theorem max2_int (a b : Int) (P : Program) (w : World) : (Builtin.max2 (.int .i64 a) (.int .i64 b)).run P w = .ok (.int .i64 (max a b)) w := by
  by_cases h : a < b
  · simp [Builtin.max2, go_sem, h]; omega
  · simp [Builtin.max2, go_sem, h]; omega
theorem max4_int (a b c d : Int) (P : Program) (w : World) : Sem.run P (Builtin.max_ #[3, 3, 3, 3] 3 #[.int .i64 a, .int .i64 b, .int .i64 c, .int .i64 d]) w = .ok (.int .i64 (max (max (max a b) c) d)) w := by
  unfold Builtin.max_
  simp [go_sem, max2_int]

set_option maxRecDepth 100000 in
set_option maxHeartbeats 4000000 in
theorem walk (w : World) (A : Option Addr) (lA cA : Nat) (zA : List Int) (hA : IsRow .i64 w A lA cA zA) (x : Int) (lx : -9223372036854775808 ≤ x) (ux : x ≤ 9223372036854775807) (y : Int) (ly : -9223372036854775808 ≤ y) (uy : y ≤ 9223372036854775807) :
    Calls Try.prog 22 #[.slice A lA cA, .int .i64 x, .int .i64 y] w fun e w' => e = .returned (.bool true) ∧ Below w.heap.size w w' := by
  obtain ⟨Ra, Rb, p0, p1, u0, u1, q0, q1, v0, v1, va, vb, hSa, hSb, hb, hP⟩ := Pair_two lA zA
  unfold Bd at hb
  have c0 := bnd_bd x (most := 200) (by decide)
  have c1 := bnd_bd y (most := 200) (by decide)
  have hB0 := fun W => Bound_any x 200 W (by omega) (by omega) lx ux
  have hB1 := fun W => Bound_any y 200 W (by omega) (by omega) ly uy
  generalize bnd x 200 = e0 at *
  generalize bnd y 200 = e1 at *
  have hE1 := fun C j c D k d W P Q => earliest_any Ra Rb p0 p1 u0 u1 q0 q1 v0 v1 C D j c k d va vb W P Q hSa hSb (by omega) (by omega) (by omega) (by omega) (by omega) (by omega) (by omega) (by omega)
  have hE2 := fun C j c D k d W P Q => earliest_any Ra Rb (p0 + e0 * 1024) (p1 + e1 * 1024) u0 u1 (q0 + e0 * 1024) (q1 + e1 * 1024) v0 v1 C D j c k d va vb W P Q hSa hSb (by omega) (by omega) (by omega) (by omega) (by omega) (by omega) (by omega) (by omega)
  have hm := tch_mov Ra va (p0, p1) (u0, u1) Rb vb (q0, q1) (v0, v1) e0 e1
  unfold mov at hm
  dsimp only at hm
  rw [hm] at hE2
  clear hm
  generalize ear (tch Ra va (p0, p1) (u0, u1) Rb vb (q0, q1) (v0, v1)) = f at *
  have HP := Lib.hid (fun W hW => hP A cA W (hA.below hW)); clear hP
  have HE1 := Lib.hid hE1; clear hE1
  have HE2 := Lib.hid hE2; clear hE2
  have HB0 := Lib.hid hB0; clear hB0
  have HB1 := Lib.hid hB1; clear hB1
  clear hSa hSb
  go_enter Try.func22, Try.ntmps22
  go_upto_region 1 with fail
  go_cut [7, 8] (fun s3 s4 w' => ∃ g h C j c D k d, s3 = .pointer (some ⟨g, 0, none⟩) ∧ s4 = .pointer (some ⟨h, 0, none⟩) ∧ g ≠ h ∧ w.heap.size ≤ g ∧ w.heap.size ≤ h ∧
    B6 w' g (.int .i64 Ra) (.slice C j c) (.int .i64 p0) (.int .i64 p1) (.int .i64 u0) (.int .i64 u1) ∧ B6 w' h (.int .i64 Rb) (.slice D k d) (.int .i64 q0) (.int .i64 q1) (.int .i64 v0) (.int .i64 v1) ∧
    Pol w' C j c va ∧ Pol w' D k d vb ∧ (∀ a, C = some a → a.block ≠ g ∧ a.block ≠ h) ∧ (∀ a, D = some a → a.block ≠ g ∧ a.block ≠ h) ∧ Below w.heap.size w w')
  case first =>
    clear HE1 HE2 HB0 HB1
    go_wp2_with fail
    refine (HP.out _ (by repeat (first | with_reducible exact Below.refl _ _ | with_reducible refine below_alloc ?_ _ | with_reducible refine Below.drew ?_ | with_reducible refine below_set ?_ (by (first | (simp; done) | (simp; omega))) _ | with_reducible refine below_step (by assumption) ?_))).mono ?_
    rintro e w9 ⟨C, j, c, D, k, d, rfl, PC, PD, fC, fD, hb9⟩
    have i9 : Below w.heap.size w w9 := (by repeat (first | with_reducible exact Below.refl _ _ | with_reducible refine below_alloc ?_ _ | with_reducible refine Below.drew ?_ | with_reducible refine below_set ?_ (by (first | (simp; done) | (simp; omega))) _ | with_reducible refine below_step (by assumption) ?_))
    go_wp2_with fail
    go_meet
    have s9 := i9.size
    exact ⟨w9.heap.size, w9.heap.size + 1, C, j, c, D, k, d, rfl, rfl, by omega, by omega, by omega, (by unfold B6 Cel; simp [go_sem]), (by unfold B6 Cel; simp [go_sem]), PC.below (by repeat (first | with_reducible exact Below.refl _ _ | with_reducible refine below_alloc ?_ _ | with_reducible refine Below.drew ?_ | with_reducible refine below_set ?_ (by (first | (simp; done) | (simp; omega))) _ | with_reducible refine below_step (by assumption) ?_)), PD.below (by repeat (first | with_reducible exact Below.refl _ _ | with_reducible refine below_alloc ?_ _ | with_reducible refine Below.drew ?_ | with_reducible refine below_set ?_ (by (first | (simp; done) | (simp; omega))) _ | with_reducible refine below_step (by assumption) ?_)), (fun a e => by have := PC.ltA e; omega), (fun a e => by have := PD.ltA e; omega), (by repeat (first | with_reducible exact i9 | with_reducible refine below_alloc ?_ _))⟩
  case rest =>
    rename World => w1
    obtain ⟨g, h, C, j, c, D, k, d, rfl, rfl, hne, hg, hh, XA, XB, PC, PD, fC, fD, j1⟩ := hcut
    have lXA := XA.lt; have lXB := XB.lt
    have hne' := Ne.symm hne
    have FC := Lib.hid fC; have FD := Lib.hid fD; clear fC fD
    go_wp2_with fail
    have lg1 := XA.lt; have lh1 := XB.lt
    refine (HE1.out _ _ _ _ _ _ _ PC PD).mono ?_
    rintro e w2 ⟨rfl, hb2⟩; have d2 : Below w1.heap.size w1 w2 := below_step hb2 (by repeat (first | with_reducible exact Below.refl _ _ | with_reducible refine below_alloc ?_ _ | with_reducible refine Below.drew ?_ | with_reducible refine below_set ?_ (by (first | (simp; done) | (simp; omega))) _ | with_reducible refine below_step (by assumption) ?_)); have z2 := hb2.size; (try simp at z2); replace XA := XA.below d2; (try clear lXA); have lXA := XA.lt; replace XB := XB.below d2; (try clear lXB); have lXB := XB.lt; replace PC := PC.below d2; (try clear lPC); have lPC := PC.lt; replace PD := PD.below d2; (try clear lPD); have lPD := PD.lt
    have i2 : Below w.heap.size w w2 := j1.trans (d2.mono j1.size)
    have z12 := d2.size
    go_wp2_with ((go_at_call 42; first | ((with_reducible refine (HB0.out _).mono ?_); rintro e w' ⟨rfl, rfl⟩) | ((with_reducible refine (HB1.out _).mono ?_); rintro e w' ⟨rfl, rfl⟩)))
    refine calls_at ?_; intro W3 hW; have dW3 : Below w2.heap.size w2 W3 := (by rw [hW]; exact (by repeat (first | with_reducible exact Below.refl _ _ | with_reducible refine below_alloc ?_ _ | with_reducible refine Below.drew ?_ | with_reducible refine below_set ?_ (by (first | (simp; done) | (simp; omega))) _ | with_reducible refine below_step (by assumption) ?_))); replace XA := XA.below dW3; (try clear lXA); have lXA := XA.lt; replace XB := XB.below dW3; (try clear lXB); have lXB := XB.lt; replace PC := PC.below dW3; (try clear lPC); have lPC := PC.lt; replace PD := PD.below dW3; (try clear lPD); have lPD := PD.lt
    have XC : B2 W3 w2.heap.size (.int .i64 (e0 * 1024)) (.int .i64 (e1 * 1024)) := (by rw [hW]; unfold B2 Cel; simp [go_sem])
    have lXC := XC.lt
    have i3 : Below w.heap.size w W3 := i2.trans (dW3.mono i2.size)
    have ng : g ≠ w2.heap.size := by omega
    have nh : h ≠ w2.heap.size := by omega
    have ng' := Ne.symm ng; have nh' := Ne.symm nh
    clear hW
    refine (Add_any p0 p1 (e0 * 1024) (e1 * 1024) _ (by omega) (by omega) (by omega) (by omega)).mono ?_
    rintro e w4 ⟨rfl, hb4⟩; have d4 : Below W3.heap.size W3 w4 := below_step hb4 (by repeat (first | with_reducible exact Below.refl _ _ | with_reducible refine below_alloc ?_ _ | with_reducible refine Below.drew ?_ | with_reducible refine below_set ?_ (by (first | (simp; done) | (simp; omega))) _ | with_reducible refine below_step (by assumption) ?_)); have z4 := hb4.size; (try simp at z4); replace XA := XA.below d4; (try clear lXA); have lXA := XA.lt; replace XB := XB.below d4; (try clear lXB); have lXB := XB.lt; replace PC := PC.below d4; (try clear lPC); have lPC := PC.lt; replace PD := PD.below d4; (try clear lPD); have lPD := PD.lt; replace XC := XC.below d4; (try clear lXC); have lXC := XC.lt
    have i4 : Below w.heap.size w w4 := i3.trans (d4.mono i3.size)
    go_wp2_with fail
    refine calls_at ?_; intro W5 hW
    have i5 : Below w.heap.size w W5 := by rw [hW]; exact below_set (below_set i4 hg _) hg _
    replace PC : Pol W5 C j c va := by rw [hW]; exact Pol.farA (Pol.farA PC (fun a e => Ne.symm (FC.out a e).1) _) (fun a e => Ne.symm (FC.out a e).1) _
    replace PD : Pol W5 D k d vb := by rw [hW]; exact Pol.farA (Pol.farA PD (fun a e => Ne.symm (FD.out a e).1) _) (fun a e => Ne.symm (FD.out a e).1) _
    replace XA : B6 W5 g (.int .i64 Ra) (.slice C j c) (.int .i64 (p0 + e0 * 1024)) (.int .i64 (p1 + e1 * 1024)) (.int .i64 u0) (.int .i64 u1) := by rw [hW]; exact XA.set23 _ _
    replace XB : B6 W5 h (.int .i64 Rb) (.slice D k d) (.int .i64 q0) (.int .i64 q1) (.int .i64 v0) (.int .i64 v1) := by rw [hW]; exact (XB.far hne _).far hne _
    replace XC : B2 W5 w2.heap.size (.int .i64 (e0 * 1024)) (.int .i64 (e1 * 1024)) := by rw [hW]; exact (XC.far ng _).far ng _
    clear hW lXA lXB lXC
    refine (Add_any q0 q1 (e0 * 1024) (e1 * 1024) _ (by omega) (by omega) (by omega) (by omega)).mono ?_
    have lXA := XA.lt; have lXB := XB.lt; have lXC := XC.lt
    rintro e w6 ⟨rfl, hb6⟩; have d6 : Below W5.heap.size W5 w6 := below_step hb6 (by repeat (first | with_reducible exact Below.refl _ _ | with_reducible refine below_alloc ?_ _ | with_reducible refine Below.drew ?_ | with_reducible refine below_set ?_ (by (first | (simp; done) | (simp; omega))) _ | with_reducible refine below_step (by assumption) ?_)); have z6 := hb6.size; (try simp at z6); replace XA := XA.below d6; (try clear lXA); have lXA := XA.lt; replace XB := XB.below d6; (try clear lXB); have lXB := XB.lt; replace PC := PC.below d6; (try clear lPC); have lPC := PC.lt; replace PD := PD.below d6; (try clear lPD); have lPD := PD.lt; replace XC := XC.below d6; (try clear lXC); have lXC := XC.lt
    have i6 : Below w.heap.size w w6 := i5.trans (d6.mono i5.size)
    clear XC lXC
    go_upto_region 6 with fail
    refine code_named ?_; intro W7 hW
    have i7 : Below w.heap.size w W7 := by rw [hW]; exact below_set (below_set i6 hh _) hh _
    replace PC : Pol W7 C j c va := by rw [hW]; exact Pol.farA (Pol.farA PC (fun a e => Ne.symm (FC.out a e).2) _) (fun a e => Ne.symm (FC.out a e).2) _
    replace PD : Pol W7 D k d vb := by rw [hW]; exact Pol.farA (Pol.farA PD (fun a e => Ne.symm (FD.out a e).2) _) (fun a e => Ne.symm (FD.out a e).2) _
    replace XA : B6 W7 g (.int .i64 Ra) (.slice C j c) (.int .i64 (p0 + e0 * 1024)) (.int .i64 (p1 + e1 * 1024)) (.int .i64 u0) (.int .i64 u1) := by rw [hW]; exact (XA.far hne' _).far hne' _
    replace XB : B6 W7 h (.int .i64 Rb) (.slice D k d) (.int .i64 (q0 + e0 * 1024)) (.int .i64 (q1 + e1 * 1024)) (.int .i64 v0) (.int .i64 v1) := by rw [hW]; exact XB.set23 _ _
    clear hW lXA lXB
    have lXA := XA.lt; have lXB := XB.lt
    go_cut [53] (fun s53 w' => s53 = .bool false ∧ Below W7.heap.size W7 w')
    case first =>
      clear HE2 PC PD FC FD HP
      have g0 := fun W => rAbs_any (p0 + e0 * 1024) W (by omega)
      have g1 := fun W => rAbs_any (p1 + e1 * 1024) W (by omega)
      have g2 := fun W => rAbs_any (q0 + e0 * 1024) W (by omega)
      have g3 := fun W => rAbs_any (q1 + e1 * 1024) W (by omega)
      have b0 : 0 ≤ abz (p0 + e0 * 1024) ∧ abz (p0 + e0 * 1024) ≤ 1048576 := by unfold abz; omega
      have b1 : 0 ≤ abz (p1 + e1 * 1024) ∧ abz (p1 + e1 * 1024) ≤ 1048576 := by unfold abz; omega
      have b2 : 0 ≤ abz (q0 + e0 * 1024) ∧ abz (q0 + e0 * 1024) ≤ 1048576 := by unfold abz; omega
      have b3 : 0 ≤ abz (q1 + e1 * 1024) ∧ abz (q1 + e1 * 1024) ≤ 1048576 := by unfold abz; omega
      generalize abz (p0 + e0 * 1024) = m0 at *
      generalize abz (p1 + e1 * 1024) = m1 at *
      generalize abz (q0 + e0 * 1024) = m2 at *
      generalize abz (q1 + e1 * 1024) = m3 at *
      have G0 := Lib.hid g0; have G1 := Lib.hid g1; have G2 := Lib.hid g2; have G3 := Lib.hid g3
      clear g0 g1 g2 g3
      have hmx : ¬ max (max (max m0 m1) m2) m3 > 1048576 := by omega
      · have KXA := XA.re; have KXB := XB.re; refine wp_region_below (by kernel_rfl) (by kernel_rfl) ?_
        repeat (go_big_quiet_step ((go_at_call 38; first | (with_reducible exact met_same (G0.out _)) | (with_reducible exact met_same (G1.out _)) | (with_reducible exact met_same (G2.out _)) | (with_reducible exact met_same (G3.out _)))))
        go_big_quiet_want
        go_big_quiet_op
        refine ⟨.int .i64 (max (max (max m0 m1) m2) m3), fun a => ?_, ?_⟩
        · rw [max4_int]; exact ⟨rfl, rfl⟩
        go_big_quiet_on
        repeat (go_big_quiet_step (fail))
        refine wpQuiet_nil ?_; intro w8 d8
        go_wp2_with fail
        go_meet
        exact ⟨by go_num, d8⟩
    case rest =>
      rename World => w8
      obtain ⟨rfl, d8⟩ := hcut
      replace XA := XA.below d8; replace XB := XB.below d8; replace PC := PC.below d8; replace PD := PD.below d8
      have i8 : Below w.heap.size w w8 := i7.trans (d8.mono i7.size)
      clear lXA lXB
      have lXA := XA.lt; have lXB := XB.lt
      go_wp2_with fail
      refine (HE2.out _ _ _ _ _ _ _ PC PD).mono ?_
      rintro e w9 ⟨rfl, hb9⟩
      go_wp2_with fail
      refine (lives6_any _).mono ?_
      rintro e w10 ⟨rfl, hb10⟩
      go_wp2_with fail
      go_ret
      exact ⟨rfl, (by repeat (first | with_reducible exact Below.refl _ _ | with_reducible refine below_alloc ?_ _ | with_reducible refine Below.drew ?_ | with_reducible refine below_set ?_ (by (first | (simp; done) | (simp; omega))) _ | with_reducible refine below_step (by assumption) ?_))⟩

theorem own : ownKnob Try.prog.godebug = none := by kernel_rfl
theorem laidOut : laidOutB Try.prog = true := by kernel_rfl

set_option maxRecDepth 100000 in
theorem lifted (os : Os) (started : os.Started) (H : Type) (enc : TypeId × Value → H) :
    ReturnsInHanded {} Try.checked os 22 .any (Rows.toiShiftSpec.pre6 enc Try.prog Try.f22 Rows.toiShiftRow.domain false) (Rows.toiShiftSpec.post enc Try.prog Try.f22 false true false false) := by
  refine returnsInHanded_of_change (C := Try.checked) own started (by kernel_rfl) Try.func22
    (ChangeSpec.witness6 (enc := enc) (C := Try.checked) false ⟨#[], #[.slice none 0 0, .int .i64 0, .int .i64 0], []⟩ 8 (by kernel_rfl) (by kernel_rfl) (by kernel_rfl) (by kernel_rfl)) ?_
  intro W base args ds gs before hval0 hW hcnd _
  have hval : ∀ (j : Nat) t v, Try.f22.params[j]? = some t → args[j]? = some v → Value.okWide Try.prog W .any base t v := hval0
  have hW' := hW
  obtain ⟨p, q, hA0, hV, rfl, hfz, hnd⟩ := hW
  have hA : DataW.TrodAll enc Try.prog W 0 (fun _ => true) true Try.f22.params.toList args.toList ds p := hA0
  rw [Try.params22] at hA hval
  obtain ⟨v0, vs0, d0, ds0, p0, q0, hargs, rfl, rfl, h0, r0⟩ := trodAll_cons hA
  obtain ⟨v1, vs1, d1, ds1, p1, q1, rfl, rfl, rfl, h1, r1⟩ := trodAll_cons r0
  obtain ⟨v2, vs2, d2, ds2, p2, q2, rfl, rfl, rfl, h2, r2⟩ := trodAll_cons r1
  obtain ⟨rfl, rfl, rfl⟩ := trodAll_nil r2
  obtain rfl : args = #[v0, v1, v2] := by cases args; simp_all
  obtain ⟨rfl, rfl⟩ := trodVars_none hV
  obtain ⟨a0, len0, cap0, rfl⟩ := okWide_slice Try.underlying67 (hval 0 67 v0 rfl rfl)
  have k0 := h0
  have lt0 : ∀ x ∈ p0, x.block < W.heap.size := by obtain ⟨m, hm⟩ := k0; exact DataW.trod_lt m _ _ _ hm
  obtain ⟨z0, w0⟩ : ∃ zs, IsRow .i64 W a0 len0 cap0 zs := by
    obtain ⟨fuel, hf⟩ := h0
    rcases open_ints Try.underlying67 Try.underlying3 (by kernel_rfl) hf with ⟨hcs, _⟩ | ⟨x, l, c, zs, hcs, _, hl, hm, hz, _, hcell, hwz⟩
    · simp [Value.cells] at hcs
      obtain ⟨rfl, rfl, rfl⟩ := hcs
      exact ⟨[], .inl ⟨rfl, rfl, rfl, rfl⟩⟩
    · simp [Value.cells] at hcs
      obtain ⟨rfl, rfl, rfl⟩ := hcs
      exact ⟨zs, .inr ⟨_, rfl, hl, hm, by simpa using hz, hcell, hwz⟩⟩
  obtain ⟨a1, rfl, rfl, rfl, w1⟩ := open_int Try.underlying3 (hval 1 3 v1 rfl rfl) h1
  obtain ⟨a2, rfl, rfl, rfl, w2⟩ := open_int Try.underlying3 (hval 2 3 v2 rfl rfl) h2
  clear hA0 hval0
  refine (walk W a0 len0 cap0 z0 w0 a1 (bounds_i64 w1).1 (bounds_i64 w1).2 a2 (bounds_i64 w2).1 (bounds_i64 w2).2).mono fun e W' ⟨he, bel⟩ => ?_
  subst he
  exact ⟨_, rfl, _, _, _, [], _, [], hW', trodAll_mk1 (shut_bool Try.underlying4 _), (trodAll_cons_mk (Below.trod laidOut (by kernel_rfl) (of_decide_eq_true (by kernel_rfl)) k0 bel lt0) (trodAll_cons_mk (shut_int Try.underlying3 w1) (trodAll_cons_mk (shut_int Try.underlying3 w2) trodAll_mk0))), rfl, bel.frame _, fun h => by cases h⟩

theorem closed : joinedFacts Try.prog 22 Try.f22 Rows.toiShiftSpec Rows.toiShiftRow = true := by
  unfold joinedFacts
  repeat' (with_reducible refine both_of ?_ ?_)
  all_goals (first | with_reducible exact mayEnter_ok | (rw [liftsFinal_is]; as_aux_lemma => kernel_rfl) | (rw [make_is]; as_aux_lemma => kernel_rfl) | (as_aux_lemma => kernel_rfl))

theorem over : Rows.toiShiftRow.holds Try.pinned (OpenSpec.ofChange Rows.toiShiftSpec) :=
  OpenClaim.holds_of_wide 22 Try.f22 rfl rfl rfl rfl rfl rfl rfl ⟨rfl, rfl, rfl, rfl, rfl⟩ rfl rfl rfl rfl rfl (by kernel_rfl) Try.func22 closed
    (of_decide_eq_true (by kernel_rfl)) (by unfold Func.isWrapper; first | (rw [if_pos (by decide +kernel)]; kernel_rfl) | (rw [if_neg (by decide +kernel)]; exact ⟨rfl, rfl⟩))
    (fun os started H enc _ => lifted os started H enc)

theorem proved : Rows.ToiShiftSaid := over
#print axioms proved

end Go.Proofs.Ytipcppbbpmdijaa.toiShift
