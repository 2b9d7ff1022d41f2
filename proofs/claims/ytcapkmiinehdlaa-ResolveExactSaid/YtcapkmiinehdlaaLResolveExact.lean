/-
  ResolveExact: Resolve returns the specified motions, for all motions, contacts and restitutions of the domain. Conditions: none.
-/
import Derived.Test.YtcapkmiinehdlaaRows
import Derived.Test.YtcapkmiinehdlaaHead
import Derived.Test.YtcapkmiinehdlaaOpen
import Derived.Test.YtcapkmiinehdlaaResX
import Derived.Test.YtcapkmiinehdlaaBlk
namespace Go.Proofs.Ytcapkmiinehdlaa.resolveExact
open Go.ChangeShapes Go.WideShapes Go.ChangeAt Go.RowKit Go.Sort
attribute [local go_sem ↓] Go.wp_at_zero Go.wp_at_succ

set_option maxRecDepth 100000 in
set_option maxHeartbeats 4000000 in
theorem walk (w : World) (A : Option Addr) (lA cA : Nat) (zA : List Int) (hA : IsRow .i64 w A lA cA zA) (B : Option Addr) (lB cB : Nat) (zB : List Int) (hB : IsRow .i64 w B lB cB zB) (C : Option Addr) (lC cC : Nat) (zC : List Int) (hC : IsRow .i64 w C lC cC zC)
    (r : Int) (lr : -9223372036854775808 ≤ r) (ur : r ≤ 9223372036854775807) :
    Calls Try.prog 18 #[.slice A lA cA, .slice B lB cB, .slice C lC cC, .int .i64 r] w fun e w' => e = .returned (.bool true) ∧ Below w.heap.size w w' := by
  have CA := fun W h => Motion_any A lA cA zA W h
  have CB := fun W h => Motion_any B lB cB zB W h
  have CC := fun W h => Contact_any C lC cC zC W h
  have CE := fun W => Around_any r 1025 W (by omega) lr ur
  have mA := motion_bd zA lA
  have mB := motion_bd zB lB
  obtain ⟨mn, md⟩ := contact_bd zC lC
  have me := arnd_bd r (most := 1025) (by decide)
  have HA := Lib.hid hA; clear hA
  have HB := Lib.hid hB; clear hB
  have HC := Lib.hid hC; clear hC
  generalize mpx zA lA = apx at *
  generalize mpy zA lA = apy at *
  generalize mvx zA lA = avx at *
  generalize mvy zA lA = avy at *
  generalize mms zA lA = am at *
  generalize mpx zB lB = bpx at *
  generalize mpy zB lB = bpy at *
  generalize mvx zB lB = bvx at *
  generalize mvy zB lB = bvy at *
  generalize mms zB lB = bm at *
  generalize cnx zC lC = nx at *
  generalize cny zC lC = ny at *
  generalize cdp zC lC = d at *
  generalize arnd r 1025 = E at *
  have F1 := fun w => Resolve_any apx apy avx avy am bpx bpy bvx bvy bm nx ny d E w mA mB mn md (by omega)
  have F2 := fun w => rResolve_any apx apy avx avy am bpx bpy bvx bvy bm nx ny d E w mA mB mn md (by omega)
  generalize rpos apx nx d am (am + bm) = p1 at *
  generalize rpos apy ny d am (am + bm) = p2 at *
  generalize rvel avx nx (imp avx avy am bvx bvy bm nx ny E) am = p3 at *
  generalize rvel avy ny (imp avx avy am bvx bvy bm nx ny E) am = p4 at *
  generalize rpos' bpx nx d bm (am + bm) = q1 at *
  generalize rpos' bpy ny d bm (am + bm) = q2 at *
  generalize rvel' bvx nx (imp avx avy am bvx bvy bm nx ny E) bm = q3 at *
  generalize rvel' bvy ny (imp avx avy am bvx bvy bm nx ny E) bm = q4 at *
  have HF1 := Lib.hid F1; clear F1
  have HF2 := Lib.hid F2; clear F2
  have HCA := Lib.hid CA; clear CA
  have HCB := Lib.hid CB; clear CB
  have HCC := Lib.hid CC; clear CC
  have HCE := Lib.hid CE; clear CE
  clear mA mB mn md me
  go_enter Try.func18, Try.ntmps18
  go_wp2_with fail
  refine (HCA.out _ (HA.out.below (by repeat (first | with_reducible exact Below.refl _ _ | with_reducible refine below_alloc ?_ _ | with_reducible refine Below.drew ?_ | with_reducible refine below_set ?_ (by (first | (simp; done) | (simp; omega))) _ | with_reducible refine below_step (by assumption) ?_)))).mono ?_
  rintro e w1 ⟨rfl, hb1⟩; have d1 : Below w.heap.size w w1 := below_step hb1 (by repeat (first | with_reducible exact Below.refl _ _ | with_reducible refine below_alloc ?_ _ | with_reducible refine Below.drew ?_ | with_reducible refine below_set ?_ (by (first | (simp; done) | (simp; omega))) _ | with_reducible refine below_step (by assumption) ?_)); have z1 := hb1.size; (try simp at z1)
  go_wp2_with fail
  refine (HCB.out _ (HB.out.below (by repeat (first | with_reducible exact Below.refl _ _ | with_reducible refine below_alloc ?_ _ | with_reducible refine Below.drew ?_ | with_reducible refine below_set ?_ (by (first | (simp; done) | (simp; omega))) _ | with_reducible refine below_step (by assumption) ?_)))).mono ?_
  rintro e w2 ⟨rfl, hb2⟩; have d2 : Below w1.heap.size w1 w2 := below_step hb2 (by repeat (first | with_reducible exact Below.refl _ _ | with_reducible refine below_alloc ?_ _ | with_reducible refine Below.drew ?_ | with_reducible refine below_set ?_ (by (first | (simp; done) | (simp; omega))) _ | with_reducible refine below_step (by assumption) ?_)); have z2 := hb2.size; (try simp at z2)
  have XA : B5 w2 (w1.heap.size) (.int .i64 (apx)) (.int .i64 (apy)) (.int .i64 (avx)) (.int .i64 (avy)) (.int .i64 (am)) := B5.below (by unfold B5 Cel; simp [go_sem]) hb2; have lXA := XA.lt
  go_wp2_with fail
  refine (HCC.out _ (HC.out.below (by repeat (first | with_reducible exact Below.refl _ _ | with_reducible refine below_alloc ?_ _ | with_reducible refine Below.drew ?_ | with_reducible refine below_set ?_ (by (first | (simp; done) | (simp; omega))) _ | with_reducible refine below_step (by assumption) ?_)))).mono ?_
  rintro e w3 ⟨rfl, hb3⟩; have d3 : Below w2.heap.size w2 w3 := below_step hb3 (by repeat (first | with_reducible exact Below.refl _ _ | with_reducible refine below_alloc ?_ _ | with_reducible refine Below.drew ?_ | with_reducible refine below_set ?_ (by (first | (simp; done) | (simp; omega))) _ | with_reducible refine below_step (by assumption) ?_)); have z3 := hb3.size; (try simp at z3); replace XA := XA.below d3; (try clear lXA); have lXA := XA.lt
  have XB : B5 w3 (w2.heap.size) (.int .i64 (bpx)) (.int .i64 (bpy)) (.int .i64 (bvx)) (.int .i64 (bvy)) (.int .i64 (bm)) := B5.below (by unfold B5 Cel; simp [go_sem]) hb3; have lXB := XB.lt
  go_wp2_with fail
  refine (HCE.out _).mono ?_
  rintro e w' ⟨rfl, rfl⟩
  go_wp2_with fail
  refine (HF1.out _).mono ?_
  rintro e w4 ⟨rfl, hb4⟩; have d4 : Below w3.heap.size w3 w4 := below_step hb4 (by repeat (first | with_reducible exact Below.refl _ _ | with_reducible refine below_alloc ?_ _ | with_reducible refine Below.drew ?_ | with_reducible refine below_set ?_ (by (first | (simp; done) | (simp; omega))) _ | with_reducible refine below_step (by assumption) ?_)); have z4 := hb4.size; (try simp at z4); replace XA := XA.below d4; (try clear lXA); have lXA := XA.lt; replace XB := XB.below d4; (try clear lXB); have lXB := XB.lt
  have XC : B3 w4 (w3.heap.size) (.int .i64 (nx)) (.int .i64 (ny)) (.int .i64 (d)) := B3.below (by unfold B3 Cel; simp [go_sem]) hb4; have lXC := XC.lt
  go_wp2_with fail
  refine (HF2.out _).mono ?_
  rintro e w5 ⟨rfl, hb5⟩; have d5 : Below w4.heap.size w4 w5 := below_step hb5 (by repeat (first | with_reducible exact Below.refl _ _ | with_reducible refine below_alloc ?_ _ | with_reducible refine Below.drew ?_ | with_reducible refine below_set ?_ (by (first | (simp; done) | (simp; omega))) _ | with_reducible refine below_step (by assumption) ?_)); have z5 := hb5.size; (try simp at z5)
  have XV : B5 w5 (w4.heap.size) (.int .i64 (p1)) (.int .i64 (p2)) (.int .i64 (p3)) (.int .i64 (p4)) (.int .i64 (am)) := B5.below (by unfold B5 Cel; simp [go_sem]) hb5; have lXV := XV.lt
  have XW : B5 w5 (w4.heap.size + 1) (.int .i64 (q1)) (.int .i64 (q2)) (.int .i64 (q3)) (.int .i64 (q4)) (.int .i64 (bm)) := B5.below (by unfold B5 Cel; simp [go_sem]) hb5; have lXW := XW.lt
  go_wp2_with fail
  refine (lives7_any _).mono ?_
  rintro e w6 ⟨rfl, hb6⟩
  go_wp2_with fail
  go_ret
  exact ⟨rfl, (by repeat (first | with_reducible exact Below.refl _ _ | with_reducible refine below_alloc ?_ _ | with_reducible refine Below.drew ?_ | with_reducible refine below_set ?_ (by (first | (simp; done) | (simp; omega))) _ | with_reducible refine below_step (by assumption) ?_))⟩

theorem own : ownKnob Try.prog.godebug = none := by kernel_rfl
theorem laidOut : laidOutB Try.prog = true := by kernel_rfl

set_option maxRecDepth 100000 in
theorem lifted (os : Os) (started : os.Started) (H : Type) (enc : TypeId × Value → H) :
    ReturnsInHanded {} Try.checked os 18 .any (Rows.resolveExactSpec.pre6 enc Try.prog Try.f18 Rows.resolveExactRow.domain false) (Rows.resolveExactSpec.post enc Try.prog Try.f18 false true false false) := by
  refine returnsInHanded_of_change (C := Try.checked) own started (by kernel_rfl) Try.func18
    (ChangeSpec.witness6 (enc := enc) (C := Try.checked) false ⟨#[], #[.slice none 0 0, .slice none 0 0, .slice none 0 0, .int .i64 0], []⟩ 8 (by kernel_rfl) (by kernel_rfl) (by kernel_rfl) (by kernel_rfl)) ?_
  intro W base args ds gs before hval0 hW hcnd _
  have hval : ∀ (j : Nat) t v, Try.f18.params[j]? = some t → args[j]? = some v → Value.okWide Try.prog W .any base t v := hval0
  have hW' := hW
  obtain ⟨p, q, hA0, hV, rfl, hfz, hnd⟩ := hW
  have hA : DataW.TrodAll enc Try.prog W 0 (fun _ => true) true Try.f18.params.toList args.toList ds p := hA0
  rw [Try.params18] at hA hval
  obtain ⟨v0, vs0, d0, ds0, p0, q0, hargs, rfl, rfl, h0, r0⟩ := trodAll_cons hA
  obtain ⟨v1, vs1, d1, ds1, p1, q1, rfl, rfl, rfl, h1, r1⟩ := trodAll_cons r0
  obtain ⟨v2, vs2, d2, ds2, p2, q2, rfl, rfl, rfl, h2, r2⟩ := trodAll_cons r1
  obtain ⟨v3, vs3, d3, ds3, p3, q3, rfl, rfl, rfl, h3, r3⟩ := trodAll_cons r2
  obtain ⟨rfl, rfl, rfl⟩ := trodAll_nil r3
  obtain rfl : args = #[v0, v1, v2, v3] := by cases args; simp_all
  obtain ⟨rfl, rfl⟩ := trodVars_none hV
  obtain ⟨a0, len0, cap0, rfl⟩ := okWide_slice Try.underlying44 (hval 0 44 v0 rfl rfl)
  have k0 := h0
  have lt0 : ∀ x ∈ p0, x.block < W.heap.size := by obtain ⟨m, hm⟩ := k0; exact DataW.trod_lt m _ _ _ hm
  obtain ⟨z0, w0⟩ : ∃ zs, IsRow .i64 W a0 len0 cap0 zs := by
    obtain ⟨fuel, hf⟩ := h0
    rcases open_ints Try.underlying44 Try.underlying3 (by kernel_rfl) hf with ⟨hcs, _⟩ | ⟨x, l, c, zs, hcs, _, hl, hm, hz, _, hcell, hwz⟩
    · simp [Value.cells] at hcs
      obtain ⟨rfl, rfl, rfl⟩ := hcs
      exact ⟨[], .inl ⟨rfl, rfl, rfl, rfl⟩⟩
    · simp [Value.cells] at hcs
      obtain ⟨rfl, rfl, rfl⟩ := hcs
      exact ⟨zs, .inr ⟨_, rfl, hl, hm, by simpa using hz, hcell, hwz⟩⟩
  obtain ⟨a1, len1, cap1, rfl⟩ := okWide_slice Try.underlying44 (hval 1 44 v1 rfl rfl)
  have k1 := h1
  have lt1 : ∀ x ∈ p1, x.block < W.heap.size := by obtain ⟨m, hm⟩ := k1; exact DataW.trod_lt m _ _ _ hm
  obtain ⟨z1, w1⟩ : ∃ zs, IsRow .i64 W a1 len1 cap1 zs := by
    obtain ⟨fuel, hf⟩ := h1
    rcases open_ints Try.underlying44 Try.underlying3 (by kernel_rfl) hf with ⟨hcs, _⟩ | ⟨x, l, c, zs, hcs, _, hl, hm, hz, _, hcell, hwz⟩
    · simp [Value.cells] at hcs
      obtain ⟨rfl, rfl, rfl⟩ := hcs
      exact ⟨[], .inl ⟨rfl, rfl, rfl, rfl⟩⟩
    · simp [Value.cells] at hcs
      obtain ⟨rfl, rfl, rfl⟩ := hcs
      exact ⟨zs, .inr ⟨_, rfl, hl, hm, by simpa using hz, hcell, hwz⟩⟩
  obtain ⟨a2, len2, cap2, rfl⟩ := okWide_slice Try.underlying44 (hval 2 44 v2 rfl rfl)
  have k2 := h2
  have lt2 : ∀ x ∈ p2, x.block < W.heap.size := by obtain ⟨m, hm⟩ := k2; exact DataW.trod_lt m _ _ _ hm
  obtain ⟨z2, w2⟩ : ∃ zs, IsRow .i64 W a2 len2 cap2 zs := by
    obtain ⟨fuel, hf⟩ := h2
    rcases open_ints Try.underlying44 Try.underlying3 (by kernel_rfl) hf with ⟨hcs, _⟩ | ⟨x, l, c, zs, hcs, _, hl, hm, hz, _, hcell, hwz⟩
    · simp [Value.cells] at hcs
      obtain ⟨rfl, rfl, rfl⟩ := hcs
      exact ⟨[], .inl ⟨rfl, rfl, rfl, rfl⟩⟩
    · simp [Value.cells] at hcs
      obtain ⟨rfl, rfl, rfl⟩ := hcs
      exact ⟨zs, .inr ⟨_, rfl, hl, hm, by simpa using hz, hcell, hwz⟩⟩
  obtain ⟨a3, rfl, rfl, rfl, w3⟩ := open_int Try.underlying3 (hval 3 3 v3 rfl rfl) h3
  clear hA0 hval0
  refine (walk W a0 len0 cap0 z0 w0 a1 len1 cap1 z1 w1 a2 len2 cap2 z2 w2 a3 (bounds_i64 w3).1 (bounds_i64 w3).2).mono fun e W' ⟨he, bel⟩ => ?_
  subst he
  exact ⟨_, rfl, _, _, _, [], _, [], hW', trodAll_mk1 (shut_bool Try.underlying4 _), (trodAll_cons_mk (Below.trod laidOut (by kernel_rfl) (of_decide_eq_true (by kernel_rfl)) k0 bel lt0) (trodAll_cons_mk (Below.trod laidOut (by kernel_rfl) (of_decide_eq_true (by kernel_rfl)) k1 bel lt1) (trodAll_cons_mk (Below.trod laidOut (by kernel_rfl) (of_decide_eq_true (by kernel_rfl)) k2 bel lt2) (trodAll_cons_mk (shut_int Try.underlying3 w3) trodAll_mk0)))), rfl, bel.frame _, fun h => by cases h⟩

theorem closed : joinedFacts Try.prog 18 Try.f18 Rows.resolveExactSpec Rows.resolveExactRow = true := by
  unfold joinedFacts
  repeat' (with_reducible refine both_of ?_ ?_)
  all_goals (first | with_reducible exact mayEnter_ok | (rw [liftsFinal_is]; as_aux_lemma => kernel_rfl) | (rw [make_is]; as_aux_lemma => kernel_rfl) | (as_aux_lemma => kernel_rfl))

theorem over : Rows.resolveExactRow.holds Try.pinned (OpenSpec.ofChange Rows.resolveExactSpec) :=
  OpenClaim.holds_of_wide 18 Try.f18 rfl rfl rfl rfl rfl rfl rfl ⟨rfl, rfl, rfl, rfl, rfl⟩ rfl rfl rfl rfl rfl (by kernel_rfl) Try.func18 closed
    (of_decide_eq_true (by kernel_rfl)) (by unfold Func.isWrapper; first | (rw [if_pos (by decide +kernel)]; kernel_rfl) | (rw [if_neg (by decide +kernel)]; exact ⟨rfl, rfl⟩))
    (fun os started H enc _ => lifted os started H enc)

theorem proved : Rows.ResolveExactSaid := over
#print axioms proved

end Go.Proofs.Ytcapkmiinehdlaa.resolveExact
