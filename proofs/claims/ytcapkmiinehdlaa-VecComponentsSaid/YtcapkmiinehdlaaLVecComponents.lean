/-
  VecComponents: Add, Sub, Neg, Scale, MulDiv and Perp agree with the reference. Conditions: none.
-/
import Derived.Test.YtcapkmiinehdlaaRows
import Derived.Test.YtcapkmiinehdlaaHead
import Derived.Test.YtcapkmiinehdlaaOpen
import Derived.Test.YtcapkmiinehdlaaLives2
import Derived.Test.YtcapkmiinehdlaaVmath
namespace Go.Proofs.Ytcapkmiinehdlaa.vecComponents
open Go.ChangeShapes Go.WideShapes Go.ChangeAt Go.RowKit
attribute [local go_sem ↓] Go.wp_at_zero Go.wp_at_succ


set_option maxRecDepth 100000 in
set_option maxHeartbeats 1000000 in
theorem walk (x0 : Int) (lx0 : -9223372036854775808 ≤ x0) (ux0 : x0 ≤ 9223372036854775807) (x1 : Int) (lx1 : -9223372036854775808 ≤ x1) (ux1 : x1 ≤ 9223372036854775807) (x2 : Int) (lx2 : -9223372036854775808 ≤ x2) (ux2 : x2 ≤ 9223372036854775807) (x3 : Int) (lx3 : -9223372036854775808 ≤ x3) (ux3 : x3 ≤ 9223372036854775807) (f : Int) (lf : -9223372036854775808 ≤ f) (uf : f ≤ 9223372036854775807) (d : Int) (ld : -9223372036854775808 ≤ d) (ud : d ≤ 9223372036854775807) (w : World) :
    Calls Try.prog 17 #[.agg #[.int .i64 x0, .int .i64 x1, .int .i64 x2, .int .i64 x3], .int .i64 f, .int .i64 d] w fun e w' => e = .returned (.bool true) ∧ Below w.heap.size w w' := by
  have b1 := ofX_bd x0
  have b2 := ofY_bd x0 x1
  have b3 := ofX_bd x2
  have b4 := ofY_bd x2 x3
  have bf := arnd_bd f (most := 33554432) (by decide)
  have bd := arnd_bd d (most := 4096) (by decide)
  have p1 := mul_bd (a := ofX x0) (b := (arnd f 33554432 - 16777216)) (A := 8388608) (B := 16777216) (by omega) (by omega)
  have p2 := mul_bd (a := ofY x0 x1) (b := (arnd f 33554432 - 16777216)) (A := 8388608) (B := 16777216) (by omega) (by omega)
  have t1 := eq_true (mdv_zero (ofX x0) (arnd f 33554432 - 16777216))
  have t2 := eq_true (mdv_zero (ofY x0 x1) (arnd f 33554432 - 16777216))
  go_enter Try.func17, Try.ntmps17
  go_wp2_with fail
  refine (Of_any _ _ _ (by omega) (by omega) (by omega) (by omega)).mono ?_
  rintro e w1 ⟨rfl, hb1⟩
  have k1_w_0 : w1.cell? ⟨w.heap.size, 0, none⟩ = some (.int .i64 (x0)) := keep_cell hb1 (by simp [go_sem, *])
  have k1_w_1 : w1.cell? ⟨w.heap.size, 1, none⟩ = some (.int .i64 (x1)) := keep_cell hb1 (by simp [go_sem, *])
  have k1_w_2 : w1.cell? ⟨w.heap.size, 2, none⟩ = some (.int .i64 (x2)) := keep_cell hb1 (by simp [go_sem, *])
  have k1_w_3 : w1.cell? ⟨w.heap.size, 3, none⟩ = some (.int .i64 (x3)) := keep_cell hb1 (by simp [go_sem, *])
  have j1_w : w.heap.size < w1.heap.size := World.block_lt_of_cell? w1 _ k1_w_0
  have i1 : Below w.heap.size w w1 := (by repeat (first | exact Below.refl _ _ | refine below_alloc ?_ _ | refine Below.drew ?_ | refine below_set ?_ (by (first | (simp; done) | (simp; omega))) _ | refine below_step (by assumption) ?_))
  go_wp2_with fail
  refine (Of_any _ _ _ (by omega) (by omega) (by omega) (by omega)).mono ?_
  rintro e w2 ⟨rfl, hb2⟩
  have k2_w_0 : w2.cell? ⟨w.heap.size, 0, none⟩ = some (.int .i64 (x0)) := keep_cell hb2 (by simp [go_sem, *])
  have k2_w_1 : w2.cell? ⟨w.heap.size, 1, none⟩ = some (.int .i64 (x1)) := keep_cell hb2 (by simp [go_sem, *])
  have k2_w_2 : w2.cell? ⟨w.heap.size, 2, none⟩ = some (.int .i64 (x2)) := keep_cell hb2 (by simp [go_sem, *])
  have k2_w_3 : w2.cell? ⟨w.heap.size, 3, none⟩ = some (.int .i64 (x3)) := keep_cell hb2 (by simp [go_sem, *])
  have j2_w : w.heap.size < w2.heap.size := World.block_lt_of_cell? w2 _ k2_w_0
  have k2_w1_0 : w2.cell? ⟨w1.heap.size, 0, none⟩ = some (.int .i64 (ofX x0)) := keep_cell hb2 (by simp [go_sem, *])
  have k2_w1_1 : w2.cell? ⟨w1.heap.size, 1, none⟩ = some (.int .i64 (ofY x0 x1)) := keep_cell hb2 (by simp [go_sem, *])
  have j2_w1 : w1.heap.size < w2.heap.size := World.block_lt_of_cell? w2 _ k2_w1_0
  have i2 : Below w.heap.size w w2 := (by repeat (first | exact Below.refl _ _ | refine below_alloc ?_ _ | refine Below.drew ?_ | refine below_set ?_ (by (first | (simp; done) | (simp; omega))) _ | refine below_step (by assumption) ?_))
  go_wp2_with fail
  refine (Around_any _ _ _ (by omega) (by omega) (by omega)).mono ?_
  rintro e w' ⟨rfl, rfl⟩
  go_wp2_with fail
  refine (Around_any _ _ _ (by omega) (by omega) (by omega)).mono ?_
  rintro e w' ⟨rfl, rfl⟩
  go_wp2_with fail
  go_region_held3 (fun w' => w'.cell? ⟨w1.heap.size, 0, none⟩ = some (.int .i64 (ofX x0)) ∧ w'.cell? ⟨w1.heap.size, 1, none⟩ = some (.int .i64 (ofY x0 x1)) ∧ w'.cell? ⟨w2.heap.size, 0, none⟩ = some (.int .i64 (ofX x2)) ∧ w'.cell? ⟨w2.heap.size, 1, none⟩ = some (.int .i64 (ofY x2 x3)) ∧ Below w.heap.size w w') (first | (go_keep; done) | ((repeat' apply And.intro) <;> (first | (go_keep; done) | (refine keep_cell (by assumption) ?_; go_keep; done) | ((repeat (first | exact Below.refl _ _ | refine below_alloc ?_ _ | refine Below.drew ?_ | refine below_set ?_ (by (first | (simp; done) | (simp; omega))) _ | refine below_step (by assumption) ?_)); all_goals (simp [*]; done)))))
    (first
      | (go_at_call 50; refine (Add_any _ _ _ _ _ (by omega) (by omega) (by omega) (by omega)).mono ?_; rintro e w9 ⟨rfl, hb9⟩)
      | (go_at_call 60; refine (rAdd_any _ _ _ _ _ (by omega) (by omega) (by omega) (by omega)).mono ?_; rintro e w9 ⟨rfl, hb9⟩)
      | (go_at_call 51; refine (Sub_any _ _ _ _ _ (by omega) (by omega) (by omega) (by omega)).mono ?_; rintro e w9 ⟨rfl, hb9⟩)
      | (go_at_call 61; refine (rSub_any _ _ _ _ _ (by omega) (by omega) (by omega) (by omega)).mono ?_; rintro e w9 ⟨rfl, hb9⟩)
      | (go_at_call 52; refine (Neg_any _ _ _ (by omega) (by omega) (by omega) (by omega)).mono ?_; rintro e w9 ⟨rfl, hb9⟩)
      | (go_at_call 62; refine (rNeg_any _ _ _ (by omega) (by omega) (by omega) (by omega)).mono ?_; rintro e w9 ⟨rfl, hb9⟩)
      | (go_at_call 53; refine (Perp_any _ _ _ (by omega) (by omega)).mono ?_; rintro e w9 ⟨rfl, hb9⟩)
      | (go_at_call 63; refine (rPerp_any _ _ _ (by omega) (by omega)).mono ?_; rintro e w9 ⟨rfl, hb9⟩))
  rename _ ∧ _ ∧ _ ∧ _ ∧ Below w.heap.size w _ => hS
  rename World => w3
  obtain ⟨k3_w1_0, k3_w1_1, k3_w2_0, k3_w2_1, i3⟩ := hS
  have j3_w1 : w1.heap.size < w3.heap.size := World.block_lt_of_cell? w3 _ k3_w1_0
  have j3_w2 : w2.heap.size < w3.heap.size := World.block_lt_of_cell? w3 _ k3_w2_0
  go_wp2_with fail
  go_region_held3 (fun w' => w'.cell? ⟨w1.heap.size, 0, none⟩ = some (.int .i64 (ofX x0)) ∧ w'.cell? ⟨w1.heap.size, 1, none⟩ = some (.int .i64 (ofY x0 x1)) ∧ w'.cell? ⟨w2.heap.size, 0, none⟩ = some (.int .i64 (ofX x2)) ∧ w'.cell? ⟨w2.heap.size, 1, none⟩ = some (.int .i64 (ofY x2 x3)) ∧ Below w.heap.size w w') (first | (go_keep; done) | ((repeat' apply And.intro) <;> (first | (go_keep; done) | (refine keep_cell (by assumption) ?_; go_keep; done) | ((repeat (first | exact Below.refl _ _ | refine below_alloc ?_ _ | refine Below.drew ?_ | refine below_set ?_ (by (first | (simp; done) | (simp; omega))) _ | refine below_step (by assumption) ?_)); all_goals (simp [*]; done)))))
    (first
      | (go_at_call 54; refine (Scale_any _ _ _ _ (by omega) (by omega) (by omega) (by omega)).mono ?_; rintro e w9 ⟨rfl, hb9⟩)
      | (go_at_call 64; refine (rScale_any _ _ _ _ (by omega) (by omega) (by omega) (by omega)).mono ?_; rintro e w9 ⟨rfl, hb9⟩)
      | (go_at_call 49; refine (vMulDiv_any _ _ _ _ _ (by omega) (by omega) (by omega) (by omega)).mono ?_; rintro e w9 ⟨rfl, hb9⟩)
      | (go_at_call 65; refine (rvMulDiv_any _ _ _ _ _ (by omega) (by omega) (by omega) (by omega)).mono ?_; rintro e w9 ⟨rfl, hb9⟩)
      | (go_at_call 48; refine (lives2_any _).mono ?_; rintro e w9 ⟨rfl, hb9⟩))
  go_wp2
  go_ret
  rename _ ∧ _ ∧ _ ∧ _ ∧ Below w.heap.size w _ => hS
  exact ⟨rfl, hS.2.2.2.2⟩

theorem own : ownKnob Try.prog.godebug = none := by kernel_rfl
theorem laidOut : laidOutB Try.prog = true := by kernel_rfl

set_option maxRecDepth 100000 in
theorem lifted (os : Os) (started : os.Started) (H : Type) (enc : TypeId × Value → H) :
    ReturnsInHanded {} Try.checked os 17 .any (Rows.vecComponentsSpec.pre6 enc Try.prog Try.f17 Rows.vecComponentsRow.domain false) (Rows.vecComponentsSpec.post enc Try.prog Try.f17 false true false false) := by
  refine returnsInHanded_of_change (C := Try.checked) own started (by kernel_rfl) Try.func17
    (ChangeSpec.witness6 (enc := enc) (C := Try.checked) false ⟨#[], #[.agg #[.int .i64 0, .int .i64 0, .int .i64 0, .int .i64 0], .int .i64 0, .int .i64 0], []⟩ 8 (by kernel_rfl) (by kernel_rfl) (by kernel_rfl) (by kernel_rfl)) ?_
  intro W base args ds gs before hval0 hW hcnd _
  have hval : ∀ (j : Nat) t v, Try.f17.params[j]? = some t → args[j]? = some v → Value.okWide Try.prog W .any base t v := hval0
  have hW' := hW
  obtain ⟨p, q, hA0, hV, rfl, hfz, hnd⟩ := hW
  have hA : DataW.TrodAll enc Try.prog W 0 (fun _ => true) true Try.f17.params.toList args.toList ds p := hA0
  rw [Try.params17] at hA hval
  obtain ⟨v0, vs0, d0, ds0, p0, q0, hargs, rfl, rfl, h0, r0⟩ := trodAll_cons hA
  obtain ⟨v1, vs1, d1, ds1, p1, q1, rfl, rfl, rfl, h1, r1⟩ := trodAll_cons r0
  obtain ⟨v2, vs2, d2, ds2, p2, q2, rfl, rfl, rfl, h2, r2⟩ := trodAll_cons r1
  obtain ⟨rfl, rfl, rfl⟩ := trodAll_nil r2
  obtain rfl : args = #[v0, v1, v2] := by cases args; simp_all
  obtain ⟨rfl, rfl⟩ := trodVars_none hV
  have k0 := h0
  have lt0 : ∀ x ∈ p0, x.block < W.heap.size := by obtain ⟨m, hm⟩ := k0; exact DataW.trod_lt m _ _ _ hm
  obtain ⟨zs0, rfl, hz0, hw0⟩ := open_arr Try.underlying28 Try.underlying3 (by kernel_rfl) (by kernel_rfl) (hval 0 28 v0 rfl rfl) h0
  obtain ⟨z0_0, z0_1, z0_2, z0_3, rfl⟩ := list4 hz0
  have bz0_0 := bounds_i64 (hw0 z0_0 (by simp))
  have bz0_1 := bounds_i64 (hw0 z0_1 (by simp))
  have bz0_2 := bounds_i64 (hw0 z0_2 (by simp))
  have bz0_3 := bounds_i64 (hw0 z0_3 (by simp))
  obtain ⟨a1, rfl, rfl, rfl, w1⟩ := open_int Try.underlying3 (hval 1 3 v1 rfl rfl) h1
  obtain ⟨a2, rfl, rfl, rfl, w2⟩ := open_int Try.underlying3 (hval 2 3 v2 rfl rfl) h2
  clear hA0 hval0
  refine (walk z0_0 bz0_0.1 bz0_0.2 z0_1 bz0_1.1 bz0_1.2 z0_2 bz0_2.1 bz0_2.2 z0_3 bz0_3.1 bz0_3.2 a1 (bounds_i64 w1).1 (bounds_i64 w1).2 a2 (bounds_i64 w2).1 (bounds_i64 w2).2 W).mono fun e W' ⟨he, bel⟩ => ?_
  subst he
  exact ⟨_, rfl, _, _, _, [], _, [], hW', trodAll_mk1 (shut_bool Try.underlying4 _), (trodAll_cons_mk (Below.trod laidOut (by kernel_rfl) (of_decide_eq_true (by kernel_rfl)) k0 bel lt0) (trodAll_cons_mk (shut_int Try.underlying3 w1) (trodAll_cons_mk (shut_int Try.underlying3 w2) trodAll_mk0))), rfl, bel.frame _, fun h => by cases h⟩

theorem closed : joinedFacts Try.prog 17 Try.f17 Rows.vecComponentsSpec Rows.vecComponentsRow = true := by
  unfold joinedFacts
  repeat' (with_reducible refine both_of ?_ ?_)
  all_goals (first | with_reducible exact mayEnter_ok | (rw [liftsFinal_is]; as_aux_lemma => kernel_rfl) | (rw [make_is]; as_aux_lemma => kernel_rfl) | (as_aux_lemma => kernel_rfl))

theorem over : Rows.vecComponentsRow.holds Try.pinned (OpenSpec.ofChange Rows.vecComponentsSpec) :=
  OpenClaim.holds_of_wide 17 Try.f17 rfl rfl rfl rfl rfl rfl rfl ⟨rfl, rfl, rfl, rfl, rfl⟩ rfl rfl rfl rfl rfl (by kernel_rfl) Try.func17 closed
    (of_decide_eq_true (by kernel_rfl)) (by unfold Func.isWrapper; first | (rw [if_pos (by decide +kernel)]; kernel_rfl) | (rw [if_neg (by decide +kernel)]; exact ⟨rfl, rfl⟩))
    (fun os started H enc _ => lifted os started H enc)

theorem proved : Rows.VecComponentsSaid := over
#print axioms proved

end Go.Proofs.Ytcapkmiinehdlaa.vecComponents
