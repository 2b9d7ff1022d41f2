/-
  ShapeStar: a pentagram is invalid, its convex hull is valid. Conditions: none.
-/
import Derived.Test.YtipcppbbpmdijaaRows
import Derived.Test.YtipcppbbpmdijaaHead
import Derived.Test.YtipcppbbpmdijaaOpen
import Derived.Test.YtipcppbbpmdijaaLives3
import Derived.Test.YtipcppbbpmdijaaScl
namespace Go.Proofs.Ytipcppbbpmdijaa.shapeStar
open Go.ChangeShapes Go.WideShapes Go.ChangeAt Go.RowKit
attribute [local go_sem ↓] Go.wp_at_zero Go.wp_at_succ

def star (k : Int) : List V2 := [(0, 3 * k), (-2 * k, -2 * k), (3 * k, k), (-3 * k, k), (2 * k, -2 * k)]
def hull (k : Int) : List V2 := [(0, 3 * k), (-3 * k, k), (-2 * k, -2 * k), (2 * k, -2 * k), (3 * k, k)]
theorem star_eq (k : Int) : star k = (star 1).map (scl k) := by simp [star, scl, Int.mul_comm]
theorem hull_eq (k : Int) : hull k = (hull 1).map (scl k) := by simp [hull, scl, Int.mul_comm]
theorem star_bad (k : Int) (h : 1 ≤ k) : ¬ VShape 0 (star k) := by
  rw [star_eq, shape_scl h (by decide)]
  rintro ⟨_, _, _, h⟩
  revert h
  unfold EdgeOK
  decide +kernel
theorem hull_ok (k : Int) (h : 1 ≤ k) (h2 : k ≤ 10000) : VShape 0 (hull k) := by
  rw [hull_eq, shape_scl h (by decide)]
  refine ⟨by decide, by decide, ?_, ?_⟩
  · intro v hv
    simp [hull] at hv
    rcases hv with rfl | rfl | rfl | rfl | rfl <;> dsimp only <;> omega
  · unfold EdgeOK
    decide +kernel

set_option maxRecDepth 100000 in
set_option maxHeartbeats 2000000 in
theorem walk (n : Int) (ln : -9223372036854775808 ≤ n) (un : n ≤ 9223372036854775807) (w : World) :
    Calls Try.prog 3 #[.int .i64 n] w fun e w' => e = .returned (.bool true) ∧ Below w.heap.size w w' := by
  have bn := arnd_bd n (most := 10000) (by decide)
  obtain ⟨b1, b2⟩ := bn
  go_enter Try.func3, Try.ntmps3
  go_wp2_with fail
  refine (Around_any _ _ _ (by omega) (by omega) (by omega)).mono ?_
  rintro e w' ⟨rfl, rfl⟩
  obtain ⟨k, hk⟩ : ∃ k, k = 1 + arnd n 10000 := ⟨_, rfl⟩
  have hk1 : 1 ≤ k := by omega
  have hk2 : k ≤ 10000 := by omega
  have hw : IntKind.i64.wrap (1 + arnd n 10000) = k := by rw [hk]; exact IntWalk.i64_in _ (by omega)
  have HK := Lib.hid hk; clear hk
  go_wp2_with fail
  refine code_named ?_; intro W0 hW; have dW0 : Below w.heap.size w W0 := (by rw [hW]; exact (by repeat (first | with_reducible exact Below.refl _ _ | with_reducible refine below_alloc ?_ _ | with_reducible refine Below.drew ?_ | with_reducible refine below_set ?_ (by (first | (simp; done) | (simp; omega))) _ | with_reducible refine below_step (by assumption) ?_)))
  have c0 : W0.cell? ⟨w.heap.size, 0, none⟩ = some (.int .i64 (0)) := by rw [hW]; simp [go_sem]
  have c1 : W0.cell? ⟨w.heap.size, 1, none⟩ = some (.int .i64 (3 * k)) := by rw [hW]; simp [go_sem]
  have c2 : W0.cell? ⟨w.heap.size, 2, none⟩ = some (.int .i64 (-2 * k)) := by rw [hW]; simp [go_sem]
  have c3 : W0.cell? ⟨w.heap.size, 3, none⟩ = some (.int .i64 (-2 * k)) := by rw [hW]; simp [go_sem]
  have c4 : W0.cell? ⟨w.heap.size, 4, none⟩ = some (.int .i64 (3 * k)) := by rw [hW]; simp [go_sem]
  have c5 : W0.cell? ⟨w.heap.size, 5, none⟩ = some (.int .i64 (k)) := by rw [hW]; simp [go_sem]
  have c6 : W0.cell? ⟨w.heap.size, 6, none⟩ = some (.int .i64 (-3 * k)) := by rw [hW]; simp [go_sem]
  have c7 : W0.cell? ⟨w.heap.size, 7, none⟩ = some (.int .i64 (k)) := by rw [hW]; simp [go_sem]
  have c8 : W0.cell? ⟨w.heap.size, 8, none⟩ = some (.int .i64 (2 * k)) := by rw [hW]; simp [go_sem]
  have c9 : W0.cell? ⟨w.heap.size, 9, none⟩ = some (.int .i64 (-2 * k)) := by rw [hW]; simp [go_sem]
  have l0 : w.heap.size < W0.heap.size := World.block_lt_of_cell? W0 _ c0
  have i0 : Below w.heap.size w W0 := (by repeat (first | with_reducible exact Below.refl _ _ | with_reducible refine below_alloc ?_ _ | with_reducible refine Below.drew ?_ | with_reducible refine below_set ?_ (by (first | (simp; done) | (simp; omega))) _ | with_reducible refine below_step (by assumption) ?_))
  have P0 : Pol W0 (some ⟨w.heap.size, 0, none⟩) 5 5 (star k) := by
    refine ⟨rfl, by omega, by omega, fun h => by omega, fun _ => ⟨_, rfl, l0, fun i v h => ?_⟩⟩
    rcases i with _ | _ | _ | _ | _ | i <;> simp [star] at h <;> subst h
    · exact ⟨c0, c1⟩
    · exact ⟨c2, c3⟩
    · exact ⟨c4, c5⟩
    · exact ⟨c6, c7⟩
    · exact ⟨c8, c9⟩
  clear hW
  have q0 := cell_regrown c0
  have q1 := cell_regrown c1
  have q2 := cell_regrown c2
  have q3 := cell_regrown c3
  have q4 := cell_regrown c4
  have q5 := cell_regrown c5
  have q6 := cell_regrown c6
  have q7 := cell_regrown c7
  have q8 := cell_regrown c8
  have q9 := cell_regrown c9
  clear c0 c1 c2 c3 c4 c5 c6 c7 c8 c9
  refine wp_region_last 15 (by kernel_rfl) (by kernel_rfl) ?_
  simp only [List.take_succ_cons, List.take_zero, List.drop_succ_cons, List.drop_zero]
  repeat (go_big_quiet_step (fail))
  refine wpQuiet_nil ?_
  intro w2 d2
  clear q0 q1 q2 q3 q4 q5 q6 q7 q8 q9
  have P2 := P0.below d2
  have i2 : Below w.heap.size w w2 := i0.trans (d2.mono i0.size)
  clear P0
  go_wp2_with fail
  have P3 : Pol (w2.alloc (Obj.cells #[.int .i64 0, .int .i64 (3 * k), .int .i64 (-3 * k), .int .i64 k, .int .i64 (-2 * k), .int .i64 (-2 * k), .int .i64 (2 * k), .int .i64 (-2 * k), .int .i64 (3 * k), .int .i64 k] 24)) (some ⟨w2.heap.size, 0, none⟩) 5 5 (hull k) := by
    refine ⟨rfl, by omega, by omega, fun h => by omega, fun _ => ⟨_, rfl, by simp [go_sem], fun i v h => ?_⟩⟩
    rcases i with _ | _ | _ | _ | _ | i <;> simp [hull] at h <;> subst h <;> simp [go_sem]
  have P4 := P2.below (below_alloc (Below.refl _ _) (Obj.cells #[.int .i64 0, .int .i64 (3 * k), .int .i64 (-3 * k), .int .i64 k, .int .i64 (-2 * k), .int .i64 (-2 * k), .int .i64 (2 * k), .int .i64 (-2 * k), .int .i64 (3 * k), .int .i64 k] 24))
  refine (Validate_any _ _ _ _ (star k) _ P4 (fun v hv => by simp [star] at hv; rcases hv with rfl | rfl | rfl | rfl | rfl <;> dsimp only <;> omega)).mono ?_
  rintro e w5 ⟨⟨z, rfl, hz⟩, hb5⟩
  obtain rfl := hz.bad (star_bad k hk1)
  have P5 := P3.below hb5
  clear hz P2 P3 P4
  go_wp2_with fail
  refine (Validate_any _ _ _ _ (hull k) _ P5 (fun v hv => by simp [hull] at hv; rcases hv with rfl | rfl | rfl | rfl | rfl <;> dsimp only <;> omega)).mono ?_
  rintro e w6 ⟨⟨z, rfl, hz⟩, hb6⟩
  obtain rfl := hz.ok (hull_ok k hk1 hk2)
  go_wp2_with fail
  refine (lives3_any _).mono ?_
  rintro e w7 ⟨rfl, hb7⟩
  go_wp2_with fail
  go_ret
  exact ⟨rfl, (by repeat (first | with_reducible exact Below.refl _ _ | with_reducible refine below_alloc ?_ _ | with_reducible refine Below.drew ?_ | with_reducible refine below_set ?_ (by (first | (simp; done) | (simp; omega))) _ | with_reducible refine below_step (by assumption) ?_))⟩

theorem own : ownKnob Try.prog.godebug = none := by kernel_rfl
theorem laidOut : laidOutB Try.prog = true := by kernel_rfl

set_option maxRecDepth 100000 in
theorem lifted (os : Os) (started : os.Started) (H : Type) (enc : TypeId × Value → H) :
    ReturnsInHanded {} Try.checked os 3 .any (Rows.shapeStarSpec.pre6 enc Try.prog Try.f3 Rows.shapeStarRow.domain false) (Rows.shapeStarSpec.post enc Try.prog Try.f3 false true false false) := by
  refine returnsInHanded_of_change (C := Try.checked) own started (by kernel_rfl) Try.func3
    (ChangeSpec.witness6 (enc := enc) (C := Try.checked) false ⟨#[], #[.int .i64 0], []⟩ 8 (by kernel_rfl) (by kernel_rfl) (by kernel_rfl) (by kernel_rfl)) ?_
  intro W base args ds gs before hval0 hW hcnd _
  have hval : ∀ (j : Nat) t v, Try.f3.params[j]? = some t → args[j]? = some v → Value.okWide Try.prog W .any base t v := hval0
  have hW' := hW
  obtain ⟨p, q, hA0, hV, rfl, hfz, hnd⟩ := hW
  have hA : DataW.TrodAll enc Try.prog W 0 (fun _ => true) true Try.f3.params.toList args.toList ds p := hA0
  rw [Try.params3] at hA hval
  obtain ⟨v0, vs0, d0, ds0, p0, q0, hargs, rfl, rfl, h0, r0⟩ := trodAll_cons hA
  obtain ⟨rfl, rfl, rfl⟩ := trodAll_nil r0
  obtain rfl : args = #[v0] := by cases args; simp_all
  obtain ⟨rfl, rfl⟩ := trodVars_none hV
  obtain ⟨a0, rfl, rfl, rfl, w0⟩ := open_int Try.underlying3 (hval 0 3 v0 rfl rfl) h0
  clear hA0 hval0
  refine (walk a0 (bounds_i64 w0).1 (bounds_i64 w0).2 W).mono fun e W' ⟨he, bel⟩ => ?_
  subst he
  exact ⟨_, rfl, _, _, _, [], _, [], hW', trodAll_mk1 (shut_bool Try.underlying4 _), (trodAll_cons_mk (shut_int Try.underlying3 w0) trodAll_mk0), rfl, bel.frame _, fun h => by cases h⟩

theorem closed : joinedFacts Try.prog 3 Try.f3 Rows.shapeStarSpec Rows.shapeStarRow = true := by
  unfold joinedFacts
  repeat' (with_reducible refine both_of ?_ ?_)
  all_goals (first | with_reducible exact mayEnter_ok | (rw [liftsFinal_is]; as_aux_lemma => kernel_rfl) | (rw [make_is]; as_aux_lemma => kernel_rfl) | (as_aux_lemma => kernel_rfl))

theorem over : Rows.shapeStarRow.holds Try.pinned (OpenSpec.ofChange Rows.shapeStarSpec) :=
  OpenClaim.holds_of_wide 3 Try.f3 rfl rfl rfl rfl rfl rfl rfl ⟨rfl, rfl, rfl, rfl, rfl⟩ rfl rfl rfl rfl rfl (by kernel_rfl) Try.func3 closed
    (of_decide_eq_true (by kernel_rfl)) (by unfold Func.isWrapper; first | (rw [if_pos (by decide +kernel)]; kernel_rfl) | (rw [if_neg (by decide +kernel)]; exact ⟨rfl, rfl⟩))
    (fun os started H enc _ => lifted os started H enc)

theorem proved : Rows.ShapeStarSaid := over
#print axioms proved

end Go.Proofs.Ytipcppbbpmdijaa.shapeStar
