/-
  VecGroup: Add is commutative and associative, Sub and Neg invert it, and the zero vector is neutral. Conditions: none.
-/
import Derived.Test.YtcapkmiinehdlaaRows
import Derived.Test.YtcapkmiinehdlaaHead
import Derived.Test.YtcapkmiinehdlaaOpen
import Derived.Test.YtcapkmiinehdlaaLives2
import Derived.Test.YtcapkmiinehdlaaVmath
namespace Go.Proofs.Ytcapkmiinehdlaa.vecGroup
open Go.ChangeShapes Go.WideShapes Go.ChangeAt Go.RowKit
attribute [local go_sem ↓] Go.wp_at_zero Go.wp_at_succ


set_option maxRecDepth 100000 in
set_option maxHeartbeats 1600000 in
theorem walk (x0 : Int) (lx0 : -9223372036854775808 ≤ x0) (ux0 : x0 ≤ 9223372036854775807) (x1 : Int) (lx1 : -9223372036854775808 ≤ x1) (ux1 : x1 ≤ 9223372036854775807) (x2 : Int) (lx2 : -9223372036854775808 ≤ x2) (ux2 : x2 ≤ 9223372036854775807) (x3 : Int) (lx3 : -9223372036854775808 ≤ x3) (ux3 : x3 ≤ 9223372036854775807) (x4 : Int) (lx4 : -9223372036854775808 ≤ x4) (ux4 : x4 ≤ 9223372036854775807) (x5 : Int) (lx5 : -9223372036854775808 ≤ x5) (ux5 : x5 ≤ 9223372036854775807) (w : World) :
    Calls Try.prog 10 #[.agg #[.int .i64 x0, .int .i64 x1, .int .i64 x2, .int .i64 x3, .int .i64 x4, .int .i64 x5]] w fun e w' => e = .returned (.bool true) ∧ Below w.heap.size w w' := by
  have b1 := ofX_bd x0
  have b2 := ofY_bd x0 x1
  have b3 := ofX_bd x2
  have b4 := ofY_bd x2 x3
  have b5 := ofX_bd x4
  have b6 := ofY_bd x4 x5
  have m0 := mdv_bd (x := ofX x4) (n := 1) (c := 2) (M := 8388608) (by decide) (by omega)
  have m1 := mdv_bd (x := ofY x4 x5) (n := 1) (c := 2) (M := 8388608) (by decide) (by omega)
  have m2 := mdv_bd (x := ofX x0) (n := 1) (c := 4) (M := 8388608) (by decide) (by omega)
  have m3 := mdv_bd (x := ofY x0 x1) (n := 1) (c := 4) (M := 8388608) (by decide) (by omega)
  have m4 := mdv_bd (x := ofX x2) (n := 1) (c := 4) (M := 8388608) (by decide) (by omega)
  have m5 := mdv_bd (x := ofY x2 x3) (n := 1) (c := 4) (M := 8388608) (by decide) (by omega)
  have t1 : (ofX x0 + ofX x2 = ofX x2 + ofX x0) = True := eq_true (Int.add_comm _ _)
  have t2 : (ofY x0 x1 + ofY x2 x3 = ofY x2 x3 + ofY x0 x1) = True := eq_true (Int.add_comm _ _)
  have t3 : (ofX x0 + ofX x2 - ofX x2 = ofX x0) = True := eq_true (by omega)
  have t4 : (ofY x0 x1 + ofY x2 x3 - ofY x2 x3 = ofY x0 x1) = True := eq_true (by omega)
  have t5 : (ofX x0 + -ofX x0 = 0) = True := eq_true (by omega)
  have t6 : (ofY x0 x1 + -ofY x0 x1 = 0) = True := eq_true (by omega)
  have t7 : (mdv (ofX x0) 1 4 + mdv (ofX x2) 1 4 + mdv (ofX x4) 1 2 = mdv (ofX x0) 1 4 + (mdv (ofX x2) 1 4 + mdv (ofX x4) 1 2)) = True := eq_true (by omega)
  have t8 : (mdv (ofY x0 x1) 1 4 + mdv (ofY x2 x3) 1 4 + mdv (ofY x4 x5) 1 2 = mdv (ofY x0 x1) 1 4 + (mdv (ofY x2 x3) 1 4 + mdv (ofY x4 x5) 1 2)) = True := eq_true (by omega)
  have t9 : (ofX x0 - ofX x2 = ofX x0 + -ofX x2) = True := eq_true (by omega)
  have t10 : (ofY x0 x1 - ofY x2 x3 = ofY x0 x1 + -ofY x2 x3) = True := eq_true (by omega)
  go_enter Try.func10, Try.ntmps10
  go_wp2_with fail
  refine (Of_any _ _ _ (by omega) (by omega) (by omega) (by omega)).mono ?_
  rintro e w1 ⟨rfl, hb1⟩
  have k1_w_0 : w1.cell? ⟨w.heap.size, 0, none⟩ = some (.int .i64 (x0)) := keep_cell hb1 (by simp [go_sem, *])
  have k1_w_1 : w1.cell? ⟨w.heap.size, 1, none⟩ = some (.int .i64 (x1)) := keep_cell hb1 (by simp [go_sem, *])
  have k1_w_2 : w1.cell? ⟨w.heap.size, 2, none⟩ = some (.int .i64 (x2)) := keep_cell hb1 (by simp [go_sem, *])
  have k1_w_3 : w1.cell? ⟨w.heap.size, 3, none⟩ = some (.int .i64 (x3)) := keep_cell hb1 (by simp [go_sem, *])
  have k1_w_4 : w1.cell? ⟨w.heap.size, 4, none⟩ = some (.int .i64 (x4)) := keep_cell hb1 (by simp [go_sem, *])
  have k1_w_5 : w1.cell? ⟨w.heap.size, 5, none⟩ = some (.int .i64 (x5)) := keep_cell hb1 (by simp [go_sem, *])
  have j1_w : w.heap.size < w1.heap.size := World.block_lt_of_cell? w1 _ k1_w_0
  have i1 : Below w.heap.size w w1 := (by repeat (first | exact Below.refl _ _ | refine below_alloc ?_ _ | refine Below.drew ?_ | refine below_set ?_ (by (first | (simp; done) | (simp; omega))) _ | refine below_step (by assumption) ?_))
  go_wp2_with fail
  refine (Of_any _ _ _ (by omega) (by omega) (by omega) (by omega)).mono ?_
  rintro e w2 ⟨rfl, hb2⟩
  have k2_w_0 : w2.cell? ⟨w.heap.size, 0, none⟩ = some (.int .i64 (x0)) := keep_cell hb2 (by simp [go_sem, *])
  have k2_w_1 : w2.cell? ⟨w.heap.size, 1, none⟩ = some (.int .i64 (x1)) := keep_cell hb2 (by simp [go_sem, *])
  have k2_w_2 : w2.cell? ⟨w.heap.size, 2, none⟩ = some (.int .i64 (x2)) := keep_cell hb2 (by simp [go_sem, *])
  have k2_w_3 : w2.cell? ⟨w.heap.size, 3, none⟩ = some (.int .i64 (x3)) := keep_cell hb2 (by simp [go_sem, *])
  have k2_w_4 : w2.cell? ⟨w.heap.size, 4, none⟩ = some (.int .i64 (x4)) := keep_cell hb2 (by simp [go_sem, *])
  have k2_w_5 : w2.cell? ⟨w.heap.size, 5, none⟩ = some (.int .i64 (x5)) := keep_cell hb2 (by simp [go_sem, *])
  have j2_w : w.heap.size < w2.heap.size := World.block_lt_of_cell? w2 _ k2_w_0
  have k2_w1_0 : w2.cell? ⟨w1.heap.size, 0, none⟩ = some (.int .i64 (ofX x0)) := keep_cell hb2 (by simp [go_sem, *])
  have k2_w1_1 : w2.cell? ⟨w1.heap.size, 1, none⟩ = some (.int .i64 (ofY x0 x1)) := keep_cell hb2 (by simp [go_sem, *])
  have j2_w1 : w1.heap.size < w2.heap.size := World.block_lt_of_cell? w2 _ k2_w1_0
  have i2 : Below w.heap.size w w2 := (by repeat (first | exact Below.refl _ _ | refine below_alloc ?_ _ | refine Below.drew ?_ | refine below_set ?_ (by (first | (simp; done) | (simp; omega))) _ | refine below_step (by assumption) ?_))
  go_wp2_with fail
  refine (Of_any _ _ _ (by omega) (by omega) (by omega) (by omega)).mono ?_
  rintro e w3 ⟨rfl, hb3⟩
  have k3_w_0 : w3.cell? ⟨w.heap.size, 0, none⟩ = some (.int .i64 (x0)) := keep_cell hb3 (by simp [go_sem, *])
  have k3_w_1 : w3.cell? ⟨w.heap.size, 1, none⟩ = some (.int .i64 (x1)) := keep_cell hb3 (by simp [go_sem, *])
  have k3_w_2 : w3.cell? ⟨w.heap.size, 2, none⟩ = some (.int .i64 (x2)) := keep_cell hb3 (by simp [go_sem, *])
  have k3_w_3 : w3.cell? ⟨w.heap.size, 3, none⟩ = some (.int .i64 (x3)) := keep_cell hb3 (by simp [go_sem, *])
  have k3_w_4 : w3.cell? ⟨w.heap.size, 4, none⟩ = some (.int .i64 (x4)) := keep_cell hb3 (by simp [go_sem, *])
  have k3_w_5 : w3.cell? ⟨w.heap.size, 5, none⟩ = some (.int .i64 (x5)) := keep_cell hb3 (by simp [go_sem, *])
  have j3_w : w.heap.size < w3.heap.size := World.block_lt_of_cell? w3 _ k3_w_0
  have k3_w1_0 : w3.cell? ⟨w1.heap.size, 0, none⟩ = some (.int .i64 (ofX x0)) := keep_cell hb3 (by simp [go_sem, *])
  have k3_w1_1 : w3.cell? ⟨w1.heap.size, 1, none⟩ = some (.int .i64 (ofY x0 x1)) := keep_cell hb3 (by simp [go_sem, *])
  have j3_w1 : w1.heap.size < w3.heap.size := World.block_lt_of_cell? w3 _ k3_w1_0
  have k3_w2_0 : w3.cell? ⟨w2.heap.size, 0, none⟩ = some (.int .i64 (ofX x2)) := keep_cell hb3 (by simp [go_sem, *])
  have k3_w2_1 : w3.cell? ⟨w2.heap.size, 1, none⟩ = some (.int .i64 (ofY x2 x3)) := keep_cell hb3 (by simp [go_sem, *])
  have j3_w2 : w2.heap.size < w3.heap.size := World.block_lt_of_cell? w3 _ k3_w2_0
  have i3 : Below w.heap.size w w3 := (by repeat (first | exact Below.refl _ _ | refine below_alloc ?_ _ | refine Below.drew ?_ | refine below_set ?_ (by (first | (simp; done) | (simp; omega))) _ | refine below_step (by assumption) ?_))
  go_wp2_with fail
  refine (vMulDiv_any _ _ _ _ _ (by omega) (by omega) (by omega) (by omega)).mono ?_
  rintro e w4 ⟨rfl, hb4⟩
  have k4_w1_0 : w4.cell? ⟨w1.heap.size, 0, none⟩ = some (.int .i64 (ofX x0)) := keep_cell hb4 (by simp [go_sem, *])
  have k4_w1_1 : w4.cell? ⟨w1.heap.size, 1, none⟩ = some (.int .i64 (ofY x0 x1)) := keep_cell hb4 (by simp [go_sem, *])
  have j4_w1 : w1.heap.size < w4.heap.size := World.block_lt_of_cell? w4 _ k4_w1_0
  have k4_w2_0 : w4.cell? ⟨w2.heap.size, 0, none⟩ = some (.int .i64 (ofX x2)) := keep_cell hb4 (by simp [go_sem, *])
  have k4_w2_1 : w4.cell? ⟨w2.heap.size, 1, none⟩ = some (.int .i64 (ofY x2 x3)) := keep_cell hb4 (by simp [go_sem, *])
  have j4_w2 : w2.heap.size < w4.heap.size := World.block_lt_of_cell? w4 _ k4_w2_0
  have i4 : Below w.heap.size w w4 := (by repeat (first | exact Below.refl _ _ | refine below_alloc ?_ _ | refine Below.drew ?_ | refine below_set ?_ (by (first | (simp; done) | (simp; omega))) _ | refine below_step (by assumption) ?_))
  go_wp2_with fail
  go_region_held3 (fun w' => w'.cell? ⟨w1.heap.size, 0, none⟩ = some (.int .i64 (ofX x0)) ∧ w'.cell? ⟨w1.heap.size, 1, none⟩ = some (.int .i64 (ofY x0 x1)) ∧ w'.cell? ⟨w2.heap.size, 0, none⟩ = some (.int .i64 (ofX x2)) ∧ w'.cell? ⟨w2.heap.size, 1, none⟩ = some (.int .i64 (ofY x2 x3)) ∧ w'.cell? ⟨w4.heap.size, 0, none⟩ = some (.int .i64 (mdv (ofX x4) 1 2)) ∧ w'.cell? ⟨w4.heap.size, 1, none⟩ = some (.int .i64 (mdv (ofY x4 x5) 1 2)) ∧ Below w.heap.size w w') (first | (go_keep; done) | ((repeat' apply And.intro) <;> (first | (go_keep; done) | (refine keep_cell (by assumption) ?_; go_keep; done) | ((repeat (first | exact Below.refl _ _ | refine below_alloc ?_ _ | refine Below.drew ?_ | refine below_set ?_ (by (first | (simp; done) | (simp; omega))) _ | refine below_step (by assumption) ?_)); all_goals (simp [*]; done)))))
    (first
      | (go_at_call 50; refine (Add_any _ _ _ _ _ (by omega) (by omega) (by omega) (by omega)).mono ?_; rintro e w9 ⟨rfl, hb9⟩)
      | (go_at_call 51; refine (Sub_any _ _ _ _ _ (by omega) (by omega) (by omega) (by omega)).mono ?_; rintro e w9 ⟨rfl, hb9⟩)
      | (go_at_call 52; refine (Neg_any _ _ _ (by omega) (by omega) (by omega) (by omega)).mono ?_; rintro e w9 ⟨rfl, hb9⟩))
  rename _ ∧ _ ∧ _ ∧ _ ∧ _ ∧ _ ∧ Below w.heap.size w _ => hS
  rename World => w5
  obtain ⟨k5_w1_0, k5_w1_1, k5_w2_0, k5_w2_1, k5_w4_0, k5_w4_1, i5⟩ := hS
  have j5_w1 : w1.heap.size < w5.heap.size := World.block_lt_of_cell? w5 _ k5_w1_0
  have j5_w2 : w2.heap.size < w5.heap.size := World.block_lt_of_cell? w5 _ k5_w2_0
  have j5_w4 : w4.heap.size < w5.heap.size := World.block_lt_of_cell? w5 _ k5_w4_0
  go_wp2_with fail
  refine (vMulDiv_any _ _ _ _ _ (by omega) (by omega) (by omega) (by omega)).mono ?_
  rintro e w6 ⟨rfl, hb6⟩
  have k6_w1_0 : w6.cell? ⟨w1.heap.size, 0, none⟩ = some (.int .i64 (ofX x0)) := keep_cell hb6 (by simp [go_sem, *])
  have k6_w1_1 : w6.cell? ⟨w1.heap.size, 1, none⟩ = some (.int .i64 (ofY x0 x1)) := keep_cell hb6 (by simp [go_sem, *])
  have j6_w1 : w1.heap.size < w6.heap.size := World.block_lt_of_cell? w6 _ k6_w1_0
  have k6_w2_0 : w6.cell? ⟨w2.heap.size, 0, none⟩ = some (.int .i64 (ofX x2)) := keep_cell hb6 (by simp [go_sem, *])
  have k6_w2_1 : w6.cell? ⟨w2.heap.size, 1, none⟩ = some (.int .i64 (ofY x2 x3)) := keep_cell hb6 (by simp [go_sem, *])
  have j6_w2 : w2.heap.size < w6.heap.size := World.block_lt_of_cell? w6 _ k6_w2_0
  have k6_w4_0 : w6.cell? ⟨w4.heap.size, 0, none⟩ = some (.int .i64 (mdv (ofX x4) 1 2)) := keep_cell hb6 (by simp [go_sem, *])
  have k6_w4_1 : w6.cell? ⟨w4.heap.size, 1, none⟩ = some (.int .i64 (mdv (ofY x4 x5) 1 2)) := keep_cell hb6 (by simp [go_sem, *])
  have j6_w4 : w4.heap.size < w6.heap.size := World.block_lt_of_cell? w6 _ k6_w4_0
  have i6 : Below w.heap.size w w6 := (by repeat (first | exact Below.refl _ _ | refine below_alloc ?_ _ | refine Below.drew ?_ | refine below_set ?_ (by (first | (simp; done) | (simp; omega))) _ | refine below_step (by assumption) ?_))
  go_wp2_with fail
  refine (vMulDiv_any _ _ _ _ _ (by omega) (by omega) (by omega) (by omega)).mono ?_
  rintro e w7 ⟨rfl, hb7⟩
  have k7_w1_0 : w7.cell? ⟨w1.heap.size, 0, none⟩ = some (.int .i64 (ofX x0)) := keep_cell hb7 (by simp [go_sem, *])
  have k7_w1_1 : w7.cell? ⟨w1.heap.size, 1, none⟩ = some (.int .i64 (ofY x0 x1)) := keep_cell hb7 (by simp [go_sem, *])
  have j7_w1 : w1.heap.size < w7.heap.size := World.block_lt_of_cell? w7 _ k7_w1_0
  have k7_w2_0 : w7.cell? ⟨w2.heap.size, 0, none⟩ = some (.int .i64 (ofX x2)) := keep_cell hb7 (by simp [go_sem, *])
  have k7_w2_1 : w7.cell? ⟨w2.heap.size, 1, none⟩ = some (.int .i64 (ofY x2 x3)) := keep_cell hb7 (by simp [go_sem, *])
  have j7_w2 : w2.heap.size < w7.heap.size := World.block_lt_of_cell? w7 _ k7_w2_0
  have k7_w4_0 : w7.cell? ⟨w4.heap.size, 0, none⟩ = some (.int .i64 (mdv (ofX x4) 1 2)) := keep_cell hb7 (by simp [go_sem, *])
  have k7_w4_1 : w7.cell? ⟨w4.heap.size, 1, none⟩ = some (.int .i64 (mdv (ofY x4 x5) 1 2)) := keep_cell hb7 (by simp [go_sem, *])
  have j7_w4 : w4.heap.size < w7.heap.size := World.block_lt_of_cell? w7 _ k7_w4_0
  have k7_w6_0 : w7.cell? ⟨w6.heap.size, 0, none⟩ = some (.int .i64 (mdv (ofX x0) 1 4)) := keep_cell hb7 (by simp [go_sem, *])
  have k7_w6_1 : w7.cell? ⟨w6.heap.size, 1, none⟩ = some (.int .i64 (mdv (ofY x0 x1) 1 4)) := keep_cell hb7 (by simp [go_sem, *])
  have j7_w6 : w6.heap.size < w7.heap.size := World.block_lt_of_cell? w7 _ k7_w6_0
  have i7 : Below w.heap.size w w7 := (by repeat (first | exact Below.refl _ _ | refine below_alloc ?_ _ | refine Below.drew ?_ | refine below_set ?_ (by (first | (simp; done) | (simp; omega))) _ | refine below_step (by assumption) ?_))
  go_wp2_with fail
  go_region_held3 (fun w' => w'.cell? ⟨w1.heap.size, 0, none⟩ = some (.int .i64 (ofX x0)) ∧ w'.cell? ⟨w1.heap.size, 1, none⟩ = some (.int .i64 (ofY x0 x1)) ∧ w'.cell? ⟨w2.heap.size, 0, none⟩ = some (.int .i64 (ofX x2)) ∧ w'.cell? ⟨w2.heap.size, 1, none⟩ = some (.int .i64 (ofY x2 x3)) ∧ w'.cell? ⟨w4.heap.size, 0, none⟩ = some (.int .i64 (mdv (ofX x4) 1 2)) ∧ w'.cell? ⟨w4.heap.size, 1, none⟩ = some (.int .i64 (mdv (ofY x4 x5) 1 2)) ∧ w'.cell? ⟨w6.heap.size, 0, none⟩ = some (.int .i64 (mdv (ofX x0) 1 4)) ∧ w'.cell? ⟨w6.heap.size, 1, none⟩ = some (.int .i64 (mdv (ofY x0 x1) 1 4)) ∧ w'.cell? ⟨w7.heap.size, 0, none⟩ = some (.int .i64 (mdv (ofX x2) 1 4)) ∧ w'.cell? ⟨w7.heap.size, 1, none⟩ = some (.int .i64 (mdv (ofY x2 x3) 1 4)) ∧ Below w.heap.size w w') (first | (go_keep; done) | ((repeat' apply And.intro) <;> (first | (go_keep; done) | (refine keep_cell (by assumption) ?_; go_keep; done) | ((repeat (first | exact Below.refl _ _ | refine below_alloc ?_ _ | refine Below.drew ?_ | refine below_set ?_ (by (first | (simp; done) | (simp; omega))) _ | refine below_step (by assumption) ?_)); all_goals (simp [*]; done)))))
    (first
      | (go_at_call 50; refine (Add_any _ _ _ _ _ (by omega) (by omega) (by omega) (by omega)).mono ?_; rintro e w9 ⟨rfl, hb9⟩)
      | (go_at_call 51; refine (Sub_any _ _ _ _ _ (by omega) (by omega) (by omega) (by omega)).mono ?_; rintro e w9 ⟨rfl, hb9⟩)
      | (go_at_call 52; refine (Neg_any _ _ _ (by omega) (by omega) (by omega) (by omega)).mono ?_; rintro e w9 ⟨rfl, hb9⟩)
      | (go_at_call 48; refine (lives2_any _).mono ?_; rintro e w9 ⟨rfl, hb9⟩))
  go_wp2
  go_ret
  rename _ ∧ _ ∧ _ ∧ _ ∧ _ ∧ _ ∧ _ ∧ _ ∧ _ ∧ _ ∧ Below w.heap.size w _ => hS
  exact ⟨rfl, hS.2.2.2.2.2.2.2.2.2.2⟩

theorem own : ownKnob Try.prog.godebug = none := by kernel_rfl
theorem laidOut : laidOutB Try.prog = true := by kernel_rfl

set_option maxRecDepth 100000 in
theorem lifted (os : Os) (started : os.Started) (H : Type) (enc : TypeId × Value → H) :
    ReturnsInHanded {} Try.checked os 10 .any (Rows.vecGroupSpec.pre6 enc Try.prog Try.f10 Rows.vecGroupRow.domain false) (Rows.vecGroupSpec.post enc Try.prog Try.f10 false true false false) := by
  refine returnsInHanded_of_change (C := Try.checked) own started (by kernel_rfl) Try.func10
    (ChangeSpec.witness6 (enc := enc) (C := Try.checked) false ⟨#[], #[.agg #[.int .i64 0, .int .i64 0, .int .i64 0, .int .i64 0, .int .i64 0, .int .i64 0]], []⟩ 8 (by kernel_rfl) (by kernel_rfl) (by kernel_rfl) (by kernel_rfl)) ?_
  intro W base args ds gs before hval0 hW hcnd _
  have hval : ∀ (j : Nat) t v, Try.f10.params[j]? = some t → args[j]? = some v → Value.okWide Try.prog W .any base t v := hval0
  have hW' := hW
  obtain ⟨p, q, hA0, hV, rfl, hfz, hnd⟩ := hW
  have hA : DataW.TrodAll enc Try.prog W 0 (fun _ => true) true Try.f10.params.toList args.toList ds p := hA0
  rw [Try.params10] at hA hval
  obtain ⟨v0, vs0, d0, ds0, p0, q0, hargs, rfl, rfl, h0, r0⟩ := trodAll_cons hA
  obtain ⟨rfl, rfl, rfl⟩ := trodAll_nil r0
  obtain rfl : args = #[v0] := by cases args; simp_all
  obtain ⟨rfl, rfl⟩ := trodVars_none hV
  have k0 := h0
  have lt0 : ∀ x ∈ p0, x.block < W.heap.size := by obtain ⟨m, hm⟩ := k0; exact DataW.trod_lt m _ _ _ hm
  obtain ⟨zs0, rfl, hz0, hw0⟩ := open_arr Try.underlying36 Try.underlying3 (by kernel_rfl) (by kernel_rfl) (hval 0 36 v0 rfl rfl) h0
  obtain ⟨z0_0, z0_1, z0_2, z0_3, z0_4, z0_5, rfl⟩ := list6 hz0
  have bz0_0 := bounds_i64 (hw0 z0_0 (by simp))
  have bz0_1 := bounds_i64 (hw0 z0_1 (by simp))
  have bz0_2 := bounds_i64 (hw0 z0_2 (by simp))
  have bz0_3 := bounds_i64 (hw0 z0_3 (by simp))
  have bz0_4 := bounds_i64 (hw0 z0_4 (by simp))
  have bz0_5 := bounds_i64 (hw0 z0_5 (by simp))
  clear hA0 hval0
  refine (walk z0_0 bz0_0.1 bz0_0.2 z0_1 bz0_1.1 bz0_1.2 z0_2 bz0_2.1 bz0_2.2 z0_3 bz0_3.1 bz0_3.2 z0_4 bz0_4.1 bz0_4.2 z0_5 bz0_5.1 bz0_5.2 W).mono fun e W' ⟨he, bel⟩ => ?_
  subst he
  exact ⟨_, rfl, _, _, _, [], _, [], hW', trodAll_mk1 (shut_bool Try.underlying4 _), (trodAll_cons_mk (Below.trod laidOut (by kernel_rfl) (of_decide_eq_true (by kernel_rfl)) k0 bel lt0) trodAll_mk0), rfl, bel.frame _, fun h => by cases h⟩

theorem closed : joinedFacts Try.prog 10 Try.f10 Rows.vecGroupSpec Rows.vecGroupRow = true := by
  unfold joinedFacts
  repeat' (with_reducible refine both_of ?_ ?_)
  all_goals (first | with_reducible exact mayEnter_ok | (rw [liftsFinal_is]; as_aux_lemma => kernel_rfl) | (rw [make_is]; as_aux_lemma => kernel_rfl) | (as_aux_lemma => kernel_rfl))

theorem over : Rows.vecGroupRow.holds Try.pinned (OpenSpec.ofChange Rows.vecGroupSpec) :=
  OpenClaim.holds_of_wide 10 Try.f10 rfl rfl rfl rfl rfl rfl rfl ⟨rfl, rfl, rfl, rfl, rfl⟩ rfl rfl rfl rfl rfl (by kernel_rfl) Try.func10 closed
    (of_decide_eq_true (by kernel_rfl)) (by unfold Func.isWrapper; first | (rw [if_pos (by decide +kernel)]; kernel_rfl) | (rw [if_neg (by decide +kernel)]; exact ⟨rfl, rfl⟩))
    (fun os started H enc _ => lifted os started H enc)

theorem proved : Rows.VecGroupSaid := over
#print axioms proved

end Go.Proofs.Ytcapkmiinehdlaa.vecGroup
