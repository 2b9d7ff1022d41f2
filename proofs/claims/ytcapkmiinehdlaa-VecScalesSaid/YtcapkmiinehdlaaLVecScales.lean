/-
  VecScales: Scale by One and MulDiv by n/n are the identity, Scale(a, f) equals MulDiv(a, f, One), and Scale distributes over Add up to 1 per component. Conditions: none.
-/
import Derived.Test.YtcapkmiinehdlaaRows
import Derived.Test.YtcapkmiinehdlaaHead
import Derived.Test.YtcapkmiinehdlaaOpen
import Derived.Test.YtcapkmiinehdlaaLives2
import Derived.Test.YtcapkmiinehdlaaVmath
namespace Go.Proofs.Ytcapkmiinehdlaa.vecScales
open Go.ChangeShapes Go.WideShapes Go.ChangeAt Go.RowKit
attribute [local go_sem ↓] Go.wp_at_zero Go.wp_at_succ

theorem dist (x y k : Int) : 0 ≤ mdv (x + y) k 1024 - (mdv x k 1024 + mdv y k 1024) ∧ mdv (x + y) k 1024 - (mdv x k 1024 + mdv y k 1024) ≤ 1 := by
  rw [mdv_one, mdv_one, mdv_one, Int.add_mul]; omega
theorem by_one (x : Int) : mdv x 1024 1024 = x := mdv_same x (by decide)
theorem by_zero (x : Int) : mdv x 0 1024 = 0 := by unfold mdv; rw [Int.mul_zero]; rfl
theorem fld0 (x y : Value) (w : World) : (Instr.field 30 (.agg #[x, y]) 0).run Try.prog w = .ok x w := by kernel_rfl

set_option maxRecDepth 100000 in
set_option maxHeartbeats 3000000 in
theorem walk (x0 : Int) (lx0 : -9223372036854775808 ≤ x0) (ux0 : x0 ≤ 9223372036854775807) (x1 : Int) (lx1 : -9223372036854775808 ≤ x1) (ux1 : x1 ≤ 9223372036854775807) (x2 : Int) (lx2 : -9223372036854775808 ≤ x2) (ux2 : x2 ≤ 9223372036854775807) (x3 : Int) (lx3 : -9223372036854775808 ≤ x3) (ux3 : x3 ≤ 9223372036854775807) (f : Int) (lf : -9223372036854775808 ≤ f) (uf : f ≤ 9223372036854775807) (n : Int) (ln : -9223372036854775808 ≤ n) (un : n ≤ 9223372036854775807) (w : World) :
    Calls Try.prog 12 #[.agg #[.int .i64 x0, .int .i64 x1, .int .i64 x2, .int .i64 x3], .int .i64 f, .int .i64 n] w fun e w' => e = .returned (.bool true) ∧ Below w.heap.size w w' := by
  have b1 := ofX_bd x0
  have b2 := ofY_bd x0 x1
  have b3 := ofX_bd x2
  have b4 := ofY_bd x2 x3
  have bf := bnd_bd f (most := 1024) (by decide)
  have bn := arnd_bd n (most := 1048576) (by decide)
  have p1 := mul_bd (a := (ofX x0 + ofX x2)) (b := (bnd f 1024)) (A := 16777216) (B := 1024) (by omega) (by omega)
  have p2 := mul_bd (a := (ofY x0 x1 + ofY x2 x3)) (b := (bnd f 1024)) (A := 16777216) (B := 1024) (by omega) (by omega)
  have q0 := mul_bd (a := ofX x0) (b := (bnd f 1024)) (A := 8388608) (B := 1024) (by omega) (by omega)
  have q1 := mul_bd (a := ofY x0 x1) (b := (bnd f 1024)) (A := 8388608) (B := 1024) (by omega) (by omega)
  have q2 := mul_bd (a := ofX x2) (b := (bnd f 1024)) (A := 8388608) (B := 1024) (by omega) (by omega)
  have q3 := mul_bd (a := ofY x2 x3) (b := (bnd f 1024)) (A := 8388608) (B := 1024) (by omega) (by omega)
  have r0 := mul_bd (a := ofX x0) (b := (1 + arnd n 1048576)) (A := 8388608) (B := 1048576) (by omega) (by omega)
  have r1 := mul_bd (a := ofY x0 x1) (b := (1 + arnd n 1048576)) (A := 8388608) (B := 1048576) (by omega) (by omega)
  have s0 := mdv_bd (x := ofX x0 + ofX x2) (n := bnd f 1024) (c := 1024) (M := 17179869184) (by decide) (by omega)
  have s1 := mdv_bd (x := ofY x0 x1 + ofY x2 x3) (n := bnd f 1024) (c := 1024) (M := 17179869184) (by decide) (by omega)
  have s2 := mdv_bd (x := ofX x0) (n := bnd f 1024) (c := 1024) (M := 17179869184) (by decide) (by omega)
  have s3 := mdv_bd (x := ofY x0 x1) (n := bnd f 1024) (c := 1024) (M := 17179869184) (by decide) (by omega)
  have s4 := mdv_bd (x := ofX x2) (n := bnd f 1024) (c := 1024) (M := 17179869184) (by decide) (by omega)
  have s5 := mdv_bd (x := ofY x2 x3) (n := bnd f 1024) (c := 1024) (M := 17179869184) (by decide) (by omega)
  have d1 := dist (ofX x0) (ofX x2) (bnd f 1024)
  have d2 := dist (ofY x0 x1) (ofY x2 x3) (bnd f 1024)
  obtain ⟨d11, d12⟩ := d1
  obtain ⟨d21, d22⟩ := d2
  have t0 : (mdv (ofX x0) 1024 1024 = ofX x0) = True := eq_true (by_one _)
  have t2 : (mdv (ofX x0) (1 + arnd n 1048576) (1 + arnd n 1048576) = ofX x0) = True := eq_true (mdv_same _ (by omega))
  have t4 : (mdv (ofX x0) 0 1024 = 0) = True := eq_true (by_zero _)
  have t1 : (mdv (ofY x0 x1) 1024 1024 = ofY x0 x1) = True := eq_true (by_one _)
  have t3 : (mdv (ofY x0 x1) (1 + arnd n 1048576) (1 + arnd n 1048576) = ofY x0 x1) = True := eq_true (mdv_same _ (by omega))
  have t5 : (mdv (ofY x0 x1) 0 1024 = 0) = True := eq_true (by_zero _)
  go_enter Try.func12, Try.ntmps12
  go_wp2_with fail
  refine (Of_any _ _ _ (by omega) (by omega) (by omega) (by omega)).mono ?_
  rintro e w1 ⟨rfl, hb1⟩
  have k1_w_0 : w1.cell? ⟨w.heap.size, 0, none⟩ = some (.int .i64 (x0)) := keep_cell hb1 (by simp [go_sem, *])
  have k1_w_1 : w1.cell? ⟨w.heap.size, 1, none⟩ = some (.int .i64 (x1)) := keep_cell hb1 (by simp [go_sem, *])
  have k1_w_2 : w1.cell? ⟨w.heap.size, 2, none⟩ = some (.int .i64 (x2)) := keep_cell hb1 (by simp [go_sem, *])
  have k1_w_3 : w1.cell? ⟨w.heap.size, 3, none⟩ = some (.int .i64 (x3)) := keep_cell hb1 (by simp [go_sem, *])
  have j1_w : w.heap.size < w1.heap.size := World.block_lt_of_cell? w1 _ k1_w_0
  have i1 : Below w.heap.size w w1 := (by repeat (first | exact Below.refl _ _ | refine below_alloc ?_ _ | refine Below.drew ?_ | refine below_set ?_ (by (first | (simp; done) | (simp; omega))) _ | refine below_step (by assumption) ?_))
  go_wp2_with fail
  refine (Of_any _ _ _ (by omega) (by omega) (by omega) (by omega)).mono ?_
  rintro e w2 ⟨rfl, hb2⟩
  have k2_w_0 : w2.cell? ⟨w.heap.size, 0, none⟩ = some (.int .i64 (x0)) := keep_cell hb2 (by simp [go_sem, *])
  have k2_w_1 : w2.cell? ⟨w.heap.size, 1, none⟩ = some (.int .i64 (x1)) := keep_cell hb2 (by simp [go_sem, *])
  have k2_w_2 : w2.cell? ⟨w.heap.size, 2, none⟩ = some (.int .i64 (x2)) := keep_cell hb2 (by simp [go_sem, *])
  have k2_w_3 : w2.cell? ⟨w.heap.size, 3, none⟩ = some (.int .i64 (x3)) := keep_cell hb2 (by simp [go_sem, *])
  have j2_w : w.heap.size < w2.heap.size := World.block_lt_of_cell? w2 _ k2_w_0
  have k2_w1_0 : w2.cell? ⟨w1.heap.size, 0, none⟩ = some (.int .i64 (ofX x0)) := keep_cell hb2 (by simp [go_sem, *])
  have k2_w1_1 : w2.cell? ⟨w1.heap.size, 1, none⟩ = some (.int .i64 (ofY x0 x1)) := keep_cell hb2 (by simp [go_sem, *])
  have j2_w1 : w1.heap.size < w2.heap.size := World.block_lt_of_cell? w2 _ k2_w1_0
  have i2 : Below w.heap.size w w2 := (by repeat (first | exact Below.refl _ _ | refine below_alloc ?_ _ | refine Below.drew ?_ | refine below_set ?_ (by (first | (simp; done) | (simp; omega))) _ | refine below_step (by assumption) ?_))
  go_wp2_with fail
  refine (Bound_any _ _ _ (by omega) (by omega) (by omega) (by omega)).mono ?_
  rintro e w' ⟨rfl, rfl⟩
  go_wp2_with fail
  refine (Around_any _ _ _ (by omega) (by omega) (by omega)).mono ?_
  rintro e w' ⟨rfl, rfl⟩
  go_wp2_with fail
  refine (Add_any _ _ _ _ _ (by omega) (by omega) (by omega) (by omega)).mono ?_
  rintro e w3 ⟨rfl, hb3⟩
  have k3_w1_0 : w3.cell? ⟨w1.heap.size, 0, none⟩ = some (.int .i64 (ofX x0)) := keep_cell hb3 (by simp [go_sem, *])
  have k3_w1_1 : w3.cell? ⟨w1.heap.size, 1, none⟩ = some (.int .i64 (ofY x0 x1)) := keep_cell hb3 (by simp [go_sem, *])
  have j3_w1 : w1.heap.size < w3.heap.size := World.block_lt_of_cell? w3 _ k3_w1_0
  have k3_w2_0 : w3.cell? ⟨w2.heap.size, 0, none⟩ = some (.int .i64 (ofX x2)) := keep_cell hb3 (by simp [go_sem, *])
  have k3_w2_1 : w3.cell? ⟨w2.heap.size, 1, none⟩ = some (.int .i64 (ofY x2 x3)) := keep_cell hb3 (by simp [go_sem, *])
  have j3_w2 : w2.heap.size < w3.heap.size := World.block_lt_of_cell? w3 _ k3_w2_0
  have i3 : Below w.heap.size w w3 := (by repeat (first | exact Below.refl _ _ | refine below_alloc ?_ _ | refine Below.drew ?_ | refine below_set ?_ (by (first | (simp; done) | (simp; omega))) _ | refine below_step (by assumption) ?_))
  go_wp2_with fail
  refine (Scale_any _ _ _ _ (by omega) (by omega) (by omega) (by omega)).mono ?_
  rintro e w4 ⟨rfl, hb4⟩
  have k4_w1_0 : w4.cell? ⟨w1.heap.size, 0, none⟩ = some (.int .i64 (ofX x0)) := keep_cell hb4 (by simp [go_sem, *])
  have k4_w1_1 : w4.cell? ⟨w1.heap.size, 1, none⟩ = some (.int .i64 (ofY x0 x1)) := keep_cell hb4 (by simp [go_sem, *])
  have j4_w1 : w1.heap.size < w4.heap.size := World.block_lt_of_cell? w4 _ k4_w1_0
  have k4_w2_0 : w4.cell? ⟨w2.heap.size, 0, none⟩ = some (.int .i64 (ofX x2)) := keep_cell hb4 (by simp [go_sem, *])
  have k4_w2_1 : w4.cell? ⟨w2.heap.size, 1, none⟩ = some (.int .i64 (ofY x2 x3)) := keep_cell hb4 (by simp [go_sem, *])
  have j4_w2 : w2.heap.size < w4.heap.size := World.block_lt_of_cell? w4 _ k4_w2_0
  have i4 : Below w.heap.size w w4 := (by repeat (first | exact Below.refl _ _ | refine below_alloc ?_ _ | refine Below.drew ?_ | refine below_set ?_ (by (first | (simp; done) | (simp; omega))) _ | refine below_step (by assumption) ?_))
  go_wp2_with fail
  go_upto_region 6 with fail
  go_cut [12] (fun s12 wx => ∃ g : Nat, s12 = .pointer (some ⟨g, 0, none⟩) ∧ wx.cell? ⟨g, 0, none⟩ = some (.int .i64 (mdv (ofX x0) (bnd f 1024) 1024 + mdv (ofX x2) (bnd f 1024) 1024)) ∧ wx.cell? ⟨g, 1, none⟩ = some (.int .i64 (mdv (ofY x0 x1) (bnd f 1024) 1024 + mdv (ofY x2 x3) (bnd f 1024) 1024)) ∧ wx.cell? ⟨w1.heap.size, 0, none⟩ = some (.int .i64 (ofX x0)) ∧ wx.cell? ⟨w1.heap.size, 1, none⟩ = some (.int .i64 (ofY x0 x1)) ∧ wx.cell? ⟨w4.heap.size, 0, none⟩ = some (.int .i64 (mdv (ofX x0 + ofX x2) (bnd f 1024) 1024)) ∧ wx.cell? ⟨w4.heap.size, 1, none⟩ = some (.int .i64 (mdv (ofY x0 x1 + ofY x2 x3) (bnd f 1024) 1024)) ∧ Below w.heap.size w wx)
  case first =>
    have e1 : w1.heap.size ≠ w4.heap.size + 1 := by omega
    have e2 : w4.heap.size + 1 ≠ w1.heap.size := by omega
    have e3 : w2.heap.size ≠ w4.heap.size + 1 := by omega
    have e4 : w4.heap.size + 1 ≠ w2.heap.size := by omega
    go_region_held3 (fun w' => w'.cell? ⟨w1.heap.size, 0, none⟩ = some (.int .i64 (ofX x0)) ∧ w'.cell? ⟨w1.heap.size, 1, none⟩ = some (.int .i64 (ofY x0 x1)) ∧ w'.cell? ⟨w2.heap.size, 0, none⟩ = some (.int .i64 (ofX x2)) ∧ w'.cell? ⟨w2.heap.size, 1, none⟩ = some (.int .i64 (ofY x2 x3)) ∧ w'.cell? ⟨w4.heap.size, 0, none⟩ = some (.int .i64 (mdv (ofX x0 + ofX x2) (bnd f 1024) 1024)) ∧ w'.cell? ⟨w4.heap.size, 1, none⟩ = some (.int .i64 (mdv (ofY x0 x1 + ofY x2 x3) (bnd f 1024) 1024)) ∧ Below w.heap.size w w') (first | (go_keep; done) | ((repeat' apply And.intro) <;> (first | (go_keep; done) | (refine keep_cell (by assumption) ?_; go_keep; done) | ((repeat (first | exact Below.refl _ _ | refine below_alloc ?_ _ | refine Below.drew ?_ | refine below_set ?_ (by (first | (simp; done) | (simp; omega))) _ | refine below_step (by assumption) ?_)); all_goals (simp [*]; done)))))
      (first
        | (go_at_call_of 54 (Value.agg #[.int .i64 (ofX x0), .int .i64 (ofY x0 x1)]); refine (Scale_any _ _ _ _ (by omega) (by omega) (by omega) (by omega)).mono ?_; rintro e wA ⟨rfl, hbA⟩; (try (refine (fun (kA_w1_0 : wA.cell? ⟨w1.heap.size, 0, none⟩ = some (.int .i64 (ofX x0))) => ?_) ?_; rotate_left; · (refine keep_cell hbA ?_; go_keep))); (try (refine (fun (kA_w1_1 : wA.cell? ⟨w1.heap.size, 1, none⟩ = some (.int .i64 (ofY x0 x1))) => ?_) ?_; rotate_left; · (refine keep_cell hbA ?_; go_keep))); (try (refine (fun (jA_w1 : w1.heap.size < wA.heap.size) => ?_) ?_; rotate_left; · (exact World.block_lt_of_cell? wA _ kA_w1_0))); (try (refine (fun (nA_w1 : w1.heap.size ≠ wA.heap.size) => ?_) ?_; rotate_left; · (exact Nat.ne_of_lt jA_w1))); (try (refine (fun (mA_w1 : wA.heap.size ≠ w1.heap.size) => ?_) ?_; rotate_left; · (exact Nat.ne_of_gt jA_w1))); (try (refine (fun (kA_w2_0 : wA.cell? ⟨w2.heap.size, 0, none⟩ = some (.int .i64 (ofX x2))) => ?_) ?_; rotate_left; · (refine keep_cell hbA ?_; go_keep))); (try (refine (fun (kA_w2_1 : wA.cell? ⟨w2.heap.size, 1, none⟩ = some (.int .i64 (ofY x2 x3))) => ?_) ?_; rotate_left; · (refine keep_cell hbA ?_; go_keep))); (try (refine (fun (jA_w2 : w2.heap.size < wA.heap.size) => ?_) ?_; rotate_left; · (exact World.block_lt_of_cell? wA _ kA_w2_0))); (try (refine (fun (nA_w2 : w2.heap.size ≠ wA.heap.size) => ?_) ?_; rotate_left; · (exact Nat.ne_of_lt jA_w2))); (try (refine (fun (mA_w2 : wA.heap.size ≠ w2.heap.size) => ?_) ?_; rotate_left; · (exact Nat.ne_of_gt jA_w2))); (try (refine (fun (kA_w4_0 : wA.cell? ⟨w4.heap.size, 0, none⟩ = some (.int .i64 (mdv (ofX x0 + ofX x2) (bnd f 1024) 1024))) => ?_) ?_; rotate_left; · (refine keep_cell hbA ?_; go_keep))); (try (refine (fun (kA_w4_1 : wA.cell? ⟨w4.heap.size, 1, none⟩ = some (.int .i64 (mdv (ofY x0 x1 + ofY x2 x3) (bnd f 1024) 1024))) => ?_) ?_; rotate_left; · (refine keep_cell hbA ?_; go_keep))); (try (refine (fun (jA_w4 : w4.heap.size < wA.heap.size) => ?_) ?_; rotate_left; · (exact World.block_lt_of_cell? wA _ kA_w4_0))); (try (refine (fun (nA_w4 : w4.heap.size ≠ wA.heap.size) => ?_) ?_; rotate_left; · (exact Nat.ne_of_lt jA_w4))); (try (refine (fun (mA_w4 : wA.heap.size ≠ w4.heap.size) => ?_) ?_; rotate_left; · (exact Nat.ne_of_gt jA_w4))); (try (refine (fun (gA00 : wA.cell? ⟨w4.heap.size + 1, 0, none⟩ = some (.int .i64 0)) => ?_) ?_; rotate_left; · (refine keep_cell hbA ?_; simp [go_sem, *]))); (try (refine (fun (gA01 : wA.cell? ⟨w4.heap.size + 1, 1, none⟩ = some (.int .i64 0)) => ?_) ?_; rotate_left; · (refine keep_cell hbA ?_; simp [go_sem, *]))); (try (refine (fun (fA00 : wA.frozen? ⟨w4.heap.size + 1, 0, none⟩ = false) => ?_) ?_; rotate_left; · (refine frozen_new hbA ?_ ?_ <;> simp [go_sem, *]))); (try (refine (fun (fA01 : wA.frozen? ⟨w4.heap.size + 1, 1, none⟩ = false) => ?_) ?_; rotate_left; · (refine frozen_new hbA ?_ ?_ <;> simp [go_sem, *]))); (try (refine (fun (lA0 : w4.heap.size + 1 < wA.heap.size) => ?_) ?_; rotate_left; · (exact World.block_lt_of_cell? wA _ gA00))))
        | (go_at_call_of 54 (Value.agg #[.int .i64 (ofX x2), .int .i64 (ofY x2 x3)]); refine (Scale_any _ _ _ _ (by omega) (by omega) (by omega) (by omega)).mono ?_; rintro e wB ⟨rfl, hbB⟩; (try (refine (fun (kB_w1_0 : wB.cell? ⟨w1.heap.size, 0, none⟩ = some (.int .i64 (ofX x0))) => ?_) ?_; rotate_left; · (refine keep_cell hbB ?_; go_keep))); (try (refine (fun (kB_w1_1 : wB.cell? ⟨w1.heap.size, 1, none⟩ = some (.int .i64 (ofY x0 x1))) => ?_) ?_; rotate_left; · (refine keep_cell hbB ?_; go_keep))); (try (refine (fun (jB_w1 : w1.heap.size < wB.heap.size) => ?_) ?_; rotate_left; · (exact World.block_lt_of_cell? wB _ kB_w1_0))); (try (refine (fun (nB_w1 : w1.heap.size ≠ wB.heap.size) => ?_) ?_; rotate_left; · (exact Nat.ne_of_lt jB_w1))); (try (refine (fun (mB_w1 : wB.heap.size ≠ w1.heap.size) => ?_) ?_; rotate_left; · (exact Nat.ne_of_gt jB_w1))); (try (refine (fun (kB_w2_0 : wB.cell? ⟨w2.heap.size, 0, none⟩ = some (.int .i64 (ofX x2))) => ?_) ?_; rotate_left; · (refine keep_cell hbB ?_; go_keep))); (try (refine (fun (kB_w2_1 : wB.cell? ⟨w2.heap.size, 1, none⟩ = some (.int .i64 (ofY x2 x3))) => ?_) ?_; rotate_left; · (refine keep_cell hbB ?_; go_keep))); (try (refine (fun (jB_w2 : w2.heap.size < wB.heap.size) => ?_) ?_; rotate_left; · (exact World.block_lt_of_cell? wB _ kB_w2_0))); (try (refine (fun (nB_w2 : w2.heap.size ≠ wB.heap.size) => ?_) ?_; rotate_left; · (exact Nat.ne_of_lt jB_w2))); (try (refine (fun (mB_w2 : wB.heap.size ≠ w2.heap.size) => ?_) ?_; rotate_left; · (exact Nat.ne_of_gt jB_w2))); (try (refine (fun (kB_w4_0 : wB.cell? ⟨w4.heap.size, 0, none⟩ = some (.int .i64 (mdv (ofX x0 + ofX x2) (bnd f 1024) 1024))) => ?_) ?_; rotate_left; · (refine keep_cell hbB ?_; go_keep))); (try (refine (fun (kB_w4_1 : wB.cell? ⟨w4.heap.size, 1, none⟩ = some (.int .i64 (mdv (ofY x0 x1 + ofY x2 x3) (bnd f 1024) 1024))) => ?_) ?_; rotate_left; · (refine keep_cell hbB ?_; go_keep))); (try (refine (fun (jB_w4 : w4.heap.size < wB.heap.size) => ?_) ?_; rotate_left; · (exact World.block_lt_of_cell? wB _ kB_w4_0))); (try (refine (fun (nB_w4 : w4.heap.size ≠ wB.heap.size) => ?_) ?_; rotate_left; · (exact Nat.ne_of_lt jB_w4))); (try (refine (fun (mB_w4 : wB.heap.size ≠ w4.heap.size) => ?_) ?_; rotate_left; · (exact Nat.ne_of_gt jB_w4))); (try (refine (fun (gB00 : wB.cell? ⟨w4.heap.size + 1, 0, none⟩ = some (.int .i64 0)) => ?_) ?_; rotate_left; · (refine keep_cell hbB ?_; simp [go_sem, *]))); (try (refine (fun (gB01 : wB.cell? ⟨w4.heap.size + 1, 1, none⟩ = some (.int .i64 0)) => ?_) ?_; rotate_left; · (refine keep_cell hbB ?_; simp [go_sem, *]))); (try (refine (fun (fB00 : wB.frozen? ⟨w4.heap.size + 1, 0, none⟩ = false) => ?_) ?_; rotate_left; · (refine frozen_new hbB ?_ ?_ <;> simp [go_sem, *]))); (try (refine (fun (fB01 : wB.frozen? ⟨w4.heap.size + 1, 1, none⟩ = false) => ?_) ?_; rotate_left; · (refine frozen_new hbB ?_ ?_ <;> simp [go_sem, *]))); (try (refine (fun (lB0 : w4.heap.size + 1 < wB.heap.size) => ?_) ?_; rotate_left; · (exact World.block_lt_of_cell? wB _ gB00))); (try (refine (fun (gB10 : wB.cell? ⟨wA.heap.size, 0, none⟩ = some (.int .i64 0)) => ?_) ?_; rotate_left; · (refine keep_cell hbB ?_; simp [go_sem, *]))); (try (refine (fun (gB11 : wB.cell? ⟨wA.heap.size, 1, none⟩ = some (.int .i64 0)) => ?_) ?_; rotate_left; · (refine keep_cell hbB ?_; simp [go_sem, *]))); (try (refine (fun (fB10 : wB.frozen? ⟨wA.heap.size, 0, none⟩ = false) => ?_) ?_; rotate_left; · (refine frozen_new hbB ?_ ?_ <;> simp [go_sem, *]))); (try (refine (fun (fB11 : wB.frozen? ⟨wA.heap.size, 1, none⟩ = false) => ?_) ?_; rotate_left; · (refine frozen_new hbB ?_ ?_ <;> simp [go_sem, *]))); (try (refine (fun (lB1 : wA.heap.size < wB.heap.size) => ?_) ?_; rotate_left; · (exact World.block_lt_of_cell? wB _ gB10))))
        | (go_at_call 50; refine (Add_any _ _ _ _ _ (by omega) (by omega) (by omega) (by omega)).mono ?_; rintro e wC ⟨rfl, hbC⟩; (try (refine (fun (kC_w1_0 : wC.cell? ⟨w1.heap.size, 0, none⟩ = some (.int .i64 (ofX x0))) => ?_) ?_; rotate_left; · (refine keep_cell hbC ?_; go_keep))); (try (refine (fun (kC_w1_1 : wC.cell? ⟨w1.heap.size, 1, none⟩ = some (.int .i64 (ofY x0 x1))) => ?_) ?_; rotate_left; · (refine keep_cell hbC ?_; go_keep))); (try (refine (fun (jC_w1 : w1.heap.size < wC.heap.size) => ?_) ?_; rotate_left; · (exact World.block_lt_of_cell? wC _ kC_w1_0))); (try (refine (fun (nC_w1 : w1.heap.size ≠ wC.heap.size) => ?_) ?_; rotate_left; · (exact Nat.ne_of_lt jC_w1))); (try (refine (fun (mC_w1 : wC.heap.size ≠ w1.heap.size) => ?_) ?_; rotate_left; · (exact Nat.ne_of_gt jC_w1))); (try (refine (fun (kC_w2_0 : wC.cell? ⟨w2.heap.size, 0, none⟩ = some (.int .i64 (ofX x2))) => ?_) ?_; rotate_left; · (refine keep_cell hbC ?_; go_keep))); (try (refine (fun (kC_w2_1 : wC.cell? ⟨w2.heap.size, 1, none⟩ = some (.int .i64 (ofY x2 x3))) => ?_) ?_; rotate_left; · (refine keep_cell hbC ?_; go_keep))); (try (refine (fun (jC_w2 : w2.heap.size < wC.heap.size) => ?_) ?_; rotate_left; · (exact World.block_lt_of_cell? wC _ kC_w2_0))); (try (refine (fun (nC_w2 : w2.heap.size ≠ wC.heap.size) => ?_) ?_; rotate_left; · (exact Nat.ne_of_lt jC_w2))); (try (refine (fun (mC_w2 : wC.heap.size ≠ w2.heap.size) => ?_) ?_; rotate_left; · (exact Nat.ne_of_gt jC_w2))); (try (refine (fun (kC_w4_0 : wC.cell? ⟨w4.heap.size, 0, none⟩ = some (.int .i64 (mdv (ofX x0 + ofX x2) (bnd f 1024) 1024))) => ?_) ?_; rotate_left; · (refine keep_cell hbC ?_; go_keep))); (try (refine (fun (kC_w4_1 : wC.cell? ⟨w4.heap.size, 1, none⟩ = some (.int .i64 (mdv (ofY x0 x1 + ofY x2 x3) (bnd f 1024) 1024))) => ?_) ?_; rotate_left; · (refine keep_cell hbC ?_; go_keep))); (try (refine (fun (jC_w4 : w4.heap.size < wC.heap.size) => ?_) ?_; rotate_left; · (exact World.block_lt_of_cell? wC _ kC_w4_0))); (try (refine (fun (nC_w4 : w4.heap.size ≠ wC.heap.size) => ?_) ?_; rotate_left; · (exact Nat.ne_of_lt jC_w4))); (try (refine (fun (mC_w4 : wC.heap.size ≠ w4.heap.size) => ?_) ?_; rotate_left; · (exact Nat.ne_of_gt jC_w4))); (try (refine (fun (gC00 : wC.cell? ⟨w4.heap.size + 1, 0, none⟩ = some (.int .i64 0)) => ?_) ?_; rotate_left; · (refine keep_cell hbC ?_; simp [go_sem, *]))); (try (refine (fun (gC01 : wC.cell? ⟨w4.heap.size + 1, 1, none⟩ = some (.int .i64 0)) => ?_) ?_; rotate_left; · (refine keep_cell hbC ?_; simp [go_sem, *]))); (try (refine (fun (fC00 : wC.frozen? ⟨w4.heap.size + 1, 0, none⟩ = false) => ?_) ?_; rotate_left; · (refine frozen_new hbC ?_ ?_ <;> simp [go_sem, *]))); (try (refine (fun (fC01 : wC.frozen? ⟨w4.heap.size + 1, 1, none⟩ = false) => ?_) ?_; rotate_left; · (refine frozen_new hbC ?_ ?_ <;> simp [go_sem, *]))); (try (refine (fun (lC0 : w4.heap.size + 1 < wC.heap.size) => ?_) ?_; rotate_left; · (exact World.block_lt_of_cell? wC _ gC00))); (try (refine (fun (gC10 : wC.cell? ⟨wA.heap.size, 0, none⟩ = some (.int .i64 0)) => ?_) ?_; rotate_left; · (refine keep_cell hbC ?_; simp [go_sem, *]))); (try (refine (fun (gC11 : wC.cell? ⟨wA.heap.size, 1, none⟩ = some (.int .i64 0)) => ?_) ?_; rotate_left; · (refine keep_cell hbC ?_; simp [go_sem, *]))); (try (refine (fun (fC10 : wC.frozen? ⟨wA.heap.size, 0, none⟩ = false) => ?_) ?_; rotate_left; · (refine frozen_new hbC ?_ ?_ <;> simp [go_sem, *]))); (try (refine (fun (fC11 : wC.frozen? ⟨wA.heap.size, 1, none⟩ = false) => ?_) ?_; rotate_left; · (refine frozen_new hbC ?_ ?_ <;> simp [go_sem, *]))); (try (refine (fun (lC1 : wA.heap.size < wC.heap.size) => ?_) ?_; rotate_left; · (exact World.block_lt_of_cell? wC _ gC10))); (try (refine (fun (gC20 : wC.cell? ⟨wB.heap.size, 0, none⟩ = some (.int .i64 0)) => ?_) ?_; rotate_left; · (refine keep_cell hbC ?_; simp [go_sem, *]))); (try (refine (fun (gC21 : wC.cell? ⟨wB.heap.size, 1, none⟩ = some (.int .i64 0)) => ?_) ?_; rotate_left; · (refine keep_cell hbC ?_; simp [go_sem, *]))); (try (refine (fun (fC20 : wC.frozen? ⟨wB.heap.size, 0, none⟩ = false) => ?_) ?_; rotate_left; · (refine frozen_new hbC ?_ ?_ <;> simp [go_sem, *]))); (try (refine (fun (fC21 : wC.frozen? ⟨wB.heap.size, 1, none⟩ = false) => ?_) ?_; rotate_left; · (refine frozen_new hbC ?_ ?_ <;> simp [go_sem, *]))); (try (refine (fun (lC2 : wB.heap.size < wC.heap.size) => ?_) ?_; rotate_left; · (exact World.block_lt_of_cell? wC _ gC20)))))
    all_goals go_wp2_with fail
    all_goals (go_meet; rename _ ∧ _ ∧ _ ∧ _ ∧ _ ∧ _ ∧ Below w.heap.size w _ => hS; obtain ⟨z1, z2, z3, z4, z5, z6, z7⟩ := hS; exact ⟨_, rfl, by simp [go_sem, *], by simp [go_sem, *], z1, z2, z5, z6, z7⟩)
  case rest =>
    rename World => w5
    obtain ⟨g, rfl, kq0, kq1, k5_w1_0, k5_w1_1, kp0, kp1, i5⟩ := hcut
    have j5_w1 := World.block_lt_of_cell? w5 _ k5_w1_0
    have hfl := fld0
    go_wp2_with fail
    go_region_held3 (fun w' => w'.cell? ⟨w1.heap.size, 0, none⟩ = some (.int .i64 (ofX x0)) ∧ w'.cell? ⟨w1.heap.size, 1, none⟩ = some (.int .i64 (ofY x0 x1)) ∧ Below w.heap.size w w') (first | (go_keep; done) | ((repeat' apply And.intro) <;> (first | (go_keep; done) | (refine keep_cell (by assumption) ?_; go_keep; done) | ((repeat (first | exact Below.refl _ _ | refine below_alloc ?_ _ | refine Below.drew ?_ | refine below_set ?_ (by (first | (simp; done) | (simp; omega))) _ | refine below_step (by assumption) ?_)); all_goals (simp [*]; done)))))
      (first
        | (go_at_call 25; refine (Mul_any _ _ _ (by omega) (by omega)).mono ?_; rintro e w' ⟨rfl, rfl⟩)
        | (go_at_call 54; refine (Scale_any _ _ _ _ (by omega) (by omega) (by omega) (by omega)).mono ?_; rintro e w9 ⟨rfl, hb9⟩)
        | (go_at_call 49; refine (vMulDiv_any _ _ _ _ _ (by omega) (by omega) (by omega) (by omega)).mono ?_; rintro e w9 ⟨rfl, hb9⟩)
        | (go_at_call 48; refine (lives2_any _).mono ?_; rintro e w9 ⟨rfl, hb9⟩))
    go_wp2
    go_ret
    rename _ ∧ _ ∧ Below w.heap.size w _ => hS
    exact ⟨rfl, hS.2.2⟩

theorem own : ownKnob Try.prog.godebug = none := by kernel_rfl
theorem laidOut : laidOutB Try.prog = true := by kernel_rfl

set_option maxRecDepth 100000 in
theorem lifted (os : Os) (started : os.Started) (H : Type) (enc : TypeId × Value → H) :
    ReturnsInHanded {} Try.checked os 12 .any (Rows.vecScalesSpec.pre6 enc Try.prog Try.f12 Rows.vecScalesRow.domain false) (Rows.vecScalesSpec.post enc Try.prog Try.f12 false true false false) := by
  refine returnsInHanded_of_change (C := Try.checked) own started (by kernel_rfl) Try.func12
    (ChangeSpec.witness6 (enc := enc) (C := Try.checked) false ⟨#[], #[.agg #[.int .i64 0, .int .i64 0, .int .i64 0, .int .i64 0], .int .i64 0, .int .i64 0], []⟩ 8 (by kernel_rfl) (by kernel_rfl) (by kernel_rfl) (by kernel_rfl)) ?_
  intro W base args ds gs before hval0 hW hcnd _
  have hval : ∀ (j : Nat) t v, Try.f12.params[j]? = some t → args[j]? = some v → Value.okWide Try.prog W .any base t v := hval0
  have hW' := hW
  obtain ⟨p, q, hA0, hV, rfl, hfz, hnd⟩ := hW
  have hA : DataW.TrodAll enc Try.prog W 0 (fun _ => true) true Try.f12.params.toList args.toList ds p := hA0
  rw [Try.params12] at hA hval
  obtain ⟨v0, vs0, d0, ds0, p0, q0, hargs, rfl, rfl, h0, r0⟩ := trodAll_cons hA
  obtain ⟨v1, vs1, d1, ds1, p1, q1, rfl, rfl, rfl, h1, r1⟩ := trodAll_cons r0
  obtain ⟨v2, vs2, d2, ds2, p2, q2, rfl, rfl, rfl, h2, r2⟩ := trodAll_cons r1
  obtain ⟨rfl, rfl, rfl⟩ := trodAll_nil r2
  obtain rfl : args = #[v0, v1, v2] := by cases args; simp_all
  obtain ⟨rfl, rfl⟩ := trodVars_none hV
  have k0 := h0
  have lt0 : ∀ x ∈ p0, x.block < W.heap.size := by obtain ⟨m, hm⟩ := k0; exact DataW.trod_lt m _ _ _ hm
  obtain ⟨zs0, rfl, hz0, hw0⟩ := open_arr Try.underlying28 Try.underlying3 (by kernel_rfl) (by kernel_rfl) (hval 0 28 v0 rfl rfl) h0
  obtain ⟨z0_0, z0_1, z0_2, z0_3, rfl⟩ := list4 hz0
  have bz0_0 := bounds_i64 (hw0 z0_0 (by simp))
  have bz0_1 := bounds_i64 (hw0 z0_1 (by simp))
  have bz0_2 := bounds_i64 (hw0 z0_2 (by simp))
  have bz0_3 := bounds_i64 (hw0 z0_3 (by simp))
  obtain ⟨a1, rfl, rfl, rfl, w1⟩ := open_int Try.underlying3 (hval 1 3 v1 rfl rfl) h1
  obtain ⟨a2, rfl, rfl, rfl, w2⟩ := open_int Try.underlying3 (hval 2 3 v2 rfl rfl) h2
  clear hA0 hval0
  refine (walk z0_0 bz0_0.1 bz0_0.2 z0_1 bz0_1.1 bz0_1.2 z0_2 bz0_2.1 bz0_2.2 z0_3 bz0_3.1 bz0_3.2 a1 (bounds_i64 w1).1 (bounds_i64 w1).2 a2 (bounds_i64 w2).1 (bounds_i64 w2).2 W).mono fun e W' ⟨he, bel⟩ => ?_
  subst he
  exact ⟨_, rfl, _, _, _, [], _, [], hW', trodAll_mk1 (shut_bool Try.underlying4 _), (trodAll_cons_mk (Below.trod laidOut (by kernel_rfl) (of_decide_eq_true (by kernel_rfl)) k0 bel lt0) (trodAll_cons_mk (shut_int Try.underlying3 w1) (trodAll_cons_mk (shut_int Try.underlying3 w2) trodAll_mk0))), rfl, bel.frame _, fun h => by cases h⟩

theorem closed : joinedFacts Try.prog 12 Try.f12 Rows.vecScalesSpec Rows.vecScalesRow = true := by
  unfold joinedFacts
  repeat' (with_reducible refine both_of ?_ ?_)
  all_goals (first | with_reducible exact mayEnter_ok | (rw [liftsFinal_is]; as_aux_lemma => kernel_rfl) | (rw [make_is]; as_aux_lemma => kernel_rfl) | (as_aux_lemma => kernel_rfl))

theorem over : Rows.vecScalesRow.holds Try.pinned (OpenSpec.ofChange Rows.vecScalesSpec) :=
  OpenClaim.holds_of_wide 12 Try.f12 rfl rfl rfl rfl rfl rfl rfl ⟨rfl, rfl, rfl, rfl, rfl⟩ rfl rfl rfl rfl rfl (by kernel_rfl) Try.func12 closed
    (of_decide_eq_true (by kernel_rfl)) (by unfold Func.isWrapper; first | (rw [if_pos (by decide +kernel)]; kernel_rfl) | (rw [if_neg (by decide +kernel)]; exact ⟨rfl, rfl⟩))
    (fun os started H enc _ => lifted os started H enc)

theorem proved : Rows.VecScalesSaid := over
#print axioms proved

end Go.Proofs.Ytcapkmiinehdlaa.vecScales
