/-
  VecUnit: Normalize of a vector of length at least One returns a vector whose length differs from One by at most 2. Conditions: none.
-/
import Derived.Test.YtcapkmiinehdlaaRows
import Derived.Test.YtcapkmiinehdlaaHead
import Derived.Test.YtcapkmiinehdlaaOpen
import Derived.Test.YtcapkmiinehdlaaLives2
import Derived.Test.YtcapkmiinehdlaaVmath
namespace Go.Proofs.Ytcapkmiinehdlaa.vecUnit
open Go.ChangeShapes Go.WideShapes Go.ChangeAt Go.RowKit
attribute [local go_sem ↓] Go.wp_at_zero Go.wp_at_succ


set_option maxRecDepth 100000 in
set_option maxHeartbeats 1000000 in
theorem walk (x0 : Int) (lx0 : -9223372036854775808 ≤ x0) (ux0 : x0 ≤ 9223372036854775807) (x1 : Int) (lx1 : -9223372036854775808 ≤ x1) (ux1 : x1 ≤ 9223372036854775807) (w : World) :
    Calls Try.prog 13 #[.agg #[.int .i64 x0, .int .i64 x1]] w fun e w' => e = .returned (.bool true) ∧ Below w.heap.size w w' := by
  have b1 := ofX_bd x0
  have b2 := ofY_bd x0 x1
  have p1 := mul_bd (a := ofX x0) (b := ofX x0) (A := 8388608) (B := 8388608) (by omega) (by omega)
  have p2 := mul_bd (a := ofY x0 x1) (b := ofY x0 x1) (A := 8388608) (B := 8388608) (by omega) (by omega)
  by_cases hL : lnz (ofX x0) (ofY x0 x1) < 1024
  · go_enter Try.func13, Try.ntmps13
    go_wp2_with fail
    refine (Of_any _ _ _ (by omega) (by omega) (by omega) (by omega)).mono ?_
    rintro e w1 ⟨rfl, hb1⟩
    have k1_w_0 : w1.cell? ⟨w.heap.size, 0, none⟩ = some (.int .i64 (x0)) := keep_cell hb1 (by simp [go_sem, *])
    have k1_w_1 : w1.cell? ⟨w.heap.size, 1, none⟩ = some (.int .i64 (x1)) := keep_cell hb1 (by simp [go_sem, *])
    have j1_w : w.heap.size < w1.heap.size := World.block_lt_of_cell? w1 _ k1_w_0
    have i1 : Below w.heap.size w w1 := (by repeat (first | exact Below.refl _ _ | refine below_alloc ?_ _ | refine Below.drew ?_ | refine below_set ?_ (by (first | (simp; done) | (simp; omega))) _ | refine below_step (by assumption) ?_))
    go_wp2_with fail
    refine (Len_any _ _ _ (by omega) (by omega) (by omega) (by omega)).mono ?_
    rintro e w2 ⟨rfl, hb2⟩
    have k2_w1_0 : w2.cell? ⟨w1.heap.size, 0, none⟩ = some (.int .i64 (ofX x0)) := keep_cell hb2 (by simp [go_sem, *])
    have k2_w1_1 : w2.cell? ⟨w1.heap.size, 1, none⟩ = some (.int .i64 (ofY x0 x1)) := keep_cell hb2 (by simp [go_sem, *])
    have j2_w1 : w1.heap.size < w2.heap.size := World.block_lt_of_cell? w2 _ k2_w1_0
    have i2 : Below w.heap.size w w2 := (by repeat (first | exact Below.refl _ _ | refine below_alloc ?_ _ | refine Below.drew ?_ | refine below_set ?_ (by (first | (simp; done) | (simp; omega))) _ | refine below_step (by assumption) ?_))
    go_wp2_with fail
    refine (lives2_any _).mono ?_
    rintro e w3 ⟨rfl, hb3⟩
    have i3 : Below w.heap.size w w3 := (by repeat (first | exact Below.refl _ _ | refine below_alloc ?_ _ | refine Below.drew ?_ | refine below_set ?_ (by (first | (simp; done) | (simp; omega))) _ | refine below_step (by assumption) ?_))
    go_wp2
    go_ret
    exact ⟨rfl, (by repeat (first | exact Below.refl _ _ | refine below_alloc ?_ _ | refine Below.drew ?_ | refine below_set ?_ (by (first | (simp; done) | (simp; omega))) _ | refine below_step (by assumption) ?_))⟩
  · have hL1 : 1024 ≤ lnz (ofX x0) (ofY x0 x1) := by omega
    have u1 := unit_bd hL1
    have u2 := unit_len hL1
    have s1 := mdv_mul_nonneg (a := ofX x0) (c := lnz (ofX x0) (ofY x0 x1)) (by omega)
    have s2 := mdv_mul_nonneg (a := ofY x0 x1) (c := lnz (ofX x0) (ofY x0 x1)) (by omega)
    have s3 := mdv_sign (a := ofX x0) (c := lnz (ofX x0) (ofY x0 x1)) (by omega)
    have s4 := mdv_sign (a := ofY x0 x1) (c := lnz (ofX x0) (ofY x0 x1)) (by omega)
    have v1 := mul_bd (a := mdv (ofX x0) 1024 (lnz (ofX x0) (ofY x0 x1))) (b := ofX x0) (A := 1027) (B := 8388608) (by omega) (by omega)
    have v2 := mul_bd (a := mdv (ofY x0 x1) 1024 (lnz (ofX x0) (ofY x0 x1))) (b := ofY x0 x1) (A := 1027) (B := 8388608) (by omega) (by omega)
    have v3 := mul_bd (a := mdv (ofX x0) 1024 (lnz (ofX x0) (ofY x0 x1))) (b := mdv (ofX x0) 1024 (lnz (ofX x0) (ofY x0 x1))) (A := 1027) (B := 1027) (by omega) (by omega)
    have v4 := mul_bd (a := mdv (ofY x0 x1) 1024 (lnz (ofX x0) (ofY x0 x1))) (b := mdv (ofY x0 x1) 1024 (lnz (ofX x0) (ofY x0 x1))) (A := 1027) (B := 1027) (by omega) (by omega)
    have n1 := lnz_nonneg (mdv (ofX x0) 1024 (lnz (ofX x0) (ofY x0 x1))) (mdv (ofY x0 x1) 1024 (lnz (ofX x0) (ofY x0 x1)))
    have m1 := lnz_le u1.1 u1.2
    obtain ⟨u3, u4⟩ := u1
    by_cases hx : ofX x0 < 0
    · have y1 := s3.1 hx
      by_cases hy : ofY x0 x1 < 0
      · have y2 := s4.1 hy
        clear s3 s4
        go_enter Try.func13, Try.ntmps13
        go_wp2_with fail
        refine (Of_any _ _ _ (by omega) (by omega) (by omega) (by omega)).mono ?_
        rintro e w1 ⟨rfl, hb1⟩
        have k1_w_0 : w1.cell? ⟨w.heap.size, 0, none⟩ = some (.int .i64 (x0)) := keep_cell hb1 (by simp [go_sem, *])
        have k1_w_1 : w1.cell? ⟨w.heap.size, 1, none⟩ = some (.int .i64 (x1)) := keep_cell hb1 (by simp [go_sem, *])
        have j1_w : w.heap.size < w1.heap.size := World.block_lt_of_cell? w1 _ k1_w_0
        have i1 : Below w.heap.size w w1 := (by repeat (first | exact Below.refl _ _ | refine below_alloc ?_ _ | refine Below.drew ?_ | refine below_set ?_ (by (first | (simp; done) | (simp; omega))) _ | refine below_step (by assumption) ?_))
        go_wp2_with fail
        refine (Len_any _ _ _ (by omega) (by omega) (by omega) (by omega)).mono ?_
        rintro e w2 ⟨rfl, hb2⟩
        have k2_w1_0 : w2.cell? ⟨w1.heap.size, 0, none⟩ = some (.int .i64 (ofX x0)) := keep_cell hb2 (by simp [go_sem, *])
        have k2_w1_1 : w2.cell? ⟨w1.heap.size, 1, none⟩ = some (.int .i64 (ofY x0 x1)) := keep_cell hb2 (by simp [go_sem, *])
        have j2_w1 : w1.heap.size < w2.heap.size := World.block_lt_of_cell? w2 _ k2_w1_0
        have i2 : Below w.heap.size w w2 := (by repeat (first | exact Below.refl _ _ | refine below_alloc ?_ _ | refine Below.drew ?_ | refine below_set ?_ (by (first | (simp; done) | (simp; omega))) _ | refine below_step (by assumption) ?_))
        go_wp2_with fail
        refine (Normalize_any _ _ _ (by omega) (by omega) (by omega) (by omega)).mono ?_
        rintro e w3 ⟨rfl, hb3⟩
        have k3_w1_0 : w3.cell? ⟨w1.heap.size, 0, none⟩ = some (.int .i64 (ofX x0)) := keep_cell hb3 (by simp [go_sem, *])
        have k3_w1_1 : w3.cell? ⟨w1.heap.size, 1, none⟩ = some (.int .i64 (ofY x0 x1)) := keep_cell hb3 (by simp [go_sem, *])
        have j3_w1 : w1.heap.size < w3.heap.size := World.block_lt_of_cell? w3 _ k3_w1_0
        have i3 : Below w.heap.size w w3 := (by repeat (first | exact Below.refl _ _ | refine below_alloc ?_ _ | refine Below.drew ?_ | refine below_set ?_ (by (first | (simp; done) | (simp; omega))) _ | refine below_step (by assumption) ?_))
        go_wp2_with fail
        refine (Len_any _ _ _ (by omega) (by omega) (by omega) (by omega)).mono ?_
        rintro e w4 ⟨rfl, hb4⟩
        have k4_w1_0 : w4.cell? ⟨w1.heap.size, 0, none⟩ = some (.int .i64 (ofX x0)) := keep_cell hb4 (by simp [go_sem, *])
        have k4_w1_1 : w4.cell? ⟨w1.heap.size, 1, none⟩ = some (.int .i64 (ofY x0 x1)) := keep_cell hb4 (by simp [go_sem, *])
        have j4_w1 : w1.heap.size < w4.heap.size := World.block_lt_of_cell? w4 _ k4_w1_0
        have k4_w3_0 : w4.cell? ⟨w3.heap.size, 0, none⟩ = some (.int .i64 (mdv (ofX x0) 1024 (lnz (ofX x0) (ofY x0 x1)))) := keep_cell hb4 (by simp [go_sem, *])
        have k4_w3_1 : w4.cell? ⟨w3.heap.size, 1, none⟩ = some (.int .i64 (mdv (ofY x0 x1) 1024 (lnz (ofX x0) (ofY x0 x1)))) := keep_cell hb4 (by simp [go_sem, *])
        have j4_w3 : w3.heap.size < w4.heap.size := World.block_lt_of_cell? w4 _ k4_w3_0
        have i4 : Below w.heap.size w w4 := (by repeat (first | exact Below.refl _ _ | refine below_alloc ?_ _ | refine Below.drew ?_ | refine below_set ?_ (by (first | (simp; done) | (simp; omega))) _ | refine below_step (by assumption) ?_))
        go_wp2_with fail
        refine (Abs_any _ _ (by omega)).mono ?_
        rintro e w' ⟨rfl, rfl⟩
        go_wp2_with fail
        refine (lives2_any _).mono ?_
        rintro e w5 ⟨rfl, hb5⟩
        have i5 : Below w.heap.size w w5 := (by repeat (first | exact Below.refl _ _ | refine below_alloc ?_ _ | refine Below.drew ?_ | refine below_set ?_ (by (first | (simp; done) | (simp; omega))) _ | refine below_step (by assumption) ?_))
        go_wp2
        go_ret
        exact ⟨rfl, (by repeat (first | exact Below.refl _ _ | refine below_alloc ?_ _ | refine Below.drew ?_ | refine below_set ?_ (by (first | (simp; done) | (simp; omega))) _ | refine below_step (by assumption) ?_))⟩
      · have y2 := s4.2 (by omega)
        clear s3 s4
        go_enter Try.func13, Try.ntmps13
        go_wp2_with fail
        refine (Of_any _ _ _ (by omega) (by omega) (by omega) (by omega)).mono ?_
        rintro e w1 ⟨rfl, hb1⟩
        have k1_w_0 : w1.cell? ⟨w.heap.size, 0, none⟩ = some (.int .i64 (x0)) := keep_cell hb1 (by simp [go_sem, *])
        have k1_w_1 : w1.cell? ⟨w.heap.size, 1, none⟩ = some (.int .i64 (x1)) := keep_cell hb1 (by simp [go_sem, *])
        have j1_w : w.heap.size < w1.heap.size := World.block_lt_of_cell? w1 _ k1_w_0
        have i1 : Below w.heap.size w w1 := (by repeat (first | exact Below.refl _ _ | refine below_alloc ?_ _ | refine Below.drew ?_ | refine below_set ?_ (by (first | (simp; done) | (simp; omega))) _ | refine below_step (by assumption) ?_))
        go_wp2_with fail
        refine (Len_any _ _ _ (by omega) (by omega) (by omega) (by omega)).mono ?_
        rintro e w2 ⟨rfl, hb2⟩
        have k2_w1_0 : w2.cell? ⟨w1.heap.size, 0, none⟩ = some (.int .i64 (ofX x0)) := keep_cell hb2 (by simp [go_sem, *])
        have k2_w1_1 : w2.cell? ⟨w1.heap.size, 1, none⟩ = some (.int .i64 (ofY x0 x1)) := keep_cell hb2 (by simp [go_sem, *])
        have j2_w1 : w1.heap.size < w2.heap.size := World.block_lt_of_cell? w2 _ k2_w1_0
        have i2 : Below w.heap.size w w2 := (by repeat (first | exact Below.refl _ _ | refine below_alloc ?_ _ | refine Below.drew ?_ | refine below_set ?_ (by (first | (simp; done) | (simp; omega))) _ | refine below_step (by assumption) ?_))
        go_wp2_with fail
        refine (Normalize_any _ _ _ (by omega) (by omega) (by omega) (by omega)).mono ?_
        rintro e w3 ⟨rfl, hb3⟩
        have k3_w1_0 : w3.cell? ⟨w1.heap.size, 0, none⟩ = some (.int .i64 (ofX x0)) := keep_cell hb3 (by simp [go_sem, *])
        have k3_w1_1 : w3.cell? ⟨w1.heap.size, 1, none⟩ = some (.int .i64 (ofY x0 x1)) := keep_cell hb3 (by simp [go_sem, *])
        have j3_w1 : w1.heap.size < w3.heap.size := World.block_lt_of_cell? w3 _ k3_w1_0
        have i3 : Below w.heap.size w w3 := (by repeat (first | exact Below.refl _ _ | refine below_alloc ?_ _ | refine Below.drew ?_ | refine below_set ?_ (by (first | (simp; done) | (simp; omega))) _ | refine below_step (by assumption) ?_))
        go_wp2_with fail
        refine (Len_any _ _ _ (by omega) (by omega) (by omega) (by omega)).mono ?_
        rintro e w4 ⟨rfl, hb4⟩
        have k4_w1_0 : w4.cell? ⟨w1.heap.size, 0, none⟩ = some (.int .i64 (ofX x0)) := keep_cell hb4 (by simp [go_sem, *])
        have k4_w1_1 : w4.cell? ⟨w1.heap.size, 1, none⟩ = some (.int .i64 (ofY x0 x1)) := keep_cell hb4 (by simp [go_sem, *])
        have j4_w1 : w1.heap.size < w4.heap.size := World.block_lt_of_cell? w4 _ k4_w1_0
        have k4_w3_0 : w4.cell? ⟨w3.heap.size, 0, none⟩ = some (.int .i64 (mdv (ofX x0) 1024 (lnz (ofX x0) (ofY x0 x1)))) := keep_cell hb4 (by simp [go_sem, *])
        have k4_w3_1 : w4.cell? ⟨w3.heap.size, 1, none⟩ = some (.int .i64 (mdv (ofY x0 x1) 1024 (lnz (ofX x0) (ofY x0 x1)))) := keep_cell hb4 (by simp [go_sem, *])
        have j4_w3 : w3.heap.size < w4.heap.size := World.block_lt_of_cell? w4 _ k4_w3_0
        have i4 : Below w.heap.size w w4 := (by repeat (first | exact Below.refl _ _ | refine below_alloc ?_ _ | refine Below.drew ?_ | refine below_set ?_ (by (first | (simp; done) | (simp; omega))) _ | refine below_step (by assumption) ?_))
        go_wp2_with fail
        refine (Abs_any _ _ (by omega)).mono ?_
        rintro e w' ⟨rfl, rfl⟩
        go_wp2_with fail
        refine (lives2_any _).mono ?_
        rintro e w5 ⟨rfl, hb5⟩
        have i5 : Below w.heap.size w w5 := (by repeat (first | exact Below.refl _ _ | refine below_alloc ?_ _ | refine Below.drew ?_ | refine below_set ?_ (by (first | (simp; done) | (simp; omega))) _ | refine below_step (by assumption) ?_))
        go_wp2
        go_ret
        exact ⟨rfl, (by repeat (first | exact Below.refl _ _ | refine below_alloc ?_ _ | refine Below.drew ?_ | refine below_set ?_ (by (first | (simp; done) | (simp; omega))) _ | refine below_step (by assumption) ?_))⟩
    · have y1 := s3.2 (by omega)
      by_cases hy : ofY x0 x1 < 0
      · have y2 := s4.1 hy
        clear s3 s4
        go_enter Try.func13, Try.ntmps13
        go_wp2_with fail
        refine (Of_any _ _ _ (by omega) (by omega) (by omega) (by omega)).mono ?_
        rintro e w1 ⟨rfl, hb1⟩
        have k1_w_0 : w1.cell? ⟨w.heap.size, 0, none⟩ = some (.int .i64 (x0)) := keep_cell hb1 (by simp [go_sem, *])
        have k1_w_1 : w1.cell? ⟨w.heap.size, 1, none⟩ = some (.int .i64 (x1)) := keep_cell hb1 (by simp [go_sem, *])
        have j1_w : w.heap.size < w1.heap.size := World.block_lt_of_cell? w1 _ k1_w_0
        have i1 : Below w.heap.size w w1 := (by repeat (first | exact Below.refl _ _ | refine below_alloc ?_ _ | refine Below.drew ?_ | refine below_set ?_ (by (first | (simp; done) | (simp; omega))) _ | refine below_step (by assumption) ?_))
        go_wp2_with fail
        refine (Len_any _ _ _ (by omega) (by omega) (by omega) (by omega)).mono ?_
        rintro e w2 ⟨rfl, hb2⟩
        have k2_w1_0 : w2.cell? ⟨w1.heap.size, 0, none⟩ = some (.int .i64 (ofX x0)) := keep_cell hb2 (by simp [go_sem, *])
        have k2_w1_1 : w2.cell? ⟨w1.heap.size, 1, none⟩ = some (.int .i64 (ofY x0 x1)) := keep_cell hb2 (by simp [go_sem, *])
        have j2_w1 : w1.heap.size < w2.heap.size := World.block_lt_of_cell? w2 _ k2_w1_0
        have i2 : Below w.heap.size w w2 := (by repeat (first | exact Below.refl _ _ | refine below_alloc ?_ _ | refine Below.drew ?_ | refine below_set ?_ (by (first | (simp; done) | (simp; omega))) _ | refine below_step (by assumption) ?_))
        go_wp2_with fail
        refine (Normalize_any _ _ _ (by omega) (by omega) (by omega) (by omega)).mono ?_
        rintro e w3 ⟨rfl, hb3⟩
        have k3_w1_0 : w3.cell? ⟨w1.heap.size, 0, none⟩ = some (.int .i64 (ofX x0)) := keep_cell hb3 (by simp [go_sem, *])
        have k3_w1_1 : w3.cell? ⟨w1.heap.size, 1, none⟩ = some (.int .i64 (ofY x0 x1)) := keep_cell hb3 (by simp [go_sem, *])
        have j3_w1 : w1.heap.size < w3.heap.size := World.block_lt_of_cell? w3 _ k3_w1_0
        have i3 : Below w.heap.size w w3 := (by repeat (first | exact Below.refl _ _ | refine below_alloc ?_ _ | refine Below.drew ?_ | refine below_set ?_ (by (first | (simp; done) | (simp; omega))) _ | refine below_step (by assumption) ?_))
        go_wp2_with fail
        refine (Len_any _ _ _ (by omega) (by omega) (by omega) (by omega)).mono ?_
        rintro e w4 ⟨rfl, hb4⟩
        have k4_w1_0 : w4.cell? ⟨w1.heap.size, 0, none⟩ = some (.int .i64 (ofX x0)) := keep_cell hb4 (by simp [go_sem, *])
        have k4_w1_1 : w4.cell? ⟨w1.heap.size, 1, none⟩ = some (.int .i64 (ofY x0 x1)) := keep_cell hb4 (by simp [go_sem, *])
        have j4_w1 : w1.heap.size < w4.heap.size := World.block_lt_of_cell? w4 _ k4_w1_0
        have k4_w3_0 : w4.cell? ⟨w3.heap.size, 0, none⟩ = some (.int .i64 (mdv (ofX x0) 1024 (lnz (ofX x0) (ofY x0 x1)))) := keep_cell hb4 (by simp [go_sem, *])
        have k4_w3_1 : w4.cell? ⟨w3.heap.size, 1, none⟩ = some (.int .i64 (mdv (ofY x0 x1) 1024 (lnz (ofX x0) (ofY x0 x1)))) := keep_cell hb4 (by simp [go_sem, *])
        have j4_w3 : w3.heap.size < w4.heap.size := World.block_lt_of_cell? w4 _ k4_w3_0
        have i4 : Below w.heap.size w w4 := (by repeat (first | exact Below.refl _ _ | refine below_alloc ?_ _ | refine Below.drew ?_ | refine below_set ?_ (by (first | (simp; done) | (simp; omega))) _ | refine below_step (by assumption) ?_))
        go_wp2_with fail
        refine (Abs_any _ _ (by omega)).mono ?_
        rintro e w' ⟨rfl, rfl⟩
        go_wp2_with fail
        refine (lives2_any _).mono ?_
        rintro e w5 ⟨rfl, hb5⟩
        have i5 : Below w.heap.size w w5 := (by repeat (first | exact Below.refl _ _ | refine below_alloc ?_ _ | refine Below.drew ?_ | refine below_set ?_ (by (first | (simp; done) | (simp; omega))) _ | refine below_step (by assumption) ?_))
        go_wp2
        go_ret
        exact ⟨rfl, (by repeat (first | exact Below.refl _ _ | refine below_alloc ?_ _ | refine Below.drew ?_ | refine below_set ?_ (by (first | (simp; done) | (simp; omega))) _ | refine below_step (by assumption) ?_))⟩
      · have y2 := s4.2 (by omega)
        clear s3 s4
        go_enter Try.func13, Try.ntmps13
        go_wp2_with fail
        refine (Of_any _ _ _ (by omega) (by omega) (by omega) (by omega)).mono ?_
        rintro e w1 ⟨rfl, hb1⟩
        have k1_w_0 : w1.cell? ⟨w.heap.size, 0, none⟩ = some (.int .i64 (x0)) := keep_cell hb1 (by simp [go_sem, *])
        have k1_w_1 : w1.cell? ⟨w.heap.size, 1, none⟩ = some (.int .i64 (x1)) := keep_cell hb1 (by simp [go_sem, *])
        have j1_w : w.heap.size < w1.heap.size := World.block_lt_of_cell? w1 _ k1_w_0
        have i1 : Below w.heap.size w w1 := (by repeat (first | exact Below.refl _ _ | refine below_alloc ?_ _ | refine Below.drew ?_ | refine below_set ?_ (by (first | (simp; done) | (simp; omega))) _ | refine below_step (by assumption) ?_))
        go_wp2_with fail
        refine (Len_any _ _ _ (by omega) (by omega) (by omega) (by omega)).mono ?_
        rintro e w2 ⟨rfl, hb2⟩
        have k2_w1_0 : w2.cell? ⟨w1.heap.size, 0, none⟩ = some (.int .i64 (ofX x0)) := keep_cell hb2 (by simp [go_sem, *])
        have k2_w1_1 : w2.cell? ⟨w1.heap.size, 1, none⟩ = some (.int .i64 (ofY x0 x1)) := keep_cell hb2 (by simp [go_sem, *])
        have j2_w1 : w1.heap.size < w2.heap.size := World.block_lt_of_cell? w2 _ k2_w1_0
        have i2 : Below w.heap.size w w2 := (by repeat (first | exact Below.refl _ _ | refine below_alloc ?_ _ | refine Below.drew ?_ | refine below_set ?_ (by (first | (simp; done) | (simp; omega))) _ | refine below_step (by assumption) ?_))
        go_wp2_with fail
        refine (Normalize_any _ _ _ (by omega) (by omega) (by omega) (by omega)).mono ?_
        rintro e w3 ⟨rfl, hb3⟩
        have k3_w1_0 : w3.cell? ⟨w1.heap.size, 0, none⟩ = some (.int .i64 (ofX x0)) := keep_cell hb3 (by simp [go_sem, *])
        have k3_w1_1 : w3.cell? ⟨w1.heap.size, 1, none⟩ = some (.int .i64 (ofY x0 x1)) := keep_cell hb3 (by simp [go_sem, *])
        have j3_w1 : w1.heap.size < w3.heap.size := World.block_lt_of_cell? w3 _ k3_w1_0
        have i3 : Below w.heap.size w w3 := (by repeat (first | exact Below.refl _ _ | refine below_alloc ?_ _ | refine Below.drew ?_ | refine below_set ?_ (by (first | (simp; done) | (simp; omega))) _ | refine below_step (by assumption) ?_))
        go_wp2_with fail
        refine (Len_any _ _ _ (by omega) (by omega) (by omega) (by omega)).mono ?_
        rintro e w4 ⟨rfl, hb4⟩
        have k4_w1_0 : w4.cell? ⟨w1.heap.size, 0, none⟩ = some (.int .i64 (ofX x0)) := keep_cell hb4 (by simp [go_sem, *])
        have k4_w1_1 : w4.cell? ⟨w1.heap.size, 1, none⟩ = some (.int .i64 (ofY x0 x1)) := keep_cell hb4 (by simp [go_sem, *])
        have j4_w1 : w1.heap.size < w4.heap.size := World.block_lt_of_cell? w4 _ k4_w1_0
        have k4_w3_0 : w4.cell? ⟨w3.heap.size, 0, none⟩ = some (.int .i64 (mdv (ofX x0) 1024 (lnz (ofX x0) (ofY x0 x1)))) := keep_cell hb4 (by simp [go_sem, *])
        have k4_w3_1 : w4.cell? ⟨w3.heap.size, 1, none⟩ = some (.int .i64 (mdv (ofY x0 x1) 1024 (lnz (ofX x0) (ofY x0 x1)))) := keep_cell hb4 (by simp [go_sem, *])
        have j4_w3 : w3.heap.size < w4.heap.size := World.block_lt_of_cell? w4 _ k4_w3_0
        have i4 : Below w.heap.size w w4 := (by repeat (first | exact Below.refl _ _ | refine below_alloc ?_ _ | refine Below.drew ?_ | refine below_set ?_ (by (first | (simp; done) | (simp; omega))) _ | refine below_step (by assumption) ?_))
        go_wp2_with fail
        refine (Abs_any _ _ (by omega)).mono ?_
        rintro e w' ⟨rfl, rfl⟩
        go_wp2_with fail
        refine (lives2_any _).mono ?_
        rintro e w5 ⟨rfl, hb5⟩
        have i5 : Below w.heap.size w w5 := (by repeat (first | exact Below.refl _ _ | refine below_alloc ?_ _ | refine Below.drew ?_ | refine below_set ?_ (by (first | (simp; done) | (simp; omega))) _ | refine below_step (by assumption) ?_))
        go_wp2
        go_ret
        exact ⟨rfl, (by repeat (first | exact Below.refl _ _ | refine below_alloc ?_ _ | refine Below.drew ?_ | refine below_set ?_ (by (first | (simp; done) | (simp; omega))) _ | refine below_step (by assumption) ?_))⟩

theorem own : ownKnob Try.prog.godebug = none := by kernel_rfl
theorem laidOut : laidOutB Try.prog = true := by kernel_rfl

set_option maxRecDepth 100000 in
theorem lifted (os : Os) (started : os.Started) (H : Type) (enc : TypeId × Value → H) :
    ReturnsInHanded {} Try.checked os 13 .any (Rows.vecUnitSpec.pre6 enc Try.prog Try.f13 Rows.vecUnitRow.domain false) (Rows.vecUnitSpec.post enc Try.prog Try.f13 false true false false) := by
  refine returnsInHanded_of_change (C := Try.checked) own started (by kernel_rfl) Try.func13
    (ChangeSpec.witness6 (enc := enc) (C := Try.checked) false ⟨#[], #[.agg #[.int .i64 0, .int .i64 0]], []⟩ 8 (by kernel_rfl) (by kernel_rfl) (by kernel_rfl) (by kernel_rfl)) ?_
  intro W base args ds gs before hval0 hW hcnd _
  have hval : ∀ (j : Nat) t v, Try.f13.params[j]? = some t → args[j]? = some v → Value.okWide Try.prog W .any base t v := hval0
  have hW' := hW
  obtain ⟨p, q, hA0, hV, rfl, hfz, hnd⟩ := hW
  have hA : DataW.TrodAll enc Try.prog W 0 (fun _ => true) true Try.f13.params.toList args.toList ds p := hA0
  rw [Try.params13] at hA hval
  obtain ⟨v0, vs0, d0, ds0, p0, q0, hargs, rfl, rfl, h0, r0⟩ := trodAll_cons hA
  obtain ⟨rfl, rfl, rfl⟩ := trodAll_nil r0
  obtain rfl : args = #[v0] := by cases args; simp_all
  obtain ⟨rfl, rfl⟩ := trodVars_none hV
  have k0 := h0
  have lt0 : ∀ x ∈ p0, x.block < W.heap.size := by obtain ⟨m, hm⟩ := k0; exact DataW.trod_lt m _ _ _ hm
  obtain ⟨zs0, rfl, hz0, hw0⟩ := open_arr Try.underlying42 Try.underlying3 (by kernel_rfl) (by kernel_rfl) (hval 0 42 v0 rfl rfl) h0
  obtain ⟨z0_0, z0_1, rfl⟩ := list2 hz0
  have bz0_0 := bounds_i64 (hw0 z0_0 (by simp))
  have bz0_1 := bounds_i64 (hw0 z0_1 (by simp))
  clear hA0 hval0
  refine (walk z0_0 bz0_0.1 bz0_0.2 z0_1 bz0_1.1 bz0_1.2 W).mono fun e W' ⟨he, bel⟩ => ?_
  subst he
  exact ⟨_, rfl, _, _, _, [], _, [], hW', trodAll_mk1 (shut_bool Try.underlying4 _), (trodAll_cons_mk (Below.trod laidOut (by kernel_rfl) (of_decide_eq_true (by kernel_rfl)) k0 bel lt0) trodAll_mk0), rfl, bel.frame _, fun h => by cases h⟩

theorem closed : joinedFacts Try.prog 13 Try.f13 Rows.vecUnitSpec Rows.vecUnitRow = true := by
  unfold joinedFacts
  repeat' (with_reducible refine both_of ?_ ?_)
  all_goals (first | with_reducible exact mayEnter_ok | (rw [liftsFinal_is]; as_aux_lemma => kernel_rfl) | (rw [make_is]; as_aux_lemma => kernel_rfl) | (as_aux_lemma => kernel_rfl))

theorem over : Rows.vecUnitRow.holds Try.pinned (OpenSpec.ofChange Rows.vecUnitSpec) :=
  OpenClaim.holds_of_wide 13 Try.f13 rfl rfl rfl rfl rfl rfl rfl ⟨rfl, rfl, rfl, rfl, rfl⟩ rfl rfl rfl rfl rfl (by kernel_rfl) Try.func13 closed
    (of_decide_eq_true (by kernel_rfl)) (by unfold Func.isWrapper; first | (rw [if_pos (by decide +kernel)]; kernel_rfl) | (rw [if_neg (by decide +kernel)]; exact ⟨rfl, rfl⟩))
    (fun os started H enc _ => lifted os started H enc)

theorem proved : Rows.VecUnitSaid := over
#print axioms proved

end Go.Proofs.Ytcapkmiinehdlaa.vecUnit
