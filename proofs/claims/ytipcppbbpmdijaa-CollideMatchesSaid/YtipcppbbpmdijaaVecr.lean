/-
  What the functions of the reference of package vec return, each proved once over this translation. Conditions: the components' bounds, as each theorem states.
-/
import Derived.Test.YtipcppbbpmdijaaVecw
namespace Go.Proofs.Ytipcppbbpmdijaa
open Go.RowKit
attribute [local go_sem ↓] Go.wp_at_zero Go.wp_at_succ

theorem rAdd_any (ax ay bx b_y : Int) (w : World) (h1 : -9223372036854775808 ≤ ax + bx) (h2 : ax + bx ≤ 9223372036854775807) (h3 : -9223372036854775808 ≤ ay + b_y) (h4 : ay + b_y ≤ 9223372036854775807) :
    Calls Try.prog 34 #[.agg #[.int .i64 ax, .int .i64 ay], .agg #[.int .i64 bx, .int .i64 b_y]] w fun e w' => e = .returned (.agg #[.int .i64 (ax + bx), .int .i64 (ay + b_y)]) ∧ Below w.heap.size w w' := by
  go_enter Try.func34, Try.ntmps34
  go_wp2
  exact bodyPost_ret (v := .agg #[.int .i64 (ax + bx), .int .i64 (ay + b_y)]) (by simp [results, Try.results34, go_sem, *]) rfl ⟨rfl, (by repeat (first | with_reducible exact Below.refl _ _ | with_reducible refine below_alloc ?_ _ | with_reducible refine Below.drew ?_ | with_reducible refine below_set ?_ (by (first | (simp; done) | (simp; omega))) _ | with_reducible refine below_step (by assumption) ?_))⟩

theorem rSub_any (ax ay bx b_y : Int) (w : World) (h1 : -9223372036854775808 ≤ ax - bx) (h2 : ax - bx ≤ 9223372036854775807) (h3 : -9223372036854775808 ≤ ay - b_y) (h4 : ay - b_y ≤ 9223372036854775807) :
    Calls Try.prog 68 #[.agg #[.int .i64 ax, .int .i64 ay], .agg #[.int .i64 bx, .int .i64 b_y]] w fun e w' => e = .returned (.agg #[.int .i64 (ax - bx), .int .i64 (ay - b_y)]) ∧ Below w.heap.size w w' := by
  go_enter Try.func68, Try.ntmps68
  go_wp2
  exact bodyPost_ret (v := .agg #[.int .i64 (ax - bx), .int .i64 (ay - b_y)]) (by simp [results, Try.results68, go_sem, *]) rfl ⟨rfl, (by repeat (first | with_reducible exact Below.refl _ _ | with_reducible refine below_alloc ?_ _ | with_reducible refine Below.drew ?_ | with_reducible refine below_set ?_ (by (first | (simp; done) | (simp; omega))) _ | with_reducible refine below_step (by assumption) ?_))⟩

theorem rNeg_any (ax ay : Int) (w : World) (h1 : -9223372036854775807 ≤ ax) (h2 : ax ≤ 9223372036854775807) (h3 : -9223372036854775807 ≤ ay) (h4 : ay ≤ 9223372036854775807) :
    Calls Try.prog 79 #[.agg #[.int .i64 ax, .int .i64 ay]] w fun e w' => e = .returned (.agg #[.int .i64 (-ax), .int .i64 (-ay)]) ∧ Below w.heap.size w w' := by
  go_enter Try.func79, Try.ntmps79
  go_wp2
  exact bodyPost_ret (v := .agg #[.int .i64 (-ax), .int .i64 (-ay)]) (by simp [results, Try.results79, go_sem, *]) rfl ⟨rfl, (by repeat (first | with_reducible exact Below.refl _ _ | with_reducible refine below_alloc ?_ _ | with_reducible refine Below.drew ?_ | with_reducible refine below_set ?_ (by (first | (simp; done) | (simp; omega))) _ | with_reducible refine below_step (by assumption) ?_))⟩

theorem rvMulDiv_any (ax ay n d : Int) (w : World) (h1 : -4611686018427387904 ≤ ax * n) (h2 : ax * n ≤ 4611686018427387904) (h3 : -4611686018427387904 ≤ ay * n) (h4 : ay * n ≤ 4611686018427387904) :
    Calls Try.prog 99 #[.agg #[.int .i64 ax, .int .i64 ay], .int .i64 n, .int .i64 d] w fun e w' => e = .returned (.agg #[.int .i64 (mdv ax n d), .int .i64 (mdv ay n d)]) ∧ Below w.heap.size w w' := by
  go_enter Try.func99, Try.ntmps99
  go_wp2
  go_region_held3 (fun w' => w'.cell? ⟨w.heap.size, 0, none⟩ = some (.int .i64 ax) ∧ w'.cell? ⟨w.heap.size, 1, none⟩ = some (.int .i64 ay)) (go_keep)
    (first | (go_at_call_of 103 (Value.int .i64 ax); refine (rMulDiv_any ax n d _ h1 h2).mono ?_; rintro e w' ⟨rfl, rfl⟩) | (go_at_call_of 103 (Value.int .i64 ay); refine (rMulDiv_any ay n d _ h3 h4).mono ?_; rintro e w' ⟨rfl, rfl⟩))
  go_wp2
  exact bodyPost_ret (v := .agg #[.int .i64 (mdv ax n d), .int .i64 (mdv ay n d)]) (by simp [results, Try.results99, go_sem, *]) rfl ⟨rfl, (by repeat (first | with_reducible exact Below.refl _ _ | with_reducible refine below_alloc ?_ _ | with_reducible refine Below.drew ?_ | with_reducible refine below_set ?_ (by (first | (simp; done) | (simp; omega))) _ | with_reducible refine below_step (by assumption) ?_))⟩

theorem rfloor_any (n : Int) (w : World) (h1 : -4611686018427387904 ≤ n) (h2 : n ≤ 4611686018427387904) :
    Calls Try.prog 89 #[.int .i64 n] w fun e w' => e = .returned (.int .i64 (n / 1024)) ∧ w = w' := by
  have hq : n.tdiv 1024 = if n.tmod 1024 = 0 ∨ 0 ≤ n then n / 1024 else n / 1024 + 1 := by
    by_cases h0 : 0 ≤ n
    · rw [if_pos (Or.inr h0), Int.tdiv_eq_ediv_of_nonneg h0]
    · have e := Int.mul_tdiv_add_tmod n 1024
      have b := tmod_bd n (c := 1024) (by decide)
      have s : n.tmod 1024 ≤ 0 := by
        have e2 : n.tmod 1024 = -((-n).tmod 1024) := by rw [Int.neg_tmod]; omega
        rw [e2, Int.tmod_eq_emod_of_nonneg (show 0 ≤ -n by omega)]; omega
      by_cases hm : n.tmod 1024 = 0
      · rw [if_pos (Or.inl hm)]; omega
      · rw [if_neg (by omega)]; omega
  have em := Int.mul_tdiv_add_tmod n 1024
  have tb := tmod_bd n (c := 1024) (by decide)
  have kb : -4611686018427388928 ≤ n.tdiv 1024 * 1024 ∧ n.tdiv 1024 * 1024 ≤ 4611686018427388928 := by omega
  by_cases hs : n.tmod 1024 = 0 ∨ 0 ≤ n
  · rw [if_pos hs] at hq
    have H := Lib.hid hq
    have k : ¬ n < n.tdiv 1024 * 1024 := by omega
    clear hq em hs tb
    go_enter Try.func89, Try.ntmps89
    go_wp2
    go_ret
    exact ⟨ret_i H.out, rfl⟩
  · rw [if_neg hs] at hq
    have H := Lib.hid hq
    have k : n < n.tdiv 1024 * 1024 := by omega
    clear hq em hs tb
    go_enter Try.func89, Try.ntmps89
    go_wp2
    go_ret
    exact ⟨ret_i (by rw [H.out]; omega), rfl⟩

theorem rDot_any (ax ay bx b_y : Int) (w : World) (h1 : -2305843009213693952 ≤ ax * bx) (h2 : ax * bx ≤ 2305843009213693952) (h3 : -2305843009213693952 ≤ ay * b_y) (h4 : ay * b_y ≤ 2305843009213693952) :
    Calls Try.prog 67 #[.agg #[.int .i64 ax, .int .i64 ay], .agg #[.int .i64 bx, .int .i64 b_y]] w fun e w' => e = .returned (.int .i64 (dotz ax ay bx b_y)) ∧ Below w.heap.size w w' := by
  go_enter Try.func67, Try.ntmps67
  go_wp2_with (go_at_call 89; refine (rfloor_any _ _ (by omega) (by omega)).mono ?_; rintro e w' ⟨rfl, rfl⟩)
  go_ret
  exact ⟨rfl, (by repeat (first | with_reducible exact Below.refl _ _ | with_reducible refine below_alloc ?_ _ | with_reducible refine Below.drew ?_ | with_reducible refine below_set ?_ (by (first | (simp; done) | (simp; omega))) _ | with_reducible refine below_step (by assumption) ?_))⟩

theorem rLen_any (ax ay : Int) (w : World) (h1 : -2305843009213693952 ≤ ax * ax) (h2 : ax * ax ≤ 2305843009213693952) (h3 : -2305843009213693952 ≤ ay * ay) (h4 : ay * ay ≤ 2305843009213693952) :
    Calls Try.prog 100 #[.agg #[.int .i64 ax, .int .i64 ay]] w fun e w' => e = .returned (.int .i64 (lnz ax ay)) ∧ Below w.heap.size w w' := by
  go_enter Try.func100, Try.ntmps100
  go_wp2_with (go_at_call 104; refine (rIsqrt_any _ _ (by omega)).mono ?_; rintro e w' ⟨rfl, rfl⟩)
  go_ret
  exact ⟨rfl, (by repeat (first | with_reducible exact Below.refl _ _ | with_reducible refine below_alloc ?_ _ | with_reducible refine Below.drew ?_ | with_reducible refine below_set ?_ (by (first | (simp; done) | (simp; omega))) _ | with_reducible refine below_step (by assumption) ?_))⟩

theorem rNormalize_any (ax ay : Int) (w : World) (h1 : -1073741824 ≤ ax) (h2 : ax ≤ 1073741824) (h3 : -1073741824 ≤ ay) (h4 : ay ≤ 1073741824) :
    Calls Try.prog 94 #[.agg #[.int .i64 ax, .int .i64 ay]] w fun e w' => e = .returned (.agg #[.int .i64 (mdv ax 1024 (lnz ax ay)), .int .i64 (mdv ay 1024 (lnz ax ay))]) ∧ Below w.heap.size w w' := by
  have p1 := mul_bd (a := ax) (b := ax) (A := 1073741824) (B := 1073741824) ⟨h1, h2⟩ ⟨h1, h2⟩
  have p2 := mul_bd (a := ay) (b := ay) (A := 1073741824) (B := 1073741824) ⟨h3, h4⟩ ⟨h3, h4⟩
  go_enter Try.func94, Try.ntmps94
  go_wp2_with fail
  go_region_with (first | (go_at_call 100; refine (rLen_any _ _ _ (by omega) (by omega) (by omega) (by omega)).mono ?_; rintro e w1 ⟨rfl, hb1⟩; obtain ⟨hc1, hf1, hz1, hy1⟩ := bcellB (B := w.heap.size + 2) hb1 (by first | (simp; done) | (simp; omega) | omega)) | (go_at_call 99; refine (rvMulDiv_any _ _ _ _ _ (by omega) (by omega) (by omega) (by omega)).mono ?_; rintro e w2 ⟨rfl, hb2⟩; obtain ⟨hc2, hf2, hz2, hy2⟩ := bcellB (B := w.heap.size + 2) hb2 (by first | (simp; done) | (simp; omega) | omega)))
  all_goals go_wp2
  all_goals exact bodyPost_ret (v := .agg #[.int .i64 (mdv ax 1024 (lnz ax ay)), .int .i64 (mdv ay 1024 (lnz ax ay))]) (by simp [results, Try.results94, go_sem, *]) rfl ⟨rfl, (by repeat (first | with_reducible exact Below.refl _ _ | with_reducible refine below_alloc ?_ _ | with_reducible refine Below.drew ?_ | with_reducible refine below_set ?_ (by (first | (simp; done) | (simp; omega))) _ | with_reducible refine below_step (by assumption) ?_))⟩

/-! ### 'Of': a vector made of two ints -/
def ofM (x : Int) : Int := if arnd x 2 = 1 then 5000 else 8388608
def ofX (x : Int) : Int := bnd (x.tdiv 2) (ofM x)
def ofY (x y : Int) : Int := bnd y (ofM x)
theorem ofM_bd (x : Int) : 5000 ≤ ofM x ∧ ofM x ≤ 8388608 := by unfold ofM; split <;> omega
theorem ofX_bd (x : Int) : -8388608 ≤ ofX x ∧ ofX x ≤ 8388608 := by
  have h := ofM_bd x
  have := bnd_bd (x.tdiv 2) (most := ofM x) (by omega)
  unfold ofX; omega
theorem ofY_bd (x y : Int) : -8388608 ≤ ofY x y ∧ ofY x y ≤ 8388608 := by
  have h := ofM_bd x
  have := bnd_bd y (most := ofM x) (by omega)
  unfold ofY; omega

theorem Of_any (x y : Int) (w : World) (h1 : -9223372036854775808 ≤ x) (h2 : x ≤ 9223372036854775807) (h3 : -9223372036854775808 ≤ y) (h4 : y ≤ 9223372036854775807) :
    Calls Try.prog 29 #[.int .i64 x, .int .i64 y] w fun e w' => e = .returned (.agg #[.int .i64 (ofX x), .int .i64 (ofY x y)]) ∧ Below w.heap.size w w' := by
  have q := Int.mul_tdiv_add_tmod x 2
  have tb := tmod_bd x (c := 2) (by decide)
  have q1 : -4611686018427387904 ≤ x.tdiv 2 ∧ x.tdiv 2 ≤ 4611686018427387904 := by omega
  clear q tb
  by_cases hm : arnd x 2 = 1
  · have a1 := arnd_bd (x.tdiv 2) (most := 10001) (by decide)
    have a2 := arnd_bd y (most := 10001) (by decide)
    have ht : (arnd x 2 == 1) = true := by simpa using hm
    have HX := Lib.hid (show ofX x = arnd (x.tdiv 2) 10001 - 5000 by unfold ofX bnd ofM; rw [if_pos hm]; rfl)
    have HY := Lib.hid (show ofY x y = arnd y 10001 - 5000 by unfold ofY bnd ofM; rw [if_pos hm]; rfl)
    clear hm
    rw [HX.out, HY.out]
    go_enter Try.func29, Try.ntmps29
    go_wp2_with (go_at_call 25; refine (Around_any _ _ _ (by omega) (by omega) (by omega)).mono ?_; rintro e w' ⟨rfl, rfl⟩)
    exact bodyPost_ret (v := .agg #[.int .i64 (arnd (x.tdiv 2) 10001 - 5000), .int .i64 (arnd y 10001 - 5000)]) (by simp [results, Try.results29, go_sem, *]) rfl ⟨rfl, (by repeat (first | with_reducible exact Below.refl _ _ | with_reducible refine below_alloc ?_ _ | with_reducible refine Below.drew ?_ | with_reducible refine below_set ?_ (by (first | (simp; done) | (simp; omega))) _ | with_reducible refine below_step (by assumption) ?_))⟩
  · have a1 := arnd_bd (x.tdiv 2) (most := 16777217) (by decide)
    have a2 := arnd_bd y (most := 16777217) (by decide)
    have ht : (arnd x 2 == 1) = false := by simpa using hm
    have HX := Lib.hid (show ofX x = arnd (x.tdiv 2) 16777217 - 8388608 by unfold ofX bnd ofM; rw [if_neg hm]; rfl)
    have HY := Lib.hid (show ofY x y = arnd y 16777217 - 8388608 by unfold ofY bnd ofM; rw [if_neg hm]; rfl)
    clear hm
    rw [HX.out, HY.out]
    go_enter Try.func29, Try.ntmps29
    go_wp2_with (go_at_call 25; refine (Around_any _ _ _ (by omega) (by omega) (by omega)).mono ?_; rintro e w' ⟨rfl, rfl⟩)
    exact bodyPost_ret (v := .agg #[.int .i64 (arnd (x.tdiv 2) 16777217 - 8388608), .int .i64 (arnd y 16777217 - 8388608)]) (by simp [results, Try.results29, go_sem, *]) rfl ⟨rfl, (by repeat (first | with_reducible exact Below.refl _ _ | with_reducible refine below_alloc ?_ _ | with_reducible refine Below.drew ?_ | with_reducible refine below_set ?_ (by (first | (simp; done) | (simp; omega))) _ | with_reducible refine below_step (by assumption) ?_))⟩
end Go.Proofs.Ytipcppbbpmdijaa
