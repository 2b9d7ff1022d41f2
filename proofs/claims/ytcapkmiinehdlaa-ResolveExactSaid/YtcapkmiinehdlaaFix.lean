/-
  What the functions of package fixed and of its reference return, each proved once over this translation. Conditions: the arguments' bounds, as each theorem states.
-/
import Derived.Test.YtcapkmiinehdlaaProg
import Derived.Test.YtcapkmiinehdlaaMath
import Derived.WalkKit
import Derived.WalkLawsBesides
import Derived.WalkSpells
import Derived.Outline
import Derived.WalkMore
import Derived.Deep.LoopGhost
import Derived.Lib.Hide
namespace Go.Proofs.Ytcapkmiinehdlaa
open Go.RowKit

theorem ret_i {a b : Int} (h : a = b) : Ending.returned (.int .i64 a) = .returned (.int .i64 b) := by rw [h]

/-- The quotient of two ints in the walk's spelling. -/
theorem quo_in (a b : Int) (ha : -4611686018427387904 ≤ a ∧ a ≤ 4611686018427387904) : IntKind.i64.wrap (a.tdiv b) = a.tdiv b := by
  have := abs_tdiv_le a b
  exact IntWalk.i64_in _ (by omega)

theorem floor_any (a b : Int) (w : World) (ha : -4611686018427387904 ≤ a ∧ a ≤ 4611686018427387904) (hb : b ≠ 0) :
    Calls Try.prog 74 #[.int .i64 a, .int .i64 b] w fun e w' => e = .returned (.int .i64 (a.fdiv b)) ∧ w = w' := by
  have hb0 : (b == 0) = false := by simpa using hb
  have hq := quo_in a b ha
  have hqb := abs_tdiv_le a b
  obtain ⟨h1, h2⟩ := ha
  have hq1 : -9223372036854775808 ≤ a.tdiv b - 1 ∧ a.tdiv b - 1 ≤ 9223372036854775807 := by omega
  obtain ⟨hq2, hq3⟩ := hq1
  clear hqb
  by_cases hr : a.tmod b = 0
  · have H := Lib.hid (fdiv_same (Or.inl hr))
    have hr1 : (a.tmod b != 0) = false := by simpa using hr
    clear hr
    go_enter Try.func74, Try.ntmps74
    go_wp2
    go_ret
    exact ⟨ret_i H.out.symm, rfl⟩
  · have hr1 : (a.tmod b != 0) = true := by simpa using hr
    by_cases hs : a < 0
    · by_cases ht : b < 0
      · have H := Lib.hid (fdiv_same (a := a) (b := b) (Or.inr (Or.inr ⟨hs, ht⟩)))
        clear hr
        go_enter Try.func74, Try.ntmps74
        go_wp2
        go_ret
        exact ⟨ret_i H.out.symm, rfl⟩
      · have H := Lib.hid (fdiv_down hr (Or.inl ⟨hs, by omega⟩))
        clear hr
        go_enter Try.func74, Try.ntmps74
        go_wp2
        go_ret
        exact ⟨ret_i H.out.symm, rfl⟩
    · have hr2 : (a % b != 0) = true := by rw [← Int.tmod_eq_emod_of_nonneg (by omega)]; simpa using hr
      by_cases ht : b < 0
      · have H := Lib.hid (fdiv_down hr (Or.inr ⟨by omega, ht⟩))
        clear hr
        go_enter Try.func74, Try.ntmps74
        go_wp2
        go_ret
        exact ⟨ret_i H.out.symm, rfl⟩
      · have H := Lib.hid (fdiv_same (a := a) (b := b) (Or.inr (Or.inl ⟨by omega, by omega⟩)))
        clear hr
        go_enter Try.func74, Try.ntmps74
        go_wp2
        go_ret
        exact ⟨ret_i H.out.symm, rfl⟩

theorem Mul_any (a b : Int) (w : World) (h1 : -4611686018427387904 ≤ a * b) (h2 : a * b ≤ 4611686018427387904) :
    Calls Try.prog 25 #[.int .i64 a, .int .i64 b] w fun e w' => e = .returned (.int .i64 (mdv a b 1024)) ∧ w = w' := by
  go_enter Try.func25, Try.ntmps25
  go_wp2_with (go_at_call 74; refine (floor_any _ _ _ (by omega) (by decide)).mono ?_; rintro e w' ⟨rfl, rfl⟩)
  go_ret
  exact ⟨rfl, rfl⟩

theorem MulDiv_any (a b c : Int) (w : World) (h1 : -4611686018427387904 ≤ a * b) (h2 : a * b ≤ 4611686018427387904) :
    Calls Try.prog 29 #[.int .i64 a, .int .i64 b, .int .i64 c] w fun e w' => e = .returned (.int .i64 (mdv a b c)) ∧ w = w' := by
  by_cases hc : c = 0
  · subst hc
    have H := Lib.hid (mdv_zero a b)
    go_enter Try.func29, Try.ntmps29
    go_wp2
    go_ret
    exact ⟨ret_i H.out.symm, rfl⟩
  · have hc0 : (c == 0) = false := by simpa using hc
    have HC := Lib.hid hc; clear hc
    go_enter Try.func29, Try.ntmps29
    go_wp2_with (go_at_call 74; refine (floor_any _ _ _ (by omega) HC.out).mono ?_; rintro e w' ⟨rfl, rfl⟩)
    go_ret
    exact ⟨rfl, rfl⟩

theorem Div_any (a b : Int) (w : World) (h1 : -4611686018427387904 ≤ a * 1024) (h2 : a * 1024 ≤ 4611686018427387904) :
    Calls Try.prog 27 #[.int .i64 a, .int .i64 b] w fun e w' => e = .returned (.int .i64 (mdv a 1024 b)) ∧ w = w' := by
  go_enter Try.func27, Try.ntmps27
  go_wp2_with (go_at_call 29; refine (MulDiv_any _ _ _ _ h1 h2).mono ?_; rintro e w' ⟨rfl, rfl⟩)
  go_ret
  exact ⟨rfl, rfl⟩

theorem Isqrt_any (n : Int) (w : World) (hn : n ≤ 4611686018427387904) :
    Calls Try.prog 34 #[.int .i64 n] w fun e w' => e = .returned (.int .i64 (isq n)) ∧ w = w' := by
  by_cases h0 : n ≤ 0
  · have H := Lib.hid (isq_neg h0)
    go_enter Try.func34, Try.ntmps34
    go_wp2
    go_step3
    go_wp2
    rw [Exit.noGoto_ret]
    go_ret
    exact ⟨ret_i H.out.symm, rfl⟩
  · have hs : isq n ≤ 2147483648 := isq_le_of (by decide) (by omega)
    have hs1 : 1 ≤ isq n := le_isq (by decide) (by omega)
    have h1 : 0 ≤ n := by omega
    have hd : decide (n ≤ 0) = false := by simpa using h0
    clear h0
    go_enter Try.func34, Try.ntmps34
    go_wp2
    go_step3
    go_wp2
    go_step3
    go_wp2
    go_loop [3] (fun r => ∃ x : Int, isq n ≤ x ∧ x ≤ 2147483648 ∧ r = .int .i64 x) (fun r => (intOf r).toNat)
    case atStart => exact ⟨2147483648, hs, by omega, rfl⟩
    case round =>
      obtain ⟨x, hx1, hx2, rfl⟩ := hrel
      have hg := newton_ge h1 (show 1 ≤ x by omega)
      have hst := newton_stop (n := n) (r := x) (by omega) hx1
      have hq0 : 0 ≤ n / x := Int.ediv_nonneg h1 (by omega)
      have hq1 : n / x ≤ n := Int.ediv_le_self _ h1
      have hx0 : (x == 0) = false := by simp; omega
      by_cases ht : x ≤ (x + n / x) / 2
      · have H := Lib.hid (hst ht); clear hst
        go_wp2
        go_ret
        exact ⟨ret_i H.out, rfl⟩
      · clear hst
        go_wp2
        go_round
        case rel => exact ⟨_, hg, by omega, rfl⟩
        case measure => simp [intOf]; omega

theorem Sqrt_any (n : Int) (w : World) (h1 : -4611686018427387904 ≤ n * 1024) (h2 : n * 1024 ≤ 4611686018427387904) :
    Calls Try.prog 36 #[.int .i64 n] w fun e w' => e = .returned (.int .i64 (isq (n * 1024))) ∧ w = w' := by
  by_cases h0 : n < 0
  · have H := Lib.hid (isq_neg (n := n * 1024) (by omega))
    go_enter Try.func36, Try.ntmps36
    go_wp2
    go_ret
    exact ⟨ret_i H.out.symm, rfl⟩
  · go_enter Try.func36, Try.ntmps36
    go_wp2_with (go_at_call 34; refine (Isqrt_any _ _ (by omega)).mono ?_; rintro e w' ⟨rfl, rfl⟩)
    go_ret
    exact ⟨rfl, rfl⟩

theorem Clamp_any (n lo hi : Int) (w : World) :
    Calls Try.prog 55 #[.int .i64 n, .int .i64 lo, .int .i64 hi] w fun e w' => e = .returned (.int .i64 (clp n lo hi)) ∧ w = w' := by
  go_enter Try.func55, Try.ntmps55
  go_wp2
  all_goals (go_ret; exact ⟨ret_i (by unfold clp; omega), rfl⟩)

theorem Abs_any (n : Int) (w : World) (h : -9223372036854775807 ≤ n) :
    Calls Try.prog 38 #[.int .i64 n] w fun e w' => e = .returned (.int .i64 (abz n)) ∧ w = w' := by
  by_cases h0 : n < 0
  · have H := Lib.hid (abz_neg h0)
    go_enter Try.func38, Try.ntmps38
    go_wp2
    go_ret
    exact ⟨ret_i H.out.symm, rfl⟩
  · have H := Lib.hid (abz_pos (n := n) (by omega))
    go_enter Try.func38, Try.ntmps38
    go_wp2
    go_ret
    exact ⟨ret_i H.out.symm, rfl⟩

theorem Sign_any (n : Int) (w : World) :
    Calls Try.prog 58 #[.int .i64 n] w fun e w' => e = .returned (.int .i64 (sgn n)) ∧ w = w' := by
  by_cases h0 : n < 0
  · have H := Lib.hid (sgn_neg h0)
    go_enter Try.func58, Try.ntmps58
    go_wp2
    go_ret
    exact ⟨ret_i H.out.symm, rfl⟩
  · by_cases h1 : 0 < n
    · have H := Lib.hid (sgn_pos h1)
      go_enter Try.func58, Try.ntmps58
      go_wp2
      go_ret
      exact ⟨ret_i H.out.symm, rfl⟩
    · have H := Lib.hid (sgn_zero (n := n) (by omega))
      go_enter Try.func58, Try.ntmps58
      go_wp2
      go_ret
      exact ⟨ret_i H.out.symm, rfl⟩

/-! ### The reference -/
theorem Around_any (n most : Int) (w : World) (h1 : 1 ≤ most) (h2 : -9223372036854775808 ≤ n) (h3 : n ≤ 9223372036854775807) :
    Calls Try.prog 33 #[.int .i64 n, .int .i64 most] w fun e w' => e = .returned (.int .i64 (arnd n most)) ∧ w = w' := by
  have hm : (most == 0) = false := by simp; omega
  by_cases h0 : n < 0
  · have H := Lib.hid (show arnd n most = -((n + 1).tmod most) by unfold arnd; rw [if_pos h0, ← Int.neg_tmod, Int.tmod_eq_emod_of_nonneg (by omega)])
    go_enter Try.func33, Try.ntmps33
    go_wp2
    go_ret
    exact ⟨ret_i H.out.symm, rfl⟩
  · have H := Lib.hid (show arnd n most = n % most by unfold arnd; rw [if_neg h0])
    go_enter Try.func33, Try.ntmps33
    go_wp2
    go_ret
    exact ⟨ret_i H.out.symm, rfl⟩

theorem Bound_any (n most : Int) (w : World) (h0 : 0 ≤ most) (h1 : most ≤ 2305843009213693952) (h2 : -9223372036854775808 ≤ n) (h3 : n ≤ 9223372036854775807) :
    Calls Try.prog 32 #[.int .i64 n, .int .i64 most] w fun e w' => e = .returned (.int .i64 (bnd n most)) ∧ w = w' := by
  have hb := arnd_bd n (most := 2 * most + 1) (by omega)
  go_enter Try.func32, Try.ntmps32
  go_wp2_with (go_at_call 33; refine (Around_any _ _ _ (by omega) (by omega) (by omega)).mono ?_; rintro e w' ⟨rfl, rfl⟩)
  go_ret
  exact ⟨rfl, rfl⟩

theorem Floor_any (a b : Int) (w : World) (ha : -4611686018427387904 ≤ a ∧ a ≤ 4611686018427387904) (hb : b ≠ 0) :
    Calls Try.prog 75 #[.int .i64 a, .int .i64 b] w fun e w' => e = .returned (.int .i64 (a.fdiv b)) ∧ w = w' := by
  have hb0 : (b == 0) = false := by simpa using hb
  have hq := quo_in a b ha
  have hqb := abs_tdiv_le a b
  obtain ⟨h1, h2⟩ := ha
  have hq1 : -9223372036854775808 ≤ a.tdiv b - 1 ∧ a.tdiv b - 1 ≤ 9223372036854775807 := by omega
  obtain ⟨hq2, hq3⟩ := hq1
  clear hqb
  by_cases hr : a.tmod b = 0
  · have H := Lib.hid (fdiv_same (Or.inl hr))
    have hr1 : (a.tmod b != 0) = false := by simpa using hr
    clear hr
    go_enter Try.func75, Try.ntmps75
    go_wp2
    go_ret
    exact ⟨ret_i H.out.symm, rfl⟩
  · have hr1 : (a.tmod b != 0) = true := by simpa using hr
    by_cases hs : a < 0
    · by_cases ht : b < 0
      · have H := Lib.hid (fdiv_same (a := a) (b := b) (Or.inr (Or.inr ⟨hs, ht⟩)))
        clear hr
        go_enter Try.func75, Try.ntmps75
        go_wp2
        go_ret
        exact ⟨ret_i H.out.symm, rfl⟩
      · have H := Lib.hid (fdiv_down hr (Or.inl ⟨hs, by omega⟩))
        clear hr
        go_enter Try.func75, Try.ntmps75
        go_wp2
        go_ret
        exact ⟨ret_i H.out.symm, rfl⟩
    · have hr2 : (a % b != 0) = true := by rw [← Int.tmod_eq_emod_of_nonneg (by omega)]; simpa using hr
      by_cases ht : b < 0
      · have H := Lib.hid (fdiv_down hr (Or.inr ⟨by omega, ht⟩))
        clear hr
        go_enter Try.func75, Try.ntmps75
        go_wp2
        go_ret
        exact ⟨ret_i H.out.symm, rfl⟩
      · have H := Lib.hid (fdiv_same (a := a) (b := b) (Or.inr (Or.inl ⟨by omega, by omega⟩)))
        clear hr
        go_enter Try.func75, Try.ntmps75
        go_wp2
        go_ret
        exact ⟨ret_i H.out.symm, rfl⟩

theorem rMul_any (a b : Int) (w : World) (h1 : -4611686018427387904 ≤ a * b) (h2 : a * b ≤ 4611686018427387904) :
    Calls Try.prog 26 #[.int .i64 a, .int .i64 b] w fun e w' => e = .returned (.int .i64 (mdv a b 1024)) ∧ w = w' := by
  go_enter Try.func26, Try.ntmps26
  go_wp2_with (go_at_call 75; refine (Floor_any _ _ _ (by omega) (by decide)).mono ?_; rintro e w' ⟨rfl, rfl⟩)
  go_ret
  exact ⟨rfl, rfl⟩

theorem rMulDiv_any (a b c : Int) (w : World) (h1 : -4611686018427387904 ≤ a * b) (h2 : a * b ≤ 4611686018427387904) :
    Calls Try.prog 30 #[.int .i64 a, .int .i64 b, .int .i64 c] w fun e w' => e = .returned (.int .i64 (mdv a b c)) ∧ w = w' := by
  by_cases hc : c = 0
  · subst hc
    have H := Lib.hid (mdv_zero a b)
    go_enter Try.func30, Try.ntmps30
    go_wp2
    go_ret
    exact ⟨ret_i H.out.symm, rfl⟩
  · have hc0 : (c == 0) = false := by simpa using hc
    have HC := Lib.hid hc; clear hc
    go_enter Try.func30, Try.ntmps30
    go_wp2_with (go_at_call 75; refine (Floor_any _ _ _ (by omega) HC.out).mono ?_; rintro e w' ⟨rfl, rfl⟩)
    go_ret
    exact ⟨rfl, rfl⟩

theorem rDiv_any (a b : Int) (w : World) (h1 : -4611686018427387904 ≤ a * 1024) (h2 : a * 1024 ≤ 4611686018427387904) :
    Calls Try.prog 28 #[.int .i64 a, .int .i64 b] w fun e w' => e = .returned (.int .i64 (mdv a 1024 b)) ∧ w = w' := by
  by_cases hc : b = 0
  · subst hc
    have H := Lib.hid (mdv_zero a 1024)
    go_enter Try.func28, Try.ntmps28
    go_wp2
    go_ret
    exact ⟨ret_i H.out.symm, rfl⟩
  · have hc0 : (b == 0) = false := by simpa using hc
    have HC := Lib.hid hc; clear hc
    go_enter Try.func28, Try.ntmps28
    go_wp2_with (go_at_call 75; refine (Floor_any _ _ _ (by omega) HC.out).mono ?_; rintro e w' ⟨rfl, rfl⟩)
    go_ret
    exact ⟨rfl, rfl⟩

theorem rIsqrt_any (n : Int) (w : World) (hn : n ≤ 4611686018427387904) :
    Calls Try.prog 35 #[.int .i64 n] w fun e w' => e = .returned (.int .i64 (isq n)) ∧ w = w' := by
  by_cases h0 : n < 0
  · have H := Lib.hid (isq_neg (n := n) (by omega))
    go_enter Try.func35, Try.ntmps35
    go_wp2
    go_ret
    exact ⟨ret_i H.out.symm, rfl⟩
  · have h1 : 0 ≤ n := by omega
    have hd : decide (n < 0) = false := by simpa using h0
    clear h0
    go_enter Try.func35, Try.ntmps35
    go_wp2
    go_loop [3, 4] (fun l h => ∃ a b : Int, 0 ≤ a ∧ a < b ∧ b ≤ 2147483649 ∧ a * a ≤ n ∧ n < b * b ∧ l = .int .i64 a ∧ h = .int .i64 b) (fun l h => (intOf h - intOf l).toNat)
    case atStart => exact ⟨0, 2147483649, by omega, by omega, by omega, by omega, by omega, rfl, rfl⟩
    case round =>
      obtain ⟨a, b, k1, k2, k3, k4, k5, rfl, rfl⟩ := hrel
      by_cases ht : 1 < b - a
      · have hm := bisect_bd (m := a + (b - a) / 2) (B := 2147483648) (by omega) (by omega)
        by_cases hc : (a + (b - a) / 2) * (a + (b - a) / 2) ≤ n
        · go_wp2
          go_round
          case rel => exact ⟨_, b, by omega, by omega, k3, hc, k5, rfl, rfl⟩
          case measure => simp [intOf]; omega
        · go_wp2
          go_round
          case rel => exact ⟨a, _, k1, by omega, by omega, k4, by omega, rfl, rfl⟩
          case measure => simp [intOf]; omega
      · have hb : b = a + 1 := by omega
        have H := Lib.hid (isq_unique k1 k4 (by rw [← hb]; exact k5))
        clear hb
        go_wp2
        go_ret
        exact ⟨ret_i H.out.symm, rfl⟩

theorem rSqrt_any (n : Int) (w : World) (h1 : -4611686018427387904 ≤ n * 1024) (h2 : n * 1024 ≤ 4611686018427387904) :
    Calls Try.prog 37 #[.int .i64 n] w fun e w' => e = .returned (.int .i64 (isq (n * 1024))) ∧ w = w' := by
  by_cases h0 : n < 0
  · have H := Lib.hid (isq_neg (n := n * 1024) (by omega))
    go_enter Try.func37, Try.ntmps37
    go_wp2
    go_ret
    exact ⟨ret_i H.out.symm, rfl⟩
  · go_enter Try.func37, Try.ntmps37
    go_wp2_with (go_at_call 35; refine (rIsqrt_any _ _ (by omega)).mono ?_; rintro e w' ⟨rfl, rfl⟩)
    go_ret
    exact ⟨rfl, rfl⟩

theorem rClamp_any (n lo hi : Int) (w : World) (h : lo ≤ hi) :
    Calls Try.prog 56 #[.int .i64 n, .int .i64 lo, .int .i64 hi] w fun e w' => e = .returned (.int .i64 (clp n lo hi)) ∧ w = w' := by
  go_enter Try.func56, Try.ntmps56
  go_wp2
  all_goals (go_ret; exact ⟨ret_i (by unfold clp; omega), rfl⟩)

theorem rAbs_any (n : Int) (w : World) (h : -9223372036854775807 ≤ n) :
    Calls Try.prog 57 #[.int .i64 n] w fun e w' => e = .returned (.int .i64 (abz n)) ∧ w = w' := by
  by_cases h0 : n < 0
  · have H := Lib.hid (abz_neg h0)
    go_enter Try.func57, Try.ntmps57
    go_wp2
    go_ret
    exact ⟨ret_i H.out.symm, rfl⟩
  · have H := Lib.hid (abz_pos (n := n) (by omega))
    go_enter Try.func57, Try.ntmps57
    go_wp2
    go_ret
    exact ⟨ret_i H.out.symm, rfl⟩

theorem rSign_any (n : Int) (w : World) :
    Calls Try.prog 59 #[.int .i64 n] w fun e w' => e = .returned (.int .i64 (sgn n)) ∧ w = w' := by
  by_cases h0 : n < 0
  · have H := Lib.hid (sgn_neg h0)
    go_enter Try.func59, Try.ntmps59
    go_wp2
    go_ret
    exact ⟨ret_i H.out.symm, rfl⟩
  · by_cases h1 : 0 < n
    · have H := Lib.hid (sgn_pos h1)
      go_enter Try.func59, Try.ntmps59
      go_wp2
      go_ret
      exact ⟨ret_i H.out.symm, rfl⟩
    · have H := Lib.hid (sgn_zero (n := n) (by omega))
      go_enter Try.func59, Try.ntmps59
      go_wp2
      go_ret
      exact ⟨ret_i H.out.symm, rfl⟩
end Go.Proofs.Ytcapkmiinehdlaa
