/-
  What the functions of package fixed and of its reference return, each proved once over this translation. Conditions: the arguments' bounds, as each theorem states.
-/
import Derived.Test.YtipcppbbpmdijaaProg
import Derived.Test.YtipcppbbpmdijaaMath
import Derived.WalkKit
import Derived.WalkLawsBesides
import Derived.WalkSpells
import Derived.Outline
import Derived.WalkMore
import Derived.Deep.LoopGhost
import Derived.Lib.Hide
namespace Go.Proofs.Ytipcppbbpmdijaa
open Go.RowKit

theorem ret_i {a b : Int} (h : a = b) : Ending.returned (.int .i64 a) = .returned (.int .i64 b) := by rw [h]

/-- The quotient of two ints in the walk's spelling. -/
theorem quo_in (a b : Int) (ha : -4611686018427387904 ≤ a ∧ a ≤ 4611686018427387904) : IntKind.i64.wrap (a.tdiv b) = a.tdiv b := by
  have := abs_tdiv_le a b
  exact IntWalk.i64_in _ (by omega)

theorem floor_any (a b : Int) (w : World) (ha : -4611686018427387904 ≤ a ∧ a ≤ 4611686018427387904) (hb : b ≠ 0) :
    Calls Try.prog 96 #[.int .i64 a, .int .i64 b] w fun e w' => e = .returned (.int .i64 (a.fdiv b)) ∧ w = w' := by
  have hb0 : (b == 0) = false := by simpa using hb
  have hq := quo_in a b ha
  have hqb := abs_tdiv_le a b
  obtain ⟨h1, h2⟩ := ha
  have hq1 : -9223372036854775808 ≤ a.tdiv b - 1 ∧ a.tdiv b - 1 ≤ 9223372036854775807 := by omega
  obtain ⟨hq2, hq3⟩ := hq1
  clear hqb
  by_cases hr : a.tmod b = 0
  · have H := Lib.hid (fdiv_same (Or.inl hr))
    have hr1 : (a.tmod b != 0) = false := by simpa using hr
    clear hr
    go_enter Try.func96, Try.ntmps96
    go_wp2
    go_ret
    exact ⟨ret_i H.out.symm, rfl⟩
  · have hr1 : (a.tmod b != 0) = true := by simpa using hr
    by_cases hs : a < 0
    · by_cases ht : b < 0
      · have H := Lib.hid (fdiv_same (a := a) (b := b) (Or.inr (Or.inr ⟨hs, ht⟩)))
        clear hr
        go_enter Try.func96, Try.ntmps96
        go_wp2
        go_ret
        exact ⟨ret_i H.out.symm, rfl⟩
      · have H := Lib.hid (fdiv_down hr (Or.inl ⟨hs, by omega⟩))
        clear hr
        go_enter Try.func96, Try.ntmps96
        go_wp2
        go_ret
        exact ⟨ret_i H.out.symm, rfl⟩
    · have hr2 : (a % b != 0) = true := by rw [← Int.tmod_eq_emod_of_nonneg (by omega)]; simpa using hr
      by_cases ht : b < 0
      · have H := Lib.hid (fdiv_down hr (Or.inr ⟨by omega, ht⟩))
        clear hr
        go_enter Try.func96, Try.ntmps96
        go_wp2
        go_ret
        exact ⟨ret_i H.out.symm, rfl⟩
      · have H := Lib.hid (fdiv_same (a := a) (b := b) (Or.inr (Or.inl ⟨by omega, by omega⟩)))
        clear hr
        go_enter Try.func96, Try.ntmps96
        go_wp2
        go_ret
        exact ⟨ret_i H.out.symm, rfl⟩

theorem MulDiv_any (a b c : Int) (w : World) (h1 : -4611686018427387904 ≤ a * b) (h2 : a * b ≤ 4611686018427387904) :
    Calls Try.prog 86 #[.int .i64 a, .int .i64 b, .int .i64 c] w fun e w' => e = .returned (.int .i64 (mdv a b c)) ∧ w = w' := by
  by_cases hc : c = 0
  · subst hc
    have H := Lib.hid (mdv_zero a b)
    go_enter Try.func86, Try.ntmps86
    go_wp2
    go_ret
    exact ⟨ret_i H.out.symm, rfl⟩
  · have hc0 : (c == 0) = false := by simpa using hc
    have HC := Lib.hid hc; clear hc
    go_enter Try.func86, Try.ntmps86
    go_wp2_with (go_at_call 96; refine (floor_any _ _ _ (by omega) HC.out).mono ?_; rintro e w' ⟨rfl, rfl⟩)
    go_ret
    exact ⟨rfl, rfl⟩

theorem Isqrt_any (n : Int) (w : World) (hn : n ≤ 4611686018427387904) :
    Calls Try.prog 73 #[.int .i64 n] w fun e w' => e = .returned (.int .i64 (isq n)) ∧ w = w' := by
  by_cases h0 : n ≤ 0
  · have H := Lib.hid (isq_neg h0)
    go_enter Try.func73, Try.ntmps73
    go_wp2
    go_step3
    go_wp2
    rw [Exit.noGoto_ret]
    go_ret
    exact ⟨ret_i H.out.symm, rfl⟩
  · have hs : isq n ≤ 2147483648 := isq_le_of (by decide) (by omega)
    have hs1 : 1 ≤ isq n := le_isq (by decide) (by omega)
    have h1 : 0 ≤ n := by omega
    have hd : decide (n ≤ 0) = false := by simpa using h0
    clear h0
    go_enter Try.func73, Try.ntmps73
    go_wp2
    go_step3
    go_wp2
    go_step3
    go_wp2
    go_loop [3] (fun r => ∃ x : Int, isq n ≤ x ∧ x ≤ 2147483648 ∧ r = .int .i64 x) (fun r => (intOf r).toNat)
    case atStart => exact ⟨2147483648, hs, by omega, rfl⟩
    case round =>
      obtain ⟨x, hx1, hx2, rfl⟩ := hrel
      have hg := newton_ge h1 (show 1 ≤ x by omega)
      have hst := newton_stop (n := n) (r := x) (by omega) hx1
      have hq0 : 0 ≤ n / x := Int.ediv_nonneg h1 (by omega)
      have hq1 : n / x ≤ n := Int.ediv_le_self _ h1
      have hx0 : (x == 0) = false := by simp; omega
      by_cases ht : x ≤ (x + n / x) / 2
      · have H := Lib.hid (hst ht); clear hst
        go_wp2
        go_ret
        exact ⟨ret_i H.out, rfl⟩
      · clear hst
        go_wp2
        go_round
        case rel => exact ⟨_, hg, by omega, rfl⟩
        case measure => simp [intOf]; omega

/-! ### The reference -/
theorem Around_any (n most : Int) (w : World) (h1 : 1 ≤ most) (h2 : -9223372036854775808 ≤ n) (h3 : n ≤ 9223372036854775807) :
    Calls Try.prog 25 #[.int .i64 n, .int .i64 most] w fun e w' => e = .returned (.int .i64 (arnd n most)) ∧ w = w' := by
  have hm : (most == 0) = false := by simp; omega
  by_cases h0 : n < 0
  · have H := Lib.hid (show arnd n most = -((n + 1).tmod most) by unfold arnd; rw [if_pos h0, ← Int.neg_tmod, Int.tmod_eq_emod_of_nonneg (by omega)])
    go_enter Try.func25, Try.ntmps25
    go_wp2
    go_ret
    exact ⟨ret_i H.out.symm, rfl⟩
  · have H := Lib.hid (show arnd n most = n % most by unfold arnd; rw [if_neg h0])
    go_enter Try.func25, Try.ntmps25
    go_wp2
    go_ret
    exact ⟨ret_i H.out.symm, rfl⟩

theorem Bound_any (n most : Int) (w : World) (h0 : 0 ≤ most) (h1 : most ≤ 2305843009213693952) (h2 : -9223372036854775808 ≤ n) (h3 : n ≤ 9223372036854775807) :
    Calls Try.prog 42 #[.int .i64 n, .int .i64 most] w fun e w' => e = .returned (.int .i64 (bnd n most)) ∧ w = w' := by
  have hb := arnd_bd n (most := 2 * most + 1) (by omega)
  go_enter Try.func42, Try.ntmps42
  go_wp2_with (go_at_call 25; refine (Around_any _ _ _ (by omega) (by omega) (by omega)).mono ?_; rintro e w' ⟨rfl, rfl⟩)
  go_ret
  exact ⟨rfl, rfl⟩

theorem Floor_any (a b : Int) (w : World) (ha : -4611686018427387904 ≤ a ∧ a ≤ 4611686018427387904) (hb : b ≠ 0) :
    Calls Try.prog 108 #[.int .i64 a, .int .i64 b] w fun e w' => e = .returned (.int .i64 (a.fdiv b)) ∧ w = w' := by
  have hb0 : (b == 0) = false := by simpa using hb
  have hq := quo_in a b ha
  have hqb := abs_tdiv_le a b
  obtain ⟨h1, h2⟩ := ha
  have hq1 : -9223372036854775808 ≤ a.tdiv b - 1 ∧ a.tdiv b - 1 ≤ 9223372036854775807 := by omega
  obtain ⟨hq2, hq3⟩ := hq1
  clear hqb
  by_cases hr : a.tmod b = 0
  · have H := Lib.hid (fdiv_same (Or.inl hr))
    have hr1 : (a.tmod b != 0) = false := by simpa using hr
    clear hr
    go_enter Try.func108, Try.ntmps108
    go_wp2
    go_ret
    exact ⟨ret_i H.out.symm, rfl⟩
  · have hr1 : (a.tmod b != 0) = true := by simpa using hr
    by_cases hs : a < 0
    · by_cases ht : b < 0
      · have H := Lib.hid (fdiv_same (a := a) (b := b) (Or.inr (Or.inr ⟨hs, ht⟩)))
        clear hr
        go_enter Try.func108, Try.ntmps108
        go_wp2
        go_ret
        exact ⟨ret_i H.out.symm, rfl⟩
      · have H := Lib.hid (fdiv_down hr (Or.inl ⟨hs, by omega⟩))
        clear hr
        go_enter Try.func108, Try.ntmps108
        go_wp2
        go_ret
        exact ⟨ret_i H.out.symm, rfl⟩
    · have hr2 : (a % b != 0) = true := by rw [← Int.tmod_eq_emod_of_nonneg (by omega)]; simpa using hr
      by_cases ht : b < 0
      · have H := Lib.hid (fdiv_down hr (Or.inr ⟨by omega, ht⟩))
        clear hr
        go_enter Try.func108, Try.ntmps108
        go_wp2
        go_ret
        exact ⟨ret_i H.out.symm, rfl⟩
      · have H := Lib.hid (fdiv_same (a := a) (b := b) (Or.inr (Or.inl ⟨by omega, by omega⟩)))
        clear hr
        go_enter Try.func108, Try.ntmps108
        go_wp2
        go_ret
        exact ⟨ret_i H.out.symm, rfl⟩

theorem rMulDiv_any (a b c : Int) (w : World) (h1 : -4611686018427387904 ≤ a * b) (h2 : a * b ≤ 4611686018427387904) :
    Calls Try.prog 103 #[.int .i64 a, .int .i64 b, .int .i64 c] w fun e w' => e = .returned (.int .i64 (mdv a b c)) ∧ w = w' := by
  by_cases hc : c = 0
  · subst hc
    have H := Lib.hid (mdv_zero a b)
    go_enter Try.func103, Try.ntmps103
    go_wp2
    go_ret
    exact ⟨ret_i H.out.symm, rfl⟩
  · have hc0 : (c == 0) = false := by simpa using hc
    have HC := Lib.hid hc; clear hc
    go_enter Try.func103, Try.ntmps103
    go_wp2_with (go_at_call 108; refine (Floor_any _ _ _ (by omega) HC.out).mono ?_; rintro e w' ⟨rfl, rfl⟩)
    go_ret
    exact ⟨rfl, rfl⟩

theorem rIsqrt_any (n : Int) (w : World) (hn : n ≤ 4611686018427387904) :
    Calls Try.prog 104 #[.int .i64 n] w fun e w' => e = .returned (.int .i64 (isq n)) ∧ w = w' := by
  by_cases h0 : n < 0
  · have H := Lib.hid (isq_neg (n := n) (by omega))
    go_enter Try.func104, Try.ntmps104
    go_wp2
    go_ret
    exact ⟨ret_i H.out.symm, rfl⟩
  · have h1 : 0 ≤ n := by omega
    have hd : decide (n < 0) = false := by simpa using h0
    clear h0
    go_enter Try.func104, Try.ntmps104
    go_wp2
    go_loop [3, 4] (fun l h => ∃ a b : Int, 0 ≤ a ∧ a < b ∧ b ≤ 2147483649 ∧ a * a ≤ n ∧ n < b * b ∧ l = .int .i64 a ∧ h = .int .i64 b) (fun l h => (intOf h - intOf l).toNat)
    case atStart => exact ⟨0, 2147483649, by omega, by omega, by omega, by omega, by omega, rfl, rfl⟩
    case round =>
      obtain ⟨a, b, k1, k2, k3, k4, k5, rfl, rfl⟩ := hrel
      by_cases ht : 1 < b - a
      · have hm := bisect_bd (m := a + (b - a) / 2) (B := 2147483648) (by omega) (by omega)
        by_cases hc : (a + (b - a) / 2) * (a + (b - a) / 2) ≤ n
        · go_wp2
          go_round
          case rel => exact ⟨_, b, by omega, by omega, k3, hc, k5, rfl, rfl⟩
          case measure => simp [intOf]; omega
        · go_wp2
          go_round
          case rel => exact ⟨a, _, k1, by omega, by omega, k4, by omega, rfl, rfl⟩
          case measure => simp [intOf]; omega
      · have hb : b = a + 1 := by omega
        have H := Lib.hid (isq_unique k1 k4 (by rw [← hb]; exact k5))
        clear hb
        go_wp2
        go_ret
        exact ⟨ret_i H.out.symm, rfl⟩

theorem rClamp_any (n lo hi : Int) (w : World) (h : lo ≤ hi) :
    Calls Try.prog 82 #[.int .i64 n, .int .i64 lo, .int .i64 hi] w fun e w' => e = .returned (.int .i64 (clp n lo hi)) ∧ w = w' := by
  go_enter Try.func82, Try.ntmps82
  go_wp2
  all_goals (go_ret; exact ⟨ret_i (by unfold clp; omega), rfl⟩)

theorem rAbs_any (n : Int) (w : World) (h : -9223372036854775807 ≤ n) :
    Calls Try.prog 38 #[.int .i64 n] w fun e w' => e = .returned (.int .i64 (abz n)) ∧ w = w' := by
  by_cases h0 : n < 0
  · have H := Lib.hid (abz_neg h0)
    go_enter Try.func38, Try.ntmps38
    go_wp2
    go_ret
    exact ⟨ret_i H.out.symm, rfl⟩
  · have H := Lib.hid (abz_pos (n := n) (by omega))
    go_enter Try.func38, Try.ntmps38
    go_wp2
    go_ret
    exact ⟨ret_i H.out.symm, rfl⟩

end Go.Proofs.Ytipcppbbpmdijaa
