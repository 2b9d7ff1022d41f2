/-
  The examples of chapter 1 hold, and 'small' maps any int to the domain. Conditions: none but an int's bounds.
-/
import Derived.Test.YtcapkmiinehdlaaFix
namespace Go.Proofs.Ytcapkmiinehdlaa
open Go.RowKit

theorem small_any (n : Int) (w : World) (h2 : -9223372036854775808 ≤ n) (h3 : n ≤ 9223372036854775807) :
    Calls Try.prog 24 #[.int .i64 n] w fun e w' => e = .returned (.int .i64 (bnd n 2147483648)) ∧ w = w' := by
  go_enter Try.func24, Try.ntmps24
  go_wp2_with (go_at_call 32; refine (Bound_any _ _ _ (by omega) (by omega) (by omega) (by omega)).mono ?_; rintro e w' ⟨rfl, rfl⟩)
  go_ret
  exact ⟨rfl, rfl⟩

theorem lives_any (w : World) : Calls Try.prog 31 #[] w fun e w' => e = .returned (.bool true) ∧ w = w' := by
  have e1 : (mdv 1536 2048 1024 == 3072) = true := by decide
  have e2 : (mdv (-1) 1 1024 == -1) = true := by decide
  have e3 : (mdv 1 1024 3 == 341) = true := by decide
  have e4 : (isq 24 == 4) = true := by decide
  go_enter Try.func31, Try.ntmps31
  go_wp2_with (first
    | (go_at_call 25; refine (Mul_any _ _ _ (by omega) (by omega)).mono ?_; rintro e w' ⟨rfl, rfl⟩)
    | (go_at_call 27; refine (Div_any _ _ _ (by omega) (by omega)).mono ?_; rintro e w' ⟨rfl, rfl⟩)
    | (go_at_call 34; refine (Isqrt_any _ _ (by omega)).mono ?_; rintro e w' ⟨rfl, rfl⟩))
  go_ret
  exact ⟨rfl, rfl⟩
end Go.Proofs.Ytcapkmiinehdlaa
