/-
  The examples of chapter 2 hold. Conditions: none.
-/
import Derived.Test.YtcapkmiinehdlaaVecr
namespace Go.Proofs.Ytcapkmiinehdlaa
open Go.RowKit
attribute [local go_sem ↓] Go.wp_at_zero Go.wp_at_succ

theorem ex_nrm (w : World) : Calls Try.prog 46 #[.agg #[.int .i64 3072, .int .i64 4096]] w fun e w' => e = .returned (.agg #[.int .i64 614, .int .i64 819]) ∧ Below w.heap.size w w' := by
  have h := Normalize_any 3072 4096 w (by omega) (by omega) (by omega) (by omega)
  have i0 : lnz 3072 4096 = 5120 := isq_unique (by decide) (by decide) (by decide)
  have e2 : mdv 3072 1024 5120 = 614 := by decide
  have e3 : mdv 4096 1024 5120 = 819 := by decide
  rw [i0, e2, e3] at h
  exact h
theorem lives2_any (w : World) : Calls Try.prog 48 #[] w fun e w' => e = .returned (.bool true) ∧ Below w.heap.size w w' := by
  have e1 : (dotz 1024 2048 1024 0 == 1024) = true := by decide
  have i1 : lnz 3 4 = 5 := isq_unique (by decide) (by decide) (by decide)
  have e4 : (lnz 3 4 == 5) = true := by rw [i1]; decide
  clear i1
  go_enter Try.func48, Try.ntmps48
  go_wp2_with fail
  refine (Dot_any _ _ _ _ _ (by omega) (by omega) (by omega) (by omega)).mono ?_
  rintro e w1 ⟨rfl, hb1⟩
  go_wp2_with fail
  refine (ex_nrm _).mono ?_
  rintro e w2 ⟨rfl, hb2⟩
  go_wp2_with fail
  refine (Len_any _ _ _ (by omega) (by omega) (by omega) (by omega)).mono ?_
  rintro e w3 ⟨rfl, hb3⟩
  go_wp2
  go_ret
  exact ⟨rfl, (by repeat (first | exact Below.refl _ _ | refine below_alloc ?_ _ | refine Below.drew ?_ | refine below_set ?_ (by (first | (simp; done) | (simp; omega))) _ | refine below_step (by assumption) ?_))⟩
end Go.Proofs.Ytcapkmiinehdlaa
