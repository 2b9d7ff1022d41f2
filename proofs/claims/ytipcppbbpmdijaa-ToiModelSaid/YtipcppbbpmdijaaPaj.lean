/-
  Chapter 6's generated pair, with its numbers named and bounded. Conditions: the slice as it came in.
-/
import Derived.Test.YtipcppbbpmdijaaPai
namespace Go.Proofs.Ytipcppbbpmdijaa
open Go.RowKit Go.Sort
attribute [local go_sem ↓] Go.wp_at_zero Go.wp_at_succ

abbrev Bd (x m : Int) : Prop := -m ≤ x ∧ x ≤ m
theorem Pair_two (len : Nat) (zs : List Int) : ∃ (Ra Rb p0 p1 u0 u1 q0 q1 v0 v1 : Int) (va vb : List V2), SN Ra va ∧ SN Rb vb ∧ (Bd p0 500000 ∧ Bd p1 500000 ∧ Bd u0 16384 ∧ Bd u1 16384 ∧ Bd q0 631077 ∧ Bd q1 631077 ∧ Bd v0 16384 ∧ Bd v1 16384) ∧
    ∀ a cap w, IsRow .i64 w a len cap zs → Calls Try.prog 55 #[.slice a len cap] w fun e w' => ∃ A na ca B nb cb,
      e = .returned (.tuple #[.agg #[.int .i64 Ra, .slice A na ca, .int .i64 p0, .int .i64 p1, .int .i64 u0, .int .i64 u1], .agg #[.int .i64 Rb, .slice B nb cb, .int .i64 q0, .int .i64 q1, .int .i64 v0, .int .i64 v1]]) ∧
      Pol w' A na ca va ∧ Pol w' B nb cb vb ∧ (∀ a, A = some a → w.heap.size ≤ a.block) ∧ (∀ a, B = some a → w.heap.size ≤ a.block) ∧ Below w.heap.size w w' := by
  have hA := (shape_gs (pk zs len 0)).sn
  have hB := (shape_gs (pk zs len 1)).sn
  have bp := prP_bd (pk zs len 4)
  have bd := prD_bd hA hB (pk zs len 2) (pk zs len 3)
  have bu := prU_bd (prD (shR (pk zs len 0)) (shV (pk zs len 0)) (shR (pk zs len 1)) (shV (pk zs len 1)) (pk zs len 2) (pk zs len 3)) (pk zs len 5)
  have bv := prV_bd (pk zs len 6) (pk zs len 7)
  unfold LB at bp bd bu bv
  have key := fun a cap w hr => Pair_any a len cap zs w hr
  generalize hG : prD (shR (pk zs len 0)) (shV (pk zs len 0)) (shR (pk zs len 1)) (shV (pk zs len 1)) (pk zs len 2) (pk zs len 3) = D at *
  refine ⟨shR (pk zs len 0), shR (pk zs len 1), (prP (pk zs len 4)).1, (prP (pk zs len 4)).2, (prU D (pk zs len 5)).1, (prU D (pk zs len 5)).2, (prP (pk zs len 4)).1 + D.1, (prP (pk zs len 4)).2 + D.2, (prV (pk zs len 6) (pk zs len 7)).1, (prV (pk zs len 6) (pk zs len 7)).2, shV (pk zs len 0), shV (pk zs len 1), hA, hB, ?_, fun a cap w hr => (key a cap w hr).mono ?_⟩
  · clear key; unfold Bd; omega
  · rintro e w' ⟨A, na, ca, B, nb, cb, d, hd, rfl, PA, PB, fA, fB, hb⟩
    first
      | exact ⟨A, na, ca, B, nb, cb, by rw [hd, hG], PA, PB, fA, fB, hb⟩
end Go.Proofs.Ytipcppbbpmdijaa
