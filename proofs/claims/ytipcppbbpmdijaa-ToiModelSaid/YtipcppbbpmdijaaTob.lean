/-
  What chapter 6's law helpers return: earliest, touch; the documented examples hold. Conditions: the numbers' bounds and the vertices in memory, as the theorems state.
-/
import Derived.Test.YtipcppbbpmdijaaToi
namespace Go.Proofs.Ytipcppbbpmdijaa
open Go.RowKit Go.Sort
attribute [local go_sem ↓] Go.wp_at_zero Go.wp_at_succ

abbrev B6 (W : World) (b : Nat) (v0 v1 v2 v3 v4 v5 : Value) : Prop := Cel W b 0 v0 ∧ Cel W b 1 v1 ∧ Cel W b 2 v2 ∧ Cel W b 3 v3 ∧ Cel W b 4 v4 ∧ Cel W b 5 v5
theorem B6.lt {W : World} {b : Nat} {v0 v1 v2 v3 v4 v5 : Value} (h : B6 W b v0 v1 v2 v3 v4 v5) : b < W.heap.size := Cel.lt h.1
theorem B6.below {W W' : World} {b : Nat} {v0 v1 v2 v3 v4 v5 : Value} (h : B6 W b v0 v1 v2 v3 v4 v5) (hb : Below W.heap.size W W') : B6 W' b v0 v1 v2 v3 v4 v5 := ⟨h.1.below hb, h.2.1.below hb, h.2.2.1.below hb, h.2.2.2.1.below hb, h.2.2.2.2.1.below hb, h.2.2.2.2.2.below hb⟩
theorem B6.re {W : World} {b : Nat} {v0 v1 v2 v3 v4 v5 : Value} (h : B6 W b v0 v1 v2 v3 v4 v5) (d : Nat) (os : Array Obj) : B6 (grow (redrawn W d) os) b v0 v1 v2 v3 v4 v5 := h.below (below_regrown W d os)
theorem B6.far {W : World} {b : Nat} {v0 v1 v2 v3 v4 v5 : Value} (h : B6 W b v0 v1 v2 v3 v4 v5) {c j : Nat} (hne : c ≠ b) (u : Value) : B6 (W.setCell ⟨c, j, none⟩ u) b v0 v1 v2 v3 v4 v5 :=
  ⟨h.1.far (.inl hne) u, h.2.1.far (.inl hne) u, h.2.2.1.far (.inl hne) u, h.2.2.2.1.far (.inl hne) u, h.2.2.2.2.1.far (.inl hne) u, h.2.2.2.2.2.far (.inl hne) u⟩

theorem earliest_any (Ra Rb p0 p1 u0 u1 q0 q1 v0 v1 : Int) (A B : Option Addr) (na ca nb cb : Nat) (va vb : List V2) (w : World)
    (hA : Pol w A na ca va) (hB : Pol w B nb cb vb) (hSa : SN Ra va) (hSb : SN Rb vb)
    (h1 : -33000000 ≤ p0 ∧ p0 ≤ 33000000) (h2 : -33000000 ≤ p1 ∧ p1 ≤ 33000000) (h3 : -33000000 ≤ q0 ∧ q0 ≤ 33000000) (h4 : -33000000 ≤ q1 ∧ q1 ≤ 33000000)
    (h5 : -16384 ≤ u0 ∧ u0 ≤ 16384) (h6 : -16384 ≤ u1 ∧ u1 ≤ 16384) (h7 : -16384 ≤ v0 ∧ v0 ≤ 16384) (h8 : -16384 ≤ v1 ∧ v1 ≤ 16384) :
    Calls Try.prog 56 #[.agg #[.int .i64 Ra, .slice A na ca, .int .i64 p0, .int .i64 p1, .int .i64 u0, .int .i64 u1], .agg #[.int .i64 Rb, .slice B nb cb, .int .i64 q0, .int .i64 q1, .int .i64 v0, .int .i64 v1]] w fun e w' =>
      e = .returned (.int .i64 (ear (tch Ra va (p0, p1) (u0, u1) Rb vb (q0, q1) (v0, v1)))) ∧ Below w.heap.size w w' := by
  have HE := Lib.hid (fun W PA PB => Earliest_any Ra Rb p0 p1 u0 u1 q0 q1 v0 v1 A B na ca nb cb va vb W PA PB hSa hSb h1 h2 h3 h4 h5 h6 h7 h8)
  generalize ear (tch Ra va (p0, p1) (u0, u1) Rb vb (q0, q1) (v0, v1)) = t at *
  clear hSa hSb h1 h2 h3 h4 h5 h6 h7 h8
  go_enter Try.func56, Try.ntmps56
  go_wp2_with fail
  refine calls_at ?_; intro W0 hW; have dW0 : Below w.heap.size w W0 := (by rw [hW]; exact (by repeat (first | with_reducible exact Below.refl _ _ | with_reducible refine below_alloc ?_ _ | with_reducible refine Below.drew ?_ | with_reducible refine below_set ?_ (by (first | (simp; done) | (simp; omega))) _ | with_reducible refine below_step (by assumption) ?_)))
  clear hW
  refine (HE.out _ (hA.below dW0) (hB.below dW0)).mono ?_
  rintro e w1 ⟨rfl, hb1⟩; have d1 : Below W0.heap.size W0 w1 := below_step hb1 (by repeat (first | with_reducible exact Below.refl _ _ | with_reducible refine below_alloc ?_ _ | with_reducible refine Below.drew ?_ | with_reducible refine below_set ?_ (by (first | (simp; done) | (simp; omega))) _ | with_reducible refine below_step (by assumption) ?_)); have z1 := hb1.size; (try simp at z1)
  go_wp2_with fail
  go_ret
  exact ⟨rfl, (by repeat (first | with_reducible exact Below.refl _ _ | with_reducible refine below_alloc ?_ _ | with_reducible refine Below.drew ?_ | with_reducible refine below_set ?_ (by (first | (simp; done) | (simp; omega))) _ | with_reducible refine below_step (by assumption) ?_))⟩

theorem l6_one : ear (tch 10 [] (-100, 0) (160, 0) 10 [] (0, 0) (0, 0)) = 512 := by decide +kernel
theorem l6_two : ear (tch 10 [] (-100, 0) (16, 0) 10 [] (0, 0) (0, 0)) = 1024 := by decide +kernel
theorem c10_sn : SN 10 [] := ⟨by decide, by decide, by simp⟩
theorem lives6_any (w : World) : Calls Try.prog 58 #[] w fun e w' => e = .returned (.bool true) ∧ Below w.heap.size w w' := by
  have hC1 := fun W => Earliest_any 10 10 (-100) 0 160 0 0 0 0 0 none none 0 0 0 0 [] [] W (Pol.empty _) (Pol.empty _) c10_sn c10_sn (by omega) (by omega) (by omega) (by omega) (by omega) (by omega) (by omega) (by omega)
  have hC2 := fun W => Earliest_any 10 10 (-100) 0 16 0 0 0 0 0 none none 0 0 0 0 [] [] W (Pol.empty _) (Pol.empty _) c10_sn c10_sn (by omega) (by omega) (by omega) (by omega) (by omega) (by omega) (by omega) (by omega)
  rw [l6_one] at hC1
  rw [l6_two] at hC2
  have HC1 := Lib.hid hC1; clear hC1
  have HC2 := Lib.hid hC2; clear hC2
  go_enter Try.func58, Try.ntmps58
  go_wp2_with fail
  refine calls_at ?_; intro W0 hW; have dW0 : Below w.heap.size w W0 := (by rw [hW]; exact (by repeat (first | with_reducible exact Below.refl _ _ | with_reducible refine below_alloc ?_ _ | with_reducible refine Below.drew ?_ | with_reducible refine below_set ?_ (by (first | (simp; done) | (simp; omega))) _ | with_reducible refine below_step (by assumption) ?_)))
  have XS : B2 W0 w.heap.size (.int .i64 10) (.slice none 0 0) := (by rw [hW]; unfold B2 Cel; simp [go_sem])
  clear hW
  refine (HC1.out _).mono ?_
  rintro e w1 ⟨rfl, hb1⟩; have d1 : Below W0.heap.size W0 w1 := below_step hb1 (by repeat (first | with_reducible exact Below.refl _ _ | with_reducible refine below_alloc ?_ _ | with_reducible refine Below.drew ?_ | with_reducible refine below_set ?_ (by (first | (simp; done) | (simp; omega))) _ | with_reducible refine below_step (by assumption) ?_)); have z1 := hb1.size; (try simp at z1); replace XS := XS.below d1; (try clear lXS); have lXS := XS.lt
  go_wp2_with fail
  refine (HC2.out _).mono ?_
  rintro e w2 ⟨rfl, hb2⟩; have d2 : Below w1.heap.size w1 w2 := below_step hb2 (by repeat (first | with_reducible exact Below.refl _ _ | with_reducible refine below_alloc ?_ _ | with_reducible refine Below.drew ?_ | with_reducible refine below_set ?_ (by (first | (simp; done) | (simp; omega))) _ | with_reducible refine below_step (by assumption) ?_)); have z2 := hb2.size; (try simp at z2)
  go_wp2_with fail
  go_ret
  exact ⟨rfl, (by repeat (first | with_reducible exact Below.refl _ _ | with_reducible refine below_alloc ?_ _ | with_reducible refine Below.drew ?_ | with_reducible refine below_set ?_ (by (first | (simp; done) | (simp; omega))) _ | with_reducible refine below_step (by assumption) ?_))⟩
end Go.Proofs.Ytipcppbbpmdijaa
