/-
  What chapter 5's reference function Equal returns for two equal lists of vectors: true. Conditions: the vectors in memory, as the theorem states.
-/
import Derived.Test.YtipcppbbpmdijaaAxs
namespace Go.Proofs.Ytipcppbbpmdijaa
open Go.RowKit Go.Sort
attribute [local go_sem ↓] Go.wp_at_zero Go.wp_at_succ

set_option maxRecDepth 100000 in
set_option maxHeartbeats 2000000 in
theorem Equal_same (A B : Option Addr) (n ca cb : Nat) (vs : List V2) (w : World) (hA : Pol w A n ca vs) (hB : Pol w B n cb vs) :
    Calls Try.prog 49 #[.slice A n ca, .slice B n cb] w fun e w' => e = .returned (.bool true) ∧ Below w.heap.size w w' := by
  by_cases hv : vs = []
  · obtain ⟨rfl, rfl, rfl⟩ := hA.nil hv
    obtain ⟨rfl, -, rfl⟩ := hB.nil hv
    go_enter Try.func49, Try.ntmps49
    go_wp2_with fail
    refine wp_loop_rounds 1 ?_
    rw [rounds_succ]
    go_wp2_with fail
    go_ret
    exact ⟨rfl, (by repeat (first | with_reducible exact Below.refl _ _ | with_reducible refine below_alloc ?_ _ | with_reducible refine Below.drew ?_ | with_reducible refine below_set ?_ (by (first | (simp; done) | (simp; omega))) _ | with_reducible refine below_step (by assumption) ?_))⟩
  obtain ⟨a, rfl, hn, hl, hnc, hc, hal, hca⟩ := hA.at_ hv
  obtain ⟨b, rfl, -, -, hnd, hd, hbl, hcb⟩ := hB.at_ hv
  have HA := Lib.hid hca; clear hca
  have HB := Lib.hid hcb; clear hcb
  clear hA hB
  go_enter Try.func49, Try.ntmps49
  go_wp2_with fail
  go_loopg [5] n (fun gk i wr => ∃ k : Nat, gk + k = n ∧ i = .int .i64 k ∧ Below w.heap.size w wr)
  case atStart => exact ⟨0, by omega, rfl, Below.refl _ _⟩
  case round =>
    obtain ⟨k, hk, rfl, ib⟩ := hrel
    by_cases hlt : k < n
    · obtain ⟨⟨x, y⟩, hv'⟩ : ∃ v, vs[k]? = some v := ⟨vs[k], List.getElem?_eq_getElem (by omega)⟩
      have kx := cell_regrown ((ib.cell (p := ⟨a, k * 2, none⟩) hal).trans (HA.out k _ hv').1)
      have ky := cell_regrown ((ib.cell (p := ⟨a, k * 2 + 1, none⟩) hal).trans (HA.out k _ hv').2)
      have lx := cell_regrown ((ib.cell (p := ⟨b, k * 2, none⟩) hbl).trans (HB.out k _ hv').1)
      have ly := cell_regrown ((ib.cell (p := ⟨b, k * 2 + 1, none⟩) hbl).trans (HB.out k _ hv').2)
      dsimp only at kx ky lx ly
      have hk1 : (0 : Int) ≤ (k : Int) := by omega
      have hk2 : (k : Int) < (n : Int) := by omega
      clear hv'
      go_wp2_with fail
      refine wp_region_below (by kernel_rfl) (by kernel_rfl) ?_
      repeat (go_big_quiet_step (fail))
      refine wpQuiet_nil ?_; intro w2 d2
      go_wp2_with fail
      go_roundg (gk - 1)
      case measure => omega
      case rel => exact ⟨k + 1, by omega, by go_num, ib.trans (d2.mono ib.size)⟩
    · have hkn : k = n := by omega
      subst hkn
      go_wp2_with fail
      go_ret
      exact ⟨rfl, ib⟩

/-- What Axes returns, as vectors in memory. -/
theorem Axes_pol (Ra Rb p0 p1 q0 q1 : Int) (A B : Option Addr) (na ca nb cb : Nat) (va vb : List V2) (w : World) (hA : Pol w A na ca va) (hB : Pol w B nb cb vb) (hSa : SN Ra va) (hSb : SN Rb vb)
    (h1 : -33554432 ≤ p0 ∧ p0 ≤ 33554432) (h2 : -33554432 ≤ p1 ∧ p1 ≤ 33554432) (h3 : -33554432 ≤ q0 ∧ q0 ≤ 33554432) (h4 : -33554432 ≤ q1 ∧ q1 ≤ 33554432) :
    Calls Try.prog 50 #[.agg #[.int .i64 Ra, .slice A na ca], .agg #[.int .i64 p0, .int .i64 p1], .agg #[.int .i64 Rb, .slice B nb cb], .agg #[.int .i64 q0, .int .i64 q1]] w fun e w' =>
      ∃ g c, e = .returned (.slice (some ⟨g, 0, none⟩) (axl va vb (p0, p1) (q0, q1)).length c) ∧ Pol w' (some ⟨g, 0, none⟩) (axl va vb (p0, p1) (q0, q1)).length c (axl va vb (p0, p1) (q0, q1)) ∧ w.heap.size ≤ g ∧ Below w.heap.size w w' := by
  refine (Axes_any Ra Rb p0 p1 q0 q1 A B na ca nb cb va vb w hA hB hSa hSb h1 h2 h3 h4).mono ?_
  rintro e w' ⟨v, rfl, ho, hb⟩
  have hl := List.length_pos_iff.2 (axl_ne va vb (p0, p1) (q0, q1))
  have hm := axl_len va vb (p0, p1) (q0, q1)
  have := hSa.2.1; have := hSb.2.1
  obtain ⟨g, c, rfl, hg, -⟩ := ho.form hl
  exact ⟨g, c, rfl, own_pol ho hl (by omega), hg, hb⟩
end Go.Proofs.Ytipcppbbpmdijaa
