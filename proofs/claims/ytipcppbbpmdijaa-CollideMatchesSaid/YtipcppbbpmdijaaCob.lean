/-
  What the functions of package collide between the small ones and Collide return: the axis between two shapes, depths, overlaps. Conditions: the numbers' bounds and the vertices in memory, as the theorems state.
-/
import Derived.Test.YtipcppbbpmdijaaCoa
import Derived.Test.YtipcppbbpmdijaaKep
import Derived.Test.YtipcppbbpmdijaaNear
namespace Go.Proofs.Ytipcppbbpmdijaa
open Go.RowKit Go.Sort
attribute [local go_sem ↓] Go.wp_at_zero Go.wp_at_succ

set_option maxRecDepth 100000 in
set_option maxHeartbeats 2000000 in
theorem between_any (Ra Rb p0 p1 q0 q1 : Int) (A B : Option Addr) (na ca nb cb : Nat) (va vb : List V2) (w : World) (hA : Pol w A na ca va) (hB : Pol w B nb cb vb) (hSa : SN Ra va) (hSb : SN Rb vb)
    (h1 : -33554432 ≤ p0 ∧ p0 ≤ 33554432) (h2 : -33554432 ≤ p1 ∧ p1 ≤ 33554432) (h3 : -33554432 ≤ q0 ∧ q0 ≤ 33554432) (h4 : -33554432 ≤ q1 ∧ q1 ≤ 33554432) :
    Calls Try.prog 92 #[.agg #[.int .i64 Ra, .slice A na ca], .agg #[.int .i64 p0, .int .i64 p1], .agg #[.int .i64 Rb, .slice B nb cb], .agg #[.int .i64 q0, .int .i64 q1]] w fun e w' =>
      e = .returned (.tuple #[.agg #[.int .i64 (if va = [] ∨ vb = [] then (btv va vb (p0, p1) (q0, q1)).1 else 0), .int .i64 (if va = [] ∨ vb = [] then (btv va vb (p0, p1) (q0, q1)).2 else 0)], .bool (decide (va = [] ∨ vb = []))]) ∧ Below w.heap.size w w' := by
  by_cases ha : va = []
  · obtain ⟨rfl, rfl, rfl⟩ := hA.nil ha
    subst ha
    by_cases hb : vb = []
    · obtain ⟨rfl, rfl, rfl⟩ := hB.nil hb
      subst hb
      simp only [btv, dif, if_true, true_or, decide_true]
      clear hA hB
      go_enter Try.func92, Try.ntmps92
      go_wp2_with fail
      refine calls_at ?_; intro W0 hW; have dW0 : Below w.heap.size w W0 := (by rw [hW]; exact (by repeat (first | with_reducible exact Below.refl _ _ | with_reducible refine below_alloc ?_ _ | with_reducible refine Below.drew ?_ | with_reducible refine below_set ?_ (by (first | (simp; done) | (simp; omega))) _ | with_reducible refine below_step (by assumption) ?_)))
      have XR : B2 W0 (w.heap.size + 1 + 1 + 1 + 1) (.int .i64 0) (.int .i64 0) := (by rw [hW]; unfold B2 Cel; simp [go_sem])
      clear hW
      refine (Sub_any _ _ _ _ _ (by omega) (by omega) (by omega) (by omega)).mono ?_
      rintro e w1 ⟨rfl, hb1⟩; have d1 : Below W0.heap.size W0 w1 := below_step hb1 (by repeat (first | with_reducible exact Below.refl _ _ | with_reducible refine below_alloc ?_ _ | with_reducible refine Below.drew ?_ | with_reducible refine below_set ?_ (by (first | (simp; done) | (simp; omega))) _ | with_reducible refine below_step (by assumption) ?_)); have z1 := hb1.size; (try simp at z1); replace XR := XR.below d1; (try clear lXR); have lXR := XR.lt
      go_wp2_with fail
      exact bodyPost_ret (v := .tuple #[.agg #[.int .i64 (q0 - p0), .int .i64 (q1 - p1)], .bool true]) (by simp [results, Try.results92, go_sem, XR.1.1, XR.2.1]) rfl ⟨rfl, (by repeat (first | with_reducible exact Below.refl _ _ | with_reducible refine below_alloc ?_ _ | with_reducible refine Below.drew ?_ | with_reducible refine below_set ?_ (by (first | (simp; done) | (simp; omega))) _ | with_reducible refine below_step (by assumption) ?_))⟩
    · obtain ⟨b, rfl, hn, -, hnc, -, -, -⟩ := hB.at_ hb
      have HN := Lib.hid (fun W P => toNearest_any Rb q0 q1 p0 p1 b nb cb vb W P hb hSb (by omega) (by omega) (by omega) (by omega))
      simp only [btv, dif, plus, if_true, true_or, decide_true, if_neg hb]
      generalize nrs (q0 - p0, q1 - p1) vb = m at *
      have hn0 : ((nb : Int) == 0) = false := by simp; omega
      clear hb hSb hSa hA
      go_enter Try.func92, Try.ntmps92
      go_wp2_with fail
      refine calls_at ?_; intro W0 hW; have dW0 : Below w.heap.size w W0 := (by rw [hW]; exact (by repeat (first | with_reducible exact Below.refl _ _ | with_reducible refine below_alloc ?_ _ | with_reducible refine Below.drew ?_ | with_reducible refine below_set ?_ (by (first | (simp; done) | (simp; omega))) _ | with_reducible refine below_step (by assumption) ?_)))
      have XR : B2 W0 (w.heap.size + 1 + 1 + 1 + 1) (.int .i64 0) (.int .i64 0) := (by rw [hW]; unfold B2 Cel; simp [go_sem])
      clear hW
      refine (HN.out _ (hB.below dW0)).mono ?_
      rintro e w1 ⟨rfl, hb1⟩; have d1 : Below W0.heap.size W0 w1 := below_step hb1 (by repeat (first | with_reducible exact Below.refl _ _ | with_reducible refine below_alloc ?_ _ | with_reducible refine Below.drew ?_ | with_reducible refine below_set ?_ (by (first | (simp; done) | (simp; omega))) _ | with_reducible refine below_step (by assumption) ?_)); have z1 := hb1.size; (try simp at z1); replace XR := XR.below d1; (try clear lXR); have lXR := XR.lt
      go_wp2_with fail
      exact bodyPost_ret (v := .tuple #[.agg #[.int .i64 (q0 - p0 + m.1), .int .i64 (q1 - p1 + m.2)], .bool true]) (by simp [results, Try.results92, go_sem, XR.1.1, XR.2.1]) rfl ⟨rfl, (by repeat (first | with_reducible exact Below.refl _ _ | with_reducible refine below_alloc ?_ _ | with_reducible refine Below.drew ?_ | with_reducible refine below_set ?_ (by (first | (simp; done) | (simp; omega))) _ | with_reducible refine below_step (by assumption) ?_))⟩
  · obtain ⟨a, rfl, hm, -, hmc, -, -, -⟩ := hA.at_ ha
    have hm0 : ((na : Int) == 0) = false := by simp; omega
    by_cases hb : vb = []
    · obtain ⟨rfl, rfl, rfl⟩ := hB.nil hb
      subst hb
      have HN := Lib.hid (fun W P => toNearest_any Ra p0 p1 q0 q1 a na ca va W P ha hSa (by omega) (by omega) (by omega) (by omega))
      simp only [btv, dif, plus, if_true, or_true, decide_true, if_neg ha]
      generalize nrs (p0 - q0, p1 - q1) va = m at *
      clear ha hSb hSa hB
      go_enter Try.func92, Try.ntmps92
      go_wp2_with fail
      refine calls_at ?_; intro W0 hW; have dW0 : Below w.heap.size w W0 := (by rw [hW]; exact (by repeat (first | with_reducible exact Below.refl _ _ | with_reducible refine below_alloc ?_ _ | with_reducible refine Below.drew ?_ | with_reducible refine below_set ?_ (by (first | (simp; done) | (simp; omega))) _ | with_reducible refine below_step (by assumption) ?_)))
      have XR : B2 W0 (w.heap.size + 1 + 1 + 1 + 1) (.int .i64 0) (.int .i64 0) := (by rw [hW]; unfold B2 Cel; simp [go_sem])
      clear hW
      refine (HN.out _ (hA.below dW0)).mono ?_
      rintro e w1 ⟨rfl, hb1⟩; have d1 : Below W0.heap.size W0 w1 := below_step hb1 (by repeat (first | with_reducible exact Below.refl _ _ | with_reducible refine below_alloc ?_ _ | with_reducible refine Below.drew ?_ | with_reducible refine below_set ?_ (by (first | (simp; done) | (simp; omega))) _ | with_reducible refine below_step (by assumption) ?_)); have z1 := hb1.size; (try simp at z1); replace XR := XR.below d1; (try clear lXR); have lXR := XR.lt
      go_wp2_with fail
      exact bodyPost_ret (v := .tuple #[.agg #[.int .i64 (p0 - q0 + m.1), .int .i64 (p1 - q1 + m.2)], .bool true]) (by simp [results, Try.results92, go_sem, XR.1.1, XR.2.1]) rfl ⟨rfl, (by repeat (first | with_reducible exact Below.refl _ _ | with_reducible refine below_alloc ?_ _ | with_reducible refine Below.drew ?_ | with_reducible refine below_set ?_ (by (first | (simp; done) | (simp; omega))) _ | with_reducible refine below_step (by assumption) ?_))⟩
    · obtain ⟨b, rfl, hn, -, hnc, -, -, -⟩ := hB.at_ hb
      have hn0 : ((nb : Int) == 0) = false := by simp; omega
      have hno : ¬ (va = [] ∨ vb = []) := by rintro (h | h); exact ha h; exact hb h
      simp only [if_neg hno, decide_eq_false hno]
      clear ha hb hno hA hB hSa hSb
      go_enter Try.func92, Try.ntmps92
      go_wp2_with fail
      exact bodyPost_ret (v := .tuple #[.agg #[.int .i64 0, .int .i64 0], .bool false]) (by simp [results, Try.results92, go_sem]) rfl ⟨rfl, (by repeat (first | with_reducible exact Below.refl _ _ | with_reducible refine below_alloc ?_ _ | with_reducible refine Below.drew ?_ | with_reducible refine below_set ?_ (by (first | (simp; done) | (simp; omega))) _ | with_reducible refine below_step (by assumption) ?_))⟩

set_option maxRecDepth 100000 in
set_option maxHeartbeats 2000000 in
theorem depth_any (Ra Rb p0 p1 q0 q1 a0 a1 : Int) (A B : Option Addr) (na ca nb cb : Nat) (va vb : List V2) (w : World) (hA : Pol w A na ca va) (hB : Pol w B nb cb vb) (hSa : SN Ra va) (hSb : SN Rb vb)
    (h1 : -33554432 ≤ p0 ∧ p0 ≤ 33554432) (h2 : -33554432 ≤ p1 ∧ p1 ≤ 33554432) (h3 : -33554432 ≤ q0 ∧ q0 ≤ 33554432) (h4 : -33554432 ≤ q1 ∧ q1 ≤ 33554432) (h5 : -1024 ≤ a0 ∧ a0 ≤ 1024) (h6 : -1024 ≤ a1 ∧ a1 ≤ 1024) :
    Calls Try.prog 72 #[.agg #[.int .i64 Ra, .slice A na ca], .agg #[.int .i64 p0, .int .i64 p1], .agg #[.int .i64 Rb, .slice B nb cb], .agg #[.int .i64 q0, .int .i64 q1], .agg #[.int .i64 a0, .int .i64 a1]] w fun e w' =>
      e = .returned (.int .i64 (dep Ra va (p0, p1) Rb vb (q0, q1) (a0, a1))) ∧ Below w.heap.size w w' := by
  have b1 := plo_bd hSa (px := p0) (py := p1) (ax := a0) (ay := a1) (by omega) (by omega) (by omega) (by omega)
  have b2 := plo_bd hSb (px := q0) (py := q1) (ax := a0) (ay := a1) (by omega) (by omega) (by omega) (by omega)
  have HJ1 := Lib.hid (fun W P => Project_any Ra p0 p1 a0 a1 A na ca va W P hSa (by omega) (by omega) (by omega) (by omega))
  have HJ2 := Lib.hid (fun W P => Project_any Rb q0 q1 a0 a1 B nb cb vb W P hSb (by omega) (by omega) (by omega) (by omega))
  unfold dep
  dsimp only
  generalize plo Ra va p0 p1 a0 a1 = l1 at *
  generalize phi Ra va p0 p1 a0 a1 = u1 at *
  generalize plo Rb vb q0 q1 a0 a1 = l2 at *
  generalize phi Rb vb q0 q1 a0 a1 = u2 at *
  obtain ⟨c1, c2⟩ := b1
  obtain ⟨c3, c4⟩ := b2
  go_enter Try.func72, Try.ntmps72
  go_wp2_with fail
  refine calls_at ?_; intro W0 hW; have dW0 : Below w.heap.size w W0 := (by rw [hW]; exact (by repeat (first | with_reducible exact Below.refl _ _ | with_reducible refine below_alloc ?_ _ | with_reducible refine Below.drew ?_ | with_reducible refine below_set ?_ (by (first | (simp; done) | (simp; omega))) _ | with_reducible refine below_step (by assumption) ?_)))
  have XB : B2 W0 (w.heap.size + 1 + 1) (.int .i64 Rb) (.slice B nb cb) := (by rw [hW]; unfold B2 Cel; simp [go_sem])
  have XQ : B2 W0 (w.heap.size + 1 + 1 + 1) (.int .i64 q0) (.int .i64 q1) := (by rw [hW]; unfold B2 Cel; simp [go_sem])
  have XA : B2 W0 (w.heap.size + 1 + 1 + 1 + 1) (.int .i64 a0) (.int .i64 a1) := (by rw [hW]; unfold B2 Cel; simp [go_sem])
  clear hW
  refine (HJ1.out _ (hA.below dW0)).mono ?_
  have hB0 := hB.below dW0
  rintro e w1 ⟨rfl, hb1⟩; have d1 : Below W0.heap.size W0 w1 := below_step hb1 (by repeat (first | with_reducible exact Below.refl _ _ | with_reducible refine below_alloc ?_ _ | with_reducible refine Below.drew ?_ | with_reducible refine below_set ?_ (by (first | (simp; done) | (simp; omega))) _ | with_reducible refine below_step (by assumption) ?_)); have z1 := hb1.size; (try simp at z1); replace hB0 := hB0.below d1; (try clear lhB0); have lhB0 := hB0.lt; replace XB := XB.below d1; (try clear lXB); have lXB := XB.lt; replace XQ := XQ.below d1; (try clear lXQ); have lXQ := XQ.lt; replace XA := XA.below d1; (try clear lXA); have lXA := XA.lt
  go_wp2_with fail
  refine (HJ2.out _ hB0).mono ?_
  rintro e w2 ⟨rfl, hb2⟩; have d2 : Below w1.heap.size w1 w2 := below_step hb2 (by repeat (first | with_reducible exact Below.refl _ _ | with_reducible refine below_alloc ?_ _ | with_reducible refine Below.drew ?_ | with_reducible refine below_set ?_ (by (first | (simp; done) | (simp; omega))) _ | with_reducible refine below_step (by assumption) ?_)); have z2 := hb2.size; (try simp at z2)
  go_wp2_with fail
  go_ret
  exact ⟨ret_i (by omega), (by repeat (first | with_reducible exact Below.refl _ _ | with_reducible refine below_alloc ?_ _ | with_reducible refine Below.drew ?_ | with_reducible refine below_set ?_ (by (first | (simp; done) | (simp; omega))) _ | with_reducible refine below_step (by assumption) ?_))⟩

theorem Overlap_any (a0 a1 a2 a3 b0 b1 b2 b3 : Int) (w : World) :
    Calls Try.prog 53 #[.agg #[.int .i64 a0, .int .i64 a1, .int .i64 a2, .int .i64 a3], .agg #[.int .i64 b0, .int .i64 b1, .int .i64 b2, .int .i64 b3]] w fun e w' => e = .returned (.bool (decide (a0 ≤ b2 ∧ b0 ≤ a2 ∧ a1 ≤ b3 ∧ b1 ≤ a3))) ∧ Below w.heap.size w w' := by
  by_cases k1 : a0 ≤ b2
  · by_cases k2 : b0 ≤ a2
    · by_cases k3 : a1 ≤ b3
      · by_cases k4 : b1 ≤ a3
        · have e : decide (a0 ≤ b2 ∧ b0 ≤ a2 ∧ a1 ≤ b3 ∧ b1 ≤ a3) = true := decide_eq_true ⟨k1, k2, k3, k4⟩
          rw [e]; clear e
          go_enter Try.func53, Try.ntmps53
          go_wp2_with fail
          go_ret
          exact ⟨rfl, (by repeat (first | with_reducible exact Below.refl _ _ | with_reducible refine below_alloc ?_ _ | with_reducible refine Below.drew ?_ | with_reducible refine below_set ?_ (by (first | (simp; done) | (simp; omega))) _ | with_reducible refine below_step (by assumption) ?_))⟩
        · have e : decide (a0 ≤ b2 ∧ b0 ≤ a2 ∧ a1 ≤ b3 ∧ b1 ≤ a3) = false := decide_eq_false (fun h => k4 h.2.2.2)
          rw [e]; clear e
          go_enter Try.func53, Try.ntmps53
          go_wp2_with fail
          go_ret
          exact ⟨rfl, (by repeat (first | with_reducible exact Below.refl _ _ | with_reducible refine below_alloc ?_ _ | with_reducible refine Below.drew ?_ | with_reducible refine below_set ?_ (by (first | (simp; done) | (simp; omega))) _ | with_reducible refine below_step (by assumption) ?_))⟩
      · have e : decide (a0 ≤ b2 ∧ b0 ≤ a2 ∧ a1 ≤ b3 ∧ b1 ≤ a3) = false := decide_eq_false (fun h => k3 h.2.2.1)
        rw [e]; clear e
        go_enter Try.func53, Try.ntmps53
        go_wp2_with fail
        go_ret
        exact ⟨rfl, (by repeat (first | with_reducible exact Below.refl _ _ | with_reducible refine below_alloc ?_ _ | with_reducible refine Below.drew ?_ | with_reducible refine below_set ?_ (by (first | (simp; done) | (simp; omega))) _ | with_reducible refine below_step (by assumption) ?_))⟩
    · have e : decide (a0 ≤ b2 ∧ b0 ≤ a2 ∧ a1 ≤ b3 ∧ b1 ≤ a3) = false := decide_eq_false (fun h => k2 h.2.1)
      rw [e]; clear e
      go_enter Try.func53, Try.ntmps53
      go_wp2_with fail
      go_ret
      exact ⟨rfl, (by repeat (first | with_reducible exact Below.refl _ _ | with_reducible refine below_alloc ?_ _ | with_reducible refine Below.drew ?_ | with_reducible refine below_set ?_ (by (first | (simp; done) | (simp; omega))) _ | with_reducible refine below_step (by assumption) ?_))⟩
  · have e : decide (a0 ≤ b2 ∧ b0 ≤ a2 ∧ a1 ≤ b3 ∧ b1 ≤ a3) = false := decide_eq_false (fun h => k1 h.1)
    rw [e]; clear e
    go_enter Try.func53, Try.ntmps53
    go_wp2_with fail
    go_ret
    exact ⟨rfl, (by repeat (first | with_reducible exact Below.refl _ _ | with_reducible refine below_alloc ?_ _ | with_reducible refine Below.drew ?_ | with_reducible refine below_set ?_ (by (first | (simp; done) | (simp; omega))) _ | with_reducible refine below_step (by assumption) ?_))⟩
end Go.Proofs.Ytipcppbbpmdijaa
