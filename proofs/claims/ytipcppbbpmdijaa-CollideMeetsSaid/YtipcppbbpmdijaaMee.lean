/-
  Chapter 5's laws in plain numbers: how deep two circles are in each other, and shapes that cover a cross together meet. Conditions: as the theorems state. No program in sight.
-/
import Derived.Test.YtipcppbbpmdijaaCol
namespace Go.Proofs.Ytipcppbbpmdijaa
open Go.RowKit Go.Sort

/-! ### Two circles -/
theorem two_sum {x y L : Int} (hL : 0 ≤ L) (h : x * x + y * y < (L + 1) * (L + 1)) : -(3 * (L + 1)) ≤ 2 * (x + y) ∧ 2 * (x + y) ≤ 3 * (L + 1) ∧ -(3 * (L + 1)) ≤ 2 * (x - y) ∧ 2 * (x - y) ≤ 3 * (L + 1) := by
  have e1 : (2 * (x + y)) * (2 * (x + y)) + 4 * ((x - y) * (x - y)) = 8 * (x * x + y * y) := by grind
  have e2 : (2 * (x - y)) * (2 * (x - y)) + 4 * ((x + y) * (x + y)) = 8 * (x * x + y * y) := by grind
  have e3 : (3 * (L + 1)) * (3 * (L + 1)) = 9 * ((L + 1) * (L + 1)) := by grind
  have s1 := sq_nonneg (x - y)
  have s2 := sq_nonneg (x + y)
  have s3 := sq_nonneg (L + 1)
  have a := le_of_sq (a := 2 * (x + y)) (M := 3 * (L + 1)) (by omega) (by omega)
  have b := le_of_sq (a := 2 * (x - y)) (M := 3 * (L + 1)) (by omega) (by omega)
  omega
theorem mul_sum {x y r s D : Int} (hr : 0 ≤ r ∧ r < D) (hs : 0 ≤ s ∧ s < D) {S : Int} (h1 : -S ≤ x + y ∧ x + y ≤ S) (h2 : -S ≤ x - y ∧ x - y ≤ S) : -(S * D) ≤ x * r + y * s ∧ x * r + y * s ≤ S * D := by
  have key : ∀ x y r s : Int, 0 ≤ r → r ≤ s → s ≤ D → (-S ≤ x + y ∧ x + y ≤ S) → (-S ≤ y ∧ y ≤ S) → -(S * D) ≤ x * r + y * s ∧ x * r + y * s ≤ S * D := by
    intro x y r s a b c d e
    have q : x * r + y * s = (x + y) * r + y * (s - r) := by grind
    have m1 : (x + y) * r ≤ S * r := Int.mul_le_mul_of_nonneg_right d.2 a
    have m2 : -S * r ≤ (x + y) * r := Int.mul_le_mul_of_nonneg_right d.1 a
    have m3 : y * (s - r) ≤ S * (s - r) := Int.mul_le_mul_of_nonneg_right e.2 (by omega)
    have m4 : -S * (s - r) ≤ y * (s - r) := Int.mul_le_mul_of_nonneg_right e.1 (by omega)
    have m5 : S * s ≤ S * D := Int.mul_le_mul_of_nonneg_left c (by omega)
    have f1 : S * r + S * (s - r) = S * s := by grind
    have f2 : -S * r + -S * (s - r) = -(S * s) := by grind
    omega
  rcases Int.le_total r s with h | h
  · exact key x y r s hr.1 h (by omega) h1 (by omega)
  · have := key y x s r hs.1 h (by omega) (by omega) (by omega)
    omega
/-- Along the axis from one centre to the other the distance is the length, nearly. -/
theorem circ_dot {p q : V2} {D : Int} (hD : lnz (q.1 - p.1) (q.2 - p.2) = D) (h : 1024 ≤ D) :
    D - (D / 256 + 3) ≤ dotz q.1 q.2 (unt (dif q p)).1 (unt (dif q p)).2 - dotz p.1 p.2 (unt (dif q p)).1 (unt (dif q p)).2 ∧
    dotz q.1 q.2 (unt (dif q p)).1 (unt (dif q p)).2 - dotz p.1 p.2 (unt (dif q p)).1 (unt (dif q p)).2 ≤ D + (D / 256 + 3) - 1 := by
  obtain ⟨n1, n2⟩ := lnz_spec (q.1 - p.1) (q.2 - p.2)
  have hle := le_len (q.1 - p.1) (q.2 - p.2)
  rw [hD] at n1 n2 hle
  have hu : unt (dif q p) = (mdv (q.1 - p.1) 1024 D, mdv (q.2 - p.2) 1024 D) := by
    unfold unt dif
    dsimp only
    rw [hD]
    rw [if_neg]
    rintro ⟨a, b⟩
    rw [a, b] at n1
    have := sq_mono (a := 1024) (b := D) (by omega) h
    omega
  rw [hu]
  dsimp only
  obtain ⟨a1, a2⟩ := mdv_pos (q.1 - p.1) 1024 (c := D) (by omega)
  obtain ⟨b1, b2⟩ := mdv_pos (q.2 - p.2) 1024 (c := D) (by omega)
  have eq1 : dotz q.1 q.2 (mdv (q.1 - p.1) 1024 D) (mdv (q.2 - p.2) 1024 D) = (p.1 * mdv (q.1 - p.1) 1024 D + p.2 * mdv (q.2 - p.2) 1024 D + ((q.1 - p.1) * mdv (q.1 - p.1) 1024 D + (q.2 - p.2) * mdv (q.2 - p.2) 1024 D)) / 1024 := by
    unfold dotz; congr 1; grind
  rw [eq1]
  unfold dotz
  generalize p.1 * mdv (q.1 - p.1) 1024 D + p.2 * mdv (q.2 - p.2) 1024 D = P
  obtain ⟨c1, c2, c3, c4⟩ := two_sum (by omega) n2
  have e1 : D * ((q.1 - p.1) * mdv (q.1 - p.1) 1024 D + (q.2 - p.2) * mdv (q.2 - p.2) 1024 D) = 1024 * ((q.1 - p.1) * (q.1 - p.1) + (q.2 - p.2) * (q.2 - p.2)) - ((q.1 - p.1) * ((q.1 - p.1) * 1024 - D * mdv (q.1 - p.1) 1024 D) + (q.2 - p.2) * ((q.2 - p.2) * 1024 - D * mdv (q.2 - p.2) 1024 D)) := by grind
  obtain ⟨d1, d2⟩ := mul_sum (x := q.1 - p.1) (y := q.2 - p.2) (r := (q.1 - p.1) * 1024 - D * mdv (q.1 - p.1) 1024 D) (s := (q.2 - p.2) * 1024 - D * mdv (q.2 - p.2) 1024 D) (D := D) (by omega) (by omega) (S := (3 * (D + 1) + 1) / 2) (by omega) (by omega)
  generalize (q.1 - p.1) * ((q.1 - p.1) * 1024 - D * mdv (q.1 - p.1) 1024 D) + (q.2 - p.2) * ((q.2 - p.2) * 1024 - D * mdv (q.2 - p.2) 1024 D) = Z at *
  generalize (q.1 - p.1) * mdv (q.1 - p.1) 1024 D + (q.2 - p.2) * mdv (q.2 - p.2) 1024 D = T at *
  generalize (q.1 - p.1) * (q.1 - p.1) + (q.2 - p.2) * (q.2 - p.2) = N at *
  have hS : 2 * ((3 * (D + 1) + 1) / 2) ≤ 3 * (D + 1) + 1 := by omega
  generalize (3 * (D + 1) + 1) / 2 = S at *
  have t1 : D * (1024 * D - S) ≤ D * T := by rw [Int.mul_sub]; have g1 : D * (1024 * D) = 1024 * (D * D) := by grind
                                             have g2 : D * S = S * D := Int.mul_comm _ _
                                             omega
  have t2 : D * T ≤ D * (1024 * D + 2048 + S) := by
    rw [Int.mul_add, Int.mul_add]
    have g1 : D * (1024 * D) = 1024 * (D * D) := by grind
    have g2 : D * S = S * D := Int.mul_comm _ _
    have g3 : (D + 1) * (D + 1) = D * D + 2 * D + 1 := by grind
    omega
  have u1 := Int.le_of_mul_le_mul_left t1 (by omega)
  have u2 := Int.le_of_mul_le_mul_left t2 (by omega)
  clear t1 t2 d1 d2 e1 a1 a2 b1 b2 n1 n2 eq1 hu hle c1 c2 c3 c4 hD
  omega
theorem circ_dep (R : Int) (p : V2) (T : Int) (q u : V2) : dep R [] p T [] q u = min (dotz p.1 p.2 u.1 u.2 + R) (dotz q.1 q.2 u.1 u.2 + T) - max (dotz p.1 p.2 u.1 u.2 - R) (dotz q.1 q.2 u.1 u.2 - T) := rfl
/-- What CollideCircles says in plain numbers. -/
theorem circles {R T : Int} {p q : V2} {D : Int} (hR : 1 ≤ R) (hT : 1 ≤ T) (hD : lnz (q.1 - p.1) (q.2 - p.2) = D) (h : 1024 ≤ D) :
    (hit R [] p T [] q = true → cnD R [] p T [] q ≤ R + T - D + (D / 256 + 3) ∧ D < R + T + (D / 256 + 3)) ∧ (hit R [] p T [] q = false → R + T - (D / 256 + 3) < D) := by
  obtain ⟨k1, k2⟩ := circ_dot hD h
  have hle := le_len (q.1 - p.1) (q.2 - p.2)
  rw [hD] at hle
  have hax : axl [] [] p q = [unt (dif q p)] := rfl
  have hdp := circ_dep R p T q (unt (dif q p))
  generalize unt (dif q p) = u at *
  generalize dotz p.1 p.2 u.1 u.2 = P at *
  generalize dotz q.1 q.2 u.1 u.2 = Q at *
  constructor
  · intro hh
    have hb : cnD R [] p T [] q = dep R [] p T [] q u := by
      unfold cnD bst; rw [if_pos hh, hax]; rfl
    rw [hb, hdp]
    rw [hit_iff, hax] at hh
    have := hh.2 u (by simp)
    rw [hdp] at this
    omega
  · intro hh
    by_cases ho : ovl R [] p T [] q = true
    · have hn : ¬ 0 < dep R [] p T [] q u := by
        intro hc
        have : hit R [] p T [] q = true := by
          rw [hit_iff, hax]; exact ⟨ho, fun x hx => by obtain rfl : x = u := by simpa using hx
                                                       exact hc⟩
        rw [this] at hh; cases hh
      rw [hdp] at hn
      omega
    · unfold ovl bx0 bx1 by0 by1 at ho
      simp only [if_true, decide_eq_true_eq] at ho
      omega

/-! ### A cross covered by both -/
/-- The point c and the four points at a distance of 4096 from it. -/
def Cv5 (R : Int) (vs : List V2) (p c : V2) : Prop := cov R vs (c.1 - p.1, c.2 - p.2) = true ∧ cov R vs (c.1 + 4096 - p.1, c.2 - p.2) = true ∧ cov R vs (c.1 - 4096 - p.1, c.2 - p.2) = true ∧
  cov R vs (c.1 - p.1, c.2 + 4096 - p.2) = true ∧ cov R vs (c.1 - p.1, c.2 - 4096 - p.2) = true
def slk (vs : List V2) : Int := if vs = [] then 193 else 0
theorem cov_near {R : Int} {vs : List V2} (hV : VShape R vs) (hR : R ≤ 32768) {px py x y a b : Int} (hu : vs ≠ [] ∨ a * a + b * b ≤ 1060900) (hc : cov R vs (x - px, y - py) = true) :
    plo R vs px py a b ≤ dotz x y a b + slk vs ∧ dotz x y a b ≤ phi R vs px py a b + slk vs := by
  by_cases hv : vs = []
  · subst hv
    have hR0 : 0 ≤ R := by rcases hV with ⟨_, h⟩ | ⟨_, h, _⟩ <;> simp at * <;> omega
    have h := dt_circle hR0 (cov_circle.1 hc) (L := 1030) (ax := a) (ay := b) (by omega) (by simpa using hu)
    unfold plo phi slk
    rw [if_pos rfl, if_pos rfl, if_pos rfl, dotz_rel px py x y]
    have e : dotz px py a b = dt (a, b) (px, py) / 1024 := rfl
    rw [e]
    omega
  · obtain ⟨rfl, hV⟩ := hV.poly hv
    have := cov_proj_poly hV hv px py x y a b hc
    unfold slk
    rw [if_neg hv]
    omega
theorem cross_near {R : Int} {vs : List V2} (hV : VShape R vs) (hR : R ≤ 32768) {p c u : V2} (hu : vs ≠ [] ∨ u.1 * u.1 + u.2 * u.2 ≤ 1060900) (hc : Cv5 R vs p c) :
    plo R vs p.1 p.2 u.1 u.2 ≤ dotz c.1 c.2 u.1 u.2 - max (max (4 * u.1) (-(4 * u.1))) (max (4 * u.2) (-(4 * u.2))) + slk vs ∧
    dotz c.1 c.2 u.1 u.2 + max (max (4 * u.1) (-(4 * u.1))) (max (4 * u.2) (-(4 * u.2))) ≤ phi R vs p.1 p.2 u.1 u.2 + slk vs := by
  obtain ⟨c0, c1, c2, c3, c4⟩ := hc
  have k1 := cov_near hV hR hu c1
  have k2 := cov_near hV hR hu c2
  have k3 := cov_near hV hR hu c3
  have k4 := cov_near hV hR hu c4
  have e : ∀ i k : Int, dotz (c.1 + i * 1024) (c.2 + k * 1024) u.1 u.2 = dotz c.1 c.2 u.1 u.2 + (i * u.1 + k * u.2) := by
    intro i k
    have := dotz_step c.1 c.2 u.1 u.2 i k 0 0
    simpa only [Int.add_zero] using this
  have e1 := e 4 0; have e2 := e (-4) 0; have e3 := e 0 4; have e4 := e 0 (-4)
  rw [show c.1 + 4 * 1024 = c.1 + 4096 by omega, show c.2 + 0 * 1024 = c.2 by omega] at e1
  rw [show c.1 + -4 * 1024 = c.1 - 4096 by omega, show c.2 + 0 * 1024 = c.2 by omega] at e2
  rw [show c.1 + 0 * 1024 = c.1 by omega, show c.2 + 4 * 1024 = c.2 + 4096 by omega] at e3
  rw [show c.1 + 0 * 1024 = c.1 by omega, show c.2 + -4 * 1024 = c.2 - 4096 by omega] at e4
  rw [e1] at k1; rw [e2] at k2; rw [e3] at k3; rw [e4] at k4
  omega
/-- An axis of a vector that is not short is nearly a unit vector. -/
theorem unt_near {v : V2} {L : Int} (hL : lnz v.1 v.2 = L) (h : 256 ≤ L) : (unt v).1 * (unt v).1 + (unt v).2 * (unt v).2 ≤ 1060900 ∧ (511 ≤ (unt v).1 ∨ (unt v).1 ≤ -511 ∨ 511 ≤ (unt v).2 ∨ (unt v).2 ≤ -511) := by
  obtain ⟨n1, n2⟩ := lnz_spec v.1 v.2
  have hle := le_len v.1 v.2
  rw [hL] at n1 n2 hle
  have hu : unt v = (mdv v.1 1024 L, mdv v.2 1024 L) := by
    unfold unt
    rw [hL, if_neg]
    rintro ⟨a, b⟩
    rw [a, b] at n1
    have := sq_mono (a := 256) (b := L) (by omega) h
    omega
  rw [hu]
  dsimp only
  obtain ⟨a1, a2⟩ := mdv_pos v.1 1024 (c := L) (by omega)
  obtain ⟨b1, b2⟩ := mdv_pos v.2 1024 (c := L) (by omega)
  generalize mdv v.1 1024 L = a at *
  generalize mdv v.2 1024 L = b at *
  generalize v.1 = x at *
  generalize v.2 = y at *
  clear hu hL
  constructor
  · obtain ⟨c1, c2, c3, c4⟩ := two_sum (by omega) n2
    have e1 : (L * L) * (a * a + b * b) = 1048576 * (x * x + y * y) - 2048 * (x * (x * 1024 - L * a) + y * (y * 1024 - L * b)) + ((x * 1024 - L * a) * (x * 1024 - L * a) + (y * 1024 - L * b) * (y * 1024 - L * b)) := by grind
    obtain ⟨d1, d2⟩ := mul_sum (x := x) (y := y) (r := x * 1024 - L * a) (s := y * 1024 - L * b) (D := L) (by omega) (by omega) (S := 2 * L) (by omega) (by omega)
    have q1 := sq_mono (a := x * 1024 - L * a) (b := L) (by omega) (by omega)
    have q2 := sq_mono (a := y * 1024 - L * b) (b := L) (by omega) (by omega)
    have q3 := sq_mono (a := 1024 * (L + 1)) (b := 1028 * L) (by omega) (by omega)
    have f1 : 1024 * (L + 1) * (1024 * (L + 1)) = 1048576 * ((L + 1) * (L + 1)) := by grind
    have f2 : 1028 * L * (1028 * L) = 1056784 * (L * L) := by grind
    have f3 : 2 * L * L = 2 * (L * L) := by grind
    have hLL : 0 < L * L := Int.mul_pos (by omega) (by omega)
    have key : (L * L) * (a * a + b * b) ≤ (L * L) * 1060900 := by omega
    exact Int.le_of_mul_le_mul_left key hLL
  · have hm : (L ≤ 2 * x ∨ 2 * x ≤ -L) ∨ (L ≤ 2 * y ∨ 2 * y ≤ -L) := by
      refine Classical.byContradiction fun hn => ?_
      have m1 := mul_bd (a := 2 * x) (b := 2 * x) (A := L - 1) (B := L - 1) (by omega) (by omega)
      have m2 := mul_bd (a := 2 * y) (b := 2 * y) (A := L - 1) (B := L - 1) (by omega) (by omega)
      have g1 : 2 * x * (2 * x) = 4 * (x * x) := by grind
      have g2 : 2 * y * (2 * y) = 4 * (y * y) := by grind
      have g3 : (L - 1) * (L - 1) = L * L - 2 * L + 1 := by grind
      have hLL : 0 < L * L := Int.mul_pos (by omega) (by omega)
      omega
    have key : ∀ x a : Int, L * a ≤ x * 1024 → x * 1024 < L * a + L → (L ≤ 2 * x ∨ 2 * x ≤ -L) → 511 ≤ a ∨ a ≤ -511 := by
      intro x a k1 k2 k3
      refine Classical.byContradiction fun hn => ?_
      rcases k3 with k3 | k3
      · have : L * a ≤ L * 510 := Int.mul_le_mul_of_nonneg_left (by omega) (by omega)
        omega
      · have : L * -510 ≤ L * a := Int.mul_le_mul_of_nonneg_left (by omega) (by omega)
        omega
    rcases hm with hm | hm
    · rcases key x a a1 a2 hm with h | h <;> simp [h]
    · rcases key y b b1 b2 hm with h | h <;> simp [h]
theorem unt_ne (v : V2) : ¬ ((unt v).1 = 0 ∧ (unt v).2 = 0) := by
  unfold unt
  split
  · simp
  · rename_i h; exact nrm_ne h
/-- No edge is short. -/
def Lng (vs : List V2) : Prop := ∀ i, i < vs.length → 1024 ≤ (ednx vs i).1 ∨ (ednx vs i).1 ≤ -1024 ∨ 1024 ≤ (ednx vs i).2 ∨ (ednx vs i).2 ≤ -1024
theorem len_long {v : V2} (h : 1024 ≤ v.1 ∨ v.1 ≤ -1024 ∨ 1024 ≤ v.2 ∨ v.2 ≤ -1024) : 256 ≤ lnz v.1 v.2 := by
  have := le_len v.1 v.2; omega
theorem eaxs_near {vs : List V2} (h : Lng vs) : ∀ u ∈ eaxs vs, u.1 * u.1 + u.2 * u.2 ≤ 1060900 ∧ (511 ≤ u.1 ∨ u.1 ≤ -511 ∨ 511 ≤ u.2 ∨ u.2 ≤ -511) := by
  intro u hu
  obtain ⟨i, hi, rfl⟩ := List.mem_map.1 hu
  exact unt_near rfl (len_long (h i (by simpa using hi)))
/-- An axis that is nearly a unit vector does not part two shapes that both cover the cross. -/
theorem near_dep {Ra : Int} {va : List V2} {p : V2} {Rb : Int} {vb : List V2} {q c u : V2} (hA : VShape Ra va) (hB : VShape Rb vb) (rA : Ra ≤ 32768) (rB : Rb ≤ 32768) (cA : Cv5 Ra va p c) (cB : Cv5 Rb vb q c)
    (hu : u.1 * u.1 + u.2 * u.2 ≤ 1060900) (hm : 511 ≤ u.1 ∨ u.1 ≤ -511 ∨ 511 ≤ u.2 ∨ u.2 ≤ -511) : 0 < dep Ra va p Rb vb q u := by
  have a := cross_near hA rA (.inr hu) cA
  have b := cross_near hB rB (.inr hu) cB
  have sa : 0 ≤ slk va ∧ slk va ≤ 193 := by unfold slk; split <;> omega
  have sb : 0 ≤ slk vb ∧ slk vb ≤ 193 := by unfold slk; split <;> omega
  unfold dep
  omega
theorem poly_dep {Ra : Int} {va : List V2} {p : V2} {Rb : Int} {vb : List V2} {q c u : V2} (hA : VShape Ra va) (hB : VShape Rb vb) (rA : Ra ≤ 32768) (rB : Rb ≤ 32768) (na : va ≠ []) (nb : vb ≠ []) (cA : Cv5 Ra va p c) (cB : Cv5 Rb vb q c)
    (hu : ¬ (u.1 = 0 ∧ u.2 = 0)) : 0 < dep Ra va p Rb vb q u := by
  have a := cross_near (u := u) hA rA (.inl na) cA
  have b := cross_near (u := u) hB rB (.inl nb) cB
  unfold slk at a b
  rw [if_neg na] at a
  rw [if_neg nb] at b
  unfold dep
  omega
theorem Cv5.big {R : Int} {p c : V2} (hR : 0 ≤ R) (h : Cv5 R [] p c) : 4096 ≤ R := by
  obtain ⟨_, h1, h2, _⟩ := h
  rw [cov_circle] at h1 h2
  have a := sq_le hR h1
  have b := sq_le hR h2
  dsimp only at a b
  omega
/-- A short step hardly moves a projection. -/
theorem short_dot {d u : V2} (hd : lnz d.1 d.2 < 256) (hu : (-1024 ≤ u.1 ∧ u.1 ≤ 1024) ∧ (-1024 ≤ u.2 ∧ u.2 ≤ 1024)) (x y : Int) : dotz x y u.1 u.2 - 512 ≤ dotz (x + d.1) (y + d.2) u.1 u.2 ∧ dotz (x + d.1) (y + d.2) u.1 u.2 ≤ dotz x y u.1 u.2 + 512 := by
  have h := le_len d.1 d.2
  have m1 := mul_bd (a := d.1) (b := u.1) (A := 255) (B := 1024) (by omega) (by omega)
  have m2 := mul_bd (a := d.2) (b := u.2) (A := 255) (B := 1024) (by omega) (by omega)
  unfold dotz
  have e : (x + d.1) * u.1 + (y + d.2) * u.2 = (x * u.1 + y * u.2) + (d.1 * u.1 + d.2 * u.2) := by grind
  rw [e]
  omega
/-- A circle and another shape, along the axis of the step from the circle's centre to a point that projects into the other's range. -/
theorem short_dep {R : Int} {p : V2} {Rb : Int} {vb : List V2} {q u d : V2} (hR : 4096 ≤ R) (hd : lnz d.1 d.2 < 256) (hu : (-1024 ≤ u.1 ∧ u.1 ≤ 1024) ∧ (-1024 ≤ u.2 ∧ u.2 ≤ 1024))
    (h1 : plo Rb vb q.1 q.2 u.1 u.2 ≤ dotz (p.1 + d.1) (p.2 + d.2) u.1 u.2) (h2 : dotz (p.1 + d.1) (p.2 + d.2) u.1 u.2 ≤ phi Rb vb q.1 q.2 u.1 u.2) (h3 : plo Rb vb q.1 q.2 u.1 u.2 < phi Rb vb q.1 q.2 u.1 u.2) : 0 < dep R [] p Rb vb q u := by
  have k := short_dot hd hu p.1 p.2
  have e1 : phi R [] p.1 p.2 u.1 u.2 = dotz p.1 p.2 u.1 u.2 + R := rfl
  have e2 : plo R [] p.1 p.2 u.1 u.2 = dotz p.1 p.2 u.1 u.2 - R := rfl
  unfold dep
  rw [e1, e2]
  omega
theorem range_pos {Rb : Int} {vb : List V2} (hB : VShape Rb vb) (rB : Rb ≤ 32768) {q c u : V2} (cB : Cv5 Rb vb q c) (hu : ¬ (u.1 = 0 ∧ u.2 = 0)) : plo Rb vb q.1 q.2 u.1 u.2 < phi Rb vb q.1 q.2 u.1 u.2 := by
  by_cases hv : vb = []
  · subst hv
    have hR : 0 ≤ Rb := by rcases hB with ⟨_, h⟩ | ⟨_, h, _⟩ <;> simp at * <;> omega
    have := cB.big hR
    show dotz q.1 q.2 u.1 u.2 - Rb < dotz q.1 q.2 u.1 u.2 + Rb
    omega
  · have b := cross_near (u := u) hB rB (.inl hv) cB
    unfold slk at b
    rw [if_neg hv] at b
    omega
/-- Along the axis from a circle's centre. -/
theorem centre_dep {R : Int} {p : V2} {Rb : Int} {vb : List V2} {q c d : V2} (hA : VShape R []) (hB : VShape Rb vb) (rA : R ≤ 32768) (rB : Rb ≤ 32768) (cA : Cv5 R [] p c) (cB : Cv5 Rb vb q c)
    (h : ∀ u : V2, plo Rb vb q.1 q.2 u.1 u.2 ≤ dotz (p.1 + d.1) (p.2 + d.2) u.1 u.2 ∧ dotz (p.1 + d.1) (p.2 + d.2) u.1 u.2 ≤ phi Rb vb q.1 q.2 u.1 u.2) : 0 < dep R [] p Rb vb q (unt d) := by
  have hR : 0 ≤ R := by rcases hA with ⟨_, h⟩ | ⟨_, h, _⟩ <;> simp at * <;> omega
  by_cases hl : 256 ≤ lnz d.1 d.2
  · obtain ⟨k1, k2⟩ := unt_near rfl hl
    exact near_dep hA hB rA rB cA cB k1 k2
  · exact short_dep (cA.big hR) (by omega) (unt_bd d) (h _).1 (h _).2 (range_pos hB rB cB (unt_ne d))
theorem nrs_range {R : Int} {vs : List V2} (hv : vs ≠ []) (q p : V2) (u : V2) : plo R vs q.1 q.2 u.1 u.2 ≤ dotz (p.1 + (plus (dif q p) (nrs (dif q p) vs)).1) (p.2 + (plus (dif q p) (nrs (dif q p) vs)).2) u.1 u.2 ∧
    dotz (p.1 + (plus (dif q p) (nrs (dif q p) vs)).1) (p.2 + (plus (dif q p) (nrs (dif q p) vs)).2) u.1 u.2 ≤ phi R vs q.1 q.2 u.1 u.2 := by
  have hm := nrs_mem (dif q p) hv
  generalize nrs (dif q p) vs = v at *
  have e : dotz (p.1 + (plus (dif q p) v).1) (p.2 + (plus (dif q p) v).2) u.1 u.2 = pdt q.1 q.2 u.1 u.2 v := by
    unfold pdt plus dif; dsimp only; congr 1 <;> omega
  rw [e]
  unfold plo phi
  rw [if_neg hv, if_neg hv]
  exact ⟨(mnl_spec _ hv).1 v hm, (mxl_spec _ hv).1 v hm⟩
/-- What CollideMeets says in plain numbers. -/
theorem meets {Ra : Int} {va : List V2} {p : V2} {Rb : Int} {vb : List V2} {q c : V2} (hA : VShape Ra va) (hB : VShape Rb vb) (rA : 0 ≤ Ra ∧ Ra ≤ 32768) (rB : 0 ≤ Rb ∧ Rb ≤ 32768) (lA : Lng va) (lB : Lng vb) (cA : Cv5 Ra va p c) (cB : Cv5 Rb vb q c) : hit Ra va p Rb vb q = true := by
  rw [hit_iff]
  constructor
  · obtain ⟨a1, a2, a3, a4⟩ := cov_box hA cA.1
    obtain ⟨b1, b2, b3, b4⟩ := cov_box hB cB.1
    dsimp only at *
    unfold ovl
    rw [decide_eq_true_eq]
    omega
  · intro u hu
    by_cases na : va = []
    · subst na
      by_cases nb : vb = []
      · subst nb
        have hax : axl [] [] p q = [unt (dif q p)] := rfl
        rw [hax] at hu
        obtain rfl : u = unt (dif q p) := by simpa using hu
        refine centre_dep hA hB rA.2 rB.2 cA cB (fun u => ?_)
        have e : dotz (p.1 + (dif q p).1) (p.2 + (dif q p).2) u.1 u.2 = dotz q.1 q.2 u.1 u.2 := by unfold dif; dsimp only; congr 1 <;> omega
        rw [e]
        show dotz q.1 q.2 u.1 u.2 - Rb ≤ dotz q.1 q.2 u.1 u.2 ∧ dotz q.1 q.2 u.1 u.2 ≤ dotz q.1 q.2 u.1 u.2 + Rb
        omega
      · unfold axl btw at hu
        rw [if_pos rfl, if_neg nb] at hu
        rcases List.mem_append.1 hu with hu | hu
        · have hu : u ∈ eaxs vb := by simpa [eaxs] using hu
          obtain ⟨k1, k2⟩ := eaxs_near lB u hu
          exact near_dep hA hB rA.2 rB.2 cA cB k1 k2
        · obtain rfl : u = _ := by simpa using hu
          exact centre_dep hA hB rA.2 rB.2 cA cB (fun u => nrs_range nb q p u)
    · by_cases nb : vb = []
      · subst nb
        unfold axl btw at hu
        rw [if_neg na, if_pos rfl] at hu
        rcases List.mem_append.1 hu with hu | hu
        · have hu : u ∈ eaxs va := by simpa [eaxs] using hu
          obtain ⟨k1, k2⟩ := eaxs_near lA u hu
          exact near_dep hA hB rA.2 rB.2 cA cB k1 k2
        · obtain rfl : u = _ := by simpa using hu
          rw [dep_comm]
          exact centre_dep hB hA rB.2 rA.2 cB cA (fun u => nrs_range na p q u)
      · have hn : ¬ (u.1 = 0 ∧ u.2 = 0) := by
          rw [axl_poly na nb] at hu
          rcases List.mem_append.1 hu with hu | hu <;> obtain ⟨i, _, rfl⟩ := List.mem_map.1 hu <;> exact unt_ne _
        exact poly_dep hA hB rA.2 rB.2 na nb cA cB hn
end Go.Proofs.Ytipcppbbpmdijaa
