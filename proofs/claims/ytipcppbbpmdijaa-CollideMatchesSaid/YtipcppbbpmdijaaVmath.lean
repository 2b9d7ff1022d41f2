/-
  Plain facts on dot and cross products, lengths and unit vectors of whole numbers. Conditions: as each theorem states. No program in sight.
-/
import Derived.Test.YtipcppbbpmdijaaVecw
namespace Go.Proofs.Ytipcppbbpmdijaa
open Go.RowKit

/-- A cell that could be written still can be. -/
theorem frozen_new {W w1 : World} (hb : Below W.heap.size W w1) {b o : Nat} (h : b < W.heap.size) (hf : W.frozen? ⟨b, o, none⟩ = false) : w1.frozen? ⟨b, o, none⟩ = false := (hb.frozen (p := ⟨b, o, none⟩) h).trans hf

theorem dot_perp (ax ay : Int) : dotz ax ay (-ay) ax = 0 := by
  unfold dotz
  have : ax * -ay + ay * ax = 0 := by grind
  rw [this]; rfl
theorem cross_perp (ax ay bx b_y : Int) : crz ax ay bx b_y = dotz (-ay) ax bx b_y := by
  unfold dotz crz
  have : ax * b_y - ay * bx = -ay * bx + ax * b_y := by grind
  rw [this]
theorem dot_comm (ax ay bx b_y : Int) : dotz ax ay bx b_y = dotz bx b_y ax ay := by
  unfold dotz
  rw [Int.mul_comm ax, Int.mul_comm ay]
theorem cross_self (ax ay : Int) : crz ax ay ax ay = 0 := by
  unfold crz
  have : ax * ay - ay * ax = 0 := by grind
  rw [this]; rfl
theorem len_perp (ax ay : Int) : lnz ax ay = lnz (-ay) ax := by
  unfold lnz
  have : -ay * -ay + ax * ax = ax * ax + ay * ay := by grind
  rw [this]
theorem len_neg (ax ay : Int) : lnz (-ax) (-ay) = lnz ax ay := by unfold lnz; rw [Int.neg_mul_neg, Int.neg_mul_neg]
theorem sq_nonneg (a : Int) : 0 ≤ a * a := by
  rcases Int.le_total 0 a with h | h
  · exact Int.mul_nonneg h h
  · exact Int.mul_nonneg_of_nonpos_of_nonpos h h
theorem lnz_nonneg (ax ay : Int) : 0 ≤ lnz ax ay := isq_nonneg _
theorem lnz_spec (ax ay : Int) : lnz ax ay * lnz ax ay ≤ ax * ax + ay * ay ∧ ax * ax + ay * ay < (lnz ax ay + 1) * (lnz ax ay + 1) :=
  isq_spec (by have := sq_nonneg ax; have := sq_nonneg ay; omega)
theorem lnz_le {ax ay M : Int} (h1 : -M ≤ ax ∧ ax ≤ M) (h2 : -M ≤ ay ∧ ay ≤ M) : lnz ax ay ≤ 2 * M := by
  have p1 := mul_bd h1 h1
  have p2 := mul_bd h2 h2
  refine isq_le_of (by omega) ?_
  have : 2 * M * (2 * M) = M * M + M * M + 2 * (M * M) := by grind
  have := sq_nonneg M
  omega

/-- Cauchy's inequality, in squares. -/
theorem cauchy (ax ay bx b_y : Int) : (ax * bx + ay * b_y) * (ax * bx + ay * b_y) ≤ (ax * ax + ay * ay) * (bx * bx + b_y * b_y) := by
  have h := sq_nonneg (ax * b_y - ay * bx)
  have e : (ax * ax + ay * ay) * (bx * bx + b_y * b_y) = (ax * bx + ay * b_y) * (ax * bx + ay * b_y) + (ax * b_y - ay * bx) * (ax * b_y - ay * bx) := by grind
  omega
/-- The dot product is below the product of the lengths, each rounded up. -/
theorem dot_lt (ax ay bx b_y : Int) : ax * bx + ay * b_y < (lnz ax ay + 1) * (lnz bx b_y + 1) := by
  have c := cauchy ax ay bx b_y
  obtain ⟨_, a2⟩ := lnz_spec ax ay
  obtain ⟨_, b2⟩ := lnz_spec bx b_y
  have la := lnz_nonneg ax ay
  have lb := lnz_nonneg bx b_y
  have hA : 0 ≤ lnz ax ay + 1 := by omega
  have hB : 0 ≤ lnz bx b_y + 1 := by omega
  have hAB := Int.mul_nonneg hA hB
  generalize lnz ax ay + 1 = A at *
  generalize lnz bx b_y + 1 = B at *
  have na := sq_nonneg ax
  have nb := sq_nonneg ay
  have nc := sq_nonneg bx
  have nd := sq_nonneg b_y
  generalize hN : ax * ax + ay * ay = N at *
  generalize hM : bx * bx + b_y * b_y = M at *
  generalize ax * bx + ay * b_y = s at *
  have h1 : N * M < (A * A) * (B * B) := by
    have k1 : N * M ≤ N * (B * B) := Int.mul_le_mul_of_nonneg_left (by omega) (by omega)
    have k2 : N * (B * B) < (A * A) * (B * B) := Int.mul_lt_mul_of_pos_right a2 (by omega)
    omega
  have h2 : (A * A) * (B * B) = (A * B) * (A * B) := by grind
  by_cases hs : 0 ≤ s
  · exact sq_lt_of hs hAB (by omega)
  · omega
theorem dot_gt (ax ay bx b_y : Int) : -((lnz ax ay + 1) * (lnz bx b_y + 1)) < ax * bx + ay * b_y := by
  have h := dot_lt (-ax) (-ay) bx b_y
  rw [len_neg] at h
  have e : -ax * bx + -ay * b_y = -(ax * bx + ay * b_y) := by grind
  omega
theorem abz_floor {s M : Int} (h1 : -M < s) (h2 : s < M) : abz (s / 1024) * 1024 ≤ M + 1024 := by unfold abz; split <;> omega
theorem dot_abs (ax ay bx b_y : Int) : abz (dotz ax ay bx b_y) * 1024 ≤ (lnz ax ay + 1) * (lnz bx b_y + 1) + 1024 := abz_floor (dot_gt ax ay bx b_y) (dot_lt ax ay bx b_y)
theorem cross_abs (ax ay bx b_y : Int) : abz (crz ax ay bx b_y) * 1024 ≤ (lnz ax ay + 1) * (lnz bx b_y + 1) + 1024 := by
  rw [cross_perp, len_perp]; exact dot_abs _ _ _ _

theorem dotz_bd {ax ay bx b_y M : Int} (h1 : -M ≤ ax ∧ ax ≤ M) (h2 : -M ≤ ay ∧ ay ≤ M) (h3 : -M ≤ bx ∧ bx ≤ M) (h4 : -M ≤ b_y ∧ b_y ≤ M) : -(2 * (M * M)) ≤ dotz ax ay bx b_y ∧ dotz ax ay bx b_y ≤ 2 * (M * M) := by
  have p1 := mul_bd h1 h3
  have p2 := mul_bd h2 h4
  unfold dotz; omega
theorem crz_bd {ax ay bx b_y M : Int} (h1 : -M ≤ ax ∧ ax ≤ M) (h2 : -M ≤ ay ∧ ay ≤ M) (h3 : -M ≤ bx ∧ bx ≤ M) (h4 : -M ≤ b_y ∧ b_y ≤ M) : -(2 * (M * M)) ≤ crz ax ay bx b_y ∧ crz ax ay bx b_y ≤ 2 * (M * M) := by
  rw [cross_perp]; exact dotz_bd (by omega) h1 h3 h4
theorem abz_nonneg (n : Int) : 0 ≤ abz n := by unfold abz; split <;> omega
/-- A quotient by a number above 0 keeps to the dividend's bounds, but for the rounding. -/
theorem mdv_bd {x n c M : Int} (hc : 0 < c) (h : -M ≤ x * n ∧ x * n ≤ M) : -M ≤ mdv x n c ∧ mdv x n c ≤ M := by
  have h1 := mdv_pos x n hc
  generalize mdv x n c = q at *
  have hM : 0 ≤ M := by omega
  constructor
  · false_or_by_contra
    rename_i hq
    have := Int.mul_le_mul_of_nonneg_left (show q + 1 ≤ -M by omega) (show 0 ≤ c by omega)
    have e : c * (q + 1) = c * q + c := by grind
    have e2 : c * -M = -(c * M) := by grind
    have := Int.mul_le_mul_of_nonneg_right (show 1 ≤ c by omega) hM
    omega
  · false_or_by_contra
    rename_i hq
    have := Int.mul_le_mul_of_nonneg_left (show M + 1 ≤ q by omega) (show 0 ≤ c by omega)
    have e : c * (M + 1) = c * M + c := by grind
    have := Int.mul_le_mul_of_nonneg_right (show 1 ≤ c by omega) hM
    omega
/-- The triangle inequality, each length rounded down. -/
theorem tri (ax ay bx b_y : Int) : lnz (ax + bx) (ay + b_y) ≤ lnz ax ay + lnz bx b_y + 1 := by
  have d := dot_lt ax ay bx b_y
  obtain ⟨_, a2⟩ := lnz_spec ax ay
  obtain ⟨_, b2⟩ := lnz_spec bx b_y
  have la := lnz_nonneg ax ay
  have lb := lnz_nonneg bx b_y
  have h : lnz (ax + bx) (ay + b_y) < lnz ax ay + 1 + (lnz bx b_y + 1) := by
    unfold lnz at *
    refine isq_lt (by omega) ?_
    generalize isq (ax * ax + ay * ay) + 1 = A at *
    generalize isq (bx * bx + b_y * b_y) + 1 = B at *
    have e : (ax + bx) * (ax + bx) + (ay + b_y) * (ay + b_y) = (ax * ax + ay * ay) + 2 * (ax * bx + ay * b_y) + (bx * bx + b_y * b_y) := by grind
    have e2 : (A + B) * (A + B) = A * A + 2 * (A * B) + B * B := by grind
    omega
  omega
theorem tri_back (ax ay bx b_y : Int) : lnz ax ay ≤ lnz (ax + bx) (ay + b_y) + lnz bx b_y + 1 := by
  have h := tri (ax + bx) (ay + b_y) (-bx) (-b_y)
  rw [len_neg] at h
  have e1 : ax + bx + -bx = ax := by omega
  have e2 : ay + b_y + -b_y = ay := by omega
  rwa [e1, e2] at h
theorem tri_abs (ax ay bx b_y : Int) : abz (lnz ax ay - lnz bx b_y) ≤ lnz (ax + bx) (ay + b_y) + 1 := by
  have h1 := tri_back ax ay bx b_y
  have h2 := tri_back bx b_y ax ay
  rw [Int.add_comm bx, Int.add_comm b_y] at h2
  unfold abz; split <;> omega
theorem len_zero {ax ay : Int} (h : lnz ax ay = 0) : ax = 0 ∧ ay = 0 := by
  obtain ⟨_, h2⟩ := lnz_spec ax ay
  rw [h] at h2
  have na := sq_nonneg ax
  have nb := sq_nonneg ay
  have k : ∀ z : Int, z * z < 1 → z = 0 := fun z hz => by
    false_or_by_contra
    rename_i hn
    rcases Int.lt_or_gt_of_ne hn with g | g
    · have := Int.mul_le_mul (show (1 : Int) ≤ -z by omega) (show (1 : Int) ≤ -z by omega) (by decide) (by omega)
      rw [Int.neg_mul_neg] at this; omega
    · have := Int.mul_le_mul (show (1 : Int) ≤ z by omega) (show (1 : Int) ≤ z by omega) (by decide) (by omega)
      omega
  exact ⟨k ax (by omega), k ay (by omega)⟩

/-! ### Unit vectors -/
/-- The two bounds of a unit vector's length, in squares scaled by k: U is its square, R the square of what the rounding took, A the square of the vector itself. -/
theorem unit_hi {k U R A d : Int} (hk : 0 < k) (hA : A = U + 2 * d + R) (hd : d * d ≤ U * R) (hR0 : 0 ≤ R) (hR : R ≤ 2 * k) (hA1 : A ≤ 1050625 * k) : U < 1054729 * k := by
  false_or_by_contra
  rename_i hc
  obtain ⟨e, rfl⟩ : ∃ e, U = 1054729 * k + e := ⟨U - 1054729 * k, by omega⟩
  have he : 0 ≤ e := by omega
  have h1 : 4104 * k + e ≤ -(2 * d) := by omega
  have h2 := Int.mul_le_mul h1 h1 (by omega) (by omega)
  have h3 : (1054729 * k + e) * R ≤ (1054729 * k + e) * (2 * k) := Int.mul_le_mul_of_nonneg_left hR (by omega)
  have kk : 0 < k * k := Int.mul_pos hk hk
  have ke : 0 ≤ k * e := Int.mul_nonneg (by omega) he
  have ee := sq_nonneg e
  have e1 : (4104 * k + e) * (4104 * k + e) = 16842816 * (k * k) + 8208 * (k * e) + e * e := by grind
  have e2 : -(2 * d) * -(2 * d) = 4 * (d * d) := by grind
  have e3 : (1054729 * k + e) * (2 * k) = 2109458 * (k * k) + 2 * (k * e) := by grind
  omega
theorem unit_lo {k U R A d : Int} (hk : 0 < k) (hA : A = U + 2 * d + R) (hd : d * d ≤ U * R) (hU : 0 ≤ U) (hR : R ≤ 2 * k) (hA1 : 1048576 * k ≤ A) : 1044484 * k ≤ U := by
  false_or_by_contra
  rename_i hc
  have h1 : 4090 * k ≤ 2 * d := by omega
  have h2 := Int.mul_le_mul h1 h1 (by omega) (by omega)
  have h3 : U * R ≤ U * (2 * k) := Int.mul_le_mul_of_nonneg_left hR hU
  have h4 : U * (2 * k) ≤ 1044484 * k * (2 * k) := Int.mul_le_mul_of_nonneg_right (by omega) (by omega)
  have kk : 0 < k * k := Int.mul_pos hk hk
  have e1 : (4090 * k) * (4090 * k) = 16728100 * (k * k) := by grind
  have e2 : 2 * d * (2 * d) = 4 * (d * d) := by grind
  have e3 : 1044484 * k * (2 * k) = 2088968 * (k * k) := by grind
  omega
/-- The length of a unit vector, squared, where the vector is at least One long. -/
theorem unit_sq {ax ay : Int} (hL : 1024 ≤ lnz ax ay) :
    1044484 ≤ mdv ax 1024 (lnz ax ay) * mdv ax 1024 (lnz ax ay) + mdv ay 1024 (lnz ax ay) * mdv ay 1024 (lnz ax ay) ∧
      mdv ax 1024 (lnz ax ay) * mdv ax 1024 (lnz ax ay) + mdv ay 1024 (lnz ax ay) * mdv ay 1024 (lnz ax ay) < 1054729 := by
  obtain ⟨s1, s2⟩ := lnz_spec ax ay
  have m1 := mdv_pos ax 1024 (c := lnz ax ay) (by omega)
  have m2 := mdv_pos ay 1024 (c := lnz ax ay) (by omega)
  generalize mdv ax 1024 (lnz ax ay) = nx at *
  generalize mdv ay 1024 (lnz ax ay) = ny at *
  generalize lnz ax ay = L at *
  obtain ⟨rx, hrx⟩ : ∃ r, ax * 1024 = L * nx + r := ⟨ax * 1024 - L * nx, by omega⟩
  obtain ⟨ry, hry⟩ : ∃ r, ay * 1024 = L * ny + r := ⟨ay * 1024 - L * ny, by omega⟩
  have r1 : 0 ≤ rx ∧ rx ≤ L := by omega
  have r2 : 0 ≤ ry ∧ ry ≤ L := by omega
  have q1 := Int.mul_le_mul r1.2 r1.2 r1.1 (by omega)
  have q2 := Int.mul_le_mul r2.2 r2.2 r2.1 (by omega)
  have n1 := sq_nonneg rx
  have n2 := sq_nonneg ry
  have kp : 0 < L * L := Int.mul_pos (by omega) (by omega)
  have hd := cauchy (L * nx) (L * ny) rx ry
  have hA : (ax * 1024) * (ax * 1024) + (ay * 1024) * (ay * 1024) = ((L * nx) * (L * nx) + (L * ny) * (L * ny)) + 2 * (L * nx * rx + L * ny * ry) + (rx * rx + ry * ry) := by rw [hrx, hry]; grind
  have hA2 : (ax * 1024) * (ax * 1024) + (ay * 1024) * (ay * 1024) = 1048576 * (ax * ax + ay * ay) := by grind
  have hL2 : (L + 1) * (L + 1) * 1048576 ≤ 1050625 * (L * L) := by
    have h := Int.mul_le_mul (show 1024 * (L + 1) ≤ 1025 * L by omega) (show 1024 * (L + 1) ≤ 1025 * L by omega) (by omega) (by omega)
    have e1 : 1024 * (L + 1) * (1024 * (L + 1)) = (L + 1) * (L + 1) * 1048576 := by grind
    have e2 : 1025 * L * (1025 * L) = 1050625 * (L * L) := by grind
    omega
  have hi := unit_hi kp hA hd (by omega) (by omega) (by omega)
  have lo := unit_lo kp hA hd (by have := sq_nonneg (L * nx); have := sq_nonneg (L * ny); omega) (by omega) (by omega)
  have eU : (L * nx) * (L * nx) + (L * ny) * (L * ny) = (nx * nx + ny * ny) * (L * L) := by grind
  rw [eU] at hi lo
  exact ⟨Int.le_of_mul_le_mul_right lo kp, Int.lt_of_mul_lt_mul_right hi (by omega)⟩
theorem unit_len {ax ay : Int} (hL : 1024 ≤ lnz ax ay) : abz (lnz (mdv ax 1024 (lnz ax ay)) (mdv ay 1024 (lnz ax ay)) - 1024) ≤ 2 := by
  obtain ⟨h1, h2⟩ := unit_sq hL
  have k1 := le_isq (r := 1022) (by decide) h1
  have k2 := isq_lt (r := 1027) (by decide) h2
  unfold abz lnz at *
  split <;> omega
theorem le_of_sq {a M : Int} (hM : 0 ≤ M) (h : a * a ≤ M * M) : -M ≤ a ∧ a ≤ M := by
  constructor
  · by_cases h0 : 0 ≤ a
    · omega
    · have := sq_le_of (a := -a) (b := M) (by omega) hM (by rw [Int.neg_mul_neg]; exact h)
      omega
  · by_cases h0 : 0 ≤ a
    · exact sq_le_of h0 hM h
    · omega
theorem unit_bd {ax ay : Int} (hL : 1024 ≤ lnz ax ay) : (-1027 ≤ mdv ax 1024 (lnz ax ay) ∧ mdv ax 1024 (lnz ax ay) ≤ 1027) ∧ (-1027 ≤ mdv ay 1024 (lnz ax ay) ∧ mdv ay 1024 (lnz ax ay) ≤ 1027) := by
  obtain ⟨_, h⟩ := unit_sq hL
  have n1 := sq_nonneg (mdv ax 1024 (lnz ax ay))
  have n2 := sq_nonneg (mdv ay 1024 (lnz ax ay))
  exact ⟨le_of_sq (by decide) (by omega), le_of_sq (by decide) (by omega)⟩
/-- The sign of a quotient by a number above 0. -/
theorem mdv_sign {a c : Int} (hc : 0 < c) : (a < 0 → mdv a 1024 c < 0) ∧ (0 ≤ a → 0 ≤ mdv a 1024 c) := by
  have h1 := mdv_pos a 1024 hc
  generalize mdv a 1024 c = q at *
  constructor
  · intro h
    false_or_by_contra
    rename_i hq
    have := Int.mul_nonneg (show 0 ≤ c by omega) (show 0 ≤ q by omega)
    omega
  · intro h
    false_or_by_contra
    rename_i hq
    have := Int.mul_le_mul_of_nonneg_left (show q + 1 ≤ 0 by omega) (show 0 ≤ c by omega)
    have e : c * (q + 1) = c * q + c := by grind
    omega
theorem mdv_mul_nonneg {a c : Int} (hc : 0 < c) : 0 ≤ mdv a 1024 c * a := by
  obtain ⟨h1, h2⟩ := mdv_sign (a := a) hc
  by_cases h : a < 0
  · exact Int.mul_nonneg_of_nonpos_of_nonpos (by have := h1 h; omega) (by omega)
  · exact Int.mul_nonneg (h2 (by omega)) (by omega)
end Go.Proofs.Ytipcppbbpmdijaa
