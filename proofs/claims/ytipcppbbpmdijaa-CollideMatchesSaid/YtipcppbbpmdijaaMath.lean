/-
  Plain facts on whole numbers, with no Go in sight: quotients rounded toward negative infinity, whole square roots, remainders. Conditions: as each theorem states.
-/
import Derived.RowKit
namespace Go.Proofs.Ytipcppbbpmdijaa

/-! ### Whole square roots -/
def sqN : Nat → Nat
  | 0 => 0
  | n + 1 => if (sqN n + 1) * (sqN n + 1) ≤ n + 1 then sqN n + 1 else sqN n

theorem sqN_spec (n : Nat) : sqN n * sqN n ≤ n ∧ n < (sqN n + 1) * (sqN n + 1) := by
  induction n with
  | zero => simp [sqN]
  | succ n ih =>
    obtain ⟨h1, h2⟩ := ih
    by_cases h : (sqN n + 1) * (sqN n + 1) ≤ n + 1
    · have e : sqN (n + 1) = sqN n + 1 := by simp only [sqN]; rw [if_pos h]
      rw [e]
      refine ⟨h, ?_⟩
      have : (sqN n + 1 + 1) * (sqN n + 1 + 1) = (sqN n + 1) * (sqN n + 1) + 2 * (sqN n + 1) + 1 := by grind
      omega
    · have e : sqN (n + 1) = sqN n := by simp only [sqN]; rw [if_neg h]
      rw [e]
      omega

/-- The whole square root, rounded down; 0 for a negative number. -/
def isq (n : Int) : Int := (sqN n.toNat : Int)

theorem isq_nonneg (n : Int) : 0 ≤ isq n := by unfold isq; omega

theorem isq_spec {n : Int} (h : 0 ≤ n) : isq n * isq n ≤ n ∧ n < (isq n + 1) * (isq n + 1) := by
  obtain ⟨h1, h2⟩ := sqN_spec n.toNat
  unfold isq
  have e : (n.toNat : Int) = n := Int.toNat_of_nonneg h
  constructor
  · have : ((sqN n.toNat * sqN n.toNat : Nat) : Int) ≤ (n.toNat : Int) := Int.ofNat_le.2 h1
    rw [e] at this
    simpa using this
  · have : ((n.toNat : Nat) : Int) < (((sqN n.toNat + 1) * (sqN n.toNat + 1) : Nat) : Int) := Int.ofNat_lt.2 h2
    rw [e] at this
    simpa using this

theorem sq_lt_of {a b : Int} (ha : 0 ≤ a) (hb : 0 ≤ b) (h : a * a < b * b) : a < b := by
  false_or_by_contra
  rename_i hc
  have h1 : b ≤ a := by omega
  have h2 : b * b ≤ a * a := Int.mul_le_mul h1 h1 hb ha
  omega
theorem sq_le_of {a b : Int} (ha : 0 ≤ a) (hb : 0 ≤ b) (h : a * a ≤ b * b) : a ≤ b := by
  false_or_by_contra
  rename_i hc
  have h1 : b + 1 ≤ a := by omega
  have h2 : (b + 1) * (b + 1) ≤ a * a := Int.mul_le_mul h1 h1 (by omega) ha
  have h3 : (b + 1) * (b + 1) = b * b + 2 * b + 1 := by grind
  omega
theorem sq_mono {a b : Int} (ha : 0 ≤ a) (h : a ≤ b) : a * a ≤ b * b := Int.mul_le_mul h h ha (by omega)

theorem isq_unique {n r : Int} (h0 : 0 ≤ r) (h1 : r * r ≤ n) (h2 : n < (r + 1) * (r + 1)) : isq n = r := by
  have hn : 0 ≤ n := Int.le_trans (Int.mul_nonneg h0 h0) h1
  obtain ⟨s1, s2⟩ := isq_spec hn
  have s0 := isq_nonneg n
  have a := sq_lt_of (a := isq n) (b := r + 1) s0 (by omega) (by omega)
  have b := sq_lt_of (a := r) (b := isq n + 1) h0 (by omega) (by omega)
  omega

theorem isq_neg {n : Int} (h : n ≤ 0) : isq n = 0 := by
  have : n.toNat = 0 := by omega
  unfold isq
  rw [this]
  rfl

theorem isq_mono {a b : Int} (h : a ≤ b) : isq a ≤ isq b := by
  by_cases hb : b ≤ 0
  · rw [isq_neg hb, isq_neg (by omega)]; omega
  · by_cases ha : a ≤ 0
    · rw [isq_neg ha]; exact isq_nonneg b
    · obtain ⟨a1, a2⟩ := isq_spec (n := a) (by omega)
      obtain ⟨b1, b2⟩ := isq_spec (n := b) (by omega)
      have := sq_lt_of (a := isq a) (b := isq b + 1) (isq_nonneg a) (by have := isq_nonneg b; omega) (by omega)
      omega

/-- If the square fits below, the root does. -/
theorem le_isq {n r : Int} (h0 : 0 ≤ r) (h1 : r * r ≤ n) : r ≤ isq n := by
  have hn : 0 ≤ n := Int.le_trans (Int.mul_nonneg h0 h0) h1
  obtain ⟨s1, s2⟩ := isq_spec hn
  have := sq_lt_of (a := r) (b := isq n + 1) h0 (by have := isq_nonneg n; omega) (by omega)
  omega
theorem isq_lt {n r : Int} (h0 : 0 < r) (h1 : n < r * r) : isq n < r := by
  by_cases hn : 0 ≤ n
  · obtain ⟨s1, s2⟩ := isq_spec hn
    exact sq_lt_of (isq_nonneg n) (by omega) (by omega)
  · rw [isq_neg (by omega)]; exact h0
theorem isq_le_of {n r : Int} (h0 : 0 ≤ r) (h1 : n ≤ r * r) : isq n ≤ r := by
  have := isq_lt (n := n) (r := r + 1) (by omega) (by have : (r + 1) * (r + 1) = r * r + 2 * r + 1 := by grind
                                                      omega)
  omega

/-! ### Newton's step from above -/
theorem amgm {n r q s : Int} (hr : 1 ≤ r) (hs : s * s ≤ n) (hq : n < (q + 1) * r) : 2 * s ≤ r + q := by
  false_or_by_contra
  rename_i h
  have h1 : q + 1 ≤ 2 * s - r := by omega
  have h2 : (q + 1) * r ≤ (2 * s - r) * r := Int.mul_le_mul_of_nonneg_right h1 (by omega)
  have h3 : 0 ≤ (s - r) * (s - r) := by
    rcases Int.le_total s r with h | h
    · exact Int.mul_nonneg_of_nonpos_of_nonpos (by omega) (by omega)
    · exact Int.mul_nonneg (by omega) (by omega)
  grind

/-- A quotient of numbers that are not negative. -/
theorem quo_spec {n r : Int} (hr : 1 ≤ r) : r * (n / r) ≤ n ∧ n < r * (n / r) + r := by
  have h1 := Int.mul_ediv_add_emod n r
  have h2 := Int.emod_nonneg n (show r ≠ 0 by omega)
  have h3 := Int.emod_lt_of_pos n (show 0 < r by omega)
  omega

theorem newton_ge {n r : Int} (hn : 0 ≤ n) (hr : 1 ≤ r) : isq n ≤ (r + n / r) / 2 := by
  obtain ⟨s1, s2⟩ := isq_spec hn
  obtain ⟨q1, q2⟩ := quo_spec (n := n) (r := r) hr
  have := amgm (n := n) (r := r) (q := n / r) (s := isq n) hr s1 (by have : (n / r + 1) * r = r * (n / r) + r := by grind
                                                                     omega)
  omega

/-- Where the step does not go down the root is found. -/
theorem newton_stop {n r : Int} (hr : 1 ≤ r) (hs : isq n ≤ r) (h : r ≤ (r + n / r) / 2) : r = isq n := by
  obtain ⟨q1, q2⟩ := quo_spec (n := n) (r := r) hr
  have h1 : r ≤ n / r := by omega
  have h2 : r * r ≤ r * (n / r) := Int.mul_le_mul_of_nonneg_left h1 (by omega)
  have := le_isq (n := n) (r := r) (by omega) (by omega)
  omega

/-! ### Quotients rounded toward negative infinity -/
/-- What Go's text 'q := a / b; if a%b != 0 && (a < 0) != (b < 0) { q-- }' computes: the one way. -/
theorem fdiv_down {a b : Int} (hr : a.tmod b ≠ 0) (hs : (a < 0 ∧ 0 < b) ∨ (0 ≤ a ∧ b < 0)) : a.fdiv b = a.tdiv b - 1 := by
  rw [Int.fdiv_eq_tdiv, if_neg (fun h => hr (Int.tmod_eq_zero_of_dvd h))]
  rcases hs with ⟨h1, h2⟩ | ⟨h1, h2⟩
  · rw [if_neg (by omega), if_pos (by omega), Int.sign_eq_one_of_pos h2]
  · rw [if_pos h1, if_neg (by omega)]
/-- The other ways. -/
theorem fdiv_same {a b : Int} (h : a.tmod b = 0 ∨ (0 ≤ a ∧ 0 < b) ∨ (a < 0 ∧ b < 0)) : a.fdiv b = a.tdiv b := by
  rw [Int.fdiv_eq_tdiv]
  by_cases hd : b ∣ a
  · rw [if_pos hd]; omega
  · rw [if_neg hd]
    rcases h with h | ⟨h1, h2⟩ | ⟨h1, h2⟩
    · exact absurd (Int.dvd_of_tmod_eq_zero h) hd
    · rw [if_pos h1, if_pos (by omega)]; omega
    · rw [if_neg (by omega), if_neg (by omega), Int.sign_eq_neg_one_of_neg h2]; omega

/-- The quotient and its remainder, the divisor above 0. -/
theorem fdiv_pos {a b : Int} (hb : 0 < b) : b * a.fdiv b ≤ a ∧ a < b * a.fdiv b + b := by
  rw [Int.fdiv_eq_ediv_of_nonneg a (by omega)]
  have h1 := Int.mul_ediv_add_emod a b
  have h2 := Int.emod_nonneg a (show b ≠ 0 by omega)
  have h3 := Int.emod_lt_of_pos a hb
  omega
/-- The quotient and its remainder, the divisor below 0. -/
theorem fdiv_neg {a b : Int} (hb : b < 0) : a ≤ b * a.fdiv b ∧ b * a.fdiv b + b < a := by
  have h := fdiv_pos (a := -a) (b := -b) (by omega)
  rw [Int.neg_fdiv_neg] at h
  have e : -b * a.fdiv b = -(b * a.fdiv b) := by grind
  omega
theorem fdiv_mul {a b : Int} (hb : b ≠ 0) : (a * b).fdiv b = a := by
  rw [Int.fdiv_eq_ediv, if_pos (Or.inr ⟨a, by grind⟩), Int.mul_ediv_cancel _ hb]
  omega
theorem abs_tdiv_le (a b : Int) : -(a.natAbs : Int) ≤ a.tdiv b ∧ a.tdiv b ≤ (a.natAbs : Int) := by
  have h : (a.tdiv b).natAbs ≤ a.natAbs := by rw [Int.natAbs_tdiv]; exact Nat.div_le_self _ _
  omega

/-! ### The words of the contracts -/
/-- 'a * b / c', rounded toward negative infinity; 0 if c is 0. -/
def mdv (a b c : Int) : Int := (a * b).fdiv c
theorem mdv_zero (a b : Int) : mdv a b 0 = 0 := by unfold mdv; exact Int.fdiv_zero _
theorem mdv_one (a b : Int) : mdv a b 1024 = a * b / 1024 := by unfold mdv; exact Int.fdiv_eq_ediv_of_nonneg _ (by omega)
theorem mdv_of_pos (a b : Int) {c : Int} (h : 0 ≤ c) : mdv a b c = a * b / c := by unfold mdv; exact Int.fdiv_eq_ediv_of_nonneg _ h
theorem mdv_pos (a b : Int) {c : Int} (h : 0 < c) : c * mdv a b c ≤ a * b ∧ a * b < c * mdv a b c + c := fdiv_pos h
theorem mdv_neg (a b : Int) {c : Int} (h : c < 0) : a * b ≤ c * mdv a b c ∧ c * mdv a b c + c < a * b := fdiv_neg h
theorem mdv_same (a : Int) {c : Int} (h : c ≠ 0) : mdv a c c = a := fdiv_mul h

/-- A product's bounds. -/
theorem mul_bd {a b A B : Int} (ha : -A ≤ a ∧ a ≤ A) (hb : -B ≤ b ∧ b ≤ B) : -(A * B) ≤ a * b ∧ a * b ≤ A * B := by
  have hA : 0 ≤ A := by omega
  have hB : 0 ≤ B := by omega
  have k : ∀ {x y : Int}, 0 ≤ x → x ≤ A → 0 ≤ y → y ≤ B → 0 ≤ x * y ∧ x * y ≤ A * B := fun h1 h2 h3 h4 => ⟨Int.mul_nonneg h1 h3, Int.mul_le_mul h2 h4 h3 hA⟩
  have hAB := Int.mul_nonneg hA hB
  rcases Int.le_total 0 a with h | h <;> rcases Int.le_total 0 b with g | g
  · have := k h ha.2 g hb.2; omega
  · have := k h ha.2 (show 0 ≤ -b by omega) (by omega); rw [Int.mul_neg] at this; omega
  · have := k (show 0 ≤ -a by omega) (by omega) g hb.2; rw [Int.neg_mul] at this; omega
  · have := k (show 0 ≤ -a by omega) (by omega) (show 0 ≤ -b by omega) (by omega); rw [Int.neg_mul_neg] at this; omega

theorem bisect_bd {m B : Int} (h0 : 0 ≤ m) (h1 : m ≤ B) : 0 ≤ m * m ∧ m * m ≤ B * B := ⟨Int.mul_nonneg h0 h0, sq_mono h0 h1⟩

/-- 'n' brought to 0 or above, then reduced modulo 'most'. -/
def arnd (n most : Int) : Int := (if n < 0 then -(n + 1) else n) % most
theorem arnd_bd (n : Int) {most : Int} (h : 1 ≤ most) : 0 ≤ arnd n most ∧ arnd n most ≤ most - 1 := by
  unfold arnd
  generalize (if n < 0 then -(n + 1) else n) = k
  have h2 := Int.emod_nonneg k (show most ≠ 0 by omega)
  have h3 := Int.emod_lt_of_pos k (show 0 < most by omega)
  omega
/-- 'n' mapped to the range from -most to most. -/
def bnd (n most : Int) : Int := arnd n (2 * most + 1) - most
theorem bnd_bd (n : Int) {most : Int} (h : 0 ≤ most) : -most ≤ bnd n most ∧ bnd n most ≤ most := by
  have := arnd_bd n (most := 2 * most + 1) (by omega)
  unfold bnd; omega

theorem tmod_zero (n c : Int) : n.tmod c = 0 ↔ n % c = 0 :=
  ⟨fun h => Int.emod_eq_zero_of_dvd (Int.dvd_of_tmod_eq_zero h), fun h => Int.tmod_eq_zero_of_dvd (Int.dvd_of_emod_eq_zero h)⟩
theorem tmod_bd (n : Int) {c : Int} (h : 0 < c) : -c < n.tmod c ∧ n.tmod c < c := by
  by_cases h0 : 0 ≤ n
  · rw [Int.tmod_eq_emod_of_nonneg h0]
    have h2 := Int.emod_nonneg n (show c ≠ 0 by omega)
    have h3 := Int.emod_lt_of_pos n h
    omega
  · have e : n.tmod c = -((-n).tmod c) := by rw [Int.neg_tmod]; omega
    rw [e, Int.tmod_eq_emod_of_nonneg (show 0 ≤ -n by omega)]
    have h2 := Int.emod_nonneg (-n) (show c ≠ 0 by omega)
    have h3 := Int.emod_lt_of_pos (-n) h
    omega
theorem sq_succ (r : Int) : (r + 1) * (r + 1) = r * r + 2 * r + 1 := by grind
theorem sq_pred (r : Int) : (r - 1) * (r - 1) = r * r - 2 * r + 1 := by grind

def clp (n lo hi : Int) : Int := min (max n lo) hi
def abz (n : Int) : Int := if n < 0 then -n else n
theorem abz_neg {n : Int} (h : n < 0) : abz n = -n := by unfold abz; rw [if_pos h]
theorem abz_pos {n : Int} (h : 0 ≤ n) : abz n = n := by unfold abz; rw [if_neg (by omega)]
def sgn (n : Int) : Int := if n < 0 then -1 else if 0 < n then 1 else 0
theorem sgn_neg {n : Int} (h : n < 0) : sgn n = -1 := by unfold sgn; rw [if_pos h]
theorem sgn_pos {n : Int} (h : 0 < n) : sgn n = 1 := by unfold sgn; rw [if_neg (by omega), if_pos h]
theorem sgn_zero {n : Int} (h : n = 0) : sgn n = 0 := by subst h; rfl
end Go.Proofs.Ytipcppbbpmdijaa
