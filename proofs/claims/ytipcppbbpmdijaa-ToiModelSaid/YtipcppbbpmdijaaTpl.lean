/-
  Chapter 6's laws in plain numbers: what the earliest touching step says, bounds over all steps, half the speed, a circle and a wall. Conditions: as the theorems state. No program in sight.
-/
import Derived.Test.YtipcppbbpmdijaaPaj
namespace Go.Proofs.Ytipcppbbpmdijaa
open Go.RowKit Go.Sort

theorem earF_spec (t : Int → Bool) : ∀ (f k : Nat), k + f = 8 → ∃ m : Nat, k ≤ m ∧ m ≤ 8 ∧ earF t f k = (m : Int) * 128 ∧ (∀ i : Nat, k < i → i ≤ m → t (i : Int) = false) ∧ (m < 8 → t ((m : Int) + 1) = true) := by
  intro f
  induction f with
  | zero => intro k hk; obtain rfl : k = 8 := by omega
            exact ⟨8, by omega, by omega, rfl, fun i h1 h2 => by omega, fun h => by omega⟩
  | succ f ih =>
    intro k hk
    unfold earF
    by_cases h : t ((k : Int) + 1) = true
    · rw [if_pos h]; exact ⟨k, by omega, by omega, rfl, fun i h1 h2 => by omega, fun _ => h⟩
    · rw [if_neg h]
      obtain ⟨m, h1, h2, h3, h4, h5⟩ := ih (k + 1) (by omega)
      refine ⟨m, by omega, h2, h3, fun i a b => ?_, h5⟩
      by_cases hi : i = k + 1
      · subst hi
        have e : ((k + 1 : Nat) : Int) = (k : Int) + 1 := by omega
        rw [e]; simpa using h
      · exact h4 i (by omega) b
theorem ear_spec (t : Int → Bool) (h0 : t 0 = false) : ∃ m : Nat, m ≤ 8 ∧ ear t = (m : Int) * 128 ∧ (∀ i : Nat, i ≤ m → t (i : Int) = false) ∧ (m < 8 → t ((m : Int) + 1) = true) := by
  obtain ⟨m, h1, h2, h3, h4, h5⟩ := earF_spec t 8 0 (by omega)
  refine ⟨m, h2, ?_, fun i hi => ?_, h5⟩
  · unfold ear; rw [h0]; exact h3
  · by_cases h : i = 0
    · subst h; exact h0
    · exact h4 i (by omega) hi
theorem ear_start (t : Int → Bool) (h0 : t 0 = true) : ear t = 1024 := by unfold ear; rw [if_pos h0]
theorem ear_never (t : Int → Bool) (h : ∀ i : Nat, i ≤ 8 → t (i : Int) = false) : ear t = 1024 := by
  obtain ⟨m, h1, h2, h3, h4⟩ := ear_spec t (h 0 (by omega))
  by_cases hm : m < 8
  · have := h4 hm
    have e := h (m + 1) (by omega)
    rw [show ((m + 1 : Nat) : Int) = (m : Int) + 1 by omega, this] at e
    cases e
  · rw [h2]; omega
/-- It touches after n steps at the latest. -/
theorem ear_by (t : Int → Bool) (h0 : t 0 = false) {n : Nat} (hn : n ≤ 8) (h : t (n : Int) = true) : ∃ m : Nat, m < n ∧ ear t = (m : Int) * 128 ∧ t ((m : Int) + 1) = true := by
  obtain ⟨m, h1, h2, h3, h4⟩ := ear_spec t h0
  have hm : m < n := by
    refine Classical.byContradiction fun hc => ?_
    have := h3 n (by omega)
    rw [h] at this; cases this
  exact ⟨m, hm, h2, h4 (by omega)⟩

/-! ### Bounds over all steps -/
def mnk (f : Nat → Int) : Nat → Int
  | 0 => f 0
  | n + 1 => min (mnk f n) (f (n + 1))
def mxk (f : Nat → Int) : Nat → Int
  | 0 => f 0
  | n + 1 => max (mxk f n) (f (n + 1))
theorem mnk_le (f : Nat → Int) {n k : Nat} (h : k ≤ n) : mnk f n ≤ f k := by
  induction n with
  | zero => obtain rfl : k = 0 := by omega
            exact Int.le_refl _
  | succ n ih =>
    unfold mnk
    by_cases hk : k = n + 1
    · subst hk; omega
    · have := ih (by omega); omega
theorem le_mxk (f : Nat → Int) {n k : Nat} (h : k ≤ n) : f k ≤ mxk f n := by
  induction n with
  | zero => obtain rfl : k = 0 := by omega
            exact Int.le_refl _
  | succ n ih =>
    unfold mxk
    by_cases hk : k = n + 1
    · subst hk; omega
    · have := ih (by omega); omega
theorem mnk_bd {f : Nat → Int} {n : Nat} {M : Int} (h : ∀ k : Nat, k ≤ n → -M ≤ f k ∧ f k ≤ M) : -M ≤ mnk f n ∧ mnk f n ≤ M := by
  induction n with
  | zero => exact h 0 (by omega)
  | succ n ih =>
    have h1 := ih (fun k hk => h k (by omega))
    have h2 := h (n + 1) (by omega)
    unfold mnk; omega
theorem mxk_bd {f : Nat → Int} {n : Nat} {M : Int} (h : ∀ k : Nat, k ≤ n → -M ≤ f k ∧ f k ≤ M) : -M ≤ mxk f n ∧ mxk f n ≤ M := by
  induction n with
  | zero => exact h 0 (by omega)
  | succ n ih =>
    have h1 := ih (fun k hk => h k (by omega))
    have h2 := h (n + 1) (by omega)
    unfold mxk; omega
def sx0 (R : Int) (vs : List V2) (p v : V2) (k : Nat) : Int := bx0 R vs + (stp p v (k : Int)).1
def sy0 (R : Int) (vs : List V2) (p v : V2) (k : Nat) : Int := by0 R vs + (stp p v (k : Int)).2
def sx1 (R : Int) (vs : List V2) (p v : V2) (k : Nat) : Int := bx1 R vs + (stp p v (k : Int)).1
def sy1 (R : Int) (vs : List V2) (p v : V2) (k : Nat) : Int := by1 R vs + (stp p v (k : Int)).2
theorem ovl_apart {Ra : Int} {va : List V2} {p : V2} {Rb : Int} {vb : List V2} {q : V2} (h : bx1 Ra va + p.1 < bx0 Rb vb + q.1 ∨ bx1 Rb vb + q.1 < bx0 Ra va + p.1 ∨ by1 Ra va + p.2 < by0 Rb vb + q.2 ∨ by1 Rb vb + q.2 < by0 Ra va + p.2) : hit Ra va p Rb vb q = false := by
  have : ovl Ra va p Rb vb q = false := by
    unfold ovl; rw [decide_eq_false_iff_not]; rintro ⟨h1, h2, h3, h4⟩; omega
  unfold hit; rw [this]; rfl
theorem swept_apart {Ra : Int} {va : List V2} {p u : V2} {Rb : Int} {vb : List V2} {q v : V2}
    (h : mxk (sx1 Ra va p u) 8 < mnk (sx0 Rb vb q v) 8 ∨ mxk (sx1 Rb vb q v) 8 < mnk (sx0 Ra va p u) 8 ∨ mxk (sy1 Ra va p u) 8 < mnk (sy0 Rb vb q v) 8 ∨ mxk (sy1 Rb vb q v) 8 < mnk (sy0 Ra va p u) 8) : ear (tch Ra va p u Rb vb q v) = 1024 := by
  refine ear_never _ fun i hi => ?_
  have a1 := le_mxk (sx1 Ra va p u) hi
  have a2 := mnk_le (sx0 Rb vb q v) hi
  have a3 := le_mxk (sx1 Rb vb q v) hi
  have a4 := mnk_le (sx0 Ra va p u) hi
  have a5 := le_mxk (sy1 Ra va p u) hi
  have a6 := mnk_le (sy0 Rb vb q v) hi
  have a7 := le_mxk (sy1 Rb vb q v) hi
  have a8 := mnk_le (sy0 Ra va p u) hi
  unfold tch
  refine ovl_apart ?_
  unfold sx0 sx1 sy0 sy1 at *
  omega
theorem mnk_add (f : Nat → Int) (c : Int) (n : Nat) : mnk (fun k => f k + c) n = mnk f n + c := by
  induction n with
  | zero => rfl
  | succ n ih => unfold mnk; rw [ih]; omega
theorem sx0_add (R : Int) (vs : List V2) (p0 p1 c : Int) (v : V2) : sx0 R vs (p0 + c, p1) v = fun k => sx0 R vs (p0, p1) v k + c := by
  funext k; unfold sx0 stp; dsimp only; omega
theorem swept_beyond {Ra : Int} {va : List V2} {p u : V2} {Rb : Int} {vb : List V2} {q0 q1 : Int} {v : V2} {e : Int} (he : 0 ≤ e) :
    ear (tch Ra va p u Rb vb (q0 + (mxk (sx1 Ra va p u) 8 - mnk (sx0 Rb vb (q0, q1) v) 8 + 1 + e), q1) v) = 1024 := by
  refine swept_apart (.inl ?_)
  rw [sx0_add, mnk_add]
  omega

/-! ### Half the speed -/
theorem mdv_half {u : Int} (h : u % 2 = 0) (k : Int) : mdv (u / 2) (2 * k) 8 = mdv u k 8 := by
  unfold mdv; congr 1
  obtain ⟨m, rfl⟩ : ∃ m, u = 2 * m := ⟨u / 2, by omega⟩
  rw [show 2 * m / 2 = m by omega]; grind
theorem tch_half {Ra : Int} {va : List V2} {p : V2} {u0 u1 : Int} {Rb : Int} {vb : List V2} {q : V2} (h0 : u0 % 2 = 0) (h1 : u1 % 2 = 0) (k : Int) :
    tch Ra va p (u0 / 2, u1 / 2) Rb vb q (0, 0) (2 * k) = tch Ra va p (u0, u1) Rb vb q (0, 0) k := by
  have z : ∀ k : Int, mdv 0 k 8 = 0 := fun k => by unfold mdv; simp
  unfold tch stp
  simp only [mdv_half h0, mdv_half h1, z]
theorem tch_zero {Ra : Int} {va : List V2} {p u u' : V2} {Rb : Int} {vb : List V2} {q v : V2} : tch Ra va p u Rb vb q v 0 = tch Ra va p u' Rb vb q v 0 := by
  have z : ∀ a : Int, mdv a 0 8 = 0 := fun k => by unfold mdv; simp
  unfold tch stp
  simp only [z]
/-- What ToiSlower says in plain numbers. -/
theorem slower {t s : Int → Bool} (hts : ∀ k : Int, s (2 * k) = t k) (h0 : t 0 = false) {m : Nat} (hm : m < 8) (h1 : t ((m : Int) + 1) = true) :
    (ear s = 1024 ∧ 8 < 2 * ((m : Int) + 1)) ∨ ∃ n : Nat, n ≤ 8 ∧ ear s = (n : Int) * 128 ∧ (n : Int) + 1 ≤ 2 * ((m : Int) + 1) := by
  have hs0 : s 0 = false := by rw [show (0 : Int) = 2 * 0 by rfl, hts]; exact h0
  by_cases h2 : 2 * (m + 1) ≤ 8
  · have hh : s ((2 * (m + 1) : Nat) : Int) = true := by
      rw [show ((2 * (m + 1) : Nat) : Int) = 2 * ((m : Int) + 1) by omega, hts]; exact h1
    obtain ⟨n, a, b, c⟩ := ear_by s hs0 h2 hh
    exact .inr ⟨n, by omega, b, by omega⟩
  · obtain ⟨n, a, b, c, d⟩ := ear_spec s hs0
    by_cases hn : n < 8
    · exact .inr ⟨n, by omega, b, by omega⟩
    · exact .inl ⟨by rw [b]; omega, by omega⟩

/-! ### A circle and a wall -/
theorem lnz_x (x : Int) (h : 0 ≤ x) : lnz x 0 = x ∧ lnz (-x) 0 = x ∧ lnz 0 x = x ∧ lnz 0 (-x) = x := by
  have e := sq_succ x
  have key : isq (x * x) = x := isq_unique h (by omega) (by omega)
  unfold lnz
  rw [Int.neg_mul_neg]
  simp only [Int.mul_zero, Int.add_zero, Int.zero_add]
  exact ⟨key, key, key, key⟩
theorem mdv_unit {x : Int} (h : 0 < x) : mdv x 1024 x = 1024 ∧ mdv (-x) 1024 x = -1024 ∧ mdv 0 1024 x = 0 := by
  obtain ⟨a1, a2⟩ := mdv_pos x 1024 h
  obtain ⟨b1, b2⟩ := mdv_pos (-x) 1024 h
  refine ⟨?_, ?_, by unfold mdv; simp⟩
  · have k1 : x * (mdv x 1024 x - 1024) < x * 1 := by rw [Int.mul_sub]; omega
    have k2 : x * -1 < x * (mdv x 1024 x - 1024) := by rw [Int.mul_sub]; omega
    have := Int.lt_of_mul_lt_mul_left k1 (by omega)
    have := Int.lt_of_mul_lt_mul_left k2 (by omega)
    omega
  · have k1 : x * (mdv (-x) 1024 x + 1024) < x * 1 := by rw [Int.mul_add]; omega
    have k2 : x * -1 < x * (mdv (-x) 1024 x + 1024) := by rw [Int.mul_add]; omega
    have := Int.lt_of_mul_lt_mul_left k1 (by omega)
    have := Int.lt_of_mul_lt_mul_left k2 (by omega)
    omega
theorem unt_axis {x : Int} (h : 0 < x) : unt (x, 0) = (1024, 0) ∧ unt (-x, 0) = (-1024, 0) ∧ unt (0, x) = (0, 1024) ∧ unt (0, -x) = (0, -1024) := by
  obtain ⟨l1, l2, l3, l4⟩ := lnz_x x (by omega)
  obtain ⟨m1, m2, m3⟩ := mdv_unit h
  refine ⟨?_, ?_, ?_, ?_⟩ <;> (unfold unt; dsimp only; rw [if_neg (by omega)]) <;> simp only [l1, l2, l3, l4, m1, m2, m3]
def wall (h : Int) : List V2 := [(-h, -4000), (h, -4000), (h, 4000), (-h, 4000)]
theorem wall_eaxs {h : Int} (hh : 0 < h) : eaxs (wall h) = [(0, -1024), (1024, 0), (0, 1024), (-1024, 0)] := by
  have u1 := unt_axis (x := 2 * h) (by omega)
  have u2 := unt_axis (x := 8000) (by omega)
  have e : eaxs (wall h) = [unt (-4000 - -4000, -h - h), unt (4000 - -4000, h - h), unt (4000 - 4000, h - -h), unt (-4000 - 4000, -h - -h)] := by
    unfold eaxs wall eax ednx vtx
    simp [List.range_succ]
  rw [e, show (-4000 - -4000 : Int) = 0 by rfl, show -h - h = -(2 * h) by omega, show (4000 - -4000 : Int) = 8000 by rfl, show h - h = 0 by omega, show (4000 - 4000 : Int) = 0 by rfl, show h - -h = 2 * h by omega,
    show (-4000 - 4000 : Int) = -8000 by rfl, show -h - -h = 0 by omega, u1.2.2.2, u1.2.2.1, u2.1, u2.2.1]
theorem wall_nrs {h x : Int} (hh : 0 < h) : ∃ s, (s = -h ∧ x ≤ 0 ∨ s = h ∧ 0 < x) ∧ nrs (-x, 0) (wall h) = (s, -4000) := by
  have key : ∀ s y : Int, sqn (-x, 0) (s, y) = (s - x) * (s - x) + y * y := by
    intro s y; unfold sqn; dsimp only; grind
  have q1 : (h - x) * (h - x) = (-h - x) * (-h - x) - 4 * (h * x) := by grind
  have e : nrs (-x, 0) (wall h) = [(h, -4000), (h, 4000), (-h, 4000)].foldl (fun m u => if sqn (-x, 0) u < sqn (-x, 0) m then u else m) (-h, -4000) := rfl
  rw [e]
  simp only [List.foldl_cons, List.foldl_nil]
  by_cases hx : 0 < x
  · have hp := Int.mul_pos hh hx
    refine ⟨h, .inr ⟨rfl, hx⟩, ?_⟩
    rw [if_pos (show sqn (-x, 0) (h, -4000) < sqn (-x, 0) (-h, -4000) by rw [key, key]; omega), if_neg (show ¬ sqn (-x, 0) (h, 4000) < sqn (-x, 0) (h, -4000) by rw [key, key]; omega), if_neg (show ¬ sqn (-x, 0) (-h, 4000) < sqn (-x, 0) (h, -4000) by rw [key, key]; omega)]
  · have hp : h * x ≤ 0 := Int.mul_nonpos_of_nonneg_of_nonpos (by omega) (by omega)
    refine ⟨-h, .inl ⟨rfl, by omega⟩, ?_⟩
    rw [if_neg (show ¬ sqn (-x, 0) (h, -4000) < sqn (-x, 0) (-h, -4000) by rw [key, key]; omega), if_neg (show ¬ sqn (-x, 0) (h, 4000) < sqn (-x, 0) (-h, -4000) by rw [key, key]; omega), if_neg (show ¬ sqn (-x, 0) (-h, 4000) < sqn (-x, 0) (-h, -4000) by rw [key, key]; omega)]
/-- The axis to the vertex points nearly straight down. -/
theorem wall_unt {z : Int} (hz : -400 ≤ z ∧ z ≤ 400) : ∃ a b, unt (z, -4000) = (a, b) ∧ (-110 ≤ a ∧ a ≤ 110) ∧ (-1024 ≤ b ∧ b ≤ -1000) := by
  have hL : 4000 ≤ lnz z (-4000) ∧ lnz z (-4000) ≤ 4020 := by
    have hs := mul_bd hz hz
    have h0 := sq_nonneg z
    constructor
    · have := (le_len z (-4000)).2.2.1; omega
    · unfold lnz; exact isq_le_of (by omega) (by omega)
  refine ⟨mdv z 1024 (lnz z (-4000)), mdv (-4000) 1024 (lnz z (-4000)), ?_, ?_, ?_⟩
  · unfold unt; dsimp only; rw [if_neg (by omega)]
  · obtain ⟨a1, a2⟩ := mdv_pos z 1024 (c := lnz z (-4000)) (by omega)
    generalize mdv z 1024 (lnz z (-4000)) = a at *
    generalize lnz z (-4000) = L at *
    constructor
    · refine Classical.byContradiction fun hn => ?_
      have : L * (a + 1) ≤ L * -110 := Int.mul_le_mul_of_nonneg_left (by omega) (by omega)
      rw [Int.mul_add] at this; omega
    · refine Classical.byContradiction fun hn => ?_
      have : L * 111 ≤ L * a := Int.mul_le_mul_of_nonneg_left (by omega) (by omega)
      omega
  · obtain ⟨a1, a2⟩ := mdv_pos (-4000) 1024 (c := lnz z (-4000)) (by omega)
    generalize mdv (-4000) 1024 (lnz z (-4000)) = a at *
    generalize lnz z (-4000) = L at *
    constructor
    · refine Classical.byContradiction fun hn => ?_
      have : L * (a + 1) ≤ L * -1024 := Int.mul_le_mul_of_nonneg_left (by omega) (by omega)
      rw [Int.mul_add] at this; omega
    · refine Classical.byContradiction fun hn => ?_
      have : L * -999 ≤ L * a := Int.mul_le_mul_of_nonneg_left (by omega) (by omega)
      omega
theorem wall_phi (h a b : Int) : phi 0 (wall h) 0 0 a b = max (max (max (pdt 0 0 a b (-h, -4000)) (pdt 0 0 a b (h, -4000))) (pdt 0 0 a b (h, 4000))) (pdt 0 0 a b (-h, 4000)) ∧
    plo 0 (wall h) 0 0 a b = min (min (min (pdt 0 0 a b (-h, -4000)) (pdt 0 0 a b (h, -4000))) (pdt 0 0 a b (h, 4000))) (pdt 0 0 a b (-h, 4000)) := ⟨rfl, rfl⟩
theorem dotz_ax (x y : Int) : dotz x y 1024 0 = x ∧ dotz x y (-1024) 0 = -x ∧ dotz x y 0 1024 = y ∧ dotz x y 0 (-1024) = -y := by
  unfold dotz; omega
theorem wall_hit {r h x : Int} (hr : 10 ≤ r ∧ r ≤ 200) (hh : 1 ≤ h ∧ h ≤ 200) : hit r [] (x, 0) 0 (wall h) (0, 0) = decide (-(h + r) < x ∧ x < h + r) := by
  have w1 : bx0 0 (wall h) = -h ∧ bx1 0 (wall h) = h ∧ by0 0 (wall h) = -4000 ∧ by1 0 (wall h) = 4000 := by
    refine ⟨?_, ?_, ?_, ?_⟩
    · show min (min (min (-h) h) h) (-h) = -h; omega
    · show max (max (max (-h) h) h) (-h) = h; omega
    · rfl
    · rfl
  have hax : axl [] (wall h) (x, 0) (0, 0) = [(0, -1024), (1024, 0), (0, 1024), (-1024, 0)] ++ [unt (plus (-x, 0) (nrs (-x, 0) (wall h)))] := by
    have e : axl [] (wall h) (x, 0) (0, 0) = eaxs (wall h) ++ [unt (plus (0 - x, 0 - 0) (nrs (0 - x, 0 - 0) (wall h)))] := rfl
    rw [e, wall_eaxs (by omega), show 0 - x = -x by omega, show (0 - 0 : Int) = 0 by rfl]
  have hd : ∀ a b : Int, dep r [] (x, 0) 0 (wall h) (0, 0) (a, b) = min (dotz x 0 a b + r) (phi 0 (wall h) 0 0 a b) - max (dotz x 0 a b - r) (plo 0 (wall h) 0 0 a b) := fun a b => rfl
  rw [Bool.eq_iff_iff, hit_iff, decide_eq_true_eq, hax]
  constructor
  · rintro ⟨-, h2⟩
    have k := h2 (1024, 0) (by simp)
    rw [hd, (wall_phi h 1024 0).1, (wall_phi h 1024 0).2] at k
    simp only [pdt, (dotz_ax _ _).1] at k
    omega
  · rintro ⟨h1, h2⟩
    constructor
    · unfold ovl
      rw [w1.1, w1.2.1, w1.2.2.1, w1.2.2.2, decide_eq_true_eq]
      show -r + x ≤ h + 0 ∧ -h + 0 ≤ r + x ∧ -r + 0 ≤ 4000 + 0 ∧ -4000 + 0 ≤ r + 0
      omega
    · obtain ⟨s, hs, hn⟩ := wall_nrs (h := h) (x := x) (by omega)
      rw [hn]
      have hp : plus (-x, 0) (s, -4000) = (s - x, -4000) := by unfold plus; dsimp only; congr 1; omega
      rw [hp]
      obtain ⟨a, b, hu, ha, hb⟩ := wall_unt (z := s - x) (by omega)
      rw [hu]
      intro y hy
      simp only [List.cons_append, List.nil_append, List.mem_cons, List.not_mem_nil, or_false] at hy
      rcases hy with rfl | rfl | rfl | rfl | rfl
      · rw [hd, (wall_phi h 0 (-1024)).1, (wall_phi h 0 (-1024)).2]; clear hd hax; simp only [pdt, (dotz_ax _ _).2.2.2]; omega
      · rw [hd, (wall_phi h 1024 0).1, (wall_phi h 1024 0).2]; clear hd hax; simp only [pdt, (dotz_ax _ _).1]; omega
      · rw [hd, (wall_phi h 0 1024).1, (wall_phi h 0 1024).2]; clear hd hax; simp only [pdt, (dotz_ax _ _).2.2.1]; omega
      · rw [hd, (wall_phi h (-1024) 0).1, (wall_phi h (-1024) 0).2]; clear hd hax; simp only [pdt, (dotz_ax _ _).2.1]; omega
      · rw [hd, (wall_phi h a b).1, (wall_phi h a b).2]; unfold pdt dotz; dsimp only
        have p1 := mul_bd (a := x) (b := a) (A := 400) (B := 110) (by omega) (by omega)
        have p2 := mul_bd (a := h) (b := a) (A := 200) (B := 110) (by omega) (by omega)
        rw [show (0 + -h) * a = -(h * a) by grind, show (0 + h) * a = h * a by grind, show (0 : Int) * b = 0 by omega]
        generalize x * a = xa at *
        generalize h * a = ha' at *
        clear hd hax hu hp hn hs w1
        simp only [Int.zero_add, Int.add_zero]
        omega
/-- Steps of the circle: one is inside the wall's reach if the last is past its left side. -/
theorem wall_step {v : Int} (h0 : 0 ≤ v) (k : Int) (M : Int) (hv : v ≤ 8 * M) : mdv v k 8 ≤ mdv v (k + 1) 8 ∧ mdv v (k + 1) 8 ≤ mdv v k 8 + M := by
  rw [mdv_of_pos _ _ (by omega), mdv_of_pos _ _ (by omega), Int.mul_add]
  omega
theorem tunnel {r h x v : Int} (hr : 10 ≤ r ∧ r ≤ 200) (hh : 1 ≤ h ∧ h ≤ 200) (h0 : 0 ≤ v) (hv : v ≤ 8 * (2 * (h + r) - 2)) (hx : x < -(h + r)) :
    (-(h + r) < x + v → ∃ m : Nat, m < 8 ∧ ear (tch r [] (x, 0) (v, 0) 0 (wall h) (0, 0) (0, 0)) = (m : Int) * 128) ∧ (x + v ≤ -(h + r) → ear (tch r [] (x, 0) (v, 0) 0 (wall h) (0, 0) (0, 0)) = 1024) := by
  have z : ∀ k : Int, mdv 0 k 8 = 0 := fun k => by unfold mdv; simp
  have ht : ∀ k : Int, tch r [] (x, 0) (v, 0) 0 (wall h) (0, 0) (0, 0) k = decide (-(h + r) < x + mdv v k 8 ∧ x + mdv v k 8 < h + r) := by
    intro k
    rw [← wall_hit hr hh]
    unfold tch stp
    dsimp only
    rw [z]; rfl
  have hm0 : mdv v 0 8 = 0 := by unfold mdv; simp
  have hm8 : mdv v 8 8 = v := mdv_same v (by omega)
  have hst := fun k => wall_step h0 k _ hv
  have t0 : tch r [] (x, 0) (v, 0) 0 (wall h) (0, 0) (0, 0) 0 = false := by
    rw [ht, hm0, decide_eq_false_iff_not]; omega
  generalize tch r [] (x, 0) (v, 0) 0 (wall h) (0, 0) (0, 0) = t at *
  have s0 := hst 0; have s1 := hst 1; have s2 := hst 2; have s3 := hst 3; have s4 := hst 4; have s5 := hst 5; have s6 := hst 6; have s7 := hst 7
  simp only [Int.reduceAdd] at s0 s1 s2 s3 s4 s5 s6 s7
  have e1 := ht 1; have e2 := ht 2; have e3 := ht 3; have e4 := ht 4; have e5 := ht 5; have e6 := ht 6; have e7 := ht 7; have e8 := ht 8
  constructor
  · intro hp
    obtain ⟨m, h1, h2, h3, h4⟩ := ear_spec t t0
    by_cases hm : m < 8
    · exact ⟨m, hm, h2⟩
    · obtain rfl : m = 8 := by omega
      exfalso
      have f1 := h3 1 (by omega); have f2 := h3 2 (by omega); have f3 := h3 3 (by omega); have f4 := h3 4 (by omega); have f5 := h3 5 (by omega); have f6 := h3 6 (by omega); have f7 := h3 7 (by omega); have f8 := h3 8 (by omega)
      simp only [Int.cast_ofNat_Int] at f1 f2 f3 f4 f5 f6 f7 f8
      rw [e1, decide_eq_false_iff_not] at f1
      rw [e2, decide_eq_false_iff_not] at f2
      rw [e3, decide_eq_false_iff_not] at f3
      rw [e4, decide_eq_false_iff_not] at f4
      rw [e5, decide_eq_false_iff_not] at f5
      rw [e6, decide_eq_false_iff_not] at f6
      rw [e7, decide_eq_false_iff_not] at f7
      rw [e8, decide_eq_false_iff_not] at f8
      omega
  · intro hp
    refine ear_never t fun i hi => ?_
    rw [ht, decide_eq_false_iff_not]
    have : mdv v i 8 ≤ v := by
      rw [mdv_of_pos _ _ (by omega)]
      have : v * (i : Int) ≤ v * 8 := Int.mul_le_mul_of_nonneg_left (by omega) h0
      omega
    omega
end Go.Proofs.Ytipcppbbpmdijaa
