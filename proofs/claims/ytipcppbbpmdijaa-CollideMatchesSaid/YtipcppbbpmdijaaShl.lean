/-
  Plain laws of shapes: what a valid shape covers lies in its bounds and projects into its range; midpoints; moves; another first vertex. Conditions: as the theorems state. No program in sight.
-/
import Derived.Test.YtipcppbbpmdijaaOut
namespace Go.Proofs.Ytipcppbbpmdijaa
open Go.RowKit Go.Sort
def dt (a v : V2) : Int := v.1 * a.1 + v.2 * a.2
def crs (u v : V2) : Int := u.1 * v.2 - u.2 * v.1
def dif (v d : V2) : V2 := (v.1 - d.1, v.2 - d.2)
theorem lft_crs (v u d : V2) : lft v u d = crs (dif v d) (dif u d) := by unfold lft crs dif; dsimp only; grind
theorem crs_id (u v w a : V2) : crs u w * dt a v = crs u v * dt a w + crs v w * dt a u := by unfold crs dt; grind
theorem crs_trans {u v w a : V2} (hu : 0 < dt a u) (hv : 0 < dt a v) (hw : 0 < dt a w) (h1 : 0 ≤ crs u v) (h2 : 0 ≤ crs v w) : 0 ≤ crs u w := by
  have e := crs_id u v w a
  have p1 := Int.mul_nonneg h1 (Int.le_of_lt hw)
  have p2 := Int.mul_nonneg h2 (Int.le_of_lt hu)
  rcases Int.lt_or_le (crs u w) 0 with h | h
  · have := Int.mul_neg_of_neg_of_pos h hv; omega
  · exact h
theorem crs_anti (u v : V2) : crs u v = -crs v u := by unfold crs; grind
/-- A point that a valid polygon covers does not lie on the far side of all its vertices. -/
theorem proj_lo {vs : List V2} (hV : VShape 0 vs) {d : V2} (hc : cov 0 vs d = true) (a : V2) : ∃ v ∈ vs, dt a v ≤ dt a d := by
  rcases hV with ⟨_, h, _⟩ | ⟨_, h3, h6, hb, hE⟩
  · omega
  have hv : vs ≠ [] := by rintro rfl; simp at h3
  have hs := (cov_poly hv).1 hc
  refine Classical.byContradiction fun hno => ?_
  have hpos : ∀ k, k < vs.length → 0 < dt a (dif (vtx vs k) d) := by
    intro k hk
    have hm : vtx vs k ∈ vs := by unfold vtx; rw [List.getD_eq_getElem?_getD, List.getElem?_eq_getElem hk]; exact List.getElem_mem hk
    have := Classical.not_not.1 (fun h => hno ⟨_, hm, Int.not_lt.1 h⟩)
    have e : dt a (dif (vtx vs k) d) = dt a (vtx vs k) - dt a d := by unfold dt dif; dsimp only; grind
    omega
  have hst : ∀ k, k < vs.length → 0 ≤ crs (dif (vtx vs k) d) (dif (vtx vs ((k + 1) % vs.length)) d) := fun k hk => by rw [← lft_crs]; exact hs k hk
  have hmd : ∀ k, k % vs.length < vs.length := fun k => Nat.mod_lt _ (by omega)
  have hfar : ∀ j i, 0 ≤ crs (dif (vtx vs (i % vs.length)) d) (dif (vtx vs ((i + j) % vs.length)) d) := by
    intro j
    induction j with
    | zero => intro i; rw [Nat.add_zero]; have : crs (dif (vtx vs (i % vs.length)) d) (dif (vtx vs (i % vs.length)) d) = 0 := by unfold crs; grind
              omega
    | succ j ih =>
      intro i
      have h1 := ih i
      have h2 := hst ((i + j) % vs.length) (hmd _)
      rw [Nat.mod_add_mod] at h2
      exact crs_trans (a := a) (hpos _ (hmd _)) (hpos _ (hmd _)) (hpos _ (hmd _)) h1 h2
  have hz : ∀ i j, i < vs.length → j < vs.length → crs (dif (vtx vs i) d) (dif (vtx vs j) d) = 0 := by
    intro i j hi hj
    have h1 := hfar (j + (vs.length - i)) i
    have h2 := hfar (i + (vs.length - j)) j
    rw [show i + (j + (vs.length - i)) = j + vs.length by omega, Nat.add_mod_right, Nat.mod_eq_of_lt hi, Nat.mod_eq_of_lt hj] at h1
    rw [show j + (i + (vs.length - j)) = i + vs.length by omega, Nat.add_mod_right, Nat.mod_eq_of_lt hi, Nat.mod_eq_of_lt hj] at h2
    rw [crs_anti] at h2
    omega
  have hE0 := hE 0 (by omega)
  rw [Nat.mod_eq_of_lt (show 0 + 1 < vs.length by omega)] at hE0
  have h2 := hE0.2 2 (by omega) (by omega) (by rw [Nat.mod_eq_of_lt (by omega)]; omega)
  have e : lft (vtx vs 0) (vtx vs (0 + 1)) (vtx vs 2) = crs (dif (vtx vs 0) d) (dif (vtx vs (0 + 1)) d) + crs (dif (vtx vs (0 + 1)) d) (dif (vtx vs 2) d) + crs (dif (vtx vs 2) d) (dif (vtx vs 0) d) := by
    unfold lft crs dif; dsimp only; grind
  rw [hz 0 _ (by omega) (by omega), hz _ 2 (by omega) (by omega), hz 2 0 (by omega) (by omega)] at e
  omega
theorem proj_hi {vs : List V2} (hV : VShape 0 vs) {d : V2} (hc : cov 0 vs d = true) (a : V2) : ∃ v ∈ vs, dt a d ≤ dt a v := by
  obtain ⟨v, hv, h⟩ := proj_lo hV hc (-a.1, -a.2)
  refine ⟨v, hv, ?_⟩
  unfold dt at *
  dsimp only at h
  rw [Int.mul_neg, Int.mul_neg, Int.mul_neg, Int.mul_neg] at h
  omega
theorem VShape.poly {R : Int} {vs : List V2} (h : VShape R vs) (hv : vs ≠ []) : R = 0 ∧ VShape 0 vs := by
  rcases h with ⟨h, _⟩ | ⟨rfl, h⟩
  · exact absurd h hv
  · exact ⟨rfl, .inr ⟨rfl, h⟩⟩
theorem sq_le {x R : Int} (hR : 0 ≤ R) {y : Int} (h : x * x + y * y ≤ R * R) : -R ≤ x ∧ x ≤ R := by
  have hy : 0 ≤ y * y := by
    rcases Int.le_total 0 y with h | h
    · exact Int.mul_nonneg h h
    · exact Int.mul_nonneg_of_nonpos_of_nonpos h h
  exact le_of_sq hR (by omega)
theorem cov_circle {R : Int} {d : V2} : cov R [] d = true ↔ d.1 * d.1 + d.2 * d.2 ≤ R * R := by unfold cov; simp
/-- What a shape covers lies within its bounds. -/
theorem cov_box {R : Int} {vs : List V2} (hV : VShape R vs) {d : V2} (hc : cov R vs d = true) : bx0 R vs ≤ d.1 ∧ d.1 ≤ bx1 R vs ∧ by0 R vs ≤ d.2 ∧ d.2 ≤ by1 R vs := by
  by_cases hv : vs = []
  · subst hv
    have hR : 0 ≤ R := by rcases hV with ⟨_, h⟩ | ⟨_, h, _⟩ <;> simp at * <;> omega
    rw [cov_circle] at hc
    have h1 := sq_le hR hc
    have h2 := sq_le (x := d.2) (y := d.1) hR (by omega)
    simp only [bx0, bx1, by0, by1, if_true]
    omega
  · obtain ⟨rfl, hV⟩ := hV.poly hv
    simp only [bx0, bx1, by0, by1, if_neg hv]
    obtain ⟨v1, m1, g1⟩ := proj_lo hV hc (1, 0)
    obtain ⟨v2, m2, g2⟩ := proj_hi hV hc (1, 0)
    obtain ⟨v3, m3, g3⟩ := proj_lo hV hc (0, 1)
    obtain ⟨v4, m4, g4⟩ := proj_hi hV hc (0, 1)
    have e1 := (mnl_spec (·.1) hv).1 v1 m1
    have e2 := (mxl_spec (·.1) hv).1 v2 m2
    have e3 := (mnl_spec (·.2) hv).1 v3 m3
    have e4 := (mxl_spec (·.2) hv).1 v4 m4
    unfold dt at *
    dsimp only at *
    omega
/-- A polygon's bounds are touched by its vertices. -/
theorem box_touch {R : Int} {vs : List V2} (hv : vs ≠ []) : (∃ v ∈ vs, v.1 = bx0 R vs) ∧ (∃ v ∈ vs, v.1 = bx1 R vs) ∧ (∃ v ∈ vs, v.2 = by0 R vs) ∧ (∃ v ∈ vs, v.2 = by1 R vs) := by
  simp only [bx0, bx1, by0, by1, if_neg hv]
  exact ⟨(mnl_spec _ hv).2, (mxl_spec _ hv).2, (mnl_spec _ hv).2, (mxl_spec _ hv).2⟩
theorem cov_zero {R : Int} {vs : List V2} (hV : VShape R vs) : cov R vs (0, 0) = true := by
  by_cases hv : vs = []
  · subst hv
    have hR : 0 ≤ R := by rcases hV with ⟨_, h⟩ | ⟨_, h, _⟩ <;> simp at * <;> omega
    rw [cov_circle]
    have := Int.mul_nonneg hR hR
    dsimp only; omega
  · rcases hV with ⟨h, _⟩ | ⟨rfl, _, _, _, hE⟩
    · exact absurd h hv
    · rw [cov_poly hv]
      intro k hk
      exact Int.le_of_lt (hE k hk).1
theorem cov_vtx {R : Int} {vs : List V2} (hV : VShape R vs) {k : Nat} (hk : k < vs.length) : cov R vs (vtx vs k) = true := by
  have hv : vs ≠ [] := by rintro rfl; simp at hk
  rcases hV with ⟨h, _⟩ | ⟨rfl, _, _, _, hE⟩
  · exact absurd h hv
  · rw [cov_poly hv]
    intro i hi
    unfold sid
    by_cases h1 : k = i
    · subst h1; unfold lft; grind
    · by_cases h2 : k = (i + 1) % vs.length
      · rw [← h2]; unfold lft; grind
      · exact Int.le_of_lt ((hE i hi).2 k hk h1 h2)
theorem cov_mid {R : Int} {vs : List V2} (hV : VShape R vs) {p q m : V2} (h1 : cov R vs p = true) (h2 : cov R vs q = true) (e1 : 2 * m.1 = p.1 + q.1) (e2 : 2 * m.2 = p.2 + q.2) : cov R vs m = true := by
  by_cases hv : vs = []
  · subst hv
    rw [cov_circle] at *
    have s1 : 0 ≤ (p.1 - q.1) * (p.1 - q.1) := by
      rcases Int.le_total 0 (p.1 - q.1) with h | h
      · exact Int.mul_nonneg h h
      · exact Int.mul_nonneg_of_nonpos_of_nonpos h h
    have s2 : 0 ≤ (p.2 - q.2) * (p.2 - q.2) := by
      rcases Int.le_total 0 (p.2 - q.2) with h | h
      · exact Int.mul_nonneg h h
      · exact Int.mul_nonneg_of_nonpos_of_nonpos h h
    have e : 4 * (m.1 * m.1 + m.2 * m.2) = 2 * (p.1 * p.1 + p.2 * p.2) + 2 * (q.1 * q.1 + q.2 * q.2) - (p.1 - q.1) * (p.1 - q.1) - (p.2 - q.2) * (p.2 - q.2) := by
      have a : 4 * (m.1 * m.1 + m.2 * m.2) = (2 * m.1) * (2 * m.1) + (2 * m.2) * (2 * m.2) := by grind
      rw [a, e1, e2]; grind
    omega
  · rw [cov_poly hv] at *
    intro k hk
    have a := h1 k hk
    have b := h2 k hk
    have e : 2 * sid vs m k = sid vs p k + sid vs q k := by
      unfold sid lft
      have c1 : 2 * ((vtx vs ((k + 1) % vs.length)).1 - (vtx vs k).1) * (m.2 - (vtx vs k).2) = ((vtx vs ((k + 1) % vs.length)).1 - (vtx vs k).1) * (2 * m.2 - 2 * (vtx vs k).2) := by grind
      have c2 : 2 * ((vtx vs ((k + 1) % vs.length)).2 - (vtx vs k).2) * (m.1 - (vtx vs k).1) = ((vtx vs ((k + 1) % vs.length)).2 - (vtx vs k).2) * (2 * m.1 - 2 * (vtx vs k).1) := by grind
      rw [e1] at c2; rw [e2] at c1
      grind
    omega

/-! ### Projections -/
theorem pdt_eq (px py ax ay : Int) (v : V2) : pdt px py ax ay v = (dt (ax, ay) (px, py) + dt (ax, ay) v) / 1024 := by
  unfold pdt dotz dt
  dsimp only
  congr 1
  grind
theorem dotz_rel (px py qx qy ax ay : Int) : dotz qx qy ax ay = (dt (ax, ay) (px, py) + dt (ax, ay) (qx - px, qy - py)) / 1024 := by
  unfold dotz dt
  dsimp only
  congr 1
  grind
/-- What a polygon covers projects into its range. -/
theorem cov_proj_poly {vs : List V2} (hV : VShape 0 vs) (hv : vs ≠ []) (px py qx qy ax ay : Int) (hc : cov 0 vs (qx - px, qy - py) = true) : plo 0 vs px py ax ay ≤ dotz qx qy ax ay ∧ dotz qx qy ax ay ≤ phi 0 vs px py ax ay := by
  unfold plo phi
  rw [if_neg hv, if_neg hv]
  obtain ⟨v1, m1, g1⟩ := proj_lo hV hc (ax, ay)
  obtain ⟨v2, m2, g2⟩ := proj_hi hV hc (ax, ay)
  have e1 := (mnl_spec (pdt px py ax ay) hv).1 v1 m1
  have e2 := (mxl_spec (pdt px py ax ay) hv).1 v2 m2
  rw [pdt_eq] at e1 e2
  rw [dotz_rel px py]
  omega
theorem cauchy2 (a v : V2) : dt a v * dt a v ≤ (a.1 * a.1 + a.2 * a.2) * (v.1 * v.1 + v.2 * v.2) := by
  have e : (a.1 * a.1 + a.2 * a.2) * (v.1 * v.1 + v.2 * v.2) = dt a v * dt a v + crs a v * crs a v := by unfold dt crs; grind
  have : 0 ≤ crs a v * crs a v := by
    rcases Int.le_total 0 (crs a v) with h | h
    · exact Int.mul_nonneg h h
    · exact Int.mul_nonneg_of_nonpos_of_nonpos h h
  omega
theorem dt_circle {R : Int} (hR : 0 ≤ R) {d : V2} (hd : d.1 * d.1 + d.2 * d.2 ≤ R * R) {ax ay L : Int} (hL : 0 ≤ L) (ha : ax * ax + ay * ay ≤ L * L) : -(L * R) ≤ dt (ax, ay) d ∧ dt (ax, ay) d ≤ L * R := by
  have c := cauchy2 (ax, ay) d
  dsimp only at c
  have p : (ax * ax + ay * ay) * (d.1 * d.1 + d.2 * d.2) ≤ (L * L) * (R * R) :=
    Int.mul_le_mul ha hd (by
      have s1 : 0 ≤ d.1 * d.1 := by
        rcases Int.le_total 0 d.1 with h | h
        · exact Int.mul_nonneg h h
        · exact Int.mul_nonneg_of_nonpos_of_nonpos h h
      have s2 : 0 ≤ d.2 * d.2 := by
        rcases Int.le_total 0 d.2 with h | h
        · exact Int.mul_nonneg h h
        · exact Int.mul_nonneg_of_nonpos_of_nonpos h h
      omega) (Int.mul_nonneg hL hL)
  have e : (L * L) * (R * R) = (L * R) * (L * R) := by grind
  exact sq_le (y := 0) (Int.mul_nonneg hL hR) (by omega)
theorem cov_proj {R : Int} {vs : List V2} (hV : VShape R vs) (px py qx qy ax ay : Int) (ha : ax * ax + ay * ay ≤ 1048576) (hc : cov R vs (qx - px, qy - py) = true) : plo R vs px py ax ay ≤ dotz qx qy ax ay ∧ dotz qx qy ax ay ≤ phi R vs px py ax ay := by
  by_cases hv : vs = []
  · subst hv
    have hR : 0 ≤ R := by rcases hV with ⟨_, h⟩ | ⟨_, h, _⟩ <;> simp at * <;> omega
    have h := dt_circle hR (cov_circle.1 hc) (L := 1024) (ax := ax) (ay := ay) (by omega) (by omega)
    unfold plo phi
    rw [if_pos rfl, if_pos rfl, dotz_rel px py qx qy]
    have e : dotz px py ax ay = dt (ax, ay) (px, py) / 1024 := rfl
    rw [e]
    omega
  · obtain ⟨rfl, hV⟩ := hV.poly hv
    exact cov_proj_poly hV hv px py qx qy ax ay hc
/-- A step by multiples of 1024 moves the projection by as much. -/
theorem dotz_step (px py ax ay i k x y : Int) : dotz (px + i * 1024 + x) (py + k * 1024 + y) ax ay = dotz (px + x) (py + y) ax ay + (i * ax + k * ay) := by
  unfold dotz
  have e : (px + i * 1024 + x) * ax + (py + k * 1024 + y) * ay = (px + x) * ax + (py + y) * ay + (i * ax + k * ay) * 1024 := by grind
  rw [e, Int.add_mul_ediv_right _ _ (by omega)]
theorem mnl_shift {f g : V2 → Int} {c : Int} (h : ∀ v, f v = g v + c) {vs : List V2} (hv : vs ≠ []) : mnl f vs = mnl g vs + c := by
  obtain ⟨h1, v, h2, h3⟩ := mnl_spec g hv
  exact mnl_unique f (fun v hv => by rw [h]; have := h1 v hv; omega) ⟨v, h2, by rw [h, h3]⟩
theorem mxl_shift {f g : V2 → Int} {c : Int} (h : ∀ v, f v = g v + c) {vs : List V2} (hv : vs ≠ []) : mxl f vs = mxl g vs + c := by
  obtain ⟨h1, v, h2, h3⟩ := mxl_spec g hv
  exact mxl_unique f (fun v hv => by rw [h]; have := h1 v hv; omega) ⟨v, h2, by rw [h, h3]⟩
theorem plo_step (R : Int) (vs : List V2) (px py ax ay i k : Int) : plo R vs (px + i * 1024) (py + k * 1024) ax ay = plo R vs px py ax ay + (i * ax + k * ay) ∧ phi R vs (px + i * 1024) (py + k * 1024) ax ay = phi R vs px py ax ay + (i * ax + k * ay) := by
  unfold plo phi
  by_cases hv : vs = []
  · simp only [if_pos hv]
    have := dotz_step px py ax ay i k 0 0
    simp only [Int.add_zero] at this
    omega
  · simp only [if_neg hv]
    exact ⟨mnl_shift (fun v => dotz_step px py ax ay i k v.1 v.2) hv, mxl_shift (fun v => dotz_step px py ax ay i k v.1 v.2) hv⟩
theorem plo_rot (R : Int) (j : Nat) (vs : List V2) (px py ax ay : Int) : plo R (rot j vs) px py ax ay = plo R vs px py ax ay ∧ phi R (rot j vs) px py ax ay = phi R vs px py ax ay := by
  unfold plo phi
  by_cases hv : vs = []
  · subst hv; simp [rot]
  · have hr : rot j vs ≠ [] := fun h => hv (rot_nil.1 h)
    simp only [if_neg hv, if_neg hr]
    exact ⟨mnl_rot _ _ hv, mxl_rot _ _ hv⟩
theorem box_rot (R : Int) (j : Nat) (vs : List V2) : bx0 R (rot j vs) = bx0 R vs ∧ by0 R (rot j vs) = by0 R vs ∧ bx1 R (rot j vs) = bx1 R vs ∧ by1 R (rot j vs) = by1 R vs := by
  unfold bx0 by0 bx1 by1
  by_cases hv : vs = []
  · subst hv; simp [rot]
  · have hr : rot j vs ≠ [] := fun h => hv (rot_nil.1 h)
    simp only [if_neg hv, if_neg hr]
    exact ⟨mnl_rot _ _ hv, mnl_rot _ _ hv, mxl_rot _ _ hv, mxl_rot _ _ hv⟩
end Go.Proofs.Ytipcppbbpmdijaa
