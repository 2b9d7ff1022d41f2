/-
  Axes and contacts of two shapes in plain numbers, and their laws: exchange, another first vertex, moves, larger circles. Conditions: as the theorems state. No program in sight.
-/
import Derived.Test.YtipcppbbpmdijaaShl
namespace Go.Proofs.Ytipcppbbpmdijaa
open Go.RowKit Go.Sort
/-! ### Axes -/
def unt (v : V2) : V2 := if v.1 = 0 ∧ v.2 = 0 then (1024, 0) else (mdv v.1 1024 (lnz v.1 v.2), mdv v.2 1024 (lnz v.1 v.2))
theorem le_len (x y : Int) : -lnz x y ≤ x ∧ x ≤ lnz x y ∧ -lnz x y ≤ y ∧ y ≤ lnz x y := by
  obtain ⟨_, h⟩ := lnz_spec x y
  have h0 := lnz_nonneg x y
  generalize lnz x y = L at *
  have sx := sq_nonneg x
  have sy := sq_nonneg y
  have key : ∀ z : Int, z * z ≤ x * x + y * y → -L ≤ z ∧ z ≤ L := by
    intro z hz
    constructor
    · refine Classical.byContradiction fun hn => ?_
      have := sq_mono (a := L + 1) (b := -z) (by omega) (by omega)
      rw [Int.neg_mul_neg] at this; omega
    · refine Classical.byContradiction fun hn => ?_
      have := sq_mono (a := L + 1) (b := z) (by omega) (by omega)
      omega
  exact ⟨(key x (by omega)).1, (key x (by omega)).2, (key y (by omega)).1, (key y (by omega)).2⟩
theorem len_pos {x y : Int} (h : ¬ (x = 0 ∧ y = 0)) : 1 ≤ lnz x y := by
  have := le_len x y; omega
theorem mdv_len {x L : Int} (hL : 1 ≤ L) (h : -L ≤ x ∧ x ≤ L) : -1024 ≤ mdv x 1024 L ∧ mdv x 1024 L ≤ 1024 := by
  obtain ⟨h1, h2⟩ := mdv_pos x 1024 (c := L) (by omega)
  generalize mdv x 1024 L = q at *
  constructor
  · refine Classical.byContradiction fun hn => ?_
    have : L * (q + 1) ≤ L * -1024 := Int.mul_le_mul_of_nonneg_left (by omega) (by omega)
    rw [Int.mul_add] at this; omega
  · refine Classical.byContradiction fun hn => ?_
    have : L * 1025 ≤ L * q := Int.mul_le_mul_of_nonneg_left (by omega) (by omega)
    omega
theorem unt_bd (v : V2) : (-1024 ≤ (unt v).1 ∧ (unt v).1 ≤ 1024) ∧ (-1024 ≤ (unt v).2 ∧ (unt v).2 ≤ 1024) := by
  unfold unt
  split
  · simp
  · rename_i h
    have hL := len_pos h
    have hb := le_len v.1 v.2
    exact ⟨mdv_len hL (by omega), mdv_len hL (by omega)⟩
/-- The unit vector of a vector other than zero is not zero. -/
theorem nrm_ne {x y : Int} (h : ¬ (x = 0 ∧ y = 0)) : ¬ (mdv x 1024 (lnz x y) = 0 ∧ mdv y 1024 (lnz x y) = 0) := by
  rintro ⟨h1, h2⟩
  have hL := len_pos h
  obtain ⟨a1, a2⟩ := mdv_pos x 1024 (c := lnz x y) (by omega)
  obtain ⟨b1, b2⟩ := mdv_pos y 1024 (c := lnz x y) (by omega)
  obtain ⟨s1, s2⟩ := lnz_spec x y
  rw [h1] at a1 a2; rw [h2] at b1 b2
  generalize lnz x y = L at *
  have p := sq_mono (a := x) (b := L - 1) (by omega) (by omega)
  have p1 := sq_mono (a := 1024 * x) (b := L) (by omega) (by omega)
  have p2 := sq_mono (a := 1024 * y) (b := L) (by omega) (by omega)
  have e1 : 1024 * x * (1024 * x) = 1048576 * (x * x) := by grind
  have e2 : 1024 * y * (1024 * y) = 1048576 * (y * y) := by grind
  have : 1 ≤ L * L := by have := sq_mono (a := 1) (b := L) (by omega) hL; omega
  omega
def ednx (vs : List V2) (i : Nat) : V2 := ((vtx vs ((i + 1) % vs.length)).2 - (vtx vs i).2, (vtx vs i).1 - (vtx vs ((i + 1) % vs.length)).1)
def eax (vs : List V2) (i : Nat) : V2 := unt (ednx vs i)
def eaxs (vs : List V2) : List V2 := (List.range vs.length).map (eax vs)
/-- The vertex nearest to a point: d leads from the point to the polygon's position. -/
def sqn (d u : V2) : Int := (d.1 + u.1) * (d.1 + u.1) + (d.2 + u.2) * (d.2 + u.2)
def nrs (d : V2) : List V2 → V2
  | [] => (0, 0)
  | v :: t => t.foldl (fun m u => if sqn d u < sqn d m then u else m) v
theorem nrs_one (d : V2) {l : List V2} {v : V2} (h : l = []) : nrs d (l ++ [v]) = v := by subst h; rfl
theorem nrs_snoc (d : V2) {l : List V2} (h : l ≠ []) (v : V2) : nrs d (l ++ [v]) = if sqn d v < sqn d (nrs d l) then v else nrs d l := by
  cases l with
  | nil => exact absurd rfl h
  | cons u t => simp only [nrs, List.cons_append, List.foldl_append, List.foldl_cons, List.foldl_nil]; rfl
theorem nrs_mem (d : V2) : ∀ {l : List V2}, l ≠ [] → nrs d l ∈ l := by
  intro l h
  cases l with
  | nil => exact absurd rfl h
  | cons u t =>
    have key : ∀ (t : List V2) (m : V2), t.foldl (fun m u => if sqn d u < sqn d m then u else m) m ∈ m :: t := by
      intro t
      induction t with
      | nil => intro m; simp
      | cons x t ih =>
        intro m
        simp only [List.foldl_cons]
        have := ih (if sqn d x < sqn d m then x else m)
        rcases List.mem_cons.1 this with h | h
        · rw [h]; split <;> simp
        · exact List.mem_cons_of_mem _ (List.mem_cons_of_mem _ h)
    exact key t u
theorem nrs_min (d : V2) : ∀ {l : List V2}, ∀ v ∈ l, sqn d (nrs d l) ≤ sqn d v := by
  intro l v hv
  cases l with
  | nil => simp at hv
  | cons u t =>
    have key : ∀ (t : List V2) (m : V2), sqn d (t.foldl (fun m u => if sqn d u < sqn d m then u else m) m) ≤ sqn d m ∧ ∀ v ∈ t, sqn d (t.foldl (fun m u => if sqn d u < sqn d m then u else m) m) ≤ sqn d v := by
      intro t
      induction t with
      | nil => intro m; simp
      | cons x t ih =>
        intro m
        simp only [List.foldl_cons, List.mem_cons]
        obtain ⟨h1, h2⟩ := ih (if sqn d x < sqn d m then x else m)
        have h3 : sqn d (if sqn d x < sqn d m then x else m) ≤ sqn d m ∧ sqn d (if sqn d x < sqn d m then x else m) ≤ sqn d x := by split <;> omega
        refine ⟨by omega, ?_⟩
        rintro v (rfl | hv)
        · omega
        · exact h2 v hv
    rcases List.mem_cons.1 hv with rfl | hv
    · exact (key t v).1
    · exact (key t u).2 v hv
def plus (d v : V2) : V2 := (d.1 + v.1, d.2 + v.2)
def btw (va vb : List V2) (p q : V2) : List V2 :=
  if va = [] then (if vb = [] then [unt (dif q p)] else [unt (plus (dif q p) (nrs (dif q p) vb))])
  else (if vb = [] then [unt (plus (dif p q) (nrs (dif p q) va))] else [])
def axl (va vb : List V2) (p q : V2) : List V2 := eaxs va ++ eaxs vb ++ btw va vb p q
theorem eaxs_bd (vs : List V2) : ∀ x ∈ eaxs vs, (-1024 ≤ x.1 ∧ x.1 ≤ 1024) ∧ (-1024 ≤ x.2 ∧ x.2 ≤ 1024) := by
  intro x hx
  obtain ⟨i, _, rfl⟩ := List.mem_map.1 hx
  exact unt_bd _
theorem axl_bd (va vb : List V2) (p q : V2) : ∀ x ∈ axl va vb p q, (-1024 ≤ x.1 ∧ x.1 ≤ 1024) ∧ (-1024 ≤ x.2 ∧ x.2 ≤ 1024) := by
  intro x hx
  unfold axl btw at hx
  rcases List.mem_append.1 hx with hx | hx
  · rcases List.mem_append.1 hx with hx | hx <;> exact eaxs_bd _ x hx
  · split at hx <;> split at hx <;> simp at hx <;> subst hx <;> exact unt_bd _
theorem axl_ne (va vb : List V2) (p q : V2) : axl va vb p q ≠ [] := by
  intro h
  have hl := congrArg List.length h
  unfold axl eaxs btw at hl
  simp only [List.length_append, List.length_map, List.length_range, List.length_nil] at hl
  split at hl
  · split at hl <;> simp at hl
  · rename_i hv
    have := List.length_pos_iff.2 hv
    omega
theorem axl_len (va vb : List V2) (p q : V2) : (axl va vb p q).length ≤ va.length + vb.length + 1 := by
  unfold axl eaxs btw
  simp only [List.length_append, List.length_map, List.length_range]
  split <;> split <;> simp

/-! ### Contacts -/
def dep (Ra : Int) (va : List V2) (p : V2) (Rb : Int) (vb : List V2) (q a : V2) : Int :=
  min (phi Ra va p.1 p.2 a.1 a.2) (phi Rb vb q.1 q.2 a.1 a.2) - max (plo Ra va p.1 p.2 a.1 a.2) (plo Rb vb q.1 q.2 a.1 a.2)
def ovl (Ra : Int) (va : List V2) (p : V2) (Rb : Int) (vb : List V2) (q : V2) : Bool :=
  decide (bx0 Ra va + p.1 ≤ bx1 Rb vb + q.1 ∧ bx0 Rb vb + q.1 ≤ bx1 Ra va + p.1 ∧ by0 Ra va + p.2 ≤ by1 Rb vb + q.2 ∧ by0 Rb vb + q.2 ≤ by1 Ra va + p.2)
def best (f : V2 → Int) : List V2 → V2 × Int
  | [] => ((0, 0), 0)
  | v :: t => t.foldl (fun c x => if f x < c.2 then (x, f x) else c) (v, f v)
theorem best_one (f : V2 → Int) {l : List V2} {v : V2} (h : l = []) : best f (l ++ [v]) = (v, f v) := by subst h; rfl
theorem best_snoc (f : V2 → Int) {l : List V2} (h : l ≠ []) (v : V2) : best f (l ++ [v]) = if f v < (best f l).2 then (v, f v) else best f l := by
  cases l with
  | nil => exact absurd rfl h
  | cons u t => simp only [best, List.cons_append, List.foldl_append, List.foldl_cons, List.foldl_nil]; rfl
theorem best_spec (f : V2 → Int) {l : List V2} (h : l ≠ []) : (∀ x ∈ l, (best f l).2 ≤ f x) ∧ (best f l).1 ∈ l ∧ f (best f l).1 = (best f l).2 := by
  cases l with
  | nil => exact absurd rfl h
  | cons u t =>
    have key : ∀ (t : List V2) (c : V2 × Int), f c.1 = c.2 → let r := t.foldl (fun c x => if f x < c.2 then (x, f x) else c) c; (r.2 ≤ c.2 ∧ ∀ x ∈ t, r.2 ≤ f x) ∧ r.1 ∈ c.1 :: t ∧ f r.1 = r.2 := by
      intro t
      induction t with
      | nil => intro c hc; simp [hc]
      | cons x t ih =>
        intro c hc
        simp only [List.foldl_cons]
        by_cases hx : f x < c.2
        · rw [if_pos hx]
          obtain ⟨⟨h1, h2⟩, h3, h4⟩ := ih (x, f x) rfl
          try dsimp only at h1
          refine ⟨⟨by omega, ?_⟩, List.mem_cons_of_mem _ h3, h4⟩
          intro y hy
          rcases List.mem_cons.1 hy with rfl | hy
          · exact h1
          · exact h2 y hy
        · rw [if_neg hx]
          obtain ⟨⟨h1, h2⟩, h3, h4⟩ := ih c hc
          refine ⟨⟨h1, ?_⟩, ?_, h4⟩
          · intro y hy
            rcases List.mem_cons.1 hy with rfl | hy
            · omega
            · exact h2 y hy
          · rcases List.mem_cons.1 h3 with h3 | h3
            · rw [h3]; exact List.mem_cons_self
            · exact List.mem_cons_of_mem _ (List.mem_cons_of_mem _ h3)
    obtain ⟨⟨h1, h2⟩, h3, h4⟩ := key t (u, f u) rfl
    refine ⟨?_, h3, h4⟩
    intro x hx
    rcases List.mem_cons.1 hx with rfl | hx
    · exact h1
    · exact h2 x hx
theorem best_eq {f g : V2 → Int} {l k : List V2} (h : l ≠ []) (h' : k ≠ []) (h1 : ∀ x ∈ l, ∃ y ∈ k, g y = f x) (h2 : ∀ y ∈ k, ∃ x ∈ l, f x = g y) : (best f l).2 = (best g k).2 := by
  obtain ⟨a1, a2, a3⟩ := best_spec f h
  obtain ⟨b1, b2, b3⟩ := best_spec g h'
  obtain ⟨y, hy, ey⟩ := h1 _ a2
  obtain ⟨x, hx, ex⟩ := h2 _ b2
  have := b1 y hy; have := a1 x hx
  omega
def hit (Ra : Int) (va : List V2) (p : V2) (Rb : Int) (vb : List V2) (q : V2) : Bool := ovl Ra va p Rb vb q && (axl va vb p q).all fun x => decide (0 < dep Ra va p Rb vb q x)
def bst (Ra : Int) (va : List V2) (p : V2) (Rb : Int) (vb : List V2) (q : V2) : V2 × Int := best (dep Ra va p Rb vb q) (axl va vb p q)
/-- The contact's normal and depth: zero where the shapes do not touch. -/
def cnD (Ra : Int) (va : List V2) (p : V2) (Rb : Int) (vb : List V2) (q : V2) : Int := if hit Ra va p Rb vb q = true then (bst Ra va p Rb vb q).2 else 0
def cnN (Ra : Int) (va : List V2) (p : V2) (Rb : Int) (vb : List V2) (q : V2) : V2 :=
  if hit Ra va p Rb vb q = true then (if dotz (q.1 - p.1) (q.2 - p.2) (bst Ra va p Rb vb q).1.1 (bst Ra va p Rb vb q).1.2 < 0 then (-(bst Ra va p Rb vb q).1.1, -(bst Ra va p Rb vb q).1.2) else (bst Ra va p Rb vb q).1) else (0, 0)
theorem hit_iff {Ra : Int} {va : List V2} {p : V2} {Rb : Int} {vb : List V2} {q : V2} : hit Ra va p Rb vb q = true ↔ ovl Ra va p Rb vb q = true ∧ ∀ x ∈ axl va vb p q, 0 < dep Ra va p Rb vb q x := by
  unfold hit; simp
/-- They touch just if the bounds overlap and the least depth is above 0. -/
theorem hit_least (Ra : Int) (va : List V2) (p : V2) (Rb : Int) (vb : List V2) (q : V2) : hit Ra va p Rb vb q = (ovl Ra va p Rb vb q && decide (0 < (bst Ra va p Rb vb q).2)) := by
  rw [Bool.eq_iff_iff, hit_iff, Bool.and_eq_true, decide_eq_true_eq]
  obtain ⟨b1, b2, b3⟩ := best_spec (dep Ra va p Rb vb q) (axl_ne va vb p q)
  unfold bst
  constructor
  · rintro ⟨h1, h2⟩; exact ⟨h1, by rw [← b3]; exact h2 _ b2⟩
  · rintro ⟨h1, h2⟩; exact ⟨h1, fun x hx => Int.lt_of_lt_of_le h2 (b1 x hx)⟩

/-! ### Laws -/
theorem dep_comm (Ra : Int) (va : List V2) (p : V2) (Rb : Int) (vb : List V2) (q a : V2) : dep Ra va p Rb vb q a = dep Rb vb q Ra va p a := by
  unfold dep; rw [Int.min_comm, Int.max_comm]
theorem ovl_comm (Ra : Int) (va : List V2) (p : V2) (Rb : Int) (vb : List V2) (q : V2) : ovl Ra va p Rb vb q = ovl Rb vb q Ra va p := by
  unfold ovl; congr 1; rw [eq_iff_iff]; constructor <;> rintro ⟨h1, h2, h3, h4⟩ <;> exact ⟨h2, h1, h4, h3⟩
theorem axl_poly {va vb : List V2} (ha : va ≠ []) (hb : vb ≠ []) (p q : V2) : axl va vb p q = eaxs va ++ eaxs vb := by
  unfold axl btw; rw [if_neg ha, if_neg hb, List.append_nil]
theorem eax_rot {j k : Nat} {vs : List V2} (hk : k < vs.length) (hj : j < vs.length) : eax (rot j vs) k = eax vs ((k + j) % vs.length) := by
  unfold eax ednx
  rw [rot_length, vtx_rot hk hj, vtx_rot (Nat.mod_lt _ (by omega)) hj]
  have e : (((k + 1) % vs.length + j) % vs.length) = (((k + j) % vs.length + 1) % vs.length) := by
    rw [Nat.mod_add_mod, Nat.mod_add_mod]; congr 1; omega
  rw [e]
theorem eaxs_rot {j : Nat} {vs : List V2} (hj : j < vs.length) (x : V2) : x ∈ eaxs (rot j vs) ↔ x ∈ eaxs vs := by
  unfold eaxs
  simp only [List.mem_map, List.mem_range, rot_length]
  constructor
  · rintro ⟨k, hk, rfl⟩
    exact ⟨(k + j) % vs.length, Nat.mod_lt _ (by omega), (eax_rot hk hj).symm⟩
  · rintro ⟨k, hk, rfl⟩
    refine ⟨(k + (vs.length - j)) % vs.length, Nat.mod_lt _ (by omega), ?_⟩
    rw [eax_rot (Nat.mod_lt _ (by omega)) hj, Nat.mod_add_mod, show k + (vs.length - j) + j = k + vs.length by omega, Nat.add_mod_right, Nat.mod_eq_of_lt hk]
theorem hit_of {Ra : Int} {va : List V2} {p : V2} {Rb : Int} {vb : List V2} {q : V2} {Rc : Int} {vc : List V2} {r : V2} {Rd : Int} {vd : List V2} {s : V2} (ho : ovl Ra va p Rb vb q = ovl Rc vc r Rd vd s)
    (h1 : ∀ x ∈ axl va vb p q, ∃ y ∈ axl vc vd r s, dep Rc vc r Rd vd s y = dep Ra va p Rb vb q x) (h2 : ∀ y ∈ axl vc vd r s, ∃ x ∈ axl va vb p q, dep Ra va p Rb vb q x = dep Rc vc r Rd vd s y) :
    hit Ra va p Rb vb q = hit Rc vc r Rd vd s ∧ cnD Ra va p Rb vb q = cnD Rc vc r Rd vd s := by
  have hb : (bst Ra va p Rb vb q).2 = (bst Rc vc r Rd vd s).2 := best_eq (axl_ne _ _ _ _) (axl_ne _ _ _ _) h1 h2
  have hh : hit Ra va p Rb vb q = hit Rc vc r Rd vd s := by rw [hit_least, hit_least, ho, hb]
  refine ⟨hh, ?_⟩
  unfold cnD
  rw [hh, hb]
/-- Exchanging two polygons. -/
theorem hit_swap {Ra : Int} {va : List V2} {p : V2} {Rb : Int} {vb : List V2} {q : V2} (ha : va ≠ []) (hb : vb ≠ []) : hit Ra va p Rb vb q = hit Rb vb q Ra va p ∧ cnD Ra va p Rb vb q = cnD Rb vb q Ra va p := by
  refine hit_of (ovl_comm _ _ _ _ _ _) ?_ ?_
  · intro x hx
    refine ⟨x, ?_, dep_comm _ _ _ _ _ _ _⟩
    rw [axl_poly ha hb] at hx; rw [axl_poly hb ha]
    rw [List.mem_append] at *; exact hx.symm
  · intro x hx
    refine ⟨x, ?_, dep_comm _ _ _ _ _ _ _⟩
    rw [axl_poly hb ha] at hx; rw [axl_poly ha hb]
    rw [List.mem_append] at *; exact hx.symm
theorem dep_rot (Ra : Int) (va : List V2) (j : Nat) (p : V2) (Rb : Int) (vb : List V2) (q a : V2) : dep Ra (rot j va) p Rb vb q a = dep Ra va p Rb vb q a := by
  unfold dep; rw [(plo_rot Ra j va p.1 p.2 a.1 a.2).1, (plo_rot Ra j va p.1 p.2 a.1 a.2).2]
theorem ovl_rot (Ra : Int) (va : List V2) (j : Nat) (p : V2) (Rb : Int) (vb : List V2) (q : V2) : ovl Ra (rot j va) p Rb vb q = ovl Ra va p Rb vb q := by
  unfold ovl; obtain ⟨h1, h2, h3, h4⟩ := box_rot Ra j va; rw [h1, h2, h3, h4]
theorem hit_rot {Ra : Int} {va : List V2} {p : V2} {Rb : Int} {vb : List V2} {q : V2} {j : Nat} (hb : vb ≠ []) (hj : j < va.length) : hit Ra va p Rb vb q = hit Ra (rot j va) p Rb vb q ∧ cnD Ra va p Rb vb q = cnD Ra (rot j va) p Rb vb q := by
  have ha : va ≠ [] := by rintro rfl; simp at hj
  have hr : rot j va ≠ [] := fun h => ha (rot_nil.1 h)
  refine hit_of (ovl_rot _ _ _ _ _ _ _).symm ?_ ?_
  · intro x hx
    refine ⟨x, ?_, dep_rot _ _ _ _ _ _ _ _⟩
    rw [axl_poly ha hb] at hx; rw [axl_poly hr hb]
    rw [List.mem_append, eaxs_rot hj]; rwa [List.mem_append] at hx
  · intro x hx
    refine ⟨x, ?_, (dep_rot _ _ _ _ _ _ _ _).symm⟩
    rw [axl_poly hr hb] at hx; rw [axl_poly ha hb]
    rw [List.mem_append, eaxs_rot hj] at hx; rwa [List.mem_append]
/-- Moving both shapes. -/
def mov (p : V2) (i k : Int) : V2 := (p.1 + i * 1024, p.2 + k * 1024)
theorem dep_mov (Ra : Int) (va : List V2) (p : V2) (Rb : Int) (vb : List V2) (q a : V2) (i k : Int) : dep Ra va (mov p i k) Rb vb (mov q i k) a = dep Ra va p Rb vb q a := by
  unfold dep mov
  obtain ⟨h1, h2⟩ := plo_step Ra va p.1 p.2 a.1 a.2 i k
  obtain ⟨h3, h4⟩ := plo_step Rb vb q.1 q.2 a.1 a.2 i k
  dsimp only
  rw [h1, h2, h3, h4]
  omega
theorem axl_mov (va vb : List V2) (p q : V2) (i k : Int) : axl va vb (mov p i k) (mov q i k) = axl va vb p q := by
  have e1 : dif (mov q i k) (mov p i k) = dif q p := by unfold dif mov; dsimp only; congr 1 <;> omega
  have e2 : dif (mov p i k) (mov q i k) = dif p q := by unfold dif mov; dsimp only; congr 1 <;> omega
  unfold axl btw; rw [e1, e2]
theorem ovl_mov (Ra : Int) (va : List V2) (p : V2) (Rb : Int) (vb : List V2) (q : V2) (i k : Int) : ovl Ra va (mov p i k) Rb vb (mov q i k) = ovl Ra va p Rb vb q := by
  unfold ovl mov; dsimp only; congr 1; rw [eq_iff_iff]; constructor <;> rintro ⟨h1, h2, h3, h4⟩ <;> exact ⟨by omega, by omega, by omega, by omega⟩
theorem con_mov (Ra : Int) (va : List V2) (p : V2) (Rb : Int) (vb : List V2) (q : V2) (i k : Int) : hit Ra va (mov p i k) Rb vb (mov q i k) = hit Ra va p Rb vb q ∧ cnD Ra va (mov p i k) Rb vb (mov q i k) = cnD Ra va p Rb vb q ∧ cnN Ra va (mov p i k) Rb vb (mov q i k) = cnN Ra va p Rb vb q := by
  have hd : dep Ra va (mov p i k) Rb vb (mov q i k) = dep Ra va p Rb vb q := by funext a; exact dep_mov _ _ _ _ _ _ _ _ _
  have hb : bst Ra va (mov p i k) Rb vb (mov q i k) = bst Ra va p Rb vb q := by unfold bst; rw [hd, axl_mov]
  have hh : hit Ra va (mov p i k) Rb vb (mov q i k) = hit Ra va p Rb vb q := by unfold hit; rw [hd, axl_mov, ovl_mov]
  have e1 : (mov q i k).1 - (mov p i k).1 = q.1 - p.1 := by unfold mov; dsimp only; omega
  have e2 : (mov q i k).2 - (mov p i k).2 = q.2 - p.2 := by unfold mov; dsimp only; omega
  refine ⟨hh, ?_, ?_⟩
  · unfold cnD; rw [hh, hb]
  · unfold cnN; rw [hh, hb, e1, e2]
/-- A circle with a larger radius. -/
theorem hit_grow {R S : Int} {p : V2} {Rb : Int} {vb : List V2} {q : V2} (h : R ≤ S) (hh : hit R [] p Rb vb q = true) : hit S [] p Rb vb q = true ∧ cnD R [] p Rb vb q ≤ cnD S [] p Rb vb q := by
  have hdp : ∀ x, dep R [] p Rb vb q x ≤ dep S [] p Rb vb q x := by
    intro x; unfold dep plo phi; simp only [if_true]; omega
  have hS : hit S [] p Rb vb q = true := by
    rw [hit_iff] at *
    refine ⟨?_, fun x hx => Int.lt_of_lt_of_le (hh.2 x hx) (hdp x)⟩
    have := hh.1
    unfold ovl bx0 bx1 by0 by1 at *
    simp only [if_true, decide_eq_true_eq] at *
    omega
  refine ⟨hS, ?_⟩
  unfold cnD
  rw [if_pos hh, if_pos hS]
  obtain ⟨a1, -, -⟩ := best_spec (dep R [] p Rb vb q) (axl_ne [] vb p q)
  obtain ⟨b1, b2, b3⟩ := best_spec (dep S [] p Rb vb q) (axl_ne [] vb p q)
  unfold bst
  have := a1 _ b2; have := hdp (best (dep S [] p Rb vb q) (axl [] vb p q)).1
  omega
/-- The normal does not point from the second shape to the first. -/
theorem cn_dot {Ra : Int} {va : List V2} {p : V2} {Rb : Int} {vb : List V2} {q : V2} : 0 ≤ dotz (q.1 - p.1) (q.2 - p.2) (cnN Ra va p Rb vb q).1 (cnN Ra va p Rb vb q).2 := by
  unfold cnN
  split
  · split
    · rename_i h
      unfold dotz at *
      dsimp only
      rw [Int.mul_neg, Int.mul_neg]
      omega
    · omega
  · unfold dotz; simp
end Go.Proofs.Ytipcppbbpmdijaa
