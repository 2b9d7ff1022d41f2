/-
  Shapes in plain numbers: a radius and a list of vertices; bounds, projections, what a shape covers. Conditions: as the theorems state. No program in sight.
-/
import Derived.Test.YtipcppbbpmdijaaVecw
import Derived.Test.YtipcppbbpmdijaaVmath
import Derived.Test.YtipcppbbpmdijaaBlk
namespace Go.Proofs.Ytipcppbbpmdijaa
open Go.RowKit Go.Sort

abbrev V2 := Int × Int
/-- The least and the greatest of f over a list (0 for none). -/
def mnl (f : V2 → Int) : List V2 → Int
  | [] => 0
  | v :: t => t.foldl (fun a u => min a (f u)) (f v)
def mxl (f : V2 → Int) : List V2 → Int
  | [] => 0
  | v :: t => t.foldl (fun a u => max a (f u)) (f v)
theorem mnl_snoc (f : V2 → Int) {l : List V2} (h : l ≠ []) (v : V2) : mnl f (l ++ [v]) = min (mnl f l) (f v) := by
  cases l with
  | nil => exact absurd rfl h
  | cons u t => simp [mnl, List.foldl_append]
theorem mxl_snoc (f : V2 → Int) {l : List V2} (h : l ≠ []) (v : V2) : mxl f (l ++ [v]) = max (mxl f l) (f v) := by
  cases l with
  | nil => exact absurd rfl h
  | cons u t => simp [mxl, List.foldl_append]
theorem mnl_spec (f : V2 → Int) {l : List V2} (h : l ≠ []) : (∀ v ∈ l, mnl f l ≤ f v) ∧ ∃ v ∈ l, f v = mnl f l := by
  cases l with
  | nil => exact absurd rfl h
  | cons u t =>
    have key : ∀ (t : List V2) (a : Int), (t.foldl (fun a u => min a (f u)) a ≤ a ∧ ∀ v ∈ t, t.foldl (fun a u => min a (f u)) a ≤ f v) ∧ (t.foldl (fun a u => min a (f u)) a = a ∨ ∃ v ∈ t, f v = t.foldl (fun a u => min a (f u)) a) := by
      intro t
      induction t with
      | nil => intro a; simp
      | cons x t ih =>
        intro a
        obtain ⟨⟨h1, h2⟩, h3⟩ := ih (min a (f x))
        simp only [List.foldl_cons, List.mem_cons]
        refine ⟨⟨by omega, ?_⟩, ?_⟩
        · rintro v (rfl | hv)
          · omega
          · exact h2 v hv
        · rcases h3 with h3 | ⟨v, hv, h3⟩
          · rw [h3]
            rcases Int.le_total a (f x) with h | h
            · exact .inl (by omega)
            · exact .inr ⟨x, .inl rfl, by omega⟩
          · exact .inr ⟨v, .inr hv, h3⟩
    obtain ⟨⟨h1, h2⟩, h3⟩ := key t (f u)
    refine ⟨?_, ?_⟩
    · intro v hv
      rcases List.mem_cons.1 hv with rfl | hv
      · exact h1
      · exact h2 v hv
    · rcases h3 with h3 | ⟨v, hv, h3⟩
      · exact ⟨u, List.mem_cons_self, h3.symm⟩
      · exact ⟨v, List.mem_cons_of_mem _ hv, h3⟩
theorem mxl_mnl (f : V2 → Int) (l : List V2) : mxl f l = -mnl (fun v => -f v) l := by
  cases l with
  | nil => rfl
  | cons u t =>
    have key : ∀ (t : List V2) (a : Int), t.foldl (fun a u => max a (f u)) a = -t.foldl (fun a u => min a (-f u)) (-a) := by
      intro t
      induction t with
      | nil => intro a; simp
      | cons x t ih =>
        intro a
        simp only [List.foldl_cons]
        rw [ih]
        congr 2
        omega
    exact key t (f u)
theorem mxl_spec (f : V2 → Int) {l : List V2} (h : l ≠ []) : (∀ v ∈ l, f v ≤ mxl f l) ∧ ∃ v ∈ l, f v = mxl f l := by
  obtain ⟨h1, v, hv, h2⟩ := mnl_spec (fun v => -f v) h
  rw [mxl_mnl]
  exact ⟨fun v hv => by have := h1 v hv; omega, v, hv, by omega⟩
theorem mnl_unique (f : V2 → Int) {l : List V2} {m : Int} (h1 : ∀ v ∈ l, m ≤ f v) (h2 : ∃ v ∈ l, f v = m) : mnl f l = m := by
  obtain ⟨v, hv, e⟩ := h2
  have hne : l ≠ [] := by rintro rfl; simp at hv
  obtain ⟨a, u, hu, b⟩ := mnl_spec f hne
  have := a v hv; have := h1 u hu; omega
theorem mxl_unique (f : V2 → Int) {l : List V2} {m : Int} (h1 : ∀ v ∈ l, f v ≤ m) (h2 : ∃ v ∈ l, f v = m) : mxl f l = m := by
  obtain ⟨v, hv, e⟩ := h2
  have hne : l ≠ [] := by rintro rfl; simp at hv
  obtain ⟨a, u, hu, b⟩ := mxl_spec f hne
  have := a v hv; have := h1 u hu; omega

/-- The sides of a shape's bounds, relative to its position. -/
def bx0 (R : Int) (vs : List V2) : Int := if vs = [] then -R else mnl (·.1) vs
def by0 (R : Int) (vs : List V2) : Int := if vs = [] then -R else mnl (·.2) vs
def bx1 (R : Int) (vs : List V2) : Int := if vs = [] then R else mxl (·.1) vs
def by1 (R : Int) (vs : List V2) : Int := if vs = [] then R else mxl (·.2) vs

theorem bb_one (R : Int) {l : List V2} {v : V2} (h : l = []) : bx0 R (l ++ [v]) = v.1 ∧ by0 R (l ++ [v]) = v.2 ∧ bx1 R (l ++ [v]) = v.1 ∧ by1 R (l ++ [v]) = v.2 := by
  subst h; simp [bx0, by0, bx1, by1, mnl, mxl]
theorem bb_snoc (R : Int) {l : List V2} {v : V2} (h : l ≠ []) : bx0 R (l ++ [v]) = min (bx0 R l) v.1 ∧ by0 R (l ++ [v]) = min (by0 R l) v.2 ∧ bx1 R (l ++ [v]) = max (bx1 R l) v.1 ∧ by1 R (l ++ [v]) = max (by1 R l) v.2 := by
  have h' : l ++ [v] ≠ [] := by simp
  unfold bx0 by0 bx1 by1
  simp only [if_neg h, if_neg h']
  exact ⟨mnl_snoc _ h v, mnl_snoc _ h v, mxl_snoc _ h v, mxl_snoc _ h v⟩

/-- The bounds of a shape's numbers. -/
def SN (R : Int) (vs : List V2) : Prop := (0 ≤ R ∧ R ≤ 32768) ∧ vs.length ≤ 8 ∧ ∀ v ∈ vs, (-32768 ≤ v.1 ∧ v.1 ≤ 32768) ∧ (-32768 ≤ v.2 ∧ v.2 ≤ 32768)
theorem bb_bd {R : Int} {vs : List V2} (h : SN R vs) : (-32768 ≤ bx0 R vs ∧ bx0 R vs ≤ 32768) ∧ (-32768 ≤ by0 R vs ∧ by0 R vs ≤ 32768) ∧ (-32768 ≤ bx1 R vs ∧ bx1 R vs ≤ 32768) ∧ (-32768 ≤ by1 R vs ∧ by1 R vs ≤ 32768) := by
  obtain ⟨h1, _, h2⟩ := h
  unfold bx0 by0 bx1 by1
  by_cases hv : vs = []
  · simp only [if_pos hv]; omega
  · simp only [if_neg hv]
    obtain ⟨_, a, ha, ea⟩ := mnl_spec (·.1) hv
    obtain ⟨_, b, hb, eb⟩ := mnl_spec (·.2) hv
    obtain ⟨_, c, hc, ec⟩ := mxl_spec (·.1) hv
    obtain ⟨_, d, hd, ed⟩ := mxl_spec (·.2) hv
    have := h2 a ha; have := h2 b hb; have := h2 c hc; have := h2 d hd
    rw [← ea, ← eb, ← ec, ← ed]
    omega

/-- The projection onto an axis. -/
def pdt (px py ax ay : Int) (v : V2) : Int := dotz (px + v.1) (py + v.2) ax ay
def plo (R : Int) (vs : List V2) (px py ax ay : Int) : Int := if vs = [] then dotz px py ax ay - R else mnl (pdt px py ax ay) vs
def phi (R : Int) (vs : List V2) (px py ax ay : Int) : Int := if vs = [] then dotz px py ax ay + R else mxl (pdt px py ax ay) vs

/-- A slice of vertices in memory. -/
def Pol (W : World) (A : Option Addr) (n c : Nat) (vs : List V2) : Prop :=
  vs.length = n ∧ n ≤ c ∧ (n ≤ 1000 ∧ c ≤ 9223372036854775807) ∧ (n = 0 → A = none ∧ c = 0) ∧
    (0 < n → ∃ b, A = some ⟨b, 0, none⟩ ∧ b < W.heap.size ∧ ∀ i v, vs[i]? = some v → W.cell? ⟨b, i * 2, none⟩ = some (.int .i64 v.1) ∧ W.cell? ⟨b, i * 2 + 1, none⟩ = some (.int .i64 v.2))
theorem Pol.below {W W' : World} {A : Option Addr} {n c : Nat} {vs : List V2} (h : Pol W A n c vs) (hb : Below W.heap.size W W') : Pol W' A n c vs := by
  obtain ⟨h1, h2, h3, h4, h5⟩ := h
  refine ⟨h1, h2, h3, h4, fun hn => ?_⟩
  obtain ⟨b, rfl, hlt, hc⟩ := h5 hn
  exact ⟨b, rfl, Nat.lt_of_lt_of_le hlt hb.size, fun i v hv => ⟨(hb.cell (p := ⟨b, i * 2, none⟩) hlt).trans (hc i v hv).1, (hb.cell (p := ⟨b, i * 2 + 1, none⟩) hlt).trans (hc i v hv).2⟩⟩
theorem Pol.lt {W : World} {A : Option Addr} {n c : Nat} {vs : List V2} (_ : Pol W A n c vs) : True := trivial
theorem Pol.re {W : World} {A : Option Addr} {n c : Nat} {vs : List V2} (h : Pol W A n c vs) (d : Nat) (os : Array Obj) : Pol (grow (redrawn W d) os) A n c vs := h.below (below_regrown W d os)
theorem Pol.nil {W : World} {A : Option Addr} {n c : Nat} {vs : List V2} (h : Pol W A n c vs) (hv : vs = []) : A = none ∧ n = 0 ∧ c = 0 := by
  obtain ⟨h1, _, _, h4, _⟩ := h
  subst hv
  obtain rfl : n = 0 := by simpa using h1.symm
  exact ⟨(h4 rfl).1, rfl, (h4 rfl).2⟩
theorem Pol.at_ {W : World} {A : Option Addr} {n c : Nat} {vs : List V2} (h : Pol W A n c vs) (hv : vs ≠ []) : ∃ b, A = some ⟨b, 0, none⟩ ∧ 0 < n ∧ vs.length = n ∧ n ≤ c ∧ (n ≤ 1000 ∧ c ≤ 9223372036854775807) ∧ b < W.heap.size ∧
    ∀ i v, vs[i]? = some v → W.cell? ⟨b, i * 2, none⟩ = some (.int .i64 v.1) ∧ W.cell? ⟨b, i * 2 + 1, none⟩ = some (.int .i64 v.2) := by
  obtain ⟨h1, h2, h3, _, h5⟩ := h
  have hn : 0 < n := by have := List.length_pos_iff.2 hv; omega
  obtain ⟨b, hA, hlt, hc⟩ := h5 hn
  exact ⟨b, hA, hn, h1, h2, h3, hlt, hc⟩
theorem Pol.empty (W : World) : Pol W none 0 0 [] := ⟨rfl, by omega, by omega, fun _ => ⟨rfl, rfl⟩, fun h => by omega⟩
end Go.Proofs.Ytipcppbbpmdijaa
