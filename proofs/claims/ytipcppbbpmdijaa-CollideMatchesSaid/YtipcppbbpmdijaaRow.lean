/-
  Slices of vertices that a call has made: their cells as a list, and the same as a polygon in memory. Conditions: as the theorems state. No program in sight.
-/
import Derived.Test.YtipcppbbpmdijaaShp
import Derived.Maps.AppendAt
import Derived.Deep.AppendLies
import Derived.Laws.OwnMore
namespace Go.Proofs.Ytipcppbbpmdijaa
open Go.RowKit Go.Sort

def flat (vs : List V2) : List Value := vs.flatMap fun v => [.int .i64 v.1, .int .i64 v.2]
theorem flat_nil : flat [] = [] := rfl
theorem flat_cons (v : V2) (vs : List V2) : flat (v :: vs) = .int .i64 v.1 :: .int .i64 v.2 :: flat vs := rfl
theorem flat_append (a b : List V2) : flat (a ++ b) = flat a ++ flat b := by unfold flat; exact List.flatMap_append
theorem flat_snoc (a : List V2) (v : V2) : flat (a ++ [v]) = flat a ++ [.int .i64 v.1, .int .i64 v.2] := flat_append _ _
theorem flat_len (vs : List V2) : (flat vs).length = vs.length * 2 := by
  induction vs with
  | nil => rfl
  | cons v vs ih => rw [flat_cons, List.length_cons, List.length_cons, List.length_cons, ih]; omega
theorem flat_at {vs : List V2} : ∀ {i : Nat} {v : V2}, vs[i]? = some v → (flat vs)[i * 2]? = some (.int .i64 v.1) ∧ (flat vs)[i * 2 + 1]? = some (.int .i64 v.2) := by
  induction vs with
  | nil => intro i v h; simp at h
  | cons u vs ih =>
    intro i v h
    cases i with
    | zero => simp at h; subst h; exact ⟨rfl, rfl⟩
    | succ i =>
      have := ih (i := i) (v := v) (by simpa using h)
      rw [flat_cons, show (i + 1) * 2 = i * 2 + 1 + 1 by omega]
      simpa using this
theorem flat_of {vs : List V2} : ∀ {j : Nat} {u : Value}, (flat vs)[j]? = some u → ∃ i v, vs[i]? = some v ∧ ((j = i * 2 ∧ u = .int .i64 v.1) ∨ (j = i * 2 + 1 ∧ u = .int .i64 v.2)) := by
  induction vs with
  | nil => intro j u h; simp [flat] at h
  | cons v vs ih =>
    intro j u h
    rw [flat_cons] at h
    match j, h with
    | 0, h => simp at h; exact ⟨0, v, rfl, .inl ⟨rfl, h.symm⟩⟩
    | 1, h => simp at h; exact ⟨0, v, rfl, .inr ⟨rfl, h.symm⟩⟩
    | j + 2, h =>
      obtain ⟨i, u', h1, h2⟩ := ih (j := j) (u := u) (by simpa using h)
      refine ⟨i + 1, u', by simpa using h1, ?_⟩
      rcases h2 with ⟨rfl, h2⟩ | ⟨rfl, h2⟩
      · exact .inl ⟨by omega, h2⟩
      · exact .inr ⟨by omega, h2⟩
theorem flat_one (vs : List V2) : ∀ u ∈ flat vs, u.oneCell' = true := by
  intro u hu
  obtain ⟨j, hj⟩ := List.mem_iff_getElem?.1 hu
  obtain ⟨i, v, _, ⟨_, rfl⟩ | ⟨_, rfl⟩⟩ := flat_of hj <;> rfl
theorem add_at (b k j : Nat) : (⟨b, k, none⟩ : Addr).add j = ⟨b, k + j, none⟩ := by unfold Addr.add; split <;> simp_all
/-- What a polygon's slice holds from vertex k on, as the append laws ask it. -/
theorem pol_news {w : World} {b : Nat} {vs : List V2} (h : ∀ i v, vs[i]? = some v → w.cell? ⟨b, i * 2, none⟩ = some (.int .i64 v.1) ∧ w.cell? ⟨b, i * 2 + 1, none⟩ = some (.int .i64 v.2)) (k m : Nat) :
    ∀ j u, (flat ((vs.drop k).take m))[j]? = some u → w.cell? ((⟨b, k * 2, none⟩ : Addr).add j) = some u := by
  intro j u hu
  obtain ⟨i, v, hv, hj⟩ := flat_of hu
  rw [List.getElem?_take] at hv
  split at hv
  · rw [List.getElem?_drop] at hv
    obtain ⟨h1, h2⟩ := h _ _ hv
    rw [add_at]
    rcases hj with ⟨rfl, rfl⟩ | ⟨rfl, rfl⟩
    · rw [show k * 2 + i * 2 = (k + i) * 2 by omega]; exact h1
    · rw [show k * 2 + (i * 2 + 1) = (k + i) * 2 + 1 by omega]; exact h2
  · cases hv
/-- A slice of vertices that the call owns is a polygon in memory. -/
theorem own_pol {w : World} {base : Nat} {e : TypeId} {A : Option Addr} {n c : Nat} {vs : List V2} (h : w.ownsRow base e 2 (.slice A n c) n (flat vs)) (hn : 0 < n) (hm : n ≤ 1000) : Pol w A n c vs := by
  obtain ⟨g, cap, hv, hg, hlt⟩ := h.form hn
  injection hv with hA _ hc
  subst hA
  have hl : vs.length = n := by have := h.1; rw [flat_len] at this; omega
  have hcap : n ≤ c ∧ c ≤ maxLen := by
    rcases h.2 with ⟨h', _⟩ | ⟨g', cap', cur, h', _, _, h1, h2, _⟩
    · injection h' with h'; cases h'
    · injection h' with _ _ h'; subst h'; exact ⟨h1, h2⟩
  unfold maxLen at hcap
  refine ⟨hl, by omega, by omega, fun h0 => by omega, fun _ => ⟨g, rfl, hlt, fun i v hv => ?_⟩⟩
  have hi : i < n := by have := (List.getElem?_eq_some_iff.1 hv).1; omega
  obtain ⟨h1, h2⟩ := flat_at hv
  exact ⟨(h.cellAt (i * 2) (by omega)).trans h1, (h.cellAt (i * 2 + 1) (by omega)).trans h2⟩
theorem own_len {w : World} {base : Nat} {e : TypeId} {v : Value} {n : Nat} {vs : List V2} (h : w.ownsRow base e 2 v n (flat vs)) : vs.length = n := by have := h.1; rw [flat_len] at this; omega
theorem grown_below {B : Nat} {w a b : World} {row : Option Nat} (h : Below B w a) (hg : a.grownBy b row) (hB : B ≤ a.heap.size) (hr : ∀ k, row = some k → B ≤ k) : Below B w b := h.grown hg hB hr
theorem cell_two_new (w : World) (x y : Value) (t : TypeId) : ∀ j u, [x, y][j]? = some u → (w.alloc (.cells #[x, y] t)).cell? ((⟨w.heap.size, 0, none⟩ : Addr).add j) = some u := by
  intro j u hj
  rw [add_at]
  match j, hj with
  | 0, hj => simp at hj; subst hj; simp [go_sem]
  | 1, hj => simp at hj; subst hj; simp [go_sem]
theorem Pol.far {W : World} {g n c : Nat} {vs : List V2} (h : Pol W (some ⟨g, 0, none⟩) n c vs) {b j : Nat} (hne : b ≠ g) (u : Value) : Pol (W.setCell ⟨b, j, none⟩ u) (some ⟨g, 0, none⟩) n c vs := by
  obtain ⟨h1, h2, h3, h4, h5⟩ := h
  refine ⟨h1, h2, h3, h4, fun hn => ?_⟩
  obtain ⟨b', hb, hlt, hc⟩ := h5 hn
  obtain rfl : g = b' := by simpa using hb
  refine ⟨g, rfl, by simpa using hlt, fun i v hv => ?_⟩
  obtain ⟨k1, k2⟩ := hc i v hv
  exact ⟨(World.cell?_setCell_other W ⟨b, j, none⟩ ⟨g, i * 2, none⟩ u (fun e => by cases e; exact hne rfl)).trans k1, (World.cell?_setCell_other W ⟨b, j, none⟩ ⟨g, i * 2 + 1, none⟩ u (fun e => by cases e; exact hne rfl)).trans k2⟩
theorem ob_none {n c : Nat} : ∀ k, (Value.slice none n c).ownBlock = some k → False := fun k h => by simp [Value.ownBlock] at h
theorem ob_some {a : Addr} {n c k : Nat} (h : (Value.slice (some a) n c).ownBlock = some k) : k = a.block := by simpa [Value.ownBlock] using h.symm
/-- The world at hand under a name, ahead of a call. -/
theorem calls_at {P : Program} {f : FuncId} {args : Array Value} {Q : Ending → World → Prop} {w : World} (h : ∀ W, W = w → Calls P f args W Q) : Calls P f args w Q := h w rfl
theorem grown_of_below {w w' : World} (hb : Below w.heap.size w w') : w.grownBy w' none := ⟨hb.os, hb.tape, hb.output, hb.size, fun k hk _ => hb.block k hk⟩
theorem own_below {w w' : World} {base : Nat} {e : TypeId} {size n : Nat} {v : Value} {xs : List Value} (h : w.ownsRow base e size v n xs) (hb : Below w.heap.size w w') : w'.ownsRow base e size v n xs :=
  h.kept (grown_of_below hb) (by cases hv : v.ownBlock <;> simp)
end Go.Proofs.Ytipcppbbpmdijaa
