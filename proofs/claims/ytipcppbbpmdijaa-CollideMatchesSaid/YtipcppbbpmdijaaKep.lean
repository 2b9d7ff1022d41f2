/-
  What a loop over the axes leaves alone: everything below a mark, and every block of one element type. Conditions: as the theorems state. No program in sight.
-/
import Derived.Test.YtipcppbbpmdijaaRow
import Derived.Test.YtipcppbbpmdijaaCol
import Derived.RangeFuncNested
import Derived.RangeFuncBound
import Derived.RangeFuncCalls
import Derived.RangeFuncLeaves
namespace Go.Proofs.Ytipcppbbpmdijaa
open Go.RowKit Go.Sort

/-- Block g is just the cells cs of element type t. -/
def Bk (w : World) (g : Nat) (t : TypeId) (cs : Array Value) : Prop := w.heap[g]? = some (.cells cs t (0, 0))
section
variable {w w' : World} {g : Nat} {t : TypeId} {cs : Array Value}
theorem Bk.lt (h : Bk w g t cs) : g < w.heap.size := (Array.getElem?_eq_some_iff.1 h).1
theorem Bk.cell (h : Bk w g t cs) (i : Nat) : w.cell? ⟨g, i, none⟩ = cs[i]? := cell_of_row w g i cs t (0, 0) h
theorem Bk.frozen (h : Bk w g t cs) (i : Nat) : w.frozen? ⟨g, i, none⟩ = false := by unfold Bk at h; simp [World.frozen?, h]
theorem Bk.new (w : World) (t : TypeId) (cs : Array Value) : Bk (w.alloc (.cells cs t)) w.heap.size t cs := World.alloc_heap_new w _
theorem Bk.alloc (h : Bk w g t cs) (o : Obj) : Bk (w.alloc o) g t cs := (Below.heap_alloc w o g h.lt).trans h
theorem Bk.set_ (h : Bk w g t cs) (i : Nat) (u : Value) : Bk (w.setCell ⟨g, i, none⟩ u) g t (cs.setIfInBounds i u) := by
  unfold Bk at h ⊢
  simp [World.setCell, Array.getElem?_modify, h]
theorem Bk.far (h : Bk w g t cs) {b i : Nat} (hp : g ≠ b) (u : Value) : Bk (w.setCell ⟨b, i, none⟩ u) g t cs := (Below.heap_setCell w _ u g hp).trans h
theorem Bk.below (h : Bk w g t cs) (hb : Below w.heap.size w w') : Bk w' g t cs := (hb.block g h.lt).trans h
theorem Bk.kept {row : Option Nat} (h : Bk w g t cs) (hb : w.grownBy w' row) (hg : some g ≠ row) : Bk w' g t cs := (hb.block g h.lt hg).trans h
theorem Bk.two {a b : Value} (h : Bk w g t #[a, b]) : B2 w g a b := ⟨⟨h.cell 0, h.frozen 0⟩, ⟨h.cell 1, h.frozen 1⟩⟩
theorem Bk.own {B : Nat} {s : Nat → Array Value} : Own (fun (i : Nat) W => Bk W B t (s i)) := by
  intro i X Y row hv hg hrow
  refine hv.kept hg (fun e' => ?_)
  obtain ⟨o, ho, hc⟩ := hrow B e'.symm
  rw [show X.heap[B]? = _ from hv] at ho; cases ho; cases hc
end

/-- Every block of element type T lies as it lay. -/
def KeepT (T : TypeId) (W W' : World) : Prop := W.heap.size ≤ W'.heap.size ∧ ∀ b cs, Bk W b T cs → Bk W' b T cs
section
variable {T : TypeId} {A B C : World}
theorem KeepT.refl (T : TypeId) (W : World) : KeepT T W W := ⟨Nat.le_refl _, fun _ _ h => h⟩
theorem KeepT.trans (h : KeepT T A B) (k : KeepT T B C) : KeepT T A C := ⟨Nat.le_trans h.1 k.1, fun b cs hb => k.2 b cs (h.2 b cs hb)⟩
theorem KeepT.of_below (h : Below A.heap.size A B) : KeepT T A B := ⟨h.size, fun _ _ hb => hb.below h⟩
theorem KeepT.alloc (W : World) (o : Obj) : KeepT T W (W.alloc o) := ⟨by simp, fun _ _ hb => hb.alloc o⟩
theorem KeepT.set {t : TypeId} {g : Nat} {cs : Array Value} (W : World) (h : Bk W g t cs) (hne : t ≠ T) (i : Nat) (u : Value) : KeepT T W (W.setCell ⟨g, i, none⟩ u) :=
  ⟨by simp, fun b ds hb => hb.far (fun e => by subst e; unfold Bk at h hb; rw [h] at hb; cases hb; exact hne rfl) u⟩
theorem KeepT.put (W : World) {l : Nat} {o : Obj} (o' : Obj) (h : W.heap[l]? = some o) (ho : o.isCells = false) : KeepT T W (W.putObj l o') :=
  ⟨(grownBy_putObj' W l o').size, fun b ds hb => hb.kept (grownBy_putObj' W l o') (fun e => by cases e; unfold Bk at hb; rw [h] at hb; cases hb; cases ho)⟩
theorem KeepT.grown {v : Value} {base size n : Nat} {e : TypeId} {xs : List Value} (hr : A.ownsRow base e size v n xs) (hne : e ≠ T) (hg : A.grownBy B v.ownBlock) : KeepT T A B :=
  ⟨hg.size, fun b ds hb => hb.kept hg (fun e' => by
    rcases hr.2 with ⟨rfl, _⟩ | ⟨g, cap, cur, rfl, _, hgb, _⟩
    · simp [Value.ownBlock] at e'
    · obtain rfl : b = g := by simpa [Value.ownBlock] using e'
      unfold Bk at hb; rw [hgb] at hb; cases hb; exact hne rfl)⟩
end
/-- Everything below n₀ but block c lies as it lay. -/
structure BelowX (c n₀ : Nat) (W W' : World) : Prop where
  os : W'.os = W.os
  tape : W'.tape = W.tape
  output : W'.output = W.output
  size : W.heap.size ≤ W'.heap.size
  block : ∀ k, k < n₀ → k ≠ c → W'.heap[k]? = W.heap[k]?
section
variable {c n₀ : Nat} {A B C : World}
theorem BelowX.refl (c n₀ : Nat) (W : World) : BelowX c n₀ W W := ⟨rfl, rfl, rfl, Nat.le_refl _, fun _ _ _ => rfl⟩
theorem BelowX.trans (h : BelowX c n₀ A B) (k : BelowX c n₀ B C) : BelowX c n₀ A C :=
  ⟨k.os.trans h.os, k.tape.trans h.tape, k.output.trans h.output, Nat.le_trans h.size k.size, fun i hi hc => (k.block i hi hc).trans (h.block i hi hc)⟩
theorem BelowX.of (h : Below A.heap.size A B) (hn : n₀ ≤ A.heap.size) : BelowX c n₀ A B := ⟨h.os, h.tape, h.output, h.size, fun i hi _ => h.block i (by omega)⟩
theorem BelowX.set (W : World) {b : Nat} (i : Nat) (u : Value) (hb : b = c ∨ n₀ ≤ b) : BelowX c n₀ W (W.setCell ⟨b, i, none⟩ u) :=
  ⟨rfl, rfl, rfl, by simp, fun k hk hc => Below.heap_setCell _ _ _ k (fun e => by have e2 : k = b := e; omega)⟩
theorem BelowX.grown {row : Option Nat} (hg : A.grownBy B row) (hr : ∀ k, row = some k → k = c ∨ n₀ ≤ k) (hn : n₀ ≤ A.heap.size) : BelowX c n₀ A B :=
  ⟨hg.os, hg.tape, hg.output, hg.size, fun k hk hc => hg.block k (by omega) (fun e => by have := hr k e.symm; omega)⟩
theorem BelowX.cel {b i : Nat} {v : Value} (h : BelowX c n₀ A B) (hc : Cel A b i v) (hb : b < n₀) (hne : b ≠ c) : Cel B b i v :=
  ⟨(World.cell?_of_block (h.block b hb hne)).trans hc.1, (World.frozen?_of_block (h.block b hb hne)).trans hc.2⟩
theorem BelowX.two {b : Nat} {u v : Value} (h : BelowX c n₀ A B) (hc : B2 A b u v) (hb : b < n₀) (hne : b ≠ c) : B2 B b u v := ⟨h.cel hc.1 hb hne, h.cel hc.2 hb hne⟩
theorem BelowX.pol {P : Option Addr} {n k : Nat} {vs : List V2} (h : BelowX c n₀ A B) (hp : Pol A P n k vs) (hb : ∀ a, P = some a → a.block < n₀ ∧ a.block ≠ c) : Pol B P n k vs := by
  obtain ⟨h1, h2, h3, h4, h5⟩ := hp
  refine ⟨h1, h2, h3, h4, fun hn => ?_⟩
  obtain ⟨b, rfl, hlt, hc⟩ := h5 hn
  obtain ⟨hb1, hb2⟩ := hb _ rfl
  exact ⟨b, rfl, Nat.lt_of_lt_of_le hlt h.size, fun i v hv => ⟨(World.cell?_of_block (a := ⟨b, i * 2, none⟩) (h.block b hb1 hb2)).trans (hc i v hv).1, (World.cell?_of_block (a := ⟨b, i * 2 + 1, none⟩) (h.block b hb1 hb2)).trans (hc i v hv).2⟩⟩
/-- Back to 'Below': where block c lies beyond the mark. -/
theorem BelowX.down {m : Nat} (h : BelowX c n₀ A B) (hm : m ≤ n₀) (hc : m ≤ c) : Below m A B := (Below.refl m A).trans ⟨h.os, h.tape, h.output, h.size, fun k hk => h.block k (by omega) (by omega)⟩
end
/-- What a round of a loop over the axes keeps. -/
def Kp (T : TypeId) (c n₀ : Nat) (W W' : World) : Prop := BelowX c n₀ W W' ∧ KeepT T W W'
theorem Kp.trans {T : TypeId} {c n₀ : Nat} {A B C : World} (h : Kp T c n₀ A B) (k : Kp T c n₀ B C) : Kp T c n₀ A C := ⟨h.1.trans k.1, h.2.trans k.2⟩
theorem Kp.refl (T : TypeId) (c n₀ : Nat) (W : World) : Kp T c n₀ W W := ⟨BelowX.refl _ _ _, KeepT.refl _ _⟩
theorem Kp.put {T : TypeId} {c n₀ : Nat} {w : World} (hn : n₀ ≤ w.heap.size) (W : World) (l : Nat) (o o' : Obj) (hl : w.heap.size ≤ l) (h : W.heap[l]? = some o) (hc : o.isCells = false) (_ : o.isWalk = false) : Kp T c n₀ W (W.putObj l o') :=
  ⟨BelowX.grown (grownBy_putObj' W l o') (fun k e => by cases e; exact .inr (by omega)) (by have := (Array.getElem?_eq_some_iff.1 h).1; omega), KeepT.put W o' h hc⟩
theorem Kp.of_below {T : TypeId} {c n₀ : Nat} {W W' : World} (h : Below W.heap.size W W') (hn : n₀ ≤ W.heap.size) : Kp T c n₀ W W' := ⟨BelowX.of h hn, KeepT.of_below h⟩

/-! ### The axes as a list of a type that bears their bounds -/
abbrev AX := { x : V2 // (-1024 ≤ x.1 ∧ x.1 ≤ 1024) ∧ (-1024 ≤ x.2 ∧ x.2 ≤ 1024) }
def encA (x : AX) : Array Value := #[.agg #[.int .i64 x.1.1, .int .i64 x.1.2]]
def axL (va vb : List V2) (p q : V2) : List AX := (axl va vb p q).attach.map fun x => ⟨x.1, axl_bd va vb p q x.1 x.2⟩
theorem axL_val (va vb : List V2) (p q : V2) : (axL va vb p q).map (·.1) = axl va vb p q := by
  unfold axL; rw [List.map_map]; exact List.attach_map_subtype_val _
theorem axL_len (va vb : List V2) (p q : V2) : (axL va vb p q).length = (axl va vb p q).length := by rw [← axL_val, List.length_map]
theorem axL_at {va vb : List V2} {p q : V2} {k : Nat} {x : V2} (h : (axl va vb p q)[k]? = some x) : ∃ y : AX, y.1 = x ∧ (axL va vb p q)[k]? = some y := by
  rw [← axL_val, List.getElem?_map] at h
  obtain ⟨y, hy, e⟩ := Option.map_eq_some_iff.1 h
  exact ⟨y, e, hy⟩
theorem axl_a {va vb : List V2} {p q : V2} {i : Nat} (h : i < va.length) : (axl va vb p q)[i]? = some (eax va i) := by
  have hl : (eaxs va).length = va.length := by unfold eaxs; simp
  unfold axl
  rw [List.append_assoc, List.getElem?_append_left (by omega)]
  unfold eaxs
  rw [List.getElem?_map, List.getElem?_range h]; rfl
theorem axl_b {va vb : List V2} {p q : V2} {i : Nat} (h : i < vb.length) : (axl va vb p q)[va.length + i]? = some (eax vb i) := by
  have hl : (eaxs va).length = va.length := by unfold eaxs; simp
  have hm : (eaxs vb).length = vb.length := by unfold eaxs; simp
  unfold axl
  rw [List.append_assoc, List.getElem?_append_right (by omega), hl, show va.length + i - va.length = i by omega, List.getElem?_append_left (by omega)]
  unfold eaxs
  rw [List.getElem?_map, List.getElem?_range h]; rfl
def btv (va vb : List V2) (p q : V2) : V2 := if va = [] then (if vb = [] then dif q p else plus (dif q p) (nrs (dif q p) vb)) else plus (dif p q) (nrs (dif p q) va)
theorem btw_eq {va vb : List V2} (h : va = [] ∨ vb = []) (p q : V2) : btw va vb p q = [unt (btv va vb p q)] := by
  unfold btw btv
  by_cases ha : va = []
  · rw [if_pos ha, if_pos ha]; split <;> rfl
  · rw [if_neg ha, if_neg ha, if_pos (h.resolve_left ha)]
theorem axl_c {va vb : List V2} {p q : V2} (h : va = [] ∨ vb = []) : (axl va vb p q)[va.length + vb.length]? = some (unt (btv va vb p q)) ∧ (axl va vb p q).length = va.length + vb.length + 1 := by
  have hl : (eaxs va).length = va.length := by unfold eaxs; simp
  have hm : (eaxs vb).length = vb.length := by unfold eaxs; simp
  unfold axl
  rw [btw_eq h, List.getElem?_append_right (by simp; omega)]
  simp only [List.length_append, hl, hm, Nat.sub_self, List.length_cons, List.length_nil]
  exact ⟨rfl, trivial⟩
theorem axl_d {va vb : List V2} {p q : V2} (ha : va ≠ []) (hb : vb ≠ []) : (axl va vb p q).length = va.length + vb.length := by
  rw [axl_poly ha hb]; unfold eaxs; simp
end Go.Proofs.Ytipcppbbpmdijaa
