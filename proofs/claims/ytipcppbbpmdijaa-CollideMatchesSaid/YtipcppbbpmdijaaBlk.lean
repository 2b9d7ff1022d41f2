/-
  Regions that draw their order, said with 'Below' behind them; blocks of one to five cells that may be written. Conditions: as the theorems state. No program in sight.
-/
import Derived.Test.YtipcppbbpmdijaaQt
import Derived.WalkKit
import Derived.Below
namespace Go.Proofs.Ytipcppbbpmdijaa
open Go.Sort Go.RowKit
theorem quiet_weak {P : Program} {ops : Array Oper} {C : World → Prop} {Q Q' : Act → Prop} (h : ∀ a, Q a → Q' a) : ∀ (l : List Oper) (a : Act), wpQuiet P ops C Q l a → wpQuiet P ops C Q' l a
  | [], a, H => h a H
  | o :: l, a, H => by
    unfold wpQuiet at H ⊢
    split
    · rename_i hw; rw [if_pos hw] at H; exact Oper.quiet_mono (quiet_weak h l) H
    · rename_i hw; rw [if_neg hw] at H; exact quiet_weak h l _ H

/-- The same, what lies behind said of every world of the class. -/
theorem wp_region_last {P : Program} {id : Nat} {Q : Exit → Act → World → Prop} {a : Act} {w : World} {l : List Oper} (n : Nat) (hm : P.follows .mixedOrders = true) (hB : Region.lexTailB .any l.toArray n = true)
    (h : wpQuiet P l.toArray (fun w' => ∃ p : Regrown, w' = grow (redrawn w p.d) p.os) (fun a' => ∀ w', Below w.heap.size w w' → wpList P l.toArray Q (l.drop n) a' w') (l.take n) a) :
    (Code.region id l.toArray true).wp P Q a w :=
  wp_region_tail n hm hB (quiet_weak (fun _ h w' ⟨p, hp⟩ => h w' (hp ▸ below_regrown w p.d p.os)) _ _ h)
theorem wp_region_below {P : Program} {id : Nat} {Q : Exit → Act → World → Prop} {a : Act} {w : World} {l : List Oper} (hm : P.follows .mixedOrders = true) (hB : Region.lexB .any l.toArray = true)
    (h : wpQuiet P l.toArray (fun w' => ∃ p : Regrown, w' = grow (redrawn w p.d) p.os) (fun a' => ∀ w', Below w.heap.size w w' → Q .normal a' w') l a) : (Code.region id l.toArray true).wp P Q a w :=
  wp_region_quiet_below hm hB (quiet_weak (fun _ h w' ⟨p, hp⟩ => h w' (hp ▸ below_regrown w p.d p.os)) _ _ h)
/-- The world at hand under a name. -/
theorem code_named {P : Program} {c : Code} {Q : Exit → Act → World → Prop} {a : Act} {w : World} (h : ∀ W, W = w → c.wp P Q a W) : c.wp P Q a w := h w rfl

/-! ### Blocks: their cells, which may be written -/
abbrev Cel (W : World) (b i : Nat) (v : Value) : Prop := W.cell? ⟨b, i, none⟩ = some v ∧ W.frozen? ⟨b, i, none⟩ = false
theorem Cel.lt {W : World} {b i : Nat} {v : Value} (h : Cel W b i v) : b < W.heap.size := World.block_lt_of_cell? W _ h.1
theorem Cel.below {W W' : World} {b i : Nat} {v : Value} (h : Cel W b i v) (hb : Below W.heap.size W W') : Cel W' b i v :=
  ⟨(hb.cell (p := ⟨b, i, none⟩) h.lt).trans h.1, (hb.frozen (p := ⟨b, i, none⟩) h.lt).trans h.2⟩
theorem Cel.re {W : World} {b i : Nat} {v : Value} (h : Cel W b i v) (d : Nat) (os : Array Obj) : Cel (grow (redrawn W d) os) b i v := h.below (below_regrown W d os)
theorem Cel.same {W : World} {b i : Nat} {v : Value} (h : Cel W b i v) (u : Value) : Cel (W.setCell ⟨b, i, none⟩ u) b i u :=
  ⟨World.cell?_setCell_same' _ _ _ (by rw [h.1]; rfl), by rw [World.frozen?_setCell]; exact h.2⟩
theorem Cel.far {W : World} {b i c j : Nat} {v : Value} (h : Cel W b i v) (hne : c ≠ b ∨ j ≠ i) (u : Value) : Cel (W.setCell ⟨c, j, none⟩ u) b i v :=
  ⟨(World.cell?_setCell_other W ⟨c, j, none⟩ ⟨b, i, none⟩ u (fun e => by cases e; simp at hne)).trans h.1, by rw [World.frozen?_setCell]; exact h.2⟩
abbrev B1 (W : World) (b : Nat) (v0 : Value) : Prop := Cel W b 0 v0
theorem B1.lt {W : World} {b : Nat} {v0 : Value} (h : B1 W b v0) : b < W.heap.size := Cel.lt h
theorem B1.below {W W' : World} {b : Nat} {v0 : Value} (h : B1 W b v0) (hb : Below W.heap.size W W') : B1 W' b v0 := Cel.below (h) hb
theorem B1.re {W : World} {b : Nat} {v0 : Value} (h : B1 W b v0) (d : Nat) (os : Array Obj) : B1 (grow (redrawn W d) os) b v0 := h.below (below_regrown W d os)
theorem B1.far {W : World} {b : Nat} {v0 : Value} (h : B1 W b v0) {c j : Nat} (hne : c ≠ b) (u : Value) : B1 (W.setCell ⟨c, j, none⟩ u) b v0 := Cel.far (h) (Or.inl hne) u
theorem B1.set0 {W : World} {b : Nat} {v0 : Value} (h : B1 W b v0) (u : Value) : B1 (W.setCell ⟨b, 0, none⟩ u) b u := Cel.same (h) u
abbrev B2 (W : World) (b : Nat) (v0 v1 : Value) : Prop := Cel W b 0 v0 ∧ Cel W b 1 v1
theorem B2.lt {W : World} {b : Nat} {v0 v1 : Value} (h : B2 W b v0 v1) : b < W.heap.size := Cel.lt h.1
theorem B2.below {W W' : World} {b : Nat} {v0 v1 : Value} (h : B2 W b v0 v1) (hb : Below W.heap.size W W') : B2 W' b v0 v1 := ⟨Cel.below (h.1) hb, Cel.below (h.2) hb⟩
theorem B2.re {W : World} {b : Nat} {v0 v1 : Value} (h : B2 W b v0 v1) (d : Nat) (os : Array Obj) : B2 (grow (redrawn W d) os) b v0 v1 := h.below (below_regrown W d os)
theorem B2.far {W : World} {b : Nat} {v0 v1 : Value} (h : B2 W b v0 v1) {c j : Nat} (hne : c ≠ b) (u : Value) : B2 (W.setCell ⟨c, j, none⟩ u) b v0 v1 := ⟨Cel.far (h.1) (Or.inl hne) u, Cel.far (h.2) (Or.inl hne) u⟩
theorem B2.set0 {W : World} {b : Nat} {v0 v1 : Value} (h : B2 W b v0 v1) (u : Value) : B2 (W.setCell ⟨b, 0, none⟩ u) b u v1 := ⟨Cel.same (h.1) u, Cel.far (h.2) (Or.inr (by decide)) u⟩
theorem B2.set1 {W : World} {b : Nat} {v0 v1 : Value} (h : B2 W b v0 v1) (u : Value) : B2 (W.setCell ⟨b, 1, none⟩ u) b v0 u := ⟨Cel.far (h.1) (Or.inr (by decide)) u, Cel.same (h.2) u⟩
abbrev B3 (W : World) (b : Nat) (v0 v1 v2 : Value) : Prop := Cel W b 0 v0 ∧ Cel W b 1 v1 ∧ Cel W b 2 v2
theorem B3.lt {W : World} {b : Nat} {v0 v1 v2 : Value} (h : B3 W b v0 v1 v2) : b < W.heap.size := Cel.lt h.1
theorem B3.below {W W' : World} {b : Nat} {v0 v1 v2 : Value} (h : B3 W b v0 v1 v2) (hb : Below W.heap.size W W') : B3 W' b v0 v1 v2 := ⟨Cel.below (h.1) hb, Cel.below (h.2.1) hb, Cel.below (h.2.2) hb⟩
theorem B3.re {W : World} {b : Nat} {v0 v1 v2 : Value} (h : B3 W b v0 v1 v2) (d : Nat) (os : Array Obj) : B3 (grow (redrawn W d) os) b v0 v1 v2 := h.below (below_regrown W d os)
theorem B3.far {W : World} {b : Nat} {v0 v1 v2 : Value} (h : B3 W b v0 v1 v2) {c j : Nat} (hne : c ≠ b) (u : Value) : B3 (W.setCell ⟨c, j, none⟩ u) b v0 v1 v2 := ⟨Cel.far (h.1) (Or.inl hne) u, Cel.far (h.2.1) (Or.inl hne) u, Cel.far (h.2.2) (Or.inl hne) u⟩
theorem B3.set0 {W : World} {b : Nat} {v0 v1 v2 : Value} (h : B3 W b v0 v1 v2) (u : Value) : B3 (W.setCell ⟨b, 0, none⟩ u) b u v1 v2 := ⟨Cel.same (h.1) u, Cel.far (h.2.1) (Or.inr (by decide)) u, Cel.far (h.2.2) (Or.inr (by decide)) u⟩
theorem B3.set1 {W : World} {b : Nat} {v0 v1 v2 : Value} (h : B3 W b v0 v1 v2) (u : Value) : B3 (W.setCell ⟨b, 1, none⟩ u) b v0 u v2 := ⟨Cel.far (h.1) (Or.inr (by decide)) u, Cel.same (h.2.1) u, Cel.far (h.2.2) (Or.inr (by decide)) u⟩
theorem B3.set2 {W : World} {b : Nat} {v0 v1 v2 : Value} (h : B3 W b v0 v1 v2) (u : Value) : B3 (W.setCell ⟨b, 2, none⟩ u) b v0 v1 u := ⟨Cel.far (h.1) (Or.inr (by decide)) u, Cel.far (h.2.1) (Or.inr (by decide)) u, Cel.same (h.2.2) u⟩
abbrev B4 (W : World) (b : Nat) (v0 v1 v2 v3 : Value) : Prop := Cel W b 0 v0 ∧ Cel W b 1 v1 ∧ Cel W b 2 v2 ∧ Cel W b 3 v3
theorem B4.lt {W : World} {b : Nat} {v0 v1 v2 v3 : Value} (h : B4 W b v0 v1 v2 v3) : b < W.heap.size := Cel.lt h.1
theorem B4.below {W W' : World} {b : Nat} {v0 v1 v2 v3 : Value} (h : B4 W b v0 v1 v2 v3) (hb : Below W.heap.size W W') : B4 W' b v0 v1 v2 v3 := ⟨Cel.below (h.1) hb, Cel.below (h.2.1) hb, Cel.below (h.2.2.1) hb, Cel.below (h.2.2.2) hb⟩
theorem B4.re {W : World} {b : Nat} {v0 v1 v2 v3 : Value} (h : B4 W b v0 v1 v2 v3) (d : Nat) (os : Array Obj) : B4 (grow (redrawn W d) os) b v0 v1 v2 v3 := h.below (below_regrown W d os)
theorem B4.far {W : World} {b : Nat} {v0 v1 v2 v3 : Value} (h : B4 W b v0 v1 v2 v3) {c j : Nat} (hne : c ≠ b) (u : Value) : B4 (W.setCell ⟨c, j, none⟩ u) b v0 v1 v2 v3 := ⟨Cel.far (h.1) (Or.inl hne) u, Cel.far (h.2.1) (Or.inl hne) u, Cel.far (h.2.2.1) (Or.inl hne) u, Cel.far (h.2.2.2) (Or.inl hne) u⟩
theorem B4.set0 {W : World} {b : Nat} {v0 v1 v2 v3 : Value} (h : B4 W b v0 v1 v2 v3) (u : Value) : B4 (W.setCell ⟨b, 0, none⟩ u) b u v1 v2 v3 := ⟨Cel.same (h.1) u, Cel.far (h.2.1) (Or.inr (by decide)) u, Cel.far (h.2.2.1) (Or.inr (by decide)) u, Cel.far (h.2.2.2) (Or.inr (by decide)) u⟩
theorem B4.set1 {W : World} {b : Nat} {v0 v1 v2 v3 : Value} (h : B4 W b v0 v1 v2 v3) (u : Value) : B4 (W.setCell ⟨b, 1, none⟩ u) b v0 u v2 v3 := ⟨Cel.far (h.1) (Or.inr (by decide)) u, Cel.same (h.2.1) u, Cel.far (h.2.2.1) (Or.inr (by decide)) u, Cel.far (h.2.2.2) (Or.inr (by decide)) u⟩
theorem B4.set2 {W : World} {b : Nat} {v0 v1 v2 v3 : Value} (h : B4 W b v0 v1 v2 v3) (u : Value) : B4 (W.setCell ⟨b, 2, none⟩ u) b v0 v1 u v3 := ⟨Cel.far (h.1) (Or.inr (by decide)) u, Cel.far (h.2.1) (Or.inr (by decide)) u, Cel.same (h.2.2.1) u, Cel.far (h.2.2.2) (Or.inr (by decide)) u⟩
theorem B4.set3 {W : World} {b : Nat} {v0 v1 v2 v3 : Value} (h : B4 W b v0 v1 v2 v3) (u : Value) : B4 (W.setCell ⟨b, 3, none⟩ u) b v0 v1 v2 u := ⟨Cel.far (h.1) (Or.inr (by decide)) u, Cel.far (h.2.1) (Or.inr (by decide)) u, Cel.far (h.2.2.1) (Or.inr (by decide)) u, Cel.same (h.2.2.2) u⟩
abbrev B5 (W : World) (b : Nat) (v0 v1 v2 v3 v4 : Value) : Prop := Cel W b 0 v0 ∧ Cel W b 1 v1 ∧ Cel W b 2 v2 ∧ Cel W b 3 v3 ∧ Cel W b 4 v4
theorem B5.lt {W : World} {b : Nat} {v0 v1 v2 v3 v4 : Value} (h : B5 W b v0 v1 v2 v3 v4) : b < W.heap.size := Cel.lt h.1
theorem B5.below {W W' : World} {b : Nat} {v0 v1 v2 v3 v4 : Value} (h : B5 W b v0 v1 v2 v3 v4) (hb : Below W.heap.size W W') : B5 W' b v0 v1 v2 v3 v4 := ⟨Cel.below (h.1) hb, Cel.below (h.2.1) hb, Cel.below (h.2.2.1) hb, Cel.below (h.2.2.2.1) hb, Cel.below (h.2.2.2.2) hb⟩
theorem B5.re {W : World} {b : Nat} {v0 v1 v2 v3 v4 : Value} (h : B5 W b v0 v1 v2 v3 v4) (d : Nat) (os : Array Obj) : B5 (grow (redrawn W d) os) b v0 v1 v2 v3 v4 := h.below (below_regrown W d os)
theorem B5.far {W : World} {b : Nat} {v0 v1 v2 v3 v4 : Value} (h : B5 W b v0 v1 v2 v3 v4) {c j : Nat} (hne : c ≠ b) (u : Value) : B5 (W.setCell ⟨c, j, none⟩ u) b v0 v1 v2 v3 v4 := ⟨Cel.far (h.1) (Or.inl hne) u, Cel.far (h.2.1) (Or.inl hne) u, Cel.far (h.2.2.1) (Or.inl hne) u, Cel.far (h.2.2.2.1) (Or.inl hne) u, Cel.far (h.2.2.2.2) (Or.inl hne) u⟩
theorem B5.set0 {W : World} {b : Nat} {v0 v1 v2 v3 v4 : Value} (h : B5 W b v0 v1 v2 v3 v4) (u : Value) : B5 (W.setCell ⟨b, 0, none⟩ u) b u v1 v2 v3 v4 := ⟨Cel.same (h.1) u, Cel.far (h.2.1) (Or.inr (by decide)) u, Cel.far (h.2.2.1) (Or.inr (by decide)) u, Cel.far (h.2.2.2.1) (Or.inr (by decide)) u, Cel.far (h.2.2.2.2) (Or.inr (by decide)) u⟩
theorem B5.set1 {W : World} {b : Nat} {v0 v1 v2 v3 v4 : Value} (h : B5 W b v0 v1 v2 v3 v4) (u : Value) : B5 (W.setCell ⟨b, 1, none⟩ u) b v0 u v2 v3 v4 := ⟨Cel.far (h.1) (Or.inr (by decide)) u, Cel.same (h.2.1) u, Cel.far (h.2.2.1) (Or.inr (by decide)) u, Cel.far (h.2.2.2.1) (Or.inr (by decide)) u, Cel.far (h.2.2.2.2) (Or.inr (by decide)) u⟩
theorem B5.set2 {W : World} {b : Nat} {v0 v1 v2 v3 v4 : Value} (h : B5 W b v0 v1 v2 v3 v4) (u : Value) : B5 (W.setCell ⟨b, 2, none⟩ u) b v0 v1 u v3 v4 := ⟨Cel.far (h.1) (Or.inr (by decide)) u, Cel.far (h.2.1) (Or.inr (by decide)) u, Cel.same (h.2.2.1) u, Cel.far (h.2.2.2.1) (Or.inr (by decide)) u, Cel.far (h.2.2.2.2) (Or.inr (by decide)) u⟩
theorem B5.set3 {W : World} {b : Nat} {v0 v1 v2 v3 v4 : Value} (h : B5 W b v0 v1 v2 v3 v4) (u : Value) : B5 (W.setCell ⟨b, 3, none⟩ u) b v0 v1 v2 u v4 := ⟨Cel.far (h.1) (Or.inr (by decide)) u, Cel.far (h.2.1) (Or.inr (by decide)) u, Cel.far (h.2.2.1) (Or.inr (by decide)) u, Cel.same (h.2.2.2.1) u, Cel.far (h.2.2.2.2) (Or.inr (by decide)) u⟩
theorem B5.set4 {W : World} {b : Nat} {v0 v1 v2 v3 v4 : Value} (h : B5 W b v0 v1 v2 v3 v4) (u : Value) : B5 (W.setCell ⟨b, 4, none⟩ u) b v0 v1 v2 v3 u := ⟨Cel.far (h.1) (Or.inr (by decide)) u, Cel.far (h.2.1) (Or.inr (by decide)) u, Cel.far (h.2.2.1) (Or.inr (by decide)) u, Cel.far (h.2.2.2.1) (Or.inr (by decide)) u, Cel.same (h.2.2.2.2) u⟩
theorem bcellA {W w1 : World} (hb : Below W.heap.size W w1) : (∀ b o, b < W.heap.size → w1.cell? ⟨b, o, none⟩ = W.cell? ⟨b, o, none⟩) ∧ (∀ b o, b < W.heap.size → w1.frozen? ⟨b, o, none⟩ = W.frozen? ⟨b, o, none⟩) ∧ (∀ b, b ≤ W.heap.size → b ≤ w1.heap.size) ∧ (∀ b, b < W.heap.size → b < w1.heap.size) ∧ (∀ b, b < W.heap.size → b ≠ w1.heap.size ∧ w1.heap.size ≠ b) ∧ W.heap.size ≤ w1.heap.size :=
  ⟨fun b o h => hb.cell (p := ⟨b, o, none⟩) h, fun b o h => hb.frozen (p := ⟨b, o, none⟩) h, fun _ h => Nat.le_trans h hb.size, fun _ h => Nat.lt_of_lt_of_le h hb.size, fun _ h => ⟨Nat.ne_of_lt (Nat.lt_of_lt_of_le h hb.size), Nat.ne_of_gt (Nat.lt_of_lt_of_le h hb.size)⟩, hb.size⟩
end Go.Proofs.Ytipcppbbpmdijaa
