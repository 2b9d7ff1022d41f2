/-
  Scaled polygons: a valid polygon stays valid, an invalid edge stays invalid. Conditions: as the theorems state. No program in sight.
-/
import Derived.Test.YtipcppbbpmdijaaShv
namespace Go.Proofs.Ytipcppbbpmdijaa
open Go.RowKit Go.Sort

def scl (k : Int) (v : V2) : V2 := (k * v.1, k * v.2)
theorem lft_scl (k : Int) (a b c : V2) : lft (scl k a) (scl k b) (scl k c) = k * k * lft a b c := by unfold lft scl; dsimp only; grind
theorem lft_scl0 (k : Int) (a b : V2) : lft (scl k a) (scl k b) (0, 0) = k * k * lft a b (0, 0) := by
  rw [← lft_scl]; unfold scl; simp
theorem vtx_scl (k : Int) (vs : List V2) (i : Nat) : vtx (vs.map (scl k)) i = scl k (vtx vs i) := by
  unfold vtx
  rw [List.getD_eq_getElem?_getD, List.getD_eq_getElem?_getD, List.getElem?_map]
  cases vs[i]? with
  | none => simp [scl]
  | some v => rfl
theorem mpos {a b : Int} (h : 0 < a) : 0 < a * b ↔ 0 < b := ⟨fun h2 => Int.pos_of_mul_pos_left (Int.mul_comm a b ▸ h2) h, fun h2 => Int.mul_pos h h2⟩
theorem edge_scl {k : Int} (hk : 1 ≤ k) (n i : Nat) (vs : List V2) (a b : V2) : EdgeOK n i (vs.map (scl k)) (scl k a) (scl k b) ↔ EdgeOK n i vs a b := by
  have hkk : 0 < k * k := Int.mul_pos (by omega) (by omega)
  unfold EdgeOK
  rw [lft_scl0]
  simp only [vtx_scl, lft_scl, mpos hkk]
theorem shape_scl {k : Int} (hk : 1 ≤ k) {vs : List V2} (h0 : vs ≠ []) : VShape 0 (vs.map (scl k)) ↔ (3 ≤ vs.length ∧ vs.length ≤ 6 ∧ (∀ v ∈ vs, (-32768 ≤ k * v.1 ∧ k * v.1 ≤ 32768) ∧ (-32768 ≤ k * v.2 ∧ k * v.2 ≤ 32768)) ∧ ∀ i, i < vs.length → EdgeOK vs.length i vs (vtx vs i) (vtx vs ((i + 1) % vs.length))) := by
  unfold VShape VPoly
  rw [List.length_map]
  simp only [vtx_scl, edge_scl hk, List.forall_mem_map]
  constructor
  · rintro (⟨h, _⟩ | ⟨_, h1, h2, h3, h4⟩)
    · exact absurd (List.map_eq_nil_iff.1 h) h0
    · exact ⟨h1, h2, h3, h4⟩
  · rintro ⟨h1, h2, h3, h4⟩
    exact .inr ⟨trivial, h1, h2, h3, h4⟩
end Go.Proofs.Ytipcppbbpmdijaa
