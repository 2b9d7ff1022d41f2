/-
  How the laws' arguments are read: an array of ints, a struct of four ints, a slice of ints. Conditions: the argument's type, as each theorem states. No program in sight.
-/
import Derived.WalkKit
import Derived.ProofKit
import Derived.OpenShut
import Derived.ChangeOld
import Derived.Below
import Derived.Lib.SmallJoins
namespace Go.Proofs.Ytipcppbbpmdijaa
open Go.ChangeShapes Go.WideShapes Go.ChangeAt Go.RowKit
section
variable {H : Type} {enc : TypeId × Value → H} {P : Program} {w : World} {base : Nat} {spare : Nat → Bool} {held : Bool}

theorem okWide_arr {r : Reach} {b0 : Nat} {t : TypeId} {v : Value} {n : Nat} {e : TypeId} (ht : P.underlying t = some (.array n e)) (h : Value.okWide P w r b0 t v) : ∃ cs, v = .agg cs ∧ cs.size = P.cellsOf t := by
  simp only [Value.okWide, ht] at h
  obtain ⟨cs, h1, h2, _⟩ := h
  exact ⟨cs, h1, h2⟩

theorem list_of_get {cs : List Value} {k : IntKind} : (∀ i, i < cs.length → ∃ z, cs[i]? = some (.int k z) ∧ (Lit.int k z).wf = true) → ∃ zs : List Int, cs = zs.map (Value.int k) ∧ ∀ z ∈ zs, (Lit.int k z).wf = true := by
  induction cs with
  | nil => intro _; exact ⟨[], rfl, by simp⟩
  | cons c cs ih =>
    intro h
    obtain ⟨z, h0, hz⟩ := h 0 (by simp)
    obtain ⟨zs, h1, h2⟩ := ih (fun i hi => by have := h (i + 1) (by simp; omega); simpa using this)
    simp at h0
    subst h0 h1
    exact ⟨z :: zs, rfl, by simp; exact ⟨hz, h2⟩⟩

/-- An array of ints. -/
theorem open_arr {r : Reach} {b0 : Nat} {t : TypeId} {v : Value} {d : DataW H} {p : List MemPlace} {n : Nat} {e : TypeId} {k : IntKind} (ht : P.underlying t = some (.array n e)) (he : P.underlying e = some (.int k)) (hE : P.cellsOf e = 1) (hC : P.cellsOf t = n)
    (hv : Value.okWide P w r b0 t v) (h : DataW.Trod enc P w base spare held t v d p) :
    ∃ zs : List Int, v = .agg (zs.map (Value.int k)).toArray ∧ zs.length = n ∧ ∀ z ∈ zs, (Lit.int k z).wf = true := by
  obtain ⟨cs, rfl, hsz⟩ := okWide_arr ht hv
  obtain ⟨fuel, hf⟩ := h
  obtain ⟨xs, m, rfl, hx, hl, hn, hel⟩ := DataW.trod_array ht hf
  simp only [Value.cells] at hl hel
  have : ∃ zs : List Int, cs.toList = zs.map (Value.int k) ∧ ∀ z ∈ zs, (Lit.int k z).wf = true := by
    refine list_of_get fun i hi => ?_
    have hi' : i < n := by omega
    have g := hel i hi'
    rw [hE, Nat.mul_one] at g
    obtain ⟨c, hc⟩ : ∃ c, cs.toList[i]? = some c := ⟨cs.toList[i], by simp⟩
    have e1 : (cs.toList.drop i).take 1 = [c] := by
      rw [List.drop_eq_getElem_cons hi]
      have : cs.toList[i] = c := Option.some.inj ((List.getElem?_eq_getElem hi).symm.trans hc)
      rw [this]; rfl
    rw [e1] at g
    have hx : xs[i]? = some xs[i] := by simp
    rw [hx] at g
    obtain ⟨z, hz1, hz2, hz3⟩ := DataW.trod_int he g
    simp at hz1
    subst hz1
    exact ⟨z, hc, hz3⟩
  obtain ⟨zs, h1, h2⟩ := this
  refine ⟨zs, ?_, ?_, h2⟩
  · rw [← h1]
  · have := congrArg List.length h1
    simp at this
    omega

/-- A struct of four ints. -/
theorem open_four {r : Reach} {b0 : Nat} {t : TypeId} {f0 f1 f2 f3 : Field} {v : Value} {d : DataW H} {p : List MemPlace} {k : IntKind} (hs : P.underlying t = some (.struct #[f0, f1, f2, f3])) (hone : Deep.oneCellFields P #[f0, f1, f2, f3] = true) (hC : P.cellsOf t = 4)
    (k0 : P.underlying f0.type = some (.int k)) (k1 : P.underlying f1.type = some (.int k)) (k2 : P.underlying f2.type = some (.int k)) (k3 : P.underlying f3.type = some (.int k))
    (hv : Value.okWide P w r b0 t v) (h : DataW.Trod enc P w base spare held t v d p) :
    ∃ a b c e : Int, v = .agg #[.int k a, .int k b, .int k c, .int k e] ∧ (Lit.int k a).wf = true ∧ (Lit.int k b).wf = true ∧ (Lit.int k c).wf = true ∧ (Lit.int k e).wf = true := by
  obtain ⟨v0, v1, v2, v3, y0, y1, y2, y3, n, rfl, _, _, g0, g1, g2, g3⟩ := Joins.open_agg4 hs hone hC hv h
  obtain ⟨a, ha, _, wa⟩ := DataW.trod_int k0 g0
  obtain ⟨b, hb, _, wb⟩ := DataW.trod_int k1 g1
  obtain ⟨c, hc, _, wc⟩ := DataW.trod_int k2 g2
  obtain ⟨e, he, _, we⟩ := DataW.trod_int k3 g3
  simp at ha hb hc he
  subst ha hb hc he
  exact ⟨a, b, c, e, rfl, wa, wb, wc, we⟩
end

theorem list2 {l : List Int} (h : l.length = 2) : ∃ x0 x1, l = [x0, x1] := by
  match l, h with
  | [x0, x1], _ => exact ⟨x0, x1, rfl⟩
theorem list4 {l : List Int} (h : l.length = 4) : ∃ x0 x1 x2 x3, l = [x0, x1, x2, x3] := by
  match l, h with
  | [x0, x1, x2, x3], _ => exact ⟨x0, x1, x2, x3, rfl⟩
theorem list6 {l : List Int} (h : l.length = 6) : ∃ x0 x1 x2 x3 x4 x5, l = [x0, x1, x2, x3, x4, x5] := by
  match l, h with
  | [x0, x1, x2, x3, x4, x5], _ => exact ⟨x0, x1, x2, x3, x4, x5, rfl⟩

/-- What a walk is told of a slice of ints that came in: it is nil, or it leads to a row of 'cap' cells, the numbers 'zs', of which the first 'len' are its elements. -/
def IsRow (k : IntKind) (w : World) (a : Option Addr) (len cap : Nat) (zs : List Int) : Prop :=
  (a = none ∧ len = 0 ∧ cap = 0 ∧ zs = []) ∨
  ∃ x, a = some x ∧ len ≤ cap ∧ cap ≤ maxLen ∧ zs.length = cap ∧ (∀ i, i < zs.length → w.cell? (x.add i) = some (.int k (zs.getD i 0))) ∧ ∀ n ∈ zs, (Lit.int k n).wf = true
end Go.Proofs.Ytipcppbbpmdijaa
