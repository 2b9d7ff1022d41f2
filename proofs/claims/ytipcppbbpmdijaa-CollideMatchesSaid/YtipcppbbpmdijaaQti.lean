/-
  A region that draws its order and ends in a call of 'yield' (or in another forced row): one walk, in the order of the text, serves every order: inside the wide fence, where the laws on ranges over functions stand. Conditions: as the theorem states. No program in sight.
-/
import Derived.Test.YtipcppbbpmdijaaBlk
import Derived.Sort.QuietThIn
import Derived.TacticsIn
import Derived.RangeFuncOwn
namespace Go.Proofs.Ytipcppbbpmdijaa
open Go.Sort Go.RowKit
section
variable {P : Program} {ops : Array Oper} {md : Region.Mode} {C : World → Prop}

theorem qOpIn_wide {i m : Nat} {K : Act → Prop} {a : Act} (h : qOp P ops C i K a) : qOpIn Fence.wide m P ops C i K a := by
  unfold qOp at h
  unfold qOpIn
  split
  · rename_i ho; simp only [ho] at h; exact h
  · rename_i o ho
    simp only [ho] at h
    refine ⟨fun _ _ _ _ => trivial, ?_⟩
    split
    · rename_i hw
      simp only [hw, if_true] at h
      obtain ⟨v, h1, h2⟩ := h
      refine ⟨v, fun w hC => ?_, h2⟩
      have h3 := h1 w hC
      unfold Oper.quietAt at h3
      unfold Oper.quietAtIn
      generalize (execOp a.eval o).run P w = r at *
      cases r with
      | ok x w' =>
        cases x <;> simp only [Oper.quietUpon] at h3 <;> simp only [Oper.quietUponIn]
        case value u => exact h3
        case skip => exact h3
        case enter f args => exact ⟨h3.1, fun hd => by simp [Fence.wide] at hd, callsIn_wide.2 h3.2⟩
      | halt x w' => simp only [Oper.quietUpon] at h3
    · rename_i hw; simp only [hw] at h; exact h

theorem Ahead.anyIn {n g m : Nat} {L : Array Bool → Act → Prop} {Q : Exit → Act → World → Prop} (hL : ∀ listed a w, C w → L listed a → wpAnyIn Fence.wide m P md ops Q g listed a w) {f : Nat} :
    ∀ {listed : Array Bool} {a : Act} {w : World}, C w → Ahead P md ops C n L f listed a → wpAnyIn Fence.wide m P md ops Q (f + g) listed a w := by
  induction f with
  | zero => intro _ _ _ hw h; rw [Nat.zero_add]; exact hL _ _ _ hw h
  | succ f ih =>
    intro listed a w hw h
    obtain ⟨⟨i0, h0⟩, h1⟩ := h
    have e : f + 1 + g = f + g + 1 := by omega
    rw [e]
    exact ⟨fun hn => by rw [hn] at h0; simp at h0, fun i hi => wpOpIn_of_qOpIn rfl hw (fun a' w' hw' h' => ih hw' h') (qOpIn_wide (h1 i hi).2)⟩

theorem anyIn_of_seq {m : Nat} {Q : Exit → Act → World → Prop} {l : List Oper} : ∀ {k : Nat} {listed : Array Bool} {a : Act} {w : World}, (∀ j, l[j]? = ops[k + j]?) → Region.seqB md ops l.length k listed = true → wpListIn Fence.wide m P ops Q l a w → wpAnyIn Fence.wide m P md ops Q l.length listed a w := by
  induction l with
  | nil => intro k listed a w _ hB h; exact ⟨by simpa [Region.seqB] using hB, h⟩
  | cons o l ih =>
    intro k listed a w hl hB h
    have h0 : ops[k]? = some o := by simpa using (hl 0).symm
    simp only [List.length_cons, Region.seqB, Bool.and_eq_true, decide_eq_true_eq] at hB
    refine ⟨fun h1 => (by rw [hB.1] at h1; cases h1), fun i hi => ?_⟩
    rw [hB.1] at hi
    obtain rfl : i = k := by simpa using hi
    have hw : wpOpIn Fence.wide m P ops Q i (wpListIn Fence.wide m P ops Q l) a w := by unfold wpOpIn; simp only [h0]; exact h
    exact wpOpIn_mono (fun a' w' h' => ih (fun j => by have := hl (j + 1); simpa [Nat.add_assoc, Nat.add_comm 1 j] using this) hB.2 h') hw
end

theorem wpIn_region_last {P : Program} {id m : Nat} {Q : Exit → Act → World → Prop} {a : Act} {w : World} {l : List Oper} (n : Nat) (hm : P.follows .mixedOrders = true) (hB : Region.lexTailB .any l.toArray n = true)
    (h : wpQuiet P l.toArray (fun w' => ∃ p : Regrown, w' = grow (redrawn w p.d) p.os) (fun a' => ∀ w', Below w.heap.size w w' → wpListIn Fence.wide m P l.toArray Q (l.drop n) a' w') (l.take n) a) :
    (Code.region id l.toArray true).wpIn Fence.wide m P Q a w := by
  rw [Region.lexTailB, Bool.and_eq_true, Bool.and_eq_true, Bool.and_eq_true, Bool.and_eq_true] at hB
  obtain ⟨⟨⟨⟨hsel, hn⟩, hs⟩, hc⟩, hlex⟩ := hB
  have hn := of_decide_eq_true hn
  have hl : n < l.length := by simpa using hn
  have ht : (l.take n).length = n := by rw [List.length_take]; omega
  have hd : (l.drop n).length = l.toArray.size - n := by simp
  refine wpIn_region_any hm ?_
  have H := Ahead.lex (md := .any) (g := l.toArray.size - n) hsel hs hc hn (l := l.take n) (k := 0) (listed := Array.replicate l.toArray.size false)
    (fun j hj => by have hj' : j < n := by omega
                    simp [hj'])
    (by omega) ⟨by simp, fun j oj _ hx => by rw [getD_replicate_false] at hx; simp at hx, fun t _ hx => getD_in (by simpa using hx) (getD_replicate_false _ _)⟩ (by rw [ht]; exact hlex) h
  have G := H.anyIn (g := l.toArray.size - n) (Q := Q) (m := m) (fun listed a' w' hw hL => by
    obtain ⟨p, rfl⟩ := hw
    have := anyIn_of_seq (md := .any) (Q := Q) (m := m) (l := l.drop n) (k := n) (listed := listed) (a := a') (fun j => by simp [List.getElem?_drop]) (by rw [hd]; exact hL.1) (hL.2 _ (below_regrown w p.d p.os))
    rwa [hd] at this) (w := { w with drawn := w.drawn + 1 }) ⟨⟨w.drawn + 1, #[]⟩, by rw [grow_empty]; rfl⟩
  have e : n + (l.toArray.size - n) = l.toArray.size := by omega
  rw [ht, e] at G
  exact G
/-- The world at hand under a name. -/
theorem codeIn_named {F : Fence} {n : Nat} {P : Program} {c : Code} {Q : Exit → Act → World → Prop} {a : Act} {w : World} (h : ∀ W, W = w → c.wpIn F n P Q a W) : c.wpIn F n P Q a w := h w rfl
theorem keepsOthers_of_below {W W' : World} (hb : Below W.heap.size W W') : KeepsOthers W W' := ⟨hb.size, fun k _ hk _ => (hb.block k (Array.getElem?_eq_some_iff.1 hk).1).trans hk⟩
end Go.Proofs.Ytipcppbbpmdijaa
