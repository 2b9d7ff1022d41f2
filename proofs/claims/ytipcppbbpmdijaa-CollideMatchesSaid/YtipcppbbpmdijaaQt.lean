/-
  A region that draws its order, whose first operations only read and call functions that lay blocks of their own, and whose last operations come in one forced order: one walk, in the order of the text, serves every order. Conditions: as the theorems state. No program in sight.
-/
import Derived.StillTail
import Derived.Lib.QuietBelow
namespace Go.Proofs.Ytipcppbbpmdijaa
open Go.Sort Go.RowKit
section
variable {P : Program} {ops : Array Oper} {md : Region.Mode} {C : World → Prop}

/-- The operations ahead of number n, in whatever order; then L. -/
def Ahead (P : Program) (md : Region.Mode) (ops : Array Oper) (C : World → Prop) (n : Nat) (L : Array Bool → Act → Prop) : Nat → Array Bool → Act → Prop
  | 0, listed, a => L listed a
  | f + 1, listed, a => (∃ i, i ∈ Region.ready md ops listed) ∧ ∀ i ∈ Region.ready md ops listed, i < n ∧ qOp P ops C i (Ahead P md ops C n L f (listed.setIfInBounds i true)) a

theorem Ahead.any {n g : Nat} {L : Array Bool → Act → Prop} {Q : Exit → Act → World → Prop} (hL : ∀ listed a w, C w → L listed a → wpAny P md ops Q g listed a w) {f : Nat} :
    ∀ {listed : Array Bool} {a : Act} {w : World}, C w → Ahead P md ops C n L f listed a → wpAny P md ops Q (f + g) listed a w := by
  induction f with
  | zero => intro _ _ _ hw h; rw [Nat.zero_add]; exact hL _ _ _ hw h
  | succ f ih =>
    intro listed a w hw h
    obtain ⟨⟨i0, h0⟩, h1⟩ := h
    have e : f + 1 + g = f + g + 1 := by omega
    rw [e]
    exact ⟨fun hn => by rw [hn] at h0; simp at h0, fun i hi => wpOp_of_qOp hw (fun a' w' hw' h' => ih hw' h') (h1 i hi).2⟩

/-- Whoever may come up now may be taken first, as far as the operations ahead of number n go. -/
theorem Ahead.take {n i : Nat} {oi : Oper} {v : Value} {L : Array Bool → Act → Prop} (hi : ops[i]? = some oi) (hsel : ∀ (j : Nat) (o : Oper) cs b, ops[j]? = some o → o.op ≠ .select cs b)
    (hs : Region.sinkB md ops n = true) (hc : Region.chainB md ops n = true) (hn : n < ops.size) (hin : i < n) (hL : ∀ listed a, L listed a → ∀ j ∈ Region.ready md ops listed, n ≤ j) {f : Nat} :
    ∀ {listed : Array Bool} {a : Act}, HeadInv md ops n listed →
      (∀ j oj, ops[j]? = some oj → j ≠ i → listed.getD j true = false → (∀ e ∈ oj.after, Region.binds md e = true → e.on ≠ i) → oi.apart ops oj = true) →
      i ∈ Region.ready md ops listed → YieldsIn P ops C oi v a → Ahead P md ops C n L f (listed.setIfInBounds i true) (a.put oi.dst v) → Ahead P md ops C n L (f + 1) listed a := by
  have low : ∀ {listed : Array Bool}, HeadInv md ops n listed → i ∈ Region.ready md ops listed → ∀ j ∈ Region.ready md ops listed, j < n := fun inv hr j hj => by
    rcases Nat.lt_or_ge j n with h | h
    · exact h
    · exact absurd hj (tail_waits hs hc hn inv _ i rfl hin (mem_ready.1 hr).1 j h)
  induction f with
  | zero =>
    intro listed a inv _ hr hy H
    refine ⟨⟨i, hr⟩, fun j hj => ⟨low inv hr j hj, ?_⟩⟩
    rcases Nat.decEq j i with hji | hji
    · have := hL _ _ H j (ready_mono hj hji)
      have := low inv hr j hj
      omega
    · subst hji; exact hy.qOp hi H
  | succ f ih =>
    intro listed a inv hfree hr hy H
    refine ⟨⟨i, hr⟩, fun j hj => ⟨low inv hr j hj, ?_⟩⟩
    rcases Nat.decEq j i with hji | hji
    · obtain ⟨hjun, oj, hoj, hall⟩ := mem_ready.1 hj
      have hno : ∀ e ∈ oj.after, Region.binds md e = true → e.on ≠ i := fun e he hb hon => by
        have h1 := hall e he hb
        rw [hon, getD_both (mem_ready.1 hr).1] at h1
        cases h1
      refine qOp_mono (fun a' h3 => ih (inv.set hj (low inv hr j hj)) (fun k ok hk hki hun hw => ?_) (ready_mono hr (Ne.symm hji)) h3.1 ?_)
        (qOp_put hoj (hfree j oj hoj hji hjun hno) (fun cs b => hsel i oi cs b hi) (fun cs b => hsel j oj cs b hoj) hy (H.2 j (ready_mono hj hji)).2)
      · refine hfree k ok hk hki ?_ hw
        rcases Nat.decEq j k with hjk | hjk
        · rw [getD_set_ne true hjk] at hun; exact hun
        · subst hjk; exact hjun
      · rw [Array.setIfInBounds_comm _ _ hji]; exact h3.2
    · subst hji; exact hy.qOp hi H

theorem Ahead.lex {n g : Nat} {Lq : Act → Prop} (hsel : Region.noSelect ops = true) (hs : Region.sinkB md ops n = true) (hc : Region.chainB md ops n = true) (hn : n < ops.size) {l : List Oper} :
    ∀ {k : Nat} {listed : Array Bool} {a : Act}, (∀ j, j < l.length → l[j]? = ops[k + j]?) → k + l.length = n → HeadInv md ops n listed → Region.lexHead md ops g l.length k listed = true → wpQuiet P ops C Lq l a →
      Ahead P md ops C n (fun listed' a' => Region.seqB md ops g n listed' = true ∧ Lq a') l.length listed a := by
  induction l with
  | nil =>
    intro k listed a _ hk _ hB h
    obtain rfl : k = n := by simpa using hk
    exact ⟨hB, h⟩
  | cons o l ih =>
    intro k listed a hl hk inv hB h
    have h0 : ops[k]? = some o := by have := hl 0 (by simp); simpa using this.symm
    have hkn : k < n := by rw [List.length_cons] at hk; omega
    rw [List.length_cons, Region.lexHead, Bool.and_eq_true, Bool.and_eq_true] at hB
    have hr : k ∈ Region.ready md ops listed := by simpa using hB.1.1
    have hq : qOp P ops C k (wpQuiet P ops C Lq l) a := by unfold qOp; simp only [h0]; exact h
    obtain ⟨v, hy, hK⟩ := yieldsIn_of_qOp h0 hq
    refine Ahead.take h0 (Region.noSelect_spec hsel) hs hc hn hkn (fun _ _ hL => seqB_ready hL.1) inv (Region.free_spec h0 hB.1.2) hr hy (ih (fun j hj => ?_) ?_ (inv.set hr hkn) hB.2 hK)
    · have e : k + 1 + j = k + (j + 1) := by omega
      have := hl (j + 1) (by rw [List.length_cons]; omega)
      rw [e, ← this]; simp
    · rw [List.length_cons] at hk; omega
end

/-- The region whose first n operations only read or call what lays blocks of its own; behind them a forced row. -/
theorem wp_region_tail {P : Program} {id : Nat} {Q : Exit → Act → World → Prop} {a : Act} {w : World} {l : List Oper} (n : Nat) (hm : P.follows .mixedOrders = true) (hB : Region.lexTailB .any l.toArray n = true)
    (h : wpQuiet P l.toArray (fun w' => ∃ p : Regrown, w' = grow (redrawn w p.d) p.os) (fun a' => ∀ w', (∃ p : Regrown, w' = grow (redrawn w p.d) p.os) → wpList P l.toArray Q (l.drop n) a' w') (l.take n) a) :
    (Code.region id l.toArray true).wp P Q a w := by
  rw [Region.lexTailB, Bool.and_eq_true, Bool.and_eq_true, Bool.and_eq_true, Bool.and_eq_true] at hB
  obtain ⟨⟨⟨⟨hsel, hn⟩, hs⟩, hc⟩, hlex⟩ := hB
  have hn := of_decide_eq_true hn
  have hl : n < l.length := by simpa using hn
  have ht : (l.take n).length = n := by rw [List.length_take]; omega
  have hd : (l.drop n).length = l.toArray.size - n := by simp
  refine wp_region_any hm ?_
  have H := Ahead.lex (md := .any) (g := l.toArray.size - n) hsel hs hc hn (l := l.take n) (k := 0) (listed := Array.replicate l.toArray.size false)
    (fun j hj => by have hj' : j < n := by omega
                    simp [hj'])
    (by omega) ⟨by simp, fun j oj _ hx => by rw [getD_replicate_false] at hx; simp at hx, fun t _ hx => getD_in (by simpa using hx) (getD_replicate_false _ _)⟩ (by rw [ht]; exact hlex) h
  have G := H.any (g := l.toArray.size - n) (Q := Q) (fun listed a' w' hw hL => by
    have := wpAny_of_seq (md := .any) (Q' := Q) (l.drop n) n listed a' w' (fun j => by simp [List.getElem?_drop]) (by rw [hd]; exact hL.1) (hL.2 w' hw)
    rwa [hd] at this) (w := { w with drawn := w.drawn + 1 }) ⟨⟨w.drawn + 1, #[]⟩, by rw [grow_empty]; rfl⟩
  have e : n + (l.toArray.size - n) = l.toArray.size := by omega
  rw [ht, e] at G
  exact G

/-- A callee's contract, met in a world of the class. -/
theorem met {P : Program} {f : FuncId} {args : Array Value} {w : World} {p : Regrown} {v : Value} {R : Ending → World → Prop} (h : Calls P f args (grow (redrawn w p.d) p.os) R)
    (hR : ∀ e w', R e w' → e = .returned v ∧ Below (grow (redrawn w p.d) p.os).heap.size (grow (redrawn w p.d) p.os) w') : Calls P f args (grow (redrawn w p.d) p.os) fun e w'' => e = .returned v ∧ ∃ p : Regrown, w'' = grow (redrawn w p.d) p.os :=
  Calls.regrown_of (h.mono hR)
theorem met_below {P : Program} {f : FuncId} {args : Array Value} {w : World} {p : Regrown} {v : Value}
    (h : Calls P f args (grow (redrawn w p.d) p.os) fun e w' => e = .returned v ∧ Below (grow (redrawn w p.d) p.os).heap.size (grow (redrawn w p.d) p.os) w') : Calls P f args (grow (redrawn w p.d) p.os) fun e w'' => e = .returned v ∧ ∃ p : Regrown, w'' = grow (redrawn w p.d) p.os :=
  Calls.regrown_of h
theorem met_same {P : Program} {f : FuncId} {args : Array Value} {w : World} {p : Regrown} {v : Value}
    (h : Calls P f args (grow (redrawn w p.d) p.os) fun e w' => e = .returned v ∧ grow (redrawn w p.d) p.os = w') : Calls P f args (grow (redrawn w p.d) p.os) fun e w'' => e = .returned v ∧ ∃ p : Regrown, w'' = grow (redrawn w p.d) p.os :=
  Calls.regrown_of (h.mono fun _ _ ⟨he, hw⟩ => ⟨he, hw ▸ Below.refl _ _⟩)
end Go.Proofs.Ytipcppbbpmdijaa
