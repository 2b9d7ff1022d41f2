/-
  A region that draws its order: one walk, in an order of one's own, serves every order, if the operations that only read (or call what lays blocks of its own) all come ahead of the others, and the others come in one forced row. Conditions: as the theorem states. No program in sight.
-/
import Derived.Test.YtipcppbbpmdijaaQt
namespace Go.Proofs.Ytipcppbbpmdijaa
open Go.Sort Go.RowKit
section
variable {P : Program} {ops : Array Oper} {md : Region.Mode} {C : World → Prop}

/-- Operation t waits for operation i, by at most so many steps. -/
def depB (md : Region.Mode) (ops : Array Oper) : Nat → Nat → Nat → Bool
  | 0, _, _ => false
  | f + 1, t, i => match ops[t]? with
    | some o => o.after.any fun e => Region.binds md e && (e.on == i || depB md ops f e.on i)
    | none => false

/-- Whoever has come up has had all that it waits for come up. -/
def Closed (md : Region.Mode) (ops : Array Oper) (listed : Array Bool) : Prop :=
  ∀ j oj, ops[j]? = some oj → listed.getD j false = true → ∀ e ∈ oj.after, Region.binds md e = true → listed.getD e.on false = true

theorem Closed.set {i : Nat} {listed : Array Bool} (inv : Closed md ops listed) (hi : i ∈ Region.ready md ops listed) : Closed md ops (listed.setIfInBounds i true) := by
  obtain ⟨_, oi, hoi, hall⟩ := mem_ready.1 hi
  intro j oj hj hl e he hb
  rcases Nat.decEq i j with hij | hij
  · rw [getD_set_ne false hij] at hl
    exact getD_set_true (inv j oj hj hl e he hb)
  · subst hij
    obtain rfl : oj = oi := Option.some.inj (hj.symm.trans hoi)
    exact getD_set_true (hall e he hb)

theorem dep_listed {listed : Array Bool} (inv : Closed md ops listed) {i : Nat} : ∀ (f t : Nat), (∀ o, ops[t]? = some o → ∀ e ∈ o.after, Region.binds md e = true → listed.getD e.on false = true) → depB md ops f t i = true → listed.getD i false = true := by
  intro f
  induction f with
  | zero => intro t _ h; simp [depB] at h
  | succ f ih =>
    intro t hall h
    unfold depB at h
    split at h
    · rename_i o ho
      obtain ⟨e, he, hb⟩ := Array.any_eq_true'.1 h
      simp only [Bool.and_eq_true, Bool.or_eq_true, beq_iff_eq] at hb
      have hon := hall o ho e he hb.1
      rcases hb.2 with hi | hd
      · rw [← hi]; exact hon
      · exact ih e.on (fun o' ho' e' he' hb' => inv e.on o' ho' hon e' he' hb') hd
    · cases h

/-- The operations of H, in whatever order; then L. -/
def First (P : Program) (md : Region.Mode) (ops : Array Oper) (C : World → Prop) (H : List Nat) (L : Array Bool → Act → Prop) : Nat → Array Bool → Act → Prop
  | 0, listed, a => L listed a
  | f + 1, listed, a => (∃ i, i ∈ Region.ready md ops listed) ∧ ∀ i ∈ Region.ready md ops listed, i ∈ H ∧ qOp P ops C i (First P md ops C H L f (listed.setIfInBounds i true)) a

theorem First.any {H : List Nat} {g : Nat} {L : Array Bool → Act → Prop} {Q : Exit → Act → World → Prop} (hL : ∀ listed a w, C w → L listed a → wpAny P md ops Q g listed a w) {f : Nat} :
    ∀ {listed : Array Bool} {a : Act} {w : World}, C w → First P md ops C H L f listed a → wpAny P md ops Q (f + g) listed a w := by
  induction f with
  | zero => intro _ _ _ hw h; rw [Nat.zero_add]; exact hL _ _ _ hw h
  | succ f ih =>
    intro listed a w hw h
    obtain ⟨⟨i0, h0⟩, h1⟩ := h
    have e : f + 1 + g = f + g + 1 := by omega
    rw [e]
    exact ⟨fun hn => by rw [hn] at h0; simp at h0, fun i hi => wpOp_of_qOp hw (fun a' w' hw' h' => ih hw' h') (h1 i hi).2⟩

theorem First.take {H : List Nat} {F i : Nat} {oi : Oper} {v : Value} {L : Array Bool → Act → Prop} (hi : ops[i]? = some oi) (hsel : ∀ (j : Nat) (o : Oper) cs b, ops[j]? = some o → o.op ≠ .select cs b)
    (hD : ∀ j o, ops[j]? = some o → j ∉ H → depB md ops F j i = true) (hL : ∀ listed a, L listed a → ∀ j ∈ Region.ready md ops listed, j ∉ H) {f : Nat} :
    ∀ {listed : Array Bool} {a : Act}, Closed md ops listed →
      (∀ j oj, ops[j]? = some oj → j ≠ i → listed.getD j true = false → (∀ e ∈ oj.after, Region.binds md e = true → e.on ≠ i) → oi.apart ops oj = true) →
      i ∈ Region.ready md ops listed → YieldsIn P ops C oi v a → First P md ops C H L f (listed.setIfInBounds i true) (a.put oi.dst v) → First P md ops C H L (f + 1) listed a := by
  have low : ∀ {listed : Array Bool}, Closed md ops listed → i ∈ Region.ready md ops listed → ∀ j ∈ Region.ready md ops listed, j ∈ H := fun inv hr j hj => by
    rcases Classical.em (j ∈ H) with h | h
    · exact h
    · obtain ⟨_, oj, hoj, hall⟩ := mem_ready.1 hj
      have := dep_listed inv F j (fun o ho e he hb => by obtain rfl : o = oj := Option.some.inj (ho.symm.trans hoj); exact hall e he hb) (hD j oj hoj h)
      rw [getD_both (mem_ready.1 hr).1] at this
      cases this
  induction f with
  | zero =>
    intro listed a inv _ hr hy hH
    refine ⟨⟨i, hr⟩, fun j hj => ⟨low inv hr j hj, ?_⟩⟩
    rcases Nat.decEq j i with hji | hji
    · exact absurd (low inv hr j hj) (hL _ _ hH j (ready_mono hj hji))
    · subst hji; exact hy.qOp hi hH
  | succ f ih =>
    intro listed a inv hfree hr hy hH
    refine ⟨⟨i, hr⟩, fun j hj => ⟨low inv hr j hj, ?_⟩⟩
    rcases Nat.decEq j i with hji | hji
    · obtain ⟨hjun, oj, hoj, hall⟩ := mem_ready.1 hj
      have hno : ∀ e ∈ oj.after, Region.binds md e = true → e.on ≠ i := fun e he hb hon => by
        have h1 := hall e he hb
        rw [hon, getD_both (mem_ready.1 hr).1] at h1
        cases h1
      refine qOp_mono (fun a' h3 => ih (inv.set hj) (fun k ok hk hki hun hw => ?_) (ready_mono hr (Ne.symm hji)) h3.1 ?_)
        (qOp_put hoj (hfree j oj hoj hji hjun hno) (fun cs b => hsel i oi cs b hi) (fun cs b => hsel j oj cs b hoj) hy (hH.2 j (ready_mono hj hji)).2)
      · refine hfree k ok hk hki ?_ hw
        rcases Nat.decEq j k with hjk | hjk
        · rw [getD_set_ne true hjk] at hun; exact hun
        · subst hjk; exact hjun
      · rw [Array.setIfInBounds_comm _ _ hji]; exact h3.2
    · subst hji; exact hy.qOp hi hH

/-- A forced row. -/
def rowB (md : Region.Mode) (ops : Array Oper) : List Nat → Array Bool → Bool
  | [], listed => (Region.ready md ops listed).isEmpty
  | t :: ts, listed => decide (Region.ready md ops listed = [t]) && rowB md ops ts (listed.setIfInBounds t true)
/-- The order of one's own, each of its operations free to come first; behind it the row. -/
def headB (md : Region.Mode) (ops : Array Oper) (T : List Nat) : List Nat → Array Bool → Bool
  | [], listed => rowB md ops T listed
  | i :: is, listed => (Region.ready md ops listed).contains i && Region.free md ops listed i && headB md ops T is (listed.setIfInBounds i true)
def orderB (md : Region.Mode) (ops : Array Oper) (F : Nat) (H T : List Nat) : Bool :=
  Region.noSelect ops && (List.range ops.size).all (fun j => H.contains j || (T.contains j && H.all fun i => depB md ops F j i)) && T.all (fun t => !H.contains t) && headB md ops T H (Array.replicate ops.size false)
def pick (l : List Oper) (is : List Nat) : List Oper := is.filterMap fun i => l[i]?

theorem rowB_ready {H T : List Nat} {listed : Array Bool} (hT : ∀ t ∈ T, t ∉ H) (h : rowB md ops T listed = true) : ∀ j ∈ Region.ready md ops listed, j ∉ H := by
  cases T with
  | nil => intro j hj; simp only [rowB, List.isEmpty_iff] at h; rw [h] at hj; cases hj
  | cons t ts =>
    intro j hj
    simp only [rowB, Bool.and_eq_true, decide_eq_true_eq] at h
    rw [h.1] at hj
    obtain rfl : j = t := by simpa using hj
    exact hT j List.mem_cons_self

theorem any_of_row {l : List Oper} {Q : Exit → Act → World → Prop} (hops : ops = l.toArray) {T : List Nat} : ∀ {listed : Array Bool} {a : Act} {w : World}, rowB md ops T listed = true → (∀ t ∈ T, t < l.length) → wpList P ops Q (pick l T) a w → wpAny P md ops Q T.length listed a w := by
  induction T with
  | nil => intro listed a w hB _ h; exact ⟨by simpa [rowB] using hB, h⟩
  | cons t ts ih =>
    intro listed a w hB hlt h
    simp only [rowB, Bool.and_eq_true, decide_eq_true_eq] at hB
    have htl := hlt t List.mem_cons_self
    have h0 : ops[t]? = some l[t] := by rw [hops]; simp [htl]
    have hp : pick l (t :: ts) = l[t] :: pick l ts := by simp [pick, htl]
    rw [hp] at h
    refine ⟨fun h1 => (by rw [hB.1] at h1; cases h1), fun i hi => ?_⟩
    rw [hB.1] at hi
    obtain rfl : i = t := by simpa using hi
    have hw : wpOp P ops Q i (wpList P ops Q (pick l ts)) a w := by unfold wpOp; simp only [h0]; exact h
    exact wpOp_mono (fun a' w' h' => ih hB.2 (fun t ht => hlt t (List.mem_cons_of_mem _ ht)) h') hw

theorem First.lex {l : List Oper} (hops : ops = l.toArray) {H T : List Nat} {F : Nat} {Lq : Act → Prop} (hsel : Region.noSelect ops = true) (hT : ∀ t ∈ T, t ∉ H) (hD : ∀ i ∈ H, ∀ j o, ops[j]? = some o → j ∉ H → depB md ops F j i = true) {is : List Nat} :
    ∀ {listed : Array Bool} {a : Act}, (∀ i ∈ is, i ∈ H) → (∀ i ∈ is, i < l.length) → Closed md ops listed → headB md ops T is listed = true → wpQuiet P ops C Lq (pick l is) a →
      First P md ops C H (fun listed' a' => rowB md ops T listed' = true ∧ Lq a') is.length listed a := by
  induction is with
  | nil => intro listed a _ _ _ hB h; exact ⟨hB, h⟩
  | cons i is ih =>
    intro listed a hH hlt inv hB h
    have hil := hlt i List.mem_cons_self
    have h0 : ops[i]? = some l[i] := by rw [hops]; simp [hil]
    have hp : pick l (i :: is) = l[i] :: pick l is := by simp [pick, hil]
    rw [hp] at h
    rw [headB, Bool.and_eq_true, Bool.and_eq_true] at hB
    have hr : i ∈ Region.ready md ops listed := by simpa using hB.1.1
    have hq : qOp P ops C i (wpQuiet P ops C Lq (pick l is)) a := by unfold qOp; simp only [h0]; exact h
    obtain ⟨v, hy, hK⟩ := yieldsIn_of_qOp h0 hq
    exact First.take h0 (Region.noSelect_spec hsel) (hD i (hH i List.mem_cons_self)) (fun _ _ hL => rowB_ready hT hL.1) inv (Region.free_spec h0 hB.1.2) hr hy
      (ih (fun j hj => hH j (List.mem_cons_of_mem _ hj)) (fun j hj => hlt j (List.mem_cons_of_mem _ hj)) (inv.set hr) hB.2 hK)
end

theorem headB_lt {md : Region.Mode} {ops : Array Oper} {T is : List Nat} : ∀ {listed : Array Bool}, headB md ops T is listed = true → ∀ i ∈ is, i < ops.size := by
  induction is with
  | nil => intro _ _ i hi; cases hi
  | cons j is ih =>
    intro listed h i hi
    rw [headB, Bool.and_eq_true, Bool.and_eq_true] at h
    rcases List.mem_cons.1 hi with rfl | hi
    · have hr : i ∈ Region.ready md ops listed := by simpa using h.1.1
      obtain ⟨_, o, ho, _⟩ := mem_ready.1 hr
      exact (Array.getElem?_eq_some_iff.1 ho).1
    · exact ih h.2 i hi

theorem wp_region_order {P : Program} {id : Nat} {Q : Exit → Act → World → Prop} {a : Act} {w : World} {l : List Oper} (F : Nat) (H T : List Nat) (hm : P.follows .mixedOrders = true) (hB : orderB .any l.toArray F H T = true) (hT : T.all (fun t => decide (t < l.length)) = true) (hn : H.length + T.length = l.length)
    (h : wpQuiet P l.toArray (fun w' => ∃ p : Regrown, w' = grow (redrawn w p.d) p.os) (fun a' => ∀ w', Below w.heap.size w w' → wpList P l.toArray Q (pick l T) a' w') (pick l H) a) :
    (Code.region id l.toArray true).wp P Q a w := by
  rw [orderB, Bool.and_eq_true, Bool.and_eq_true, Bool.and_eq_true] at hB
  obtain ⟨⟨⟨hsel, hcov⟩, hdis⟩, hhead⟩ := hB
  have hdis' : ∀ t ∈ T, t ∉ H := fun t ht hh => by
    have := List.all_eq_true.1 hdis t ht
    simp [hh] at this
  have hD : ∀ i ∈ H, ∀ j o, l.toArray[j]? = some o → j ∉ H → depB .any l.toArray F j i = true := fun i hi j o ho hj => by
    have h0 := List.all_eq_true.1 hcov j (List.mem_range.2 (Array.getElem?_eq_some_iff.1 ho).1)
    have hnc : H.contains j = false := by simpa using hj
    rw [hnc, Bool.false_or, Bool.and_eq_true] at h0
    exact List.all_eq_true.1 h0.2 i hi
  refine wp_region_any hm ?_
  have hG := First.lex (md := .any) (l := l) rfl hsel hdis' hD (is := H) (listed := Array.replicate l.toArray.size false) (fun _ h => h) (fun i hi => by have := headB_lt hhead i hi; simpa using this)
    (fun j oj _ hx => by rw [getD_replicate_false] at hx; simp at hx) hhead h
  have G := hG.any (g := T.length) (Q := Q) (fun listed a' w' hw hL => any_of_row rfl hL.1 (fun t ht => by have := List.all_eq_true.1 hT t ht; simpa using this) (by
    obtain ⟨p, rfl⟩ := hw
    exact hL.2 _ (below_regrown w p.d p.os))) (w := { w with drawn := w.drawn + 1 }) ⟨⟨w.drawn + 1, #[]⟩, by rw [grow_empty]; rfl⟩
  rw [hn] at G
  simpa using G
end Go.Proofs.Ytipcppbbpmdijaa
