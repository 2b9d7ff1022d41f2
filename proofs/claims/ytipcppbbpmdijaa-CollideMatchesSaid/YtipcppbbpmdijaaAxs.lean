/-
  What Axes of package collide returns: a new slice of the axes. Conditions: the numbers' bounds and the vertices in memory, as the theorems state.
-/
import Derived.Test.YtipcppbbpmdijaaCld
namespace Go.Proofs.Ytipcppbbpmdijaa
open Go.RowKit Go.Sort Go.Shelf
attribute [local go_sem] Oper.semAt_some
attribute [local go_sem ↓] Go.wp_at_zero Go.wp_at_succ

/-- A new slice of vectors. -/
def NewRow (w : World) (xs : List V2) (e : Ending) (w' : World) : Prop := ∃ v, e = .returned v ∧ w'.ownsRow w.heap.size 24 2 v xs.length (flat xs) ∧ Below w.heap.size w w'
theorem axs_lt {Ra Rb : Int} {va vb : List V2} (hSa : SN Ra va) (hSb : SN Rb vb) (p q : V2) : (axL va vb p q).length ≤ 17 := by
  rw [axL_len]
  have := axl_len va vb p q
  have := hSa.2.1
  have := hSb.2.1
  omega

set_option maxRecDepth 100000 in
set_option maxHeartbeats 4000000 in
theorem appendSeq_any (Ba Bb Bp Bq : Nat) (Ra Rb p0 p1 q0 q1 : Int) (A B : Option Addr) (na ca nb cb : Nat) (va vb : List V2) (w : World) (hSa : SN Ra va) (hSb : SN Rb vb)
    (h1 : -33554432 ≤ p0 ∧ p0 ≤ 33554432) (h2 : -33554432 ≤ p1 ∧ p1 ≤ 33554432) (h3 : -33554432 ≤ q0 ∧ q0 ≤ 33554432) (h4 : -33554432 ≤ q1 ∧ q1 ≤ 33554432)
    (hH : AxHold w.heap.size w Ba Bb Bp Bq Ra Rb p0 p1 q0 q1 A B na ca nb cb va vb) :
    Calls Try.prog 93 #[.slice none 0 0, .func (.func 90) #[] #[.pointer (some ⟨Ba, 0, none⟩), .pointer (some ⟨Bb, 0, none⟩), .pointer (some ⟨Bp, 0, none⟩), .pointer (some ⟨Bq, 0, none⟩)]] w (NewRow w (axl va vb (p0, p1) (q0, q1))) := by
  have hN := axs_lt hSa hSb (p0, p1) (q0, q1)
  obtain ⟨i0, hi0, hz0, hz1, hz2⟩ := info_parts vec_info
  have la := hH.a.lt
  have lb := hH.b.lt
  have lp := hH.p.lt
  have lq := hH.q.lt
  have hPA : ∀ a, A = some a → a.block < w.heap.size := fun a h => by
    obtain ⟨_, _, _, h4, h5⟩ := hH.va
    by_cases hn : na = 0
    · rw [(h4 hn).1] at h; cases h
    · obtain ⟨b, hb, hlt, _⟩ := h5 (by omega); rw [hb] at h; cases h; exact hlt
  have hPB : ∀ a, B = some a → a.block < w.heap.size := fun a h => by
    obtain ⟨_, _, _, h4, h5⟩ := hH.vb
    by_cases hn : nb = 0
    · rw [(h4 hn).1] at h; cases h
    · obtain ⟨b, hb, hlt, _⟩ := h5 (by omega); rw [hb] at h; cases h; exact hlt
  refine (callsIn_wide (n := 4)).1 ?_
  refine callsIn_of_wp_marks Try.func93 rfl trivial ?_ rfl
  simp only [Try.ntmps93, List.size_toArray, List.length_cons, List.length_nil, Nat.reduceAdd, Nat.reduceSub, Array.replicate_succ, Array.replicate_zero, List.push_toArray, List.append_toArray, List.nil_append, List.cons_append]
  refine wpIn_wide.2 ?_
  go_wp2_with fail
  refine code_named ?_; intro W0 hW
  have d0 : Below w.heap.size w W0 := by rw [hW]; exact (by repeat (first | with_reducible exact Below.refl _ _ | with_reducible refine below_alloc ?_ _ | with_reducible refine Below.drew ?_ | with_reducible refine below_set ?_ (by (first | (simp; done) | (simp; omega))) _ | with_reducible refine below_step (by assumption) ?_))
  have hs0 : W0.heap.size = w.heap.size + 1 := by rw [hW]; simp
  have X0 : Boxed W0 w.heap.size 25 (.slice none 0 0) := by rw [hW]; exact Boxed.new _ _ _
  clear hW
  have l0 := X0.lt
  have hs1 : W0.heap.size ≤ w.heap.size + 1 := by omega
  clear hs0
  have hHold : ∀ W', BelowX w.heap.size W0.heap.size W0 W' → AxHold W0.heap.size W' Ba Bb Bp Bq Ra Rb p0 p1 q0 q1 A B na ca nb cb va vb := fun W' h =>
    ⟨h.two (hH.a.below d0) (by omega) (by omega), h.two (hH.b.below d0) (by omega) (by omega), h.two (hH.p.below d0) (by omega) (by omega), h.two (hH.q.below d0) (by omega) (by omega),
      h.pol (hH.va.below d0) (fun a e => by have := hPA a e; omega), h.pol (hH.vb.below d0) (fun a e => by have := hPB a e; omega)⟩
  have HHOLD := Lib.hid hHold; clear hHold
  clear hH hPA hPB
  refine (wpIn_wide (n := 4)).1 ?_
  refine wpIn_rangeFunc_ownH rfl (by omega) (gf := 90) (lb := #[.pointer (some ⟨Ba, 0, none⟩), .pointer (some ⟨Bb, 0, none⟩), .pointer (some ⟨Bp, 0, none⟩), .pointer (some ⟨Bq, 0, none⟩)]) rfl trivial (enters_of Try.func90 (by kernel_rfl) rfl)
    (axes_stops 3 w.heap.size Ba Bb Bp Bq W0.heap.size Ra Rb p0 p1 q0 q1 A B na ca nb cb va vb hSa hSb h1 h2 h3 h4 W0 (Nat.le_refl _) HHOLD.out) Kp.trans (Kp.put (Nat.le_refl _)) (Below.refl _ _) (fun _ => rfl)
    (fun (pre : List AX) W => (∃ v, Boxed W w.heap.size 25 v ∧ W.ownsRow w.heap.size 24 2 v pre.length (flat (pre.map (·.1))) ∧ True) ∧ BelowX w.heap.size W0.heap.size W0 W)
    (fun _ _ _ => False)
    (OwnFrom.and (Own.from (holdsRow_own _ _ _ _ _ (fun (pre : List AX) => List.length pre) (fun (pre : List AX) => flat (pre.map (·.1))) (fun _ _ => True)) _) (ownFrom_belowX (Nat.le_refl _) (Nat.le_refl _)))
    (fun c => fun _ _ _ _ hs _ _ => hs)
    ⟨⟨_, X0, World.ownsRow_nil _ _ _ _, trivial⟩, BelowX.refl _ _ _⟩
    (fun (x : AX) a' W => ∃ Bx : Nat, W0.heap.size ≤ Bx ∧ W.cell? ⟨Bx, 0, none⟩ = some (.int .i64 x.1.1) ∧ W.cell? ⟨Bx, 1, none⟩ = some (.int .i64 x.1.2) ∧ a' = { tmps := #[.slice none 0 0, .func (.func 90) #[] #[.pointer (some ⟨Ba, 0, none⟩), .pointer (some ⟨Bb, 0, none⟩), .pointer (some ⟨Bp, 0, none⟩), .pointer (some ⟨Bq, 0, none⟩)], .pointer (some ⟨w.heap.size, 0, none⟩), undef, .slice none 0 0, .pointer (some ⟨Bx, 0, none⟩), .func (.func 90) #[] #[.pointer (some ⟨Ba, 0, none⟩), .pointer (some ⟨Bb, 0, none⟩), .pointer (some ⟨Bp, 0, none⟩), .pointer (some ⟨Bq, 0, none⟩)], .agg #[.int .i64 x.1.1, .int .i64 x.1.2], undef, undef, undef, undef, undef], defers := [] })
    (fun x a' => Own.from (fun s A B row hs hg hr => by obtain ⟨Bx, k1, k2, k3, k6⟩ := hs; exact ⟨Bx, k1, cell_kept k2 hg hr, cell_kept k3 hg hr, k6⟩) _) ?assign ?body ?done ?stop
  case assign =>
    rintro l pre x W K ⟨⟨v, hv, hr, -⟩, hb⟩ hK
    unfold encA
    gi_wp2
    exact hK _ _ ((KeepsOthers.alloc _ _).from _) (Kp.of_below (below_alloc (Below.refl _ _) _) hb.size) ⟨⟨v, hv.alloc _, hr.alloc _, trivial⟩, hb.trans (BelowX.of (below_alloc (Below.refl _ _) _) hb.size)⟩ ⟨W.heap.size, hb.size, by simp [go_sem], by simp [go_sem], rfl⟩
  case body =>
    rintro l pre ⟨⟨x0, x1⟩, hx0, hx1⟩ a' W hl _ ⟨⟨v, hv, hrow, -⟩, hb⟩ ⟨Bx, hBx, c0, c1, rfl⟩ hlt
    dsimp only at c0 c1
    have hbs := hb.size
    have HN := Lib.hid (show pre.length + 1 ≤ 17 by omega)
    have hvc := hv.cell
    have hvf := hv.frozen
    have lBx := World.block_lt_of_cell? W _ c0
    have lB := hv.lt
    have hn1 := HN.out
    dsimp only at lBx
    gi_wp2_with ((gi_at_builtin; refine wpListIn_append_own _ rfl _ _ 25 rfl w.heap.size 24 i0 _ 2 16 Try.underlying25 hi0 hz0 hz1 hz2 rfl (by decide) _ _ _ rfl (hrow.alloc _) ⟨W.heap.size, 0, none⟩ 1 1 [.int .i64 x0, .int .i64 x1] rfl rfl (cell_two_new _ _ _ _) (fun u hu => by simp at hu; rcases hu with rfl | rfl <;> rfl) (by unfold maxLen; omega) (by omega) (by simp; omega) ?_; intro v' w1 hown' hgrow hnil; obtain ⟨g', cap', rfl⟩ := ownsRow_succ hown'; obtain ⟨hv1, hv2, hr2, hk2, hb2⟩ := hv.appended (by decide) hrow (by omega) (Nat.le_refl _) hown' hgrow; have hc1 := hv1.cell; have hf1 := hv1.frozen))
    have x1' : BelowX w.heap.size W0.heap.size W (W.alloc (.cells #[.int .i64 x0, .int .i64 x1] 24)) := BelowX.of (below_alloc (Below.refl _ _) _) hbs
    have x2' : BelowX w.heap.size W0.heap.size (W.alloc (.cells #[.int .i64 x0, .int .i64 x1] 24)) w1 := BelowX.grown hgrow (fun k e => by have := (hrow.lt k e).1; omega) (by simp; omega)
    have k1' : KeepT 29 W (W.alloc (.cells #[.int .i64 x0, .int .i64 x1] 24)) := KeepT.alloc _ _
    have k2' : KeepT 29 (W.alloc (.cells #[.int .i64 x0, .int .i64 x1] 24)) w1 := KeepT.grown (hrow.alloc _) (by decide) hgrow
    refine ⟨hk2.from _, ⟨(x1'.trans x2').trans (BelowX.set _ _ _ (.inl rfl)), (k1'.trans k2').trans (KeepT.set w1 (cs := #[v]) hv1 (by decide) _ _)⟩, ⟨_, hv2, (by rw [List.length_append, List.map_append, flat_append]; exact hr2)⟩, ((hb.trans x1').trans x2').trans (BelowX.set _ _ _ (.inl rfl))⟩
  case done =>
    rintro Dn ys W hDn rfl ⟨⟨v, hv, hrow, -⟩, hb⟩ hK
    rw [axL_val, axL_len] at hrow
    have hvc := hv.cell
    have lB := hv.lt
    go_wp2_with fail
    refine ⟨by simp, .inl ⟨_, _, rfl, run_takeDeferred hK, ?_⟩⟩
    exact ⟨v, by simp [results, Try.f93, go_sem], v, rfl, ownsRow_putObj hrow _ hK rfl, (d0.trans (hb.down (m := w.heap.size) (by omega) (Nat.le_refl _))).trans (belowK_b (w := w) (Nat.le_refl _) _ Dn _ _ (by omega) hK rfl rfl)⟩
  case stop =>
    rintro Dn c pre W hDn _ h _
    exact h.elim

theorem own_base {w : World} {base base' : Nat} {e : TypeId} {size n : Nat} {v : Value} {xs : List Value} (h : w.ownsRow base e size v n xs) (hb : base' ≤ base) : w.ownsRow base' e size v n xs := by
  refine ⟨h.1, ?_⟩
  rcases h.2 with h0 | ⟨g, cap, cur, h1, h2, h3⟩
  · exact .inl h0
  · exact .inr ⟨g, cap, cur, h1, Nat.le_trans hb h2, h3⟩

theorem Axes_any (Ra Rb p0 p1 q0 q1 : Int) (A B : Option Addr) (na ca nb cb : Nat) (va vb : List V2) (w : World) (hA : Pol w A na ca va) (hB : Pol w B nb cb vb) (hSa : SN Ra va) (hSb : SN Rb vb)
    (h1 : -33554432 ≤ p0 ∧ p0 ≤ 33554432) (h2 : -33554432 ≤ p1 ∧ p1 ≤ 33554432) (h3 : -33554432 ≤ q0 ∧ q0 ≤ 33554432) (h4 : -33554432 ≤ q1 ∧ q1 ≤ 33554432) :
    Calls Try.prog 50 #[.agg #[.int .i64 Ra, .slice A na ca], .agg #[.int .i64 p0, .int .i64 p1], .agg #[.int .i64 Rb, .slice B nb cb], .agg #[.int .i64 q0, .int .i64 q1]] w (NewRow w (axl va vb (p0, p1) (q0, q1))) := by
  have HCO := Lib.hid (fun Ba Bb Bp Bq W hH => appendSeq_any Ba Bb Bp Bq Ra Rb p0 p1 q0 q1 A B na ca nb cb va vb W hSa hSb h1 h2 h3 h4 hH)
  have hcol : ∀ Ba Bb Bp Bq W, AxHold W.heap.size W Ba Bb Bp Bq Ra Rb p0 p1 q0 q1 A B na ca nb cb va vb → Calls Try.prog 74 #[.func (.func 90) #[] #[.pointer (some ⟨Ba, 0, none⟩), .pointer (some ⟨Bb, 0, none⟩), .pointer (some ⟨Bp, 0, none⟩), .pointer (some ⟨Bq, 0, none⟩)]] W (NewRow W (axl va vb (p0, p1) (q0, q1))) := by
    intro Ba Bb Bp Bq W hH
    go_enter Try.func74, Try.ntmps74
    go_wp2_with fail
    refine (HCO.out _ _ _ _ _ hH).mono ?_
    rintro e w1 ⟨v, rfl, ho, hb⟩
    have HOO := Lib.hid ho; clear ho
    go_wp2_with fail
    go_ret
    exact ⟨v, rfl, HOO.out, hb⟩
  have HCL := Lib.hid hcol; clear hcol HCO
  go_enter Try.func50, Try.ntmps50
  go_wp2_with fail
  refine calls_at ?_; intro W0 hW; have dW0 : Below w.heap.size w W0 := (by rw [hW]; exact (by repeat (first | with_reducible exact Below.refl _ _ | with_reducible refine below_alloc ?_ _ | with_reducible refine Below.drew ?_ | with_reducible refine below_set ?_ (by (first | (simp; done) | (simp; omega))) _ | with_reducible refine below_step (by assumption) ?_)))
  clear hW
  refine (axes_any Ra Rb p0 p1 q0 q1 A B na ca nb cb _).mono ?_
  rintro e w1 ⟨rfl, d1, YA, YP, YB, YQ⟩
  have i1 : Below w.heap.size w w1 := (by repeat (first | with_reducible exact Below.refl _ _ | with_reducible refine below_alloc ?_ _ | with_reducible refine Below.drew ?_ | with_reducible refine below_set ?_ (by (first | (simp; done) | (simp; omega))) _ | with_reducible refine below_step (by assumption) ?_))
  have hH : AxHold w1.heap.size w1 W0.heap.size (W0.heap.size + 2) (W0.heap.size + 1) (W0.heap.size + 3) Ra Rb p0 p1 q0 q1 A B na ca nb cb va vb := ⟨YA, YB, YP, YQ, hA.below i1, hB.below i1⟩
  clear YA YB YP YQ
  go_wp2_with fail
  refine (HCL.out _ _ _ _ _ hH).mono ?_
  rintro e w2 ⟨v, rfl, ho, hb⟩
  have HOO := Lib.hid (own_base ho i1.size); clear ho
  go_wp2_with fail
  go_ret
  exact ⟨v, rfl, HOO.out, (by repeat (first | with_reducible exact Below.refl _ _ | with_reducible refine below_alloc ?_ _ | with_reducible refine Below.drew ?_ | with_reducible refine below_set ?_ (by (first | (simp; done) | (simp; omega))) _ | with_reducible refine below_step (by assumption) ?_))⟩
end Go.Proofs.Ytipcppbbpmdijaa
