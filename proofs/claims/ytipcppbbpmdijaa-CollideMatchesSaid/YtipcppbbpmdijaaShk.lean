/-
  What Contains of package shape returns. Conditions: the numbers' bounds and the vertices in memory, as the theorems state.
-/
import Derived.Test.YtipcppbbpmdijaaEdg
namespace Go.Proofs.Ytipcppbbpmdijaa
open Go.RowKit Go.Sort Go.Shelf
attribute [local go_sem] Oper.semAt_some
attribute [local go_sem ↓] Go.wp_at_zero Go.wp_at_succ

set_option maxHeartbeats 1000000 in
theorem Contains_circle (R px py qx qy : Int) (w : World) (hR : 0 ≤ R ∧ R ≤ 32768) (h1 : -67108864 ≤ px ∧ px ≤ 67108864) (h2 : -67108864 ≤ py ∧ py ≤ 67108864) (h3 : -134217728 ≤ qx ∧ qx ≤ 134217728) (h4 : -134217728 ≤ qy ∧ qy ≤ 134217728) :
    Calls Try.prog 33 #[.agg #[.int .i64 R, .slice none 0 0], .agg #[.int .i64 px, .int .i64 py], .agg #[.int .i64 qx, .int .i64 qy]] w fun e w' => e = .returned (.bool (decide ((qx - px) * (qx - px) + (qy - py) * (qy - py) ≤ R * R))) ∧ Below w.heap.size w w' := by
  have s1 := sq_bd (x := qx - px) (by omega)
  have s2 := sq_bd (x := qy - py) (by omega)
  have s3 := sq_bd (x := R) (by omega)
  refine (callsIn_wide (n := 4)).1 ?_
  refine callsIn_of_wp_marks Try.func33 rfl trivial ?_ rfl
  simp only [Try.ntmps33, List.size_toArray, List.length_cons, List.length_nil, Nat.reduceAdd, Nat.reduceSub, Array.replicate_succ, Array.replicate_zero, List.push_toArray, List.append_toArray, List.nil_append, List.cons_append]
  refine wpIn_wide.2 ?_
  go_wp2_with fail
  refine (Sub_any _ _ _ _ _ (by omega) (by omega) (by omega) (by omega)).mono ?_
  rintro e w1 ⟨rfl, hb1⟩; have d1 : Below w.heap.size w w1 := below_step hb1 (by repeat (first | with_reducible exact Below.refl _ _ | with_reducible refine below_alloc ?_ _ | with_reducible refine Below.drew ?_ | with_reducible refine below_set ?_ (by (first | (simp; done) | (simp; omega))) _ | with_reducible refine below_step (by assumption) ?_)); have z1 := hb1.size; (try simp at z1)
  have XS : B2 w1 w.heap.size (.int .i64 R) (.slice none 0 0) := B2.below (by unfold B2 Cel; simp [go_sem]) hb1
  have XO : B1 w1 (w.heap.size + 1 + 1 + 1) (.bool false) := B1.below (by unfold B1 Cel; simp [go_sem]) hb1
  have lS := XS.lt
  have lO := XO.lt
  go_wp2_with fail
  have cO := (B1.below (XO.set0 (.bool (decide ((qx - px) * (qx - px) + (qy - py) * (qy - py) ≤ R * R)))) (below_alloc (Below.refl _ _) (Obj.cells #[.int .i64 (qx - px), .int .i64 (qy - py)] 24))).1
  exact ⟨.bool (decide ((qx - px) * (qx - px) + (qy - py) * (qy - py) ≤ R * R)), by simp [results, Try.results33, go_sem, cO], rfl, (by repeat (first | with_reducible exact Below.refl _ _ | with_reducible refine below_alloc ?_ _ | with_reducible refine Below.drew ?_ | with_reducible refine below_set ?_ (by (first | (simp; done) | (simp; omega))) _ | with_reducible refine below_step (by assumption) ?_))⟩

set_option maxRecDepth 100000 in
set_option maxHeartbeats 4000000 in
theorem Contains_poly (R px py qx qy : Int) (A : Option Addr) (n c : Nat) (vs : List V2) (w : World) (hP : Pol w A n c vs) (hS : SN R vs) (hv : vs ≠ []) (h1 : -67108864 ≤ px ∧ px ≤ 67108864) (h2 : -67108864 ≤ py ∧ py ≤ 67108864) (h3 : -134217728 ≤ qx ∧ qx ≤ 134217728) (h4 : -134217728 ≤ qy ∧ qy ≤ 134217728) :
    Calls Try.prog 33 #[.agg #[.int .i64 R, .slice A n c], .agg #[.int .i64 px, .int .i64 py], .agg #[.int .i64 qx, .int .i64 qy]] w fun e w' => e = .returned (.bool (cov R vs (qx - px, qy - py))) ∧ Below w.heap.size w w' := by
  have HP := Lib.hid hP
  obtain ⟨b, rfl, hn, hl, hnc, hc, hbl, -⟩ := hP.at_ hv
  clear hP
  have HV := Lib.hid (fun k => vtx_bd hS k)
  have hn0 : ((n : Int) == 0) = false := by simp; omega
  have CP := Lib.hid (cov_poly (R := R) (d := (qx - px, qy - py)) hv)
  have hd : LB (qx - px, qy - py) 268435456 := by unfold LB; dsimp only; omega
  have HN := Lib.hid hv; clear hv
  refine (callsIn_wide (n := 4)).1 ?_
  refine callsIn_of_wp_marks Try.func33 rfl trivial ?_ rfl
  simp only [Try.ntmps33, List.size_toArray, List.length_cons, List.length_nil, Nat.reduceAdd, Nat.reduceSub, Array.replicate_succ, Array.replicate_zero, List.push_toArray, List.append_toArray, List.nil_append, List.cons_append]
  refine wpIn_wide.2 ?_
  go_wp2_with fail
  refine (Sub_any _ _ _ _ _ (by omega) (by omega) (by omega) (by omega)).mono ?_
  rintro e w1 ⟨rfl, hb1⟩; have d1 : Below w.heap.size w w1 := below_step hb1 (by repeat (first | with_reducible exact Below.refl _ _ | with_reducible refine below_alloc ?_ _ | with_reducible refine Below.drew ?_ | with_reducible refine below_set ?_ (by (first | (simp; done) | (simp; omega))) _ | with_reducible refine below_step (by assumption) ?_)); have z1 := hb1.size; (try simp at z1)
  have XS : B2 w1 w.heap.size (.int .i64 R) (.slice (some ⟨b, 0, none⟩) n c) := B2.below (by unfold B2 Cel; simp [go_sem]) hb1
  have XO : B1 w1 (w.heap.size + 1 + 1 + 1) (.bool false) := B1.below (by unfold B1 Cel; simp [go_sem]) hb1
  have lS := XS.lt
  have lO := XO.lt
  clear hb1
  go_wp2_with fail
  refine (edges_any _ _ _ _ _).mono ?_
  rintro e w' ⟨rfl, rfl⟩
  go_wp2_with fail
  refine code_named ?_; intro W0 hW; have dW0 : Below w1.heap.size w1 W0 := (by rw [hW]; exact (by repeat (first | with_reducible exact Below.refl _ _ | with_reducible refine below_alloc ?_ _ | with_reducible refine Below.drew ?_ | with_reducible refine below_set ?_ (by (first | (simp; done) | (simp; omega))) _ | with_reducible refine below_step (by assumption) ?_))); replace XO := XO.below dW0; (try clear lXO); have lXO := XO.lt
  have XD : B2 W0 w1.heap.size (.int .i64 (qx - px)) (.int .i64 (qy - py)) := by rw [hW]; unfold B2 Cel; simp [go_sem]
  have XB : B2 W0 (w1.heap.size + 1) (.int .i64 R) (.slice (some ⟨b, 0, none⟩) n c) := by rw [hW]; unfold B2 Cel; simp [go_sem]
  have i0 : Below w.heap.size w W0 := (by repeat (first | with_reducible exact Below.refl _ _ | with_reducible refine below_alloc ?_ _ | with_reducible refine Below.drew ?_ | with_reducible refine below_set ?_ (by (first | (simp; done) | (simp; omega))) _ | with_reducible refine below_step (by assumption) ?_))
  clear hW XS lS
  have hP0 := HP.out.below i0
  have hDl := XD.lt
  refine (wpIn_wide (n := 4)).1 ?_
  refine wpIn_rangeFunc_ownH rfl (by omega) (gf := 87) (lb := #[.pointer (some ⟨w1.heap.size + 1, 0, none⟩)]) rfl trivial (enters_of Try.func87 (by kernel_rfl) rfl)
    (edges_stops 3 (w1.heap.size + 1) W0.heap.size R _ n c vs W0 HV.out hP0 HN.out XB rfl) belowK_t (belowK_b (Nat.le_refl _)) (Below.refl _ _) (fun _ => rfl)
    (fun pre W => (∀ x ∈ pre, 0 ≤ lft x.1.2.1 x.1.2.2 (qx - px, qy - py)) ∧ Below W0.heap.size W0 W)
    (fun c pre W => (c = .ret ∧ ∃ x ∈ pre, lft x.1.2.1 x.1.2.2 (qx - px, qy - py) < 0) ∧ W.cell? ⟨w.heap.size + 1 + 1 + 1, 0, none⟩ = some (.bool false) ∧ Below w.heap.size w W)
    (OwnFrom.and (ownFrom_pure _ _) (ownFrom_below (Nat.le_refl _) (Nat.le_refl _)))
    (fun c => OwnFrom.and (ownFrom_pure _ _) (OwnFrom.and (Own.from (fun s A B row hs hg hr => cell_kept hs hg hr) _) (ownFrom_below (Nat.le_refl _) i0.size)))
    ⟨by simp, Below.refl _ _⟩
    (fun x a' W => ∃ Bx : Nat, W0.heap.size ≤ Bx ∧ W.cell? ⟨Bx, 0, none⟩ = some (.int .i64 x.1.2.1.1) ∧ W.cell? ⟨Bx, 1, none⟩ = some (.int .i64 x.1.2.1.2) ∧ W.cell? ⟨Bx, 2, none⟩ = some (.int .i64 x.1.2.2.1) ∧ W.cell? ⟨Bx, 3, none⟩ = some (.int .i64 x.1.2.2.2) ∧
      a' = { tmps := #[.agg #[.int .i64 R, .slice (some ⟨b, 0, none⟩) n c], .agg #[.int .i64 px, .int .i64 py], .agg #[.int .i64 qx, .int .i64 qy], .pointer (some ⟨w.heap.size, 0, none⟩), .pointer (some ⟨w.heap.size + 1, 0, none⟩), .pointer (some ⟨w.heap.size + 1 + 1, 0, none⟩), .pointer (some ⟨w.heap.size + 1 + 1 + 1, 0, none⟩), .pointer (some ⟨w1.heap.size, 0, none⟩), undef, .pointer (some ⟨Bx, 0, none⟩), .agg #[.int .i64 qx, .int .i64 qy], .agg #[.int .i64 px, .int .i64 py], .agg #[.int .i64 (qx - px), .int .i64 (qy - py)], .pointer (some ⟨w.heap.size, 1, none⟩), .slice (some ⟨b, 0, none⟩) n c, .int .i64 (n : Int), .bool false, undef, undef, undef, undef, undef, undef, undef, undef, undef, undef, undef, undef, undef, undef, undef, undef, undef, .agg #[.int .i64 R, .slice (some ⟨b, 0, none⟩) n c], .func (.func 87) #[] #[.pointer (some ⟨w1.heap.size + 1, 0, none⟩)], .int .i64 (x.1.1 : Int), .agg #[.int .i64 x.1.2.1.1, .int .i64 x.1.2.1.2, .int .i64 x.1.2.2.1, .int .i64 x.1.2.2.2], undef, undef, undef, undef, undef], defers := [] })
    (fun x a' => Own.from (fun s A B row hs hg hr => by obtain ⟨Bx, k1, k2, k3, k4, k5, k6⟩ := hs; exact ⟨Bx, k1, cell_kept k2 hg hr, cell_kept k3 hg hr, cell_kept k4 hg hr, cell_kept k5 hg hr, k6⟩) _) ?assign ?body ?done ?stop
  case assign =>
    rintro l pre x W K ⟨hp, hb⟩ hK
    unfold encE
    gi_wp2
    exact hK _ _ ((KeepsOthers.alloc _ _).from _) ((Below.refl _ W).alloc hb.size _) ⟨hp, hb.alloc hb.size _⟩ ⟨W.heap.size, hb.size, by simp [go_sem], by simp [go_sem], by simp [go_sem], by simp [go_sem], rfl⟩
  case body =>
    rintro l pre ⟨⟨k, ⟨v1, v2⟩, ⟨u1, u2⟩⟩, hk, b1, b2⟩ a' W hl _ ⟨hp, hb⟩ ⟨Bx, hBx, c0, c1, c2, c3, rfl⟩ hlt
    have HP' := Lib.hid hp; clear hp
    dsimp only at hk b1 b2 c0 c1 c2 c3
    have YD := XD.below hb
    have YO := XO.below hb
    have lBx := World.block_lt_of_cell? W _ c0
    have lD := YD.lt
    have lO := YO.lt
    dsimp only at lBx
    have hmx : (Try.prog).follows .mixedOrders = true := by kernel_rfl
    clear XD XO XB hP0 HP
    have key : ∀ wq, Below W.heap.size W wq → B2 wq w1.heap.size (.int .i64 (qx - px)) (.int .i64 (qy - py)) := fun wq h => YD.below h
    have h1' : 1 ≤ 4 - 1 - 1 := by omega
    by_cases hneg : lft (v1, v2) (u1, u2) (qx - px, qy - py) < 0
    · gi_wp2
      gi_region_with_o (first
      | (refine ⟨trivial, ?_⟩; gi_at_call 65; refine (CallsIn.inRound l (callsIn_wide.2 (left_any v1 v2 u1 u2 _ b1 b2))).mono ?_; rintro e w5 ⟨⟨f, rfl, fa, fb, fc, rfl, q1, q2, q3, q4⟩, hb5⟩; have YD5 := key w5 (by repeat (first | with_reducible exact Below.refl _ _ | with_reducible refine below_alloc ?_ _ | with_reducible refine Below.drew ?_ | with_reducible refine below_set ?_ (by (first | (simp; done) | (simp; omega))) _ | with_reducible refine below_step (by assumption) ?_)))
      | (refine ⟨trivial, ?_⟩; gi_at_call 88; refine (CallsIn.inRound l (callsIn_wide.2 (left1_any v1 v2 u1 u2 _ _ _ fa fb fc q1 q2 q3 q4 b1 b2 hd))).mono ?_; rintro e w6 ⟨rfl, hb6⟩; have YO6 := YO.below (show Below W.heap.size W w6 from (by repeat (first | with_reducible exact Below.refl _ _ | with_reducible refine below_alloc ?_ _ | with_reducible refine Below.drew ?_ | with_reducible refine below_set ?_ (by (first | (simp; done) | (simp; omega))) _ | with_reducible refine below_step (by assumption) ?_)))))
      all_goals gi_wp2
      all_goals exact ⟨((keepsOthers_of_below (show Below W.heap.size W w6 from (by repeat (first | with_reducible exact Below.refl _ _ | with_reducible refine below_alloc ?_ _ | with_reducible refine Below.drew ?_ | with_reducible refine below_set ?_ (by (first | (simp; done) | (simp; omega))) _ | with_reducible refine below_step (by assumption) ?_)))).trans (KeepsOthers.setCell _ _ _)).from _, ⟨rfl, _, List.mem_append_right _ List.mem_cons_self, hneg⟩, (B1.set0 YO6 (.bool false)).1, (by repeat (first | with_reducible exact Below.refl _ _ | with_reducible refine below_alloc ?_ _ | with_reducible refine Below.drew ?_ | with_reducible refine below_set ?_ (by (first | (simp; done) | (simp; omega))) _ | with_reducible refine below_step (by assumption) ?_))⟩
    · gi_wp2
      gi_region_with_o (first
      | (refine ⟨trivial, ?_⟩; gi_at_call 65; refine (CallsIn.inRound l (callsIn_wide.2 (left_any v1 v2 u1 u2 _ b1 b2))).mono ?_; rintro e w5 ⟨⟨f, rfl, fa, fb, fc, rfl, q1, q2, q3, q4⟩, hb5⟩; have YD5 := key w5 (by repeat (first | with_reducible exact Below.refl _ _ | with_reducible refine below_alloc ?_ _ | with_reducible refine Below.drew ?_ | with_reducible refine below_set ?_ (by (first | (simp; done) | (simp; omega))) _ | with_reducible refine below_step (by assumption) ?_)))
      | (refine ⟨trivial, ?_⟩; gi_at_call 88; refine (CallsIn.inRound l (callsIn_wide.2 (left1_any v1 v2 u1 u2 _ _ _ fa fb fc q1 q2 q3 q4 b1 b2 hd))).mono ?_; rintro e w6 ⟨rfl, hb6⟩; have YO6 := YO.below (show Below W.heap.size W w6 from (by repeat (first | with_reducible exact Below.refl _ _ | with_reducible refine below_alloc ?_ _ | with_reducible refine Below.drew ?_ | with_reducible refine below_set ?_ (by (first | (simp; done) | (simp; omega))) _ | with_reducible refine below_step (by assumption) ?_)))))
      all_goals gi_wp2
      all_goals exact ⟨(keepsOthers_of_below (show Below W.heap.size W w6 from (by repeat (first | with_reducible exact Below.refl _ _ | with_reducible refine below_alloc ?_ _ | with_reducible refine Below.drew ?_ | with_reducible refine below_set ?_ (by (first | (simp; done) | (simp; omega))) _ | with_reducible refine below_step (by assumption) ?_)))).from _, (show Below W.heap.size W w6 from (by repeat (first | with_reducible exact Below.refl _ _ | with_reducible refine below_alloc ?_ _ | with_reducible refine Below.drew ?_ | with_reducible refine below_set ?_ (by (first | (simp; done) | (simp; omega))) _ | with_reducible refine below_step (by assumption) ?_))).mono hb.size, fun x hx => (List.mem_append.1 hx).elim (HP'.out x) (fun e => by rw [List.mem_singleton.1 e]; exact hneg), hb.trans ((show Below W.heap.size W w6 from (by repeat (first | with_reducible exact Below.refl _ _ | with_reducible refine below_alloc ?_ _ | with_reducible refine Below.drew ?_ | with_reducible refine below_set ?_ (by (first | (simp; done) | (simp; omega))) _ | with_reducible refine below_step (by assumption) ?_))).mono hb.size)⟩
  case done =>
    rintro Dn ys W hDn rfl ⟨hall, hb⟩ hK
    have YO := XO.below hb
    have iW : Below w.heap.size w W := i0.trans (hb.mono i0.size)
    have hcov : cov R vs (qx - px, qy - py) = true := CP.out.2 fun k hk => by
      have := hall (edg vs HV.out k) (by unfold upto; exact List.mem_map.2 ⟨k, List.mem_range.2 (by omega), rfl⟩)
      exact this
    have HCV := Lib.hid hcov; clear hcov hall
    go_wp2_with fail
    have hK' := (KeepsOthers.setCell W ⟨w.heap.size + 1 + 1 + 1, 0, none⟩ (.bool true)).same Dn _ hK rfl
    refine ⟨by simp, .inl ⟨_, _, rfl, run_takeDeferred hK', ?_⟩⟩
    have hc5 := cell_kept (B1.set0 YO (.bool true)).1 (grownBy_putObj' _ Dn (.deferred none)) (fun r e => by cases e; exact ⟨_, hK', rfl⟩)
    refine ⟨.bool true, by simp [results, Try.f33, go_sem, hc5], by rw [HCV.out], (iW.setCell (p := ⟨w.heap.size + 1 + 1 + 1, 0, none⟩) (by simp; omega) _).trans (belowK_b (w := w) (Nat.le_refl _) _ Dn _ _ (Nat.le_trans i0.size hDn) hK' rfl rfl)⟩
  case stop =>
    rintro Dn c pre W hDn ⟨k, hk, rfl⟩ ⟨⟨rfl, x, hx, hneg⟩, hcell, iW⟩ hK
    have hcov : cov R vs (qx - px, qy - py) = false := by
      cases h : cov R vs (qx - px, qy - py) with
      | false => rfl
      | true =>
        unfold upto at hx
        obtain ⟨j, hj, rfl⟩ := List.mem_map.1 hx
        have := CP.out.1 h j (by have := List.mem_range.1 hj; omega)
        have h2 : sid vs (qx - px, qy - py) j < 0 := hneg
        omega
    have HCV := Lib.hid hcov; clear hcov
    gi_wp2
    refine ⟨by simp, .inl ⟨_, _, rfl, run_takeDeferred hK, ?_⟩⟩
    have hc5 := cell_kept hcell (grownBy_putObj' _ Dn (.deferred none)) (fun r e => by cases e; exact ⟨_, hK, rfl⟩)
    refine ⟨.bool false, by simp [results, Try.f33, go_sem, hc5], by rw [HCV.out], iW.trans (belowK_b (w := w) (Nat.le_refl _) _ Dn _ _ (Nat.le_trans i0.size hDn) hK rfl rfl)⟩

theorem Contains_any (R px py qx qy : Int) (A : Option Addr) (n c : Nat) (vs : List V2) (w : World) (hP : Pol w A n c vs) (hS : SN R vs) (h1 : -67108864 ≤ px ∧ px ≤ 67108864) (h2 : -67108864 ≤ py ∧ py ≤ 67108864) (h3 : -134217728 ≤ qx ∧ qx ≤ 134217728) (h4 : -134217728 ≤ qy ∧ qy ≤ 134217728) :
    Calls Try.prog 33 #[.agg #[.int .i64 R, .slice A n c], .agg #[.int .i64 px, .int .i64 py], .agg #[.int .i64 qx, .int .i64 qy]] w fun e w' => e = .returned (.bool (cov R vs (qx - px, qy - py))) ∧ Below w.heap.size w w' := by
  by_cases hv : vs = []
  · obtain ⟨rfl, rfl, rfl⟩ := hP.nil hv
    subst hv
    exact Contains_circle R px py qx qy w hS.1 h1 h2 h3 h4
  · exact Contains_poly R px py qx qy A n c vs w hP hS hv h1 h2 h3 h4
end Go.Proofs.Ytipcppbbpmdijaa
