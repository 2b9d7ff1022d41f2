/-
  What Validate of package shape returns. Conditions: the numbers' bounds and the vertices in memory, as the theorems state.
-/
import Derived.Test.YtipcppbbpmdijaaEdg
import Derived.Lib.MinMax
namespace Go.Proofs.Ytipcppbbpmdijaa
open Go.RowKit Go.Sort Go.Shelf
attribute [local go_sem] Oper.semAt_some
attribute [local go_sem ↓] Go.wp_at_zero Go.wp_at_succ

/-- Edge i of a valid polygon: the middle and the other vertices lie to the left of it. -/
def EdgeOK (n i : Nat) (vs : List V2) (v u : V2) : Prop := 0 < lft v u (0, 0) ∧ ∀ j, j < n → j ≠ i → j ≠ (i + 1) % n → 0 < lft v u (vtx vs j)
def VPoly (vs : List V2) : Prop := (∀ v ∈ vs, (-32768 ≤ v.1 ∧ v.1 ≤ 32768) ∧ (-32768 ≤ v.2 ∧ v.2 ≤ 32768)) ∧ ∀ i, i < vs.length → EdgeOK vs.length i vs (vtx vs i) (vtx vs ((i + 1) % vs.length))
def VShape (R : Int) (vs : List V2) : Prop := (vs = [] ∧ 1 ≤ R ∧ R ≤ 32768) ∨ (R = 0 ∧ 3 ≤ vs.length ∧ vs.length ≤ 6 ∧ VPoly vs)
/-- What Validate returns. -/
def VRes (R : Int) (vs : List V2) (z : Int) : Prop := (z = 0 ∧ VShape R vs) ∨ (z = 10 ∧ ¬ VShape R vs)

theorem next_of' {k n : Nat} (hn : 0 < n) : ∃ m : Nat, m < n ∧ (k + 1) % n = m ∧ ((k : Int) + 1) % (n : Int) = (m : Int) ∧ ((k : Int) + 1).tmod (n : Int) = (m : Int) := by
  refine ⟨(k + 1) % n, Nat.mod_lt _ hn, rfl, ?_, ?_⟩
  · rw [← Int.natCast_one, ← Int.natCast_add, ← Int.natCast_emod]
  · rw [Int.tmod_eq_emod_of_nonneg (by omega), ← Int.natCast_one, ← Int.natCast_add, ← Int.natCast_emod]

theorem vno_nil {R : Int} {vs : List V2} (h : vs = []) (hR : ¬ (1 ≤ R ∧ R ≤ 32768)) : ¬ VShape R vs := by
  rintro (⟨_, h1, h2⟩ | ⟨_, h3, _⟩)
  · exact hR ⟨h1, h2⟩
  · rw [h] at h3; simp at h3

set_option maxHeartbeats 1000000 in
theorem Validate_early (R : Int) (A : Option Addr) (n c : Nat) (vs : List V2) (w : World) (hP : Pol w A n c vs) (h : ¬ (R = 0 ∧ 3 ≤ n ∧ n ≤ 6)) :
    Calls Try.prog 26 #[.agg #[.int .i64 R, .slice A n c]] w fun e w' => (∃ z, e = .returned (.int .i64 z) ∧ VRes R vs z) ∧ Below w.heap.size w w' := by
  have hn : vs.length = n := hP.1
  have hnc : n ≤ c := hP.2.1
  have hc := hP.2.2.1
  clear hP
  refine (callsIn_wide (n := 4)).1 ?_
  refine callsIn_of_wp_marks Try.func26 rfl trivial ?_ rfl
  simp only [Try.ntmps26, List.size_toArray, List.length_cons, List.length_nil, Nat.reduceAdd, Nat.reduceSub, Array.replicate_succ, Array.replicate_zero, List.push_toArray, List.append_toArray, List.nil_append, List.cons_append]
  refine wpIn_wide.2 ?_
  have Hn := Lib.hid hn; clear hn
  rcases Nat.eq_zero_or_pos n with h0 | h0
  · subst h0
    have Hv := Lib.hid (List.eq_nil_of_length_eq_zero Hn.out)
    by_cases h1 : 1 ≤ R
    · by_cases h2 : R ≤ 32768
      · go_wp2_with fail
        all_goals exact ⟨.int .i64 0, by simp [results, Try.results26, go_sem], ⟨0, rfl, .inl ⟨rfl, .inl ⟨Hv.out, h1, h2⟩⟩⟩, (by repeat (first | with_reducible exact Below.refl _ _ | with_reducible refine below_alloc ?_ _ | with_reducible refine Below.drew ?_ | with_reducible refine below_set ?_ (by (first | (simp; done) | (simp; omega))) _ | with_reducible refine below_step (by assumption) ?_))⟩
      · go_wp2_with fail
        all_goals exact ⟨.int .i64 10, by simp [results, Try.results26, go_sem], ⟨10, rfl, .inr ⟨rfl, vno_nil Hv.out (by omega)⟩⟩, (by repeat (first | with_reducible exact Below.refl _ _ | with_reducible refine below_alloc ?_ _ | with_reducible refine Below.drew ?_ | with_reducible refine below_set ?_ (by (first | (simp; done) | (simp; omega))) _ | with_reducible refine below_step (by assumption) ?_))⟩
    · go_wp2_with fail
      all_goals exact ⟨.int .i64 10, by simp [results, Try.results26, go_sem], ⟨10, rfl, .inr ⟨rfl, vno_nil Hv.out (by omega)⟩⟩, (by repeat (first | with_reducible exact Below.refl _ _ | with_reducible refine below_alloc ?_ _ | with_reducible refine Below.drew ?_ | with_reducible refine below_set ?_ (by (first | (simp; done) | (simp; omega))) _ | with_reducible refine below_step (by assumption) ?_))⟩
  · have hn0 : ((n : Int) == 0) = false := by simp; omega
    have hn1 : ¬ (n : Int) = 0 := by omega
    have hbad : ¬ VShape R vs := by
      rintro (⟨h, _⟩ | ⟨h1, h2, h3, _⟩)
      · have := Hn.out; rw [h] at this; simp at this; omega
      · have := Hn.out; exact h ⟨h1, by omega, by omega⟩
    have HB := Lib.hid hbad; clear hbad
    by_cases hR : R = 0
    · subst hR
      by_cases h3 : n < 3
      · go_wp2_with fail
        all_goals exact ⟨.int .i64 10, by simp [results, Try.results26, go_sem], ⟨10, rfl, .inr ⟨rfl, HB.out⟩⟩, (by repeat (first | with_reducible exact Below.refl _ _ | with_reducible refine below_alloc ?_ _ | with_reducible refine Below.drew ?_ | with_reducible refine below_set ?_ (by (first | (simp; done) | (simp; omega))) _ | with_reducible refine below_step (by assumption) ?_))⟩
      · have h6 : 6 < n := by omega
        go_wp2_with fail
        all_goals exact ⟨.int .i64 10, by simp [results, Try.results26, go_sem], ⟨10, rfl, .inr ⟨rfl, HB.out⟩⟩, (by repeat (first | with_reducible exact Below.refl _ _ | with_reducible refine below_alloc ?_ _ | with_reducible refine Below.drew ?_ | with_reducible refine below_set ?_ (by (first | (simp; done) | (simp; omega))) _ | with_reducible refine below_step (by assumption) ?_))⟩
    · go_wp2_with fail
      all_goals exact ⟨.int .i64 10, by simp [results, Try.results26, go_sem], ⟨10, rfl, .inr ⟨rfl, HB.out⟩⟩, (by repeat (first | with_reducible exact Below.refl _ _ | with_reducible refine below_alloc ?_ _ | with_reducible refine Below.drew ?_ | with_reducible refine below_set ?_ (by (first | (simp; done) | (simp; omega))) _ | with_reducible refine below_step (by assumption) ?_))⟩

set_option maxRecDepth 100000 in
set_option maxHeartbeats 4000000 in
theorem Validate_main (b : Nat) (n c : Nat) (vs : List V2) (w : World) (hP : Pol w (some ⟨b, 0, none⟩) n c vs) (h36 : 3 ≤ n ∧ n ≤ 6) (hI : ∀ v ∈ vs, (-9223372036854775808 ≤ v.1 ∧ v.1 ≤ 9223372036854775807) ∧ (-9223372036854775808 ≤ v.2 ∧ v.2 ≤ 9223372036854775807)) :
    Calls Try.prog 26 #[.agg #[.int .i64 0, .slice (some ⟨b, 0, none⟩) n c]] w fun e w' => (∃ z, e = .returned (.int .i64 z) ∧ VRes 0 vs z) ∧ Below w.heap.size w w' := by
  have hv : vs ≠ [] := by rintro rfl; have := hP.1; simp at this; omega
  have HP := Lib.hid hP
  obtain ⟨b', hb', hn, hl, hnc, hc, hbl, hcell⟩ := hP.at_ hv
  cases hb'
  have HC := Lib.hid hcell; clear hcell
  clear hP
  have hn0 : ((n : Int) == 0) = false := by simp; omega
  have hn1 : ¬ (n : Int) = 0 := by omega
  have hn3 : ¬ (n : Int) < 3 := by omega
  have hn6 : ¬ (6 : Int) < n := by omega
  have HI := Lib.hid hI; clear hI
  refine (callsIn_wide (n := 4)).1 ?_
  refine callsIn_of_wp_marks Try.func26 rfl trivial ?_ rfl
  simp only [Try.ntmps26, List.size_toArray, List.length_cons, List.length_nil, Nat.reduceAdd, Nat.reduceSub, Array.replicate_succ, Array.replicate_zero, List.push_toArray, List.append_toArray, List.nil_append, List.cons_append]
  refine wpIn_wide.2 ?_
  go_wp2_with fail
  refine code_named ?_; intro W0 hW; have dW0 : Below w.heap.size w W0 := (by rw [hW]; exact (by repeat (first | with_reducible exact Below.refl _ _ | with_reducible refine below_alloc ?_ _ | with_reducible refine Below.drew ?_ | with_reducible refine below_set ?_ (by (first | (simp; done) | (simp; omega))) _ | with_reducible refine below_step (by assumption) ?_)))
  have XB : B2 W0 w.heap.size (.int .i64 0) (.slice (some ⟨b, 0, none⟩) n c) := by rw [hW]; unfold B2 Cel; simp [go_sem]
  have XO : B1 W0 (w.heap.size + 1) (.int .i64 0) := by rw [hW]; unfold B1 Cel; simp [go_sem]
  have XN : B1 W0 (w.heap.size + 1 + 1) (.int .i64 n) := by rw [hW]; unfold B1 Cel; simp [go_sem]
  have i0 : Below w.heap.size w W0 := (by repeat (first | with_reducible exact Below.refl _ _ | with_reducible refine below_alloc ?_ _ | with_reducible refine Below.drew ?_ | with_reducible refine below_set ?_ (by (first | (simp; done) | (simp; omega))) _ | with_reducible refine below_step (by assumption) ?_))
  clear hW
  go_loopg [40] n (fun gk i wr => ∃ k : Nat, gk + k = n ∧ i = .int .i64 k ∧ (∀ j v, j < k → vs[j]? = some v → (-32768 ≤ v.1 ∧ v.1 ≤ 32768) ∧ (-32768 ≤ v.2 ∧ v.2 ≤ 32768)) ∧ Below W0.heap.size W0 wr)
  case atStart => exact ⟨0, by omega, rfl, fun j v hj => by omega, Below.refl _ _⟩
  case round =>
    obtain ⟨k, hk, rfl, hall, ib⟩ := hrel
    have HA := Lib.hid hall; clear hall
    by_cases hlt : k < n
    · obtain ⟨⟨x, y⟩, hv'⟩ : ∃ v, vs[k]? = some v := ⟨vs[k], List.getElem?_eq_getElem (by omega)⟩
      have hbx := HI.out _ (List.mem_of_getElem? hv')
      obtain ⟨hb1, hb2⟩ := hbx
      have hx := (ib.cell (p := ⟨b, k * 2, none⟩) (Nat.lt_of_lt_of_le hbl i0.size)).trans ((i0.cell (p := ⟨b, k * 2, none⟩) hbl).trans (HC.out k _ hv').1)
      have hy := (ib.cell (p := ⟨b, k * 2 + 1, none⟩) (Nat.lt_of_lt_of_le hbl i0.size)).trans ((i0.cell (p := ⟨b, k * 2 + 1, none⟩) hbl).trans (HC.out k _ hv').2)
      have YO := XO.below ib
      have lO := YO.lt
      have HV := Lib.hid hv'; clear hv'
      have hk1 : (0 : Int) ≤ (k : Int) := by omega
      have hk2 : (k : Int) < (n : Int) := by omega
      have hwr : IntKind.i64.wrap ((k : Int) + 1) = (k : Int) + 1 := IntWalk.i64_in _ (by omega)
      dsimp only at hx hy hb1 hb2
      by_cases hbig : 32768 < max x y
      · have hno : ¬ VShape 0 vs := by
          rintro (⟨h, _⟩ | ⟨_, _, _, h, _⟩)
          · exact hv h
          · have := h _ (List.mem_of_getElem? HV.out); dsimp only at this; omega
        go_wp2_with fail
        have cO := (B1.below (YO.set0 (.int .i64 10)) (below_alloc (Below.refl _ _) (Obj.cells #[.int .i64 x, .int .i64 y] 24))).1
        exact ⟨.int .i64 10, by simp [results, Try.results26, go_sem, cO], ⟨10, rfl, .inr ⟨rfl, hno⟩⟩, (by repeat (first | with_reducible exact Below.refl _ _ | with_reducible refine below_alloc ?_ _ | with_reducible refine Below.drew ?_ | with_reducible refine below_set ?_ (by (first | (simp; done) | (simp; omega))) _ | with_reducible refine below_step (by assumption) ?_))⟩
      · by_cases hsm : min x y < -32768
        · have hno : ¬ VShape 0 vs := by
            rintro (⟨h, _⟩ | ⟨_, _, _, h, _⟩)
            · exact hv h
            · have := h _ (List.mem_of_getElem? HV.out); dsimp only at this; omega
          go_wp2_with fail
          have cO := (B1.below (YO.set0 (.int .i64 10)) (below_alloc (Below.refl _ _) (Obj.cells #[.int .i64 x, .int .i64 y] 24))).1
          exact ⟨.int .i64 10, by simp [results, Try.results26, go_sem, cO], ⟨10, rfl, .inr ⟨rfl, hno⟩⟩, (by repeat (first | with_reducible exact Below.refl _ _ | with_reducible refine below_alloc ?_ _ | with_reducible refine Below.drew ?_ | with_reducible refine below_set ?_ (by (first | (simp; done) | (simp; omega))) _ | with_reducible refine below_step (by assumption) ?_))⟩
        · go_wp2_with fail
          go_roundg (n - (k + 1))
          case measure => omega
          case rel =>
            refine ⟨k + 1, by omega, by go_num, fun j v hj hjv => ?_, (by repeat (first | with_reducible exact Below.refl _ _ | with_reducible refine below_alloc ?_ _ | with_reducible refine Below.drew ?_ | with_reducible refine below_set ?_ (by (first | (simp; done) | (simp; omega))) _ | with_reducible refine below_step (by assumption) ?_))⟩
            rcases Nat.lt_or_ge j k with h | h
            · exact HA.out j v h hjv
            · obtain rfl : j = k := by omega
              rw [HV.out] at hjv; cases hjv
              dsimp only; omega
    · have hkn : n = k := by omega
      subst hkn
      have hS : ∀ v ∈ vs, (-32768 ≤ v.1 ∧ v.1 ≤ 32768) ∧ (-32768 ≤ v.2 ∧ v.2 ≤ 32768) := fun v hvv => by
        obtain ⟨j, hj⟩ := List.mem_iff_getElem?.1 hvv
        exact HA.out j v (by have := (List.getElem?_eq_some_iff.1 hj).1; omega) hj
      have HS := Lib.hid (show SN 0 vs from ⟨by omega, by omega, hS⟩); clear hS HI HA
      have HV := Lib.hid (fun k => vtx_bd HS.out k)
      have hP0 := HP.out.below (i0.trans (ib.mono i0.size))
      have YB := XB.below ib
      have YO := XO.below ib
      have YN := XN.below ib
      have lO := YO.lt
      have lN := YN.lt
      have iw : Below w.heap.size w wr := i0.trans (ib.mono i0.size)
      clear XB XO XN
      go_wp2_with fail
      refine (edges_any _ _ _ _ _).mono ?_
      rintro e w' ⟨rfl, rfl⟩
      go_wp2_with fail
      refine code_named ?_; intro W1 hW; have dW1 : Below wr.heap.size wr W1 := (by rw [hW]; exact (by repeat (first | with_reducible exact Below.refl _ _ | with_reducible refine below_alloc ?_ _ | with_reducible refine Below.drew ?_ | with_reducible refine below_set ?_ (by (first | (simp; done) | (simp; omega))) _ | with_reducible refine below_step (by assumption) ?_))); replace YO := YO.below dW1; (try clear lYO); have lYO := YO.lt; replace YN := YN.below dW1; (try clear lYN); have lYN := YN.lt; replace YB := YB.below dW1; (try clear lYB); have lYB := YB.lt
      have XE : B2 W1 wr.heap.size (.int .i64 0) (.slice (some ⟨b, 0, none⟩) n c) := by rw [hW]; unfold B2 Cel; simp [go_sem]
      have i1 : Below w.heap.size w W1 := (by repeat (first | with_reducible exact Below.refl _ _ | with_reducible refine below_alloc ?_ _ | with_reducible refine Below.drew ?_ | with_reducible refine below_set ?_ (by (first | (simp; done) | (simp; omega))) _ | with_reducible refine below_step (by assumption) ?_))
      have hP1 := HP.out.below i1
      clear hW hP0 iw ib
      refine (wpIn_wide (n := 4)).1 ?_
      refine wpIn_rangeFunc_ownH rfl (by omega) (gf := 87) (lb := #[.pointer (some ⟨wr.heap.size, 0, none⟩)]) rfl trivial (enters_of Try.func87 (by kernel_rfl) rfl)
        (edges_stops 3 wr.heap.size W1.heap.size 0 _ n c vs W1 HV.out hP1 hv XE rfl) belowK_t (belowK_b (Nat.le_refl _)) (Below.refl _ _) (fun _ => rfl)
        (fun pre W => (∀ x ∈ pre, EdgeOK n x.1.1 vs x.1.2.1 x.1.2.2) ∧ Below W1.heap.size W1 W)
        (fun c pre W => (c = .ret ∧ ∃ x ∈ pre, ¬ EdgeOK n x.1.1 vs x.1.2.1 x.1.2.2) ∧ W.cell? ⟨w.heap.size + 1, 0, none⟩ = some (.int .i64 10) ∧ Below w.heap.size w W)
        (OwnFrom.and (ownFrom_pure _ _) (ownFrom_below (Nat.le_refl _) (Nat.le_refl _)))
        (fun c => OwnFrom.and (ownFrom_pure _ _) (OwnFrom.and (Own.from (fun s A B row hs hg hr => cell_kept hs hg hr) _) (ownFrom_below (Nat.le_refl _) i1.size)))
        ⟨by simp, Below.refl _ _⟩
        (fun x a' W => ∃ Bx : Nat, W1.heap.size ≤ Bx ∧ W.cell? ⟨Bx, 0, none⟩ = some (.int .i64 x.1.2.1.1) ∧ W.cell? ⟨Bx, 1, none⟩ = some (.int .i64 x.1.2.1.2) ∧ W.cell? ⟨Bx, 2, none⟩ = some (.int .i64 x.1.2.2.1) ∧ W.cell? ⟨Bx, 3, none⟩ = some (.int .i64 x.1.2.2.2) ∧
          a' = { tmps := #[.agg #[.int .i64 0, .slice (some ⟨b, 0, none⟩) n c], .pointer (some ⟨w.heap.size, 0, none⟩), .pointer (some ⟨w.heap.size + 1, 0, none⟩), .pointer (some ⟨w.heap.size + 1 + 1, 0, none⟩), undef, u5, .int .i64 (x.1.1 : Int), .pointer (some ⟨Bx, 0, none⟩), undef, undef, undef, .pointer (some ⟨w.heap.size, 1, none⟩), .slice (some ⟨b, 0, none⟩) n c, .int .i64 (n : Int), .int .i64 (n : Int), .bool false, .bool false, undef, undef, undef, .bool false, .bool false, undef, undef, undef, .bool false, .pointer (some ⟨w.heap.size, 0, none⟩), .int .i64 0, .bool false, .bool false, .int .i64 (n : Int), .bool false, .bool false, .bool false, .int .i64 (n : Int), .bool false, .bool false, .pointer (some ⟨w.heap.size, 1, none⟩), .slice (some ⟨b, 0, none⟩) n c, .int .i64 (n : Int), .int .i64 (n : Int), .bool false, u42, u43, u44, u45, u46, u47, u48, u49, u50, u51, u52, u53, u54, u55, u56, u57, u58, .agg #[.int .i64 0, .slice (some ⟨b, 0, none⟩) n c], .func (.func 87) #[] #[.pointer (some ⟨wr.heap.size, 0, none⟩)], .int .i64 (x.1.1 : Int), .agg #[.int .i64 x.1.2.1.1, .int .i64 x.1.2.1.2, .int .i64 x.1.2.2.1, .int .i64 x.1.2.2.2], undef, undef, undef, undef, undef, undef, undef, undef, undef, undef, undef, undef, undef, undef, undef, undef, undef, undef, undef, undef, undef, undef, undef, undef, undef, undef, undef, undef, undef, undef, undef, undef], defers := [] })
        (fun x a' => Own.from (fun s A B row hs hg hr => by obtain ⟨Bx, k1, k2, k3, k4, k5, k6⟩ := hs; exact ⟨Bx, k1, cell_kept k2 hg hr, cell_kept k3 hg hr, cell_kept k4 hg hr, cell_kept k5 hg hr, k6⟩) _) ?assign ?body ?done ?stop
      case assign =>
        rintro l pre x W K ⟨hp, hb⟩ hK
        unfold encE
        gi_wp2
        exact hK _ _ ((KeepsOthers.alloc _ _).from _) ((Below.refl _ W).alloc hb.size _) ⟨hp, hb.alloc hb.size _⟩ ⟨W.heap.size, hb.size, by simp [go_sem], by simp [go_sem], by simp [go_sem], by simp [go_sem], rfl⟩
      case body =>
        rintro l pre ⟨⟨k, ⟨v1, v2⟩, ⟨q1, q2⟩⟩, hk, b1, b2⟩ a' W hl _ ⟨hp, hb⟩ ⟨Bx, hBx, c0, c1, c2, c3, rfl⟩ hlt2
        have HP' := Lib.hid hp; clear hp
        have hl' : vs.length = n := HP.out.1
        dsimp only at hk b1 b2 c0 c1 c2 c3
        have ZO := YO.below hb
        have ZN := YN.below hb
        have ZB := YB.below hb
        have lBx := World.block_lt_of_cell? W _ c0
        have lO := ZO.lt
        have lN := ZN.lt
        dsimp only at lBx
        have hmx : (Try.prog).follows .mixedOrders = true := by kernel_rfl
        have iW : Below w.heap.size w W := i1.trans (hb.mono i1.size)
        have hdz : LB (0, 0) 268435456 := by unfold LB; dsimp only; omega
        have h1' : 1 ≤ 4 - 1 - 1 := by omega
        by_cases hneg : lft (v1, v2) (q1, q2) (0, 0) ≤ 0
        · gi_wp2
          refine ⟨trivial, ?_⟩; gi_at_call 65; refine (CallsIn.inRound l (callsIn_wide.2 (left_any v1 v2 q1 q2 _ b1 b2))).mono ?_; rintro e w5 ⟨⟨f, rfl, fa, fb, fc, rfl, z1, z2, z3, z4⟩, hb5⟩
          gi_wp2
          refine ⟨trivial, ?_⟩; refine (CallsIn.inRound l (callsIn_wide.2 (left1_any v1 v2 q1 q2 0 0 _ fa fb fc z1 z2 z3 z4 b1 b2 hdz))).mono ?_; rintro e w6 ⟨rfl, hb6⟩
          have i6 : Below W.heap.size W w6 := (by repeat (first | with_reducible exact Below.refl _ _ | with_reducible refine below_alloc ?_ _ | with_reducible refine Below.drew ?_ | with_reducible refine below_set ?_ (by (first | (simp; done) | (simp; omega))) _ | with_reducible refine below_step (by assumption) ?_))
          have O6 := ZO.below i6
          have l6 := O6.lt
          gi_wp2
          exact ⟨((keepsOthers_of_below i6).trans (KeepsOthers.setCell _ _ _)).from _, ⟨rfl, _, List.mem_append_right _ List.mem_cons_self, fun h => by have := h.1; dsimp only at this; omega⟩, (B1.set0 O6 (.int .i64 10)).1, (by repeat (first | with_reducible exact Below.refl _ _ | with_reducible refine below_alloc ?_ _ | with_reducible refine Below.drew ?_ | with_reducible refine below_set ?_ (by (first | (simp; done) | (simp; omega))) _ | with_reducible refine below_step (by assumption) ?_))⟩
        · gi_wp2
          refine ⟨trivial, ?_⟩; gi_at_call 65; refine (CallsIn.inRound l (callsIn_wide.2 (left_any v1 v2 q1 q2 _ b1 b2))).mono ?_; rintro e w5 ⟨⟨f, rfl, fa, fb, fc, rfl, z1, z2, z3, z4⟩, hb5⟩
          gi_wp2
          refine ⟨trivial, ?_⟩; refine (CallsIn.inRound l (callsIn_wide.2 (left1_any v1 v2 q1 q2 0 0 _ fa fb fc z1 z2 z3 z4 b1 b2 hdz))).mono ?_; rintro e w6 ⟨rfl, hb6⟩
          have i6 : Below W.heap.size W w6 := (by repeat (first | with_reducible exact Below.refl _ _ | with_reducible refine below_alloc ?_ _ | with_reducible refine Below.drew ?_ | with_reducible refine below_set ?_ (by (first | (simp; done) | (simp; omega))) _ | with_reducible refine below_step (by assumption) ?_))
          have O6 := ZO.below i6
          have l6 := O6.lt
          have HY := Lib.hid (And.intro (keep_cell hb6 z1) (And.intro (keep_cell hb6 z2) (And.intro (keep_cell hb6 z3) (keep_cell hb6 z4))))
          have B6 := ZB.below i6
          have lB6 := B6.lt
          have N6 := ZN.below i6
          have iw6 : Below w.heap.size w w6 := iW.trans (i6.mono iW.size)
          obtain ⟨m, hm, hm1, hm2, hm3⟩ := next_of' (k := k) hn
          have hwk : IntKind.i64.wrap ((k : Int) + 1) = (k : Int) + 1 := IntWalk.i64_in _ (by omega)
          have HM := Lib.hid hm1; clear hm1
          clear hb5 hb6 z1 z2 z3 z4 c0 c1 c2 c3 ZO ZN ZB YO YN YB XE
          gi_wp2
          gi_loopw [72] (fun i wr2 => ∃ j : Nat, j ≤ n ∧ i = .int .i64 j ∧ (∀ j', j' < j → j' ≠ k → j' ≠ m → 0 < lft (v1, v2) (q1, q2) (vtx vs j')) ∧ Below w6.heap.size w6 wr2) (fun i _ => n - (intOf i).toNat)
          case atStart => exact ⟨0, Nat.zero_le _, rfl, fun j' h => by omega, Below.refl _ _⟩
          case round =>
            obtain ⟨j, hj, rfl, hall, ibj⟩ := hrel
            have HA := Lib.hid hall; clear hall
            have ij : Below W.heap.size W wr := i6.trans (ibj.mono i6.size)
            have Oj := O6.below ibj
            have Nj := N6.below ibj
            have lOj := Oj.lt
            have lNj := Nj.lt
            have lwj : w6.heap.size ≤ wr.heap.size := ibj.size
            clear hnc
            by_cases hjl : j < n
            · obtain ⟨⟨x, y⟩, hv'⟩ : ∃ v, vs[j]? = some v := ⟨vs[j], List.getElem?_eq_getElem (by rw [hl']; exact hjl)⟩
              have hx := (ibj.cell (p := ⟨b, j * 2, none⟩) (Nat.lt_of_lt_of_le hbl iw6.size)).trans ((iw6.cell (p := ⟨b, j * 2, none⟩) hbl).trans (HC.out j _ hv').1)
              have hy := (ibj.cell (p := ⟨b, j * 2 + 1, none⟩) (Nat.lt_of_lt_of_le hbl iw6.size)).trans ((iw6.cell (p := ⟨b, j * 2 + 1, none⟩) hbl).trans (HC.out j _ hv').2)
              have b3 := HV.out j; rw [vtx_at hv'] at b3
              have hb3 : LB (x, y) 268435456 := by obtain ⟨u1, u2⟩ := b3; unfold LB; dsimp only at u1 u2 ⊢; omega
              have HX := Lib.hid (vtx_at hv'); clear hv'
              have hk1 : (0 : Int) ≤ (j : Int) := by omega
              have hk2 : (j : Int) < (n : Int) := by omega
              have hwr : IntKind.i64.wrap ((j : Int) + 1) = (j : Int) + 1 := IntWalk.i64_in _ (by omega)
              dsimp only at hx hy
              have hnx : (∀ j', j' < j + 1 → j' ≠ k → j' ≠ m → 0 < lft (v1, v2) (q1, q2) (vtx vs j')) ↔ (j ≠ k → j ≠ m → 0 < lft (v1, v2) (q1, q2) (x, y)) := by
                refine ⟨fun h a c => by have := h j (by omega) a c; rwa [HX.out] at this, fun h j' hj' a c => ?_⟩
                rcases Nat.lt_or_ge j' j with h2 | h2
                · exact HA.out j' h2 a c
                · obtain rfl : j' = j := by omega
                  rw [HX.out]; exact h a c
              have HN := Lib.hid hnx; clear hnx
              by_cases hjk : j = k
              · subst hjk
                gi_wp2
                refine ⟨fun f h => (by cases h), ?_⟩
                gi_wp2
                go_roundw
                case rel => exact ⟨j + 1, by omega, by go_num, HN.out.2 (fun a _ => absurd rfl a), ibj.alloc ibj.size _⟩
                case measure => simp [intOf]; omega
              · have hjk' : ¬ (j : Int) = (k : Int) := by omega
                by_cases hjm : j = m
                · subst hjm
                  gi_wp2
                  refine ⟨fun f h => (by cases h), ?_⟩
                  gi_wp2
                  go_roundw
                  case rel => exact ⟨j + 1, by omega, by go_num, HN.out.2 (fun _ a => absurd rfl a), ibj.alloc ibj.size _⟩
                  case measure => simp [intOf]; omega
                · have hjm' : ((j : Int) != (m : Int)) = true := by simp; omega
                  have hjk2 : ((j : Int) != (k : Int)) = true := by simp; omega
                  gi_wp2
                  refine ⟨trivial, ?_⟩
                  have bz : Below w6.heap.size w6 (wr.alloc (Obj.cells #[.int .i64 x, .int .i64 y] 24)) := ibj.alloc ibj.size _
                  refine (CallsIn.inRound l (callsIn_wide.2 (left1_any v1 v2 q1 q2 x y _ fa fb fc (keep_cell bz HY.out.1) (keep_cell bz HY.out.2.1) (keep_cell bz HY.out.2.2.1) (keep_cell bz HY.out.2.2.2) b1 b2 hb3))).mono ?_
                  rintro e w8 ⟨rfl, hb8⟩
                  have i68 : Below w6.heap.size w6 w8 := bz.trans (hb8.mono bz.size)
                  have i8 : Below W.heap.size W w8 := i6.trans (i68.mono i6.size)
                  have O8 := O6.below i68
                  have lO8 := O8.lt
                  by_cases hs : lft (v1, v2) (q1, q2) (x, y) ≤ 0
                  · gi_wp2
                    all_goals exact ⟨((keepsOthers_of_below i8).trans (KeepsOthers.setCell _ _ _)).from _, ⟨rfl, _, List.mem_append_right _ List.mem_cons_self, fun h => by have := h.2 j hjl hjk (by dsimp only; rw [HM.out]; exact hjm); dsimp only at this; rw [HX.out] at this; omega⟩, (B1.set0 O8 (.int .i64 10)).1, (by repeat (first | with_reducible exact Below.refl _ _ | with_reducible refine below_alloc ?_ _ | with_reducible refine Below.drew ?_ | with_reducible refine below_set ?_ (by (first | (simp; done) | (simp; omega))) _ | with_reducible refine below_step (by assumption) ?_))⟩
                  · gi_wp2
                    all_goals exact ⟨⟨j + 1, by omega, by go_num, HN.out.2 (fun _ _ => by omega), i68⟩, by simp [intOf]; omega⟩
            · have hjn : n = j := by omega
              subst hjn
              gi_wp2
              exact ⟨(keepsOthers_of_below ij).from _, ij.mono hb.size, fun x hx => (List.mem_append.1 hx).elim (HP'.out x) (fun e => by rw [List.mem_singleton.1 e]; exact ⟨by dsimp only; omega, fun j' h1 h2 h3 => HA.out j' h1 h2 (by rw [← HM.out]; exact h3)⟩), hb.trans (ij.mono hb.size)⟩
      case done =>
        rintro Dn ys W hDn rfl ⟨hall, hb⟩ hK
        have ZO := YO.below hb
        have iW : Below w.heap.size w W := i1.trans (hb.mono i1.size)
        have hok : VShape 0 vs := .inr ⟨rfl, by omega, by omega, HS.out.2.2, fun i hi => by
          have := hall (edg vs HV.out i) (by unfold upto; exact List.mem_map.2 ⟨i, List.mem_range.2 (by omega), rfl⟩)
          unfold edg at this
          dsimp only at this
          rw [Nat.mod_eq_of_lt (show i < 1000 by omega)] at this
          rw [hl] at this ⊢
          exact this⟩
        have HK := Lib.hid hok; clear hok hall
        go_wp2_with fail
        have hK' := (KeepsOthers.setCell W ⟨w.heap.size + 1, 0, none⟩ (.int .i64 0)).same Dn _ hK rfl
        refine ⟨by simp, .inl ⟨_, _, rfl, run_takeDeferred hK', ?_⟩⟩
        have hc5 := cell_kept (B1.set0 ZO (.int .i64 0)).1 (grownBy_putObj' _ Dn (.deferred none)) (fun r e => by cases e; exact ⟨_, hK', rfl⟩)
        refine ⟨.int .i64 0, by simp [results, Try.f26, go_sem, hc5], ⟨0, rfl, .inl ⟨rfl, HK.out⟩⟩, (iW.setCell (p := ⟨w.heap.size + 1, 0, none⟩) (by simp) _).trans (belowK_b (w := w) (Nat.le_refl _) _ Dn _ _ (Nat.le_trans i1.size hDn) hK' rfl rfl)⟩
      case stop =>
        rintro Dn c pre W hDn ⟨k, hk, rfl⟩ ⟨⟨rfl, x, hx, hneg⟩, hcell, iW⟩ hK
        have hno : ¬ VShape 0 vs := by
          rintro (⟨h, _⟩ | ⟨_, _, _, _, h⟩)
          · exact hv h
          · unfold upto at hx
            obtain ⟨j, hj, rfl⟩ := List.mem_map.1 hx
            have hj' := List.mem_range.1 hj
            refine hneg ?_
            have := h j (by omega)
            unfold edg
            dsimp only
            rw [Nat.mod_eq_of_lt (show j < 1000 by omega)]
            rw [hl] at this ⊢
            exact this
        have HK := Lib.hid hno; clear hno hneg
        gi_wp2
        refine ⟨by simp, .inl ⟨_, _, rfl, run_takeDeferred hK, ?_⟩⟩
        have hc5 := cell_kept hcell (grownBy_putObj' _ Dn (.deferred none)) (fun r e => by cases e; exact ⟨_, hK, rfl⟩)
        refine ⟨.int .i64 10, by simp [results, Try.f26, go_sem, hc5], ⟨10, rfl, .inr ⟨rfl, HK.out⟩⟩, iW.trans (belowK_b (w := w) (Nat.le_refl _) _ Dn _ _ (Nat.le_trans i1.size hDn) hK rfl rfl)⟩

theorem Validate_any (R : Int) (A : Option Addr) (n c : Nat) (vs : List V2) (w : World) (hP : Pol w A n c vs) (hI : ∀ v ∈ vs, (-9223372036854775808 ≤ v.1 ∧ v.1 ≤ 9223372036854775807) ∧ (-9223372036854775808 ≤ v.2 ∧ v.2 ≤ 9223372036854775807)) :
    Calls Try.prog 26 #[.agg #[.int .i64 R, .slice A n c]] w fun e w' => (∃ z, e = .returned (.int .i64 z) ∧ VRes R vs z) ∧ Below w.heap.size w w' := by
  by_cases h : R = 0 ∧ 3 ≤ n ∧ n ≤ 6
  · obtain ⟨rfl, h1, h2⟩ := h
    have hv : vs ≠ [] := by rintro rfl; have := hP.1; simp at this; omega
    obtain ⟨b, rfl, -⟩ := hP.at_ hv
    exact Validate_main b n c vs w hP ⟨h1, h2⟩ hI
  · exact Validate_early R A n c vs w hP h
end Go.Proofs.Ytipcppbbpmdijaa
