/-
  The iterator over a polygon's edges, and the side of an edge on which a point lies, in package shape. Conditions: the numbers' bounds and the vertices in memory, as the theorems state.
-/
import Derived.RangeFuncNested
import Derived.RangeFuncBound
import Derived.RangeFuncCalls
import Derived.RangeFuncLeaves
import Derived.Shelf.Abstract
import Derived.Shelf.RegionOpen
import Derived.WalkKit
import Derived.OwnWalkIn
import Derived.TacticsInMore
import Derived.LoopNIn
import Derived.LoopIn
import Derived.Test.YtipcppbbpmdijaaShc
import Derived.Test.YtipcppbbpmdijaaQti
namespace Go.Proofs.Ytipcppbbpmdijaa
open Go.RowKit Go.Sort Go.Shelf
attribute [local go_sem] Oper.semAt_some
attribute [local go_sem ↓] Go.wp_at_zero Go.wp_at_succ

/-- The function that 'left' hands back, for the edge from v to u. -/
def LeftF (W : World) (f : Value) (v u : V2) : Prop := ∃ a b c : Nat, f = .func (.func 88) #[] #[.pointer (some ⟨a, 0, none⟩), .pointer (some ⟨b, 0, none⟩), .pointer (some ⟨c, 0, none⟩)] ∧
  W.cell? ⟨a, 0, none⟩ = some (.int .i64 (u.1 - v.1)) ∧ W.cell? ⟨c, 0, none⟩ = some (.int .i64 (u.2 - v.2)) ∧ W.cell? ⟨b, 0, none⟩ = some (.int .i64 v.1) ∧ W.cell? ⟨b, 1, none⟩ = some (.int .i64 v.2)
theorem LeftF.below {W W' : World} {f : Value} {v u : V2} (h : LeftF W f v u) (hb : Below W.heap.size W W') : LeftF W' f v u := by
  obtain ⟨a, b, c, h0, h1, h2, h3, h4⟩ := h
  exact ⟨a, b, c, h0, keep_cell hb h1, keep_cell hb h2, keep_cell hb h3, keep_cell hb h4⟩

theorem left_any (v1 v2 u1 u2 : Int) (w : World) (h1 : LB (v1, v2) 32768) (h2 : LB (u1, u2) 32768) :
    Calls Try.prog 65 #[.agg #[.int .i64 v1, .int .i64 v2, .int .i64 u1, .int .i64 u2]] w fun e w' => (∃ f, e = .returned f ∧ LeftF w' f (v1, v2) (u1, u2)) ∧ Below w.heap.size w w' := by
  obtain ⟨a1, a2⟩ := h1
  obtain ⟨b1, b2⟩ := h2
  dsimp only at a1 a2 b1 b2
  go_enter Try.func65, Try.ntmps65
  go_wp2_with fail
  go_region
  all_goals (go_wp2_with fail; go_ret; exact ⟨⟨_, rfl, _, _, _, rfl, by simp [go_sem], by simp [go_sem], by simp [go_sem], by simp [go_sem]⟩, (by repeat (first | with_reducible exact Below.refl _ _ | with_reducible refine below_alloc ?_ _ | with_reducible refine Below.drew ?_ | with_reducible refine below_set ?_ (by (first | (simp; done) | (simp; omega))) _ | with_reducible refine below_step (by assumption) ?_))⟩)

theorem left1_any (v1 v2 u1 u2 p1 p2 : Int) (w : World) (a b c : Nat) (ha : w.cell? ⟨a, 0, none⟩ = some (.int .i64 (u1 - v1))) (hc : w.cell? ⟨c, 0, none⟩ = some (.int .i64 (u2 - v2))) (hb0 : w.cell? ⟨b, 0, none⟩ = some (.int .i64 v1)) (hb1 : w.cell? ⟨b, 1, none⟩ = some (.int .i64 v2))
    (h1 : LB (v1, v2) 32768) (h2 : LB (u1, u2) 32768) (h3 : LB (p1, p2) 268435456) :
    Calls Try.prog 88 #[.agg #[.int .i64 p1, .int .i64 p2], .pointer (some ⟨a, 0, none⟩), .pointer (some ⟨b, 0, none⟩), .pointer (some ⟨c, 0, none⟩)] w fun e w' => e = .returned (.int .i64 (lft (v1, v2) (u1, u2) (p1, p2))) ∧ Below w.heap.size w w' := by
  obtain ⟨q1, q2⟩ := lft_bd h1 h2 h3
  obtain ⟨a1, a2⟩ := h1
  obtain ⟨b1, b2⟩ := h2
  obtain ⟨c1, c2⟩ := h3
  dsimp only at q1 q2 a1 a2 b1 b2 c1 c2
  have l1 := World.block_lt_of_cell? w _ ha
  have l2 := World.block_lt_of_cell? w _ hb0
  have l3 := World.block_lt_of_cell? w _ hc
  unfold lft
  dsimp only at l1 l2 l3
  go_enter Try.func88, Try.ntmps88
  go_wp2_with fail
  go_ret
  exact ⟨rfl, (by repeat (first | with_reducible exact Below.refl _ _ | with_reducible refine below_alloc ?_ _ | with_reducible refine Below.drew ?_ | with_reducible refine below_set ?_ (by (first | (simp; done) | (simp; omega))) _ | with_reducible refine below_step (by assumption) ?_))⟩

theorem edges_any (R : Int) (A : Option Addr) (n c : Nat) (w : World) :
    Calls Try.prog 64 #[.agg #[.int .i64 R, .slice A n c]] w fun e w' => e = .returned (.func (.func 87) #[] #[.pointer (some ⟨w.heap.size, 0, none⟩)]) ∧ w' = w.alloc (.cells #[.int .i64 R, .slice A n c] 29) := by
  go_enter Try.func64, Try.ntmps64
  go_wp2_with fail
  go_ret
  exact ⟨rfl, rfl⟩

/-! ### The iterator -/
def upto {α : Type} (f : Nat → α) (k : Nat) : List α := (List.range k).map f
theorem upto_succ {α : Type} (f : Nat → α) (k : Nat) : upto f (k + 1) = upto f k ++ [f k] := by simp [upto, List.range_succ]
theorem upto_length {α : Type} (f : Nat → α) (k : Nat) : (upto f k).length = k := by simp [upto]
/-- An edge: its number, its ends, which are no farther than 32 from the middle. -/
abbrev Edge := { x : Nat × V2 × V2 // x.1 < 1000 ∧ LB x.2.1 32768 ∧ LB x.2.2 32768 }
def edg (vs : List V2) (h : ∀ k, LB (vtx vs k) 32768) (j : Nat) : Edge := ⟨(j % 1000, vtx vs j, vtx vs ((j + 1) % vs.length)), Nat.mod_lt _ (by omega), h _, h _⟩
def encE (x : Edge) : Array Value := #[.int .i64 (x.1.1 : Int), .agg #[.int .i64 x.1.2.1.1, .int .i64 x.1.2.1.2, .int .i64 x.1.2.2.1, .int .i64 x.1.2.2.2]]

set_option maxRecDepth 100000 in
set_option maxHeartbeats 4000000 in
theorem edges1_in (m l Bs b n c : Nat) (R : Int) (vs : List V2) (hL : ∀ k, LB (vtx vs k) 32768) (hn : 0 < n) (hl : vs.length = n) (hnc : n ≤ c) (hc : n ≤ 1000 ∧ c ≤ 9223372036854775807) (n₀ : Nat) (hBn : Bs < n₀) (hbn : b < n₀) (J Jx : List Edge → World → Prop)
    (hY : ∀ pre x W, J pre W → pre.length < n → YieldAt Fence.wide (m - 1) Try.prog l (encE x) W fun e W' => (e = .returned (.bool true) ∧ J (pre ++ [x]) W' ∧ Below n₀ W W') ∨ (e = .returned (.bool false) ∧ Jx (pre ++ [x]) W'))
    (W : World) (hW : n₀ ≤ W.heap.size) (hBs : B2 W Bs (.int .i64 R) (.slice (some ⟨b, 0, none⟩) n c)) (hcell : ∀ i v, vs[i]? = some v → W.cell? ⟨b, i * 2, none⟩ = some (.int .i64 v.1) ∧ W.cell? ⟨b, i * 2 + 1, none⟩ = some (.int .i64 v.2)) (hA : AbidesFrom W.heap.size J) (h0 : J [] W) :
    CallsIn Fence.wide m Try.prog 87 #[.func (.yield l) #[] #[], .pointer (some ⟨Bs, 0, none⟩)] W fun e W' => (∃ v, e = .returned v) ∧
      ((∃ ys, ys = upto (edg vs hL) n ∧ J ys W') ∨ (∃ pre, (∃ k, k ≤ n ∧ pre = upto (edg vs hL) k) ∧ Jx pre W')) := by
  have HC := Lib.hid hcell; clear hcell
  refine callsIn_of_wp Try.func87 rfl trivial ?_ rfl
  simp only [Try.ntmps87, List.size_toArray, List.length_cons, List.length_nil, Nat.reduceAdd, Nat.reduceSub, Array.replicate_succ, Array.replicate_zero, List.push_toArray, List.append_toArray, List.nil_append, List.cons_append]
  gi_wp2
  gi_loopw [8] (fun i wr => ∃ k : Nat, k ≤ n ∧ i = .int .i64 k ∧ J (upto (edg vs hL) k) wr ∧ Below n₀ W wr) (fun i _ => n - (intOf i).toNat)
  case atStart => exact ⟨0, Nat.zero_le _, rfl, h0, Below.refl _ _⟩
  case round =>
    obtain ⟨k, hk, rfl, hJ, ib⟩ := hrel
    have HJ := Lib.hid hJ; clear hJ
    by_cases hlt : k < n
    · obtain ⟨m', hm, hm1, hm2, hm3⟩ := next_of hlt
      obtain ⟨⟨x, y⟩, hv'⟩ : ∃ v, vs[k]? = some v := ⟨vs[k], List.getElem?_eq_getElem (by omega)⟩
      obtain ⟨⟨x', y'⟩, hv2⟩ : ∃ v, vs[m']? = some v := ⟨vs[m'], List.getElem?_eq_getElem (by omega)⟩
      have YS : B2 wr Bs (.int .i64 R) (.slice (some ⟨b, 0, none⟩) n c) := ⟨⟨(ib.cell (p := ⟨Bs, 0, none⟩) hBn).trans hBs.1.1, (ib.frozen (p := ⟨Bs, 0, none⟩) hBn).trans hBs.1.2⟩, ⟨(ib.cell (p := ⟨Bs, 1, none⟩) hBn).trans hBs.2.1, (ib.frozen (p := ⟨Bs, 1, none⟩) hBn).trans hBs.2.2⟩⟩
      have hx := (ib.cell (p := ⟨b, k * 2, none⟩) hbn).trans (HC.out k _ hv').1
      have hy := (ib.cell (p := ⟨b, k * 2 + 1, none⟩) hbn).trans (HC.out k _ hv').2
      have hx' := (ib.cell (p := ⟨b, m' * 2, none⟩) hbn).trans (HC.out m' _ hv2).1
      have hy' := (ib.cell (p := ⟨b, m' * 2 + 1, none⟩) hbn).trans (HC.out m' _ hv2).2
      have he : encE (edg vs hL k) = #[.int .i64 (k : Int), .agg #[.int .i64 x, .int .i64 y, .int .i64 x', .int .i64 y']] := by unfold encE edg; dsimp only; rw [hl, hm1, vtx_at hv', vtx_at hv2, Nat.mod_eq_of_lt (show k < 1000 by omega)]
      have HE := Lib.hid he; clear he hm1 hv' hv2
      dsimp only at hx hy hx' hy'
      have hk1 : (0 : Int) ≤ (k : Int) := by omega
      have hk2 : (k : Int) < (n : Int) := by omega
      have hj1 : (0 : Int) ≤ (m' : Int) := by omega
      have hj2 : (m' : Int) < (n : Int) := by omega
      have hn0 : ((n : Int) == 0) = false := by simp; omega
      have hwr : IntKind.i64.wrap ((k : Int) + 1) = (k : Int) + 1 := IntWalk.i64_in _ (by omega)
      have lS := YS.lt
      have lb : b < wr.heap.size := World.block_lt_of_cell? wr _ hx
      have hsz : n₀ ≤ wr.heap.size := Nat.le_trans hW ib.size
      gi_wp2
      refine codeIn_named ?_; intro W1 hW1
      have d1 : Below wr.heap.size wr W1 := by rw [hW1]; exact (by repeat (first | with_reducible exact Below.refl _ _ | with_reducible refine below_alloc ?_ _ | with_reducible refine Below.drew ?_ | with_reducible refine below_set ?_ (by (first | (simp; done) | (simp; omega))) _ | with_reducible refine below_step (by assumption) ?_))
      have XV : B2 W1 wr.heap.size (.int .i64 x) (.int .i64 y) := by rw [hW1]; unfold B2 Cel; simp [go_sem]
      have KV := XV.re
      have KS := (YS.below d1).re
      have kx := cell_regrown (keep_cell d1 hx)
      have ky := cell_regrown (keep_cell d1 hy)
      have kx' := cell_regrown (keep_cell d1 hx')
      have ky' := cell_regrown (keep_cell d1 hy')
      clear hW1
      refine wpIn_region_last 14 (by kernel_rfl) (by kernel_rfl) ?_
      simp only [List.take_succ_cons, List.take_zero, List.drop_succ_cons, List.drop_zero]
      repeat (go_big_quiet_step (fail))
      refine wpQuiet_nil ?_
      intro w2 d2
      clear KV KS kx ky kx' ky' hwr hm2 hm3
      have d12 : Below wr.heap.size wr w2 := (by repeat (first | with_reducible exact Below.refl _ _ | with_reducible refine below_alloc ?_ _ | with_reducible refine Below.drew ?_ | with_reducible refine below_set ?_ (by (first | (simp; done) | (simp; omega))) _ | with_reducible refine below_step (by assumption) ?_))
      have hJ2 : J (upto (edg vs hL) k) w2 := hA _ wr w2 none HJ.out ⟨d12.os, d12.tape, d12.output, d12.size, fun i hi _ => d12.block i hi⟩ (fun r e => by cases e)
      obtain ⟨fn, tmps, assign, body, hy, hR⟩ := hY (upto (edg vs hL) k) (edg vs hL k) w2 hJ2 (by rw [upto_length]; exact hlt)
      rw [HE.out] at hy
      clear hJ2
      gi_wp2
      refine ⟨fun h => by simp [Fence.wide] at h, ?_⟩
      refine hR.mono ?_
      rintro e W3 (⟨rfl, hJ3, hk3⟩ | ⟨rfl, hJx3⟩)
      · gi_wp2
        go_roundw
        case rel => exact ⟨k + 1, by omega, by go_num, by rw [upto_succ]; exact hJ3, (ib.trans (d12.mono hsz)).trans hk3⟩
        case measure => simp [intOf]; omega
      · gi_wp2
        refine bodyPost_ret (results_none rfl _ _ _) rfl ?_
        exact ⟨⟨_, rfl⟩, .inr ⟨_, ⟨k + 1, by omega, (upto_succ _ _).symm⟩, hJx3⟩⟩
    · obtain rfl : k = n := by omega
      gi_wp2
      go_end0
      exact ⟨⟨_, rfl⟩, .inl ⟨_, rfl, HJ.out⟩⟩

/-- The iterator's contract: all the edges in order, or the first k of them. -/
theorem edges_stops (m Bs n₀ : Nat) (R : Int) (A : Option Addr) (n c : Nat) (vs : List V2) (w : World) (hL : ∀ k, LB (vtx vs k) 32768) (hP : Pol w A n c vs) (hv : vs ≠ []) (hBs : B2 w Bs (.int .i64 R) (.slice A n c)) (hn₀ : n₀ = w.heap.size) :
    SeqStopsK Fence.wide m Try.prog 87 #[.pointer (some ⟨Bs, 0, none⟩)] encE (Below n₀) (fun ys => ys = upto (edg vs hL) n) (fun pre => ∃ k, k ≤ n ∧ pre = upto (edg vs hL) k) n w := fun l J Jx W hW hA _ hY h0 => by
  subst hn₀
  obtain ⟨b, rfl, hn, hl, hnc, hc, hbl, hcell⟩ := hP.at_ hv
  exact edges1_in m l Bs b n c R vs hL hn hl hnc hc w.heap.size hBs.lt hbl J Jx hY W hW.size (hBs.below hW) (fun i v h => ⟨(hW.cell (p := ⟨b, i * 2, none⟩) hbl).trans (hcell i v h).1, (hW.cell (p := ⟨b, i * 2 + 1, none⟩) hbl).trans (hcell i v h).2⟩) hA h0
end Go.Proofs.Ytipcppbbpmdijaa
