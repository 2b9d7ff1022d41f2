/-
  The iterator over the candidate separating axes of two shapes in package collide. Conditions: the numbers' bounds and the vertices in memory, as the theorems state.
-/
import Derived.Shelf.Abstract
import Derived.Shelf.RegionOpen
import Derived.WalkKit
import Derived.OwnWalkIn
import Derived.TacticsInMore
import Derived.LoopNIn
import Derived.LoopIn
import Derived.Test.YtipcppbbpmdijaaCob
import Derived.Test.YtipcppbbpmdijaaEdg
namespace Go.Proofs.Ytipcppbbpmdijaa
open Go.RowKit Go.Sort Go.Shelf
attribute [local go_sem] Oper.semAt_some
attribute [local go_sem ↓] Go.wp_at_zero Go.wp_at_succ

theorem axes_any (Ra Rb p0 p1 q0 q1 : Int) (A B : Option Addr) (na ca nb cb : Nat) (w : World) :
    Calls Try.prog 71 #[.agg #[.int .i64 Ra, .slice A na ca], .agg #[.int .i64 p0, .int .i64 p1], .agg #[.int .i64 Rb, .slice B nb cb], .agg #[.int .i64 q0, .int .i64 q1]] w fun e w' =>
      e = .returned (.func (.func 90) #[] #[.pointer (some ⟨w.heap.size, 0, none⟩), .pointer (some ⟨w.heap.size + 2, 0, none⟩), .pointer (some ⟨w.heap.size + 1, 0, none⟩), .pointer (some ⟨w.heap.size + 3, 0, none⟩)]) ∧ Below w.heap.size w w' ∧
      B2 w' w.heap.size (.int .i64 Ra) (.slice A na ca) ∧ B2 w' (w.heap.size + 1) (.int .i64 p0) (.int .i64 p1) ∧ B2 w' (w.heap.size + 2) (.int .i64 Rb) (.slice B nb cb) ∧ B2 w' (w.heap.size + 3) (.int .i64 q0) (.int .i64 q1) := by
  go_enter Try.func71, Try.ntmps71
  go_wp2_with fail
  go_ret
  exact ⟨rfl, (by repeat (first | with_reducible exact Below.refl _ _ | with_reducible refine below_alloc ?_ _ | with_reducible refine Below.drew ?_ | with_reducible refine below_set ?_ (by (first | (simp; done) | (simp; omega))) _ | with_reducible refine below_step (by assumption) ?_)), by unfold B2 Cel; simp [go_sem], by unfold B2 Cel; simp [go_sem], by unfold B2 Cel; simp [go_sem], by unfold B2 Cel; simp [go_sem]⟩

/-- What the iterator holds: the two shapes and their positions, in blocks below n₀; the vertices. -/
structure AxHold (n₀ : Nat) (W : World) (Ba Bb Bp Bq : Nat) (Ra Rb p0 p1 q0 q1 : Int) (A B : Option Addr) (na ca nb cb : Nat) (va vb : List V2) : Prop where
  a : B2 W Ba (.int .i64 Ra) (.slice A na ca)
  b : B2 W Bb (.int .i64 Rb) (.slice B nb cb)
  p : B2 W Bp (.int .i64 p0) (.int .i64 p1)
  q : B2 W Bq (.int .i64 q0) (.int .i64 q1)
  va : Pol W A na ca va
  vb : Pol W B nb cb vb
theorem AxHold.below {n₀ : Nat} {W W' : World} {Ba Bb Bp Bq : Nat} {Ra Rb p0 p1 q0 q1 : Int} {A B : Option Addr} {na ca nb cb : Nat} {va vb : List V2} (h : AxHold n₀ W Ba Bb Bp Bq Ra Rb p0 p1 q0 q1 A B na ca nb cb va vb) (hb : Below W.heap.size W W') :
    AxHold n₀ W' Ba Bb Bp Bq Ra Rb p0 p1 q0 q1 A B na ca nb cb va vb := ⟨h.a.below hb, h.b.below hb, h.p.below hb, h.q.below hb, h.va.below hb, h.vb.below hb⟩
theorem btv_bd {Ra Rb : Int} {va vb : List V2} (hSa : SN Ra va) (hSb : SN Rb vb) {p q : V2} (h1 : LB p 33554432) (h2 : LB q 33554432) : LB (btv va vb p q) 134217728 := by
  unfold LB at *
  unfold btv
  by_cases ha : va = []
  · rw [if_pos ha]
    by_cases hb : vb = []
    · rw [if_pos hb]; unfold dif; dsimp only; omega
    · rw [if_neg hb]
      have hm := hSb.2.2 _ (nrs_mem (dif q p) hb)
      generalize nrs (dif q p) vb = m at *
      unfold plus dif; dsimp only; omega
  · rw [if_neg ha]
    have hm := hSa.2.2 _ (nrs_mem (dif p q) ha)
    generalize nrs (dif p q) va = m at *
    unfold plus dif; dsimp only; omega
def cnt (na nb : Nat) : Nat → Nat
  | 0 => 0
  | 1 => na
  | _ => na + nb
theorem abides_below {α : Type} {B : Nat} {J : α → World → Prop} (hA : AbidesFrom B J) {s : α} {W W' : World} (h : J s W) (hb : Below W.heap.size W W') : J s W' :=
  hA _ W W' none h ⟨hb.os, hb.tape, hb.output, hb.size, fun i hi _ => hb.block i hi⟩ (fun r e => by cases e)

set_option maxRecDepth 100000 in
set_option maxHeartbeats 4000000 in
theorem axes1_in (m l cc : Nat) (Ba Bb Bp Bq n₀ : Nat) (Ra Rb p0 p1 q0 q1 : Int) (A B : Option Addr) (na ca nb cb : Nat) (va vb : List V2) (hSa : SN Ra va) (hSb : SN Rb vb)
    (h1 : -33554432 ≤ p0 ∧ p0 ≤ 33554432) (h2 : -33554432 ≤ p1 ∧ p1 ≤ 33554432) (h3 : -33554432 ≤ q0 ∧ q0 ≤ 33554432) (h4 : -33554432 ≤ q1 ∧ q1 ≤ 33554432) (J Jx : List AX → World → Prop)
    (hY : ∀ pre x W, J pre W → pre.length < (axL va vb (p0, p1) (q0, q1)).length → YieldAt Fence.wide (m - 1) Try.prog l (encA x) W fun e W' => (e = .returned (.bool true) ∧ J (pre ++ [x]) W' ∧ Kp 29 cc n₀ W W') ∨ (e = .returned (.bool false) ∧ Jx (pre ++ [x]) W'))
    (W : World) (hW : n₀ ≤ W.heap.size) (hH : ∀ W', BelowX cc n₀ W W' → AxHold n₀ W' Ba Bb Bp Bq Ra Rb p0 p1 q0 q1 A B na ca nb cb va vb) (hA : AbidesFrom W.heap.size J) (_hAx : AbidesFrom W.heap.size Jx) (h0 : J [] W) :
    CallsIn Fence.wide m Try.prog 90 #[.func (.yield l) #[] #[], .pointer (some ⟨Ba, 0, none⟩), .pointer (some ⟨Bb, 0, none⟩), .pointer (some ⟨Bp, 0, none⟩), .pointer (some ⟨Bq, 0, none⟩)] W fun e W' => (∃ v, e = .returned v) ∧
      ((∃ ys, ys = axL va vb (p0, p1) (q0, q1) ∧ J ys W') ∨ (∃ pre, (∃ k, pre = (axL va vb (p0, p1) (q0, q1)).take k) ∧ Jx pre W')) := by
  obtain ⟨L, hL⟩ : ∃ L, L = axL va vb (p0, p1) (q0, q1) := ⟨_, rfl⟩
  have hna := (hH W (BelowX.refl _ _ _)).va.1
  have hnb := (hH W (BelowX.refl _ _ _)).vb.1
  have hLa : ∀ i, i < na → ∃ y : AX, y.1 = eax va i ∧ L[0 + i]? = some y := fun i hi => by rw [hL, Nat.zero_add]; exact axL_at (axl_a (by omega))
  have hLb : ∀ i, i < nb → ∃ y : AX, y.1 = eax vb i ∧ L[na + i]? = some y := fun i hi => by rw [hL, ← hna]; exact axL_at (axl_b (by omega))
  have hLc : (va = [] ∨ vb = []) → (∃ y : AX, y.1 = unt (btv va vb (p0, p1) (q0, q1)) ∧ L[na + nb]? = some y) ∧ L.length = na + nb + 1 := fun h => by
    rw [hL, ← hna, ← hnb, axL_len]; exact ⟨axL_at (axl_c h).1, (axl_c h).2⟩
  have hLd : ¬ (va = [] ∨ vb = []) → L.length = na + nb := fun h => by
    rw [hL, ← hna, ← hnb, axL_len]; exact axl_d (fun e => h (.inl e)) (fun e => h (.inr e))
  rw [← hL] at hY ⊢
  clear hL
  have HY := Lib.hid hY; clear hY
  have HH := Lib.hid hH; clear hH
  have HLA := Lib.hid hLa; clear hLa
  have HLB := Lib.hid hLb; clear hLb
  have HLC := Lib.hid hLc; clear hLc
  have HLD := Lib.hid hLd; clear hLd
  have HNA := Lib.hid (And.intro hna hnb); clear hna hnb
  have K0 := HH.out W (BelowX.refl _ _ _)
  obtain ⟨Ka, Kb, Kp', Kq, Kva, Kvb⟩ := K0
  have hca := Kva.2.2.1
  have hcb := Kvb.2.2.1
  refine callsIn_of_wp Try.func90 rfl trivial ?_ rfl
  simp only [Try.ntmps90, List.size_toArray, List.length_cons, List.length_nil, Nat.reduceAdd, Nat.reduceSub, Array.replicate_succ, Array.replicate_zero, List.push_toArray, List.append_toArray, List.nil_append, List.cons_append]
  gi_wp2
  refine codeIn_named ?_; intro W1 hW1
  have d1 : Below W.heap.size W W1 := by rw [hW1]; exact (by repeat (first | with_reducible exact Below.refl _ _ | with_reducible refine below_alloc ?_ _ | with_reducible refine Below.drew ?_ | with_reducible refine below_set ?_ (by (first | (simp; done) | (simp; omega))) _ | with_reducible refine below_step (by assumption) ?_))
  have G1 : Bk W1 W.heap.size 29 #[.int .i64 Ra, .slice A na ca, .int .i64 Rb, .slice B nb cb] := by rw [hW1]; exact Bk.new _ _ _
  have hJ1 := abides_below hA h0 d1
  have hsz1 := d1.size
  clear hW1 Ka Kb Kp' Kq Kva Kvb
  gi_loopw [17] (fun i wr => ∃ r : Nat, r ≤ 2 ∧ i = .int .i64 r ∧ J (L.take (cnt na nb r)) wr ∧ BelowX cc n₀ W wr ∧ Bk wr W.heap.size 29 #[.int .i64 Ra, .slice A na ca, .int .i64 Rb, .slice B nb cb]) (fun i _ => 2 - (intOf i).toNat)
  case atStart => exact ⟨0, by omega, rfl, hJ1, BelowX.of d1 hW, G1⟩
  case round =>
    clear hJ1 G1
    rename World => wo
    obtain ⟨r, hr, rfl, hJ, ib, G⟩ := hrel
    have HJ := Lib.hid hJ; clear hJ
    by_cases hlt : r < 2
    · obtain ⟨R', A', n', c', vs', g0, g1, hPr, hSr, hLr, hcn⟩ : ∃ (R' : Int) (A' : Option Addr) (n' c' : Nat) (vs' : List V2), wo.cell? ⟨W.heap.size, r * 2, none⟩ = some (.int .i64 R') ∧ wo.cell? ⟨W.heap.size, r * 2 + 1, none⟩ = some (.slice A' n' c') ∧
          (∀ W', BelowX cc n₀ W W' → Pol W' A' n' c' vs') ∧ SN R' vs' ∧ (∀ i, i < n' → ∃ y : AX, y.1 = eax vs' i ∧ L[cnt na nb r + i]? = some y) ∧ cnt na nb (r + 1) = cnt na nb r + n' := by
        rcases r with _ | _ | r
        · exact ⟨Ra, A, na, ca, va, G.cell 0, G.cell 1, fun W' h => (HH.out W' h).va, hSa, HLA.out, by simp [cnt]⟩
        · exact ⟨Rb, B, nb, cb, vb, G.cell 2, G.cell 3, fun W' h => (HH.out W' h).vb, hSb, HLB.out, by simp [cnt]⟩
        · omega
      have HPR := Lib.hid hPr; clear hPr
      have HLR := Lib.hid hLr; clear hLr
      have HCN := Lib.hid hcn; clear hcn
      have hr1 : (0 : Int) ≤ (r : Int) := by omega
      have hr2 : (r : Int) < 2 := by omega
      have lG := G.lt
      have hnn := (HPR.out wo ib).2.2.1
      gi_wp2
      refine codeIn_named ?_; intro W2 hW2
      have d2 : Below wo.heap.size wo W2 := by rw [hW2]; exact (by repeat (first | with_reducible exact Below.refl _ _ | with_reducible refine below_alloc ?_ _ | with_reducible refine Below.drew ?_ | with_reducible refine below_set ?_ (by (first | (simp; done) | (simp; omega))) _ | with_reducible refine below_step (by assumption) ?_))
      have S2 : Bk W2 wo.heap.size 29 #[.int .i64 R', .slice A' n' c'] := by rw [hW2]; exact Bk.new _ _ _
      have G2 := G.below d2
      have hJ2 := abides_below hA HJ.out d2
      have hszr := ib.size
      have i2 : BelowX cc n₀ W W2 := ib.trans (BelowX.of d2 (by omega))
      clear hW2
      gi_loopw [24] (fun i wq => ∃ k : Nat, k ≤ n' ∧ i = .int .i64 k ∧ J (L.take (cnt na nb r + k)) wq ∧ BelowX cc n₀ W wq ∧ Bk wq W.heap.size 29 #[.int .i64 Ra, .slice A na ca, .int .i64 Rb, .slice B nb cb] ∧ Bk wq wo.heap.size 29 #[.int .i64 R', .slice A' n' c']) (fun i _ => n' - (intOf i).toNat)
      case atStart => exact ⟨0, Nat.zero_le _, rfl, hJ2, i2, G2, S2⟩
      case round =>
        clear hJ2 G2 S2
        rename World => wq
        obtain ⟨k, hk, rfl, hJ, jb, G, S⟩ := hrel
        have HJ := Lib.hid hJ; clear hJ
        by_cases hlt2 : k < n'
        · obtain ⟨m', hm, hm1, hm2, hm3⟩ := next_of hlt2
          have P := HPR.out wq jb
          have hv0 : vs' ≠ [] := by intro e; have := P.1; rw [e] at this; simp at this; omega
          obtain ⟨b, rfl, hn0, hl', hnc, hc, hbl, hcell⟩ := P.at_ hv0
          obtain ⟨⟨x, y⟩, hv'⟩ : ∃ v, vs'[k]? = some v := ⟨_, List.getElem?_eq_getElem (by omega)⟩
          obtain ⟨⟨x', y'⟩, hv2⟩ : ∃ v, vs'[m']? = some v := ⟨_, List.getElem?_eq_getElem (by omega)⟩
          obtain ⟨hx, hy⟩ := hcell _ _ hv'
          obtain ⟨hx', hy'⟩ := hcell _ _ hv2
          have bv := hSr.2.2 _ (List.mem_of_getElem? hv')
          have bu := hSr.2.2 _ (List.mem_of_getElem? hv2)
          obtain ⟨ex, hex, hLe⟩ := HLR.out k hlt2
          have hax : eax vs' k = unt (y' - y, x - x') := by unfold eax ednx; rw [hl', hm1, vtx_at hv', vtx_at hv2]
          rw [hax] at hex
          have hts := take_snoc' L _ hLe
          have hlen : (L.take (cnt na nb r + k)).length < L.length := by rw [List.length_take]; have := (List.getElem?_eq_some_iff.1 hLe).1; omega
          dsimp only at hx hy hx' hy' bv bu
          have HEX := Lib.hid hex; clear hex hax
          have HTS := Lib.hid hts; clear hts
          have hn2 : ((n' : Int) == 0) = false := by simp; omega
          have hn3 : ¬ n' = 0 := by omega
          have hwr : IntKind.i64.wrap ((k : Int) + 1) = (k : Int) + 1 := IntWalk.i64_in _ (by omega)
          have hwm : IntKind.i64.wrap (m' : Int) = (m' : Int) := IntWalk.i64_in _ (by omega)
          have hwt : IntKind.i64.wrap (((k : Int) + 1).tmod (n' : Int)) = (m' : Int) := by rw [hm3]; exact hwm
          have hk1 : (0 : Int) ≤ (k : Int) := by omega
          have hk2 : (k : Int) < (n' : Int) := by omega
          have hj1 : (0 : Int) ≤ (m' : Int) := by omega
          have hj2 : (m' : Int) < (n' : Int) := by omega
          have S2 := S.two
          have lS := S.lt
          have lb : b < wq.heap.size := hbl
          clear hcell hv' hv2 hm1 hLe hv0 hl'
          gi_wp2
          refine codeIn_named ?_; intro W3 hW3
          have d3 : Below wq.heap.size wq W3 := by rw [hW3]; exact (by repeat (first | with_reducible exact Below.refl _ _ | with_reducible refine below_alloc ?_ _ | with_reducible refine Below.drew ?_ | with_reducible refine below_set ?_ (by (first | (simp; done) | (simp; omega))) _ | with_reducible refine below_step (by assumption) ?_))
          have XV : B2 W3 wq.heap.size (.int .i64 x) (.int .i64 y) := by rw [hW3]; unfold B2 Cel; simp [go_sem]
          replace S := S.below d3; replace G := G.below d3; replace S2 := S2.below d3
          have cx' := keep_cell d3 hx'
          have cy' := keep_cell d3 hy'
          have hJ3 := abides_below hA HJ.out d3
          have hszq : wq.heap.size ≤ W3.heap.size := d3.size
          have j3 : BelowX cc n₀ W W3 := jb.trans (BelowX.of d3 (by have := jb.size; omega))
          have lb3 : b < W3.heap.size := by omega
          have lV := XV.lt
          clear hW3 hx hy hx' hy' d3
          refine wpIn_wide.2 ?_
          go_cut [10] (fun s10 w' => ∃ h : Nat, s10 = .pointer (some ⟨h, 0, none⟩) ∧ B2 w' h (.int .i64 x') (.int .i64 y') ∧ Below W3.heap.size W3 w')
          case first =>
            have KS := Lib.hid (show ∀ w', Below W3.heap.size W3 w' → (B2 w' wo.heap.size (.int .i64 R') (.slice (some ⟨b, 0, none⟩) n' c') ∧ w'.cell? ⟨b, m' * 2, none⟩ = some (.int .i64 x') ∧ w'.cell? ⟨b, m' * 2 + 1, none⟩ = some (.int .i64 y') ∧ Below W3.heap.size W3 w') from fun w' hb => ⟨S2.below hb, keep_cell hb cx', keep_cell hb cy', hb⟩)
            go_region_held3 (fun w' => B2 w' wo.heap.size (.int .i64 R') (.slice (some ⟨b, 0, none⟩) n' c') ∧ w'.cell? ⟨b, m' * 2, none⟩ = some (.int .i64 x') ∧ w'.cell? ⟨b, m' * 2 + 1, none⟩ = some (.int .i64 y') ∧ Below W3.heap.size W3 w') (refine KS.out _ (by repeat (first | with_reducible exact Below.refl _ _ | with_reducible refine below_alloc ?_ _ | with_reducible refine Below.drew ?_ | with_reducible refine below_set ?_ (by (first | (simp; done) | (simp; omega))) _ | with_reducible refine below_step (by assumption) ?_))) (fail)
            all_goals (rename _ ∧ _ ∧ _ ∧ Below W3.heap.size W3 _ => hS; go_wp2_with fail; go_meet; exact ⟨_, rfl, by unfold B2 Cel; simp (maxDischargeDepth := 6) [go_sem, *], hS.2.2.2⟩)
          case rest =>
            rename World => W4
            obtain ⟨h, rfl, XU, d4⟩ := hcut
            replace S := S.below d4; replace G := G.below d4; replace XV := XV.below d4
            have hJ4 := abides_below hA hJ3 d4
            have j4 : BelowX cc n₀ W W4 := j3.trans (BelowX.of d4 (by have := j3.size; omega))
            have lU := XU.lt
            have lV4 := XV.lt
            clear S2 cx' cy' hJ3 d4 hm2 hm3 hwr hwm hwt
            gi_wp2
            refine ⟨trivial, fun h => by simp [Fence.wide] at h, ?_⟩
            refine (callsIn_wide.2 (unit_any (y' - y) (x - x') _ (by omega) (by omega) (by omega) (by omega))).mono ?_
            rintro e w5 ⟨rfl, hb5⟩
            have hJ5 := abides_below hA hJ4 hb5
            have j5 : BelowX cc n₀ W w5 := j4.trans (BelowX.of hb5 (by have := j4.size; omega))
            replace S := S.below hb5; replace G := G.below hb5
            obtain ⟨fn, tmps, assign, body, hy, hR⟩ := HY.out _ ex w5 hJ5 hlen
            unfold encA at hy
            rw [HEX.out] at hy
            clear hJ5 hJ4 j4 XU XV lU lV lV4 hn3
            gi_wp2
            refine ⟨fun h => by simp [Fence.wide] at h, ?_⟩
            refine hR.mono ?_
            rintro e W6 (⟨rfl, hJ6, hk6⟩ | ⟨rfl, hJx6⟩)
            · have j6 : BelowX cc n₀ W W6 := j5.trans hk6.1
              replace S := hk6.2.2 _ _ S; replace G := hk6.2.2 _ _ G
              gi_wp2
              go_roundw
              case rel => exact ⟨k + 1, by omega, by go_num, by rw [← Nat.add_assoc, HTS.out]; exact hJ6, j6, G, S⟩
              case measure => simp [intOf]; omega
            · gi_wp2
              refine bodyPost_ret (results_none rfl _ _ _) rfl ?_
              exact ⟨⟨_, rfl⟩, .inr ⟨_, ⟨_, HTS.out.symm⟩, hJx6⟩⟩
        · obtain rfl : k = n' := by omega
          have hJn := HJ.out
          rw [← HCN.out] at hJn
          gi_wp2
          go_roundw
          case rel => exact ⟨r + 1, by omega, by go_num, hJn, jb, G⟩
          case measure => simp [intOf]; omega
    · obtain rfl : r = 2 := by omega
      have K0 := HH.out wo ib
      obtain ⟨Ka, Kb, Kp', Kq, Kva, Kvb⟩ := K0
      have hbb := btv_bd hSa hSb (p := (p0, p1)) (q := (q0, q1)) (by unfold LB; dsimp only; omega) (by unfold LB; dsimp only; omega)
      have hbt := between_any Ra Rb p0 p1 q0 q1 A B na ca nb cb va vb wo Kva Kvb hSa hSb h1 h2 h3 h4
      have lG := G.lt
      have hJ2 := HJ.out
      have hc2 : cnt na nb 2 = na + nb := rfl
      rw [hc2] at hJ2
      have HJ2 := Lib.hid hJ2
      unfold LB at hbb
      clear hJ2 hc2 Kva Kvb
      by_cases hv : va = [] ∨ vb = []
      · obtain ⟨⟨ex, hex, hLe⟩, hLl⟩ := HLC.out hv
        simp only [if_pos hv, decide_eq_true hv] at hbt
        generalize btv va vb (p0, p1) (q0, q1) = z at *
        obtain ⟨z0, z1⟩ := z
        have hts := take_snoc' L _ hLe
        have hall : L.take (na + nb + 1) = L := List.take_of_length_le (by omega)
        rw [hall] at hts
        have hlen : (L.take (na + nb)).length < L.length := by rw [List.length_take]; omega
        have HBT := Lib.hid hbt; clear hbt
        have HEX := Lib.hid hex; clear hex
        have HTS := Lib.hid hts; clear hts
        dsimp only at hbb
        clear hv hLe hall hLl
        gi_wp2
        refine ⟨trivial, fun h => by simp [Fence.wide] at h, ?_⟩
        refine (callsIn_wide.2 HBT.out).mono ?_
        rintro e w4 ⟨rfl, hb4⟩
        have hJ4 := abides_below hA HJ2.out hb4
        clear HBT HJ
        gi_wp2
        refine ⟨trivial, fun h => by simp [Fence.wide] at h, ?_⟩
        refine (callsIn_wide.2 (unit_any z0 z1 _ (by omega) (by omega) (by omega) (by omega))).mono ?_
        rintro e w5 ⟨rfl, hb5⟩
        have hJ5 := abides_below hA hJ4 (show Below w4.heap.size w4 w5 from (by repeat (first | with_reducible exact Below.refl _ _ | with_reducible refine below_alloc ?_ _ | with_reducible refine Below.drew ?_ | with_reducible refine below_set ?_ (by (first | (simp; done) | (simp; omega))) _ | with_reducible refine below_step (by assumption) ?_)))
        obtain ⟨fn, tmps, assign, body, hy, hR⟩ := HY.out _ ex w5 hJ5 hlen
        unfold encA at hy
        rw [HEX.out] at hy
        clear hJ5 hJ4
        gi_wp2
        refine ⟨fun h => by simp [Fence.wide] at h, ?_⟩
        refine hR.mono ?_
        rintro e W6 (⟨rfl, hJ6, hk6⟩ | ⟨rfl, hJx6⟩)
        · gi_wp2
          go_end0
          exact ⟨⟨_, rfl⟩, .inl ⟨_, HTS.out.symm, hJ6⟩⟩
        · gi_wp2
          go_end0
          exact ⟨⟨_, rfl⟩, .inr ⟨_, ⟨L.length, by rw [List.take_length]; exact HTS.out.symm⟩, hJx6⟩⟩
      · have hLl := HLD.out hv
        simp only [if_neg hv, decide_eq_false hv] at hbt
        have hall : L.take (na + nb) = L := List.take_of_length_le (by omega)
        have HBT := Lib.hid hbt; clear hbt
        have HALL := Lib.hid hall; clear hall
        clear hv hLl
        gi_wp2
        refine ⟨trivial, fun h => by simp [Fence.wide] at h, ?_⟩
        refine (callsIn_wide.2 HBT.out).mono ?_
        rintro e w4 ⟨rfl, hb4⟩
        have hJ4 := abides_below hA HJ2.out hb4
        rw [HALL.out] at hJ4
        clear HBT HJ
        gi_wp2
        go_end0
        exact ⟨⟨_, rfl⟩, .inl ⟨_, rfl, abides_below hA hJ4 (below_alloc (Below.refl _ _) _)⟩⟩

/-- The iterator's contract: all the axes in order, or the first of them. -/
theorem axes_stops (m cc Ba Bb Bp Bq n₀ : Nat) (Ra Rb p0 p1 q0 q1 : Int) (A B : Option Addr) (na ca nb cb : Nat) (va vb : List V2) (hSa : SN Ra va) (hSb : SN Rb vb)
    (h1 : -33554432 ≤ p0 ∧ p0 ≤ 33554432) (h2 : -33554432 ≤ p1 ∧ p1 ≤ 33554432) (h3 : -33554432 ≤ q0 ∧ q0 ≤ 33554432) (h4 : -33554432 ≤ q1 ∧ q1 ≤ 33554432) (w : World) (hn₀ : n₀ ≤ w.heap.size)
    (hH : ∀ W', BelowX cc n₀ w W' → AxHold n₀ W' Ba Bb Bp Bq Ra Rb p0 p1 q0 q1 A B na ca nb cb va vb) :
    SeqStopsK Fence.wide m Try.prog 90 #[.pointer (some ⟨Ba, 0, none⟩), .pointer (some ⟨Bb, 0, none⟩), .pointer (some ⟨Bp, 0, none⟩), .pointer (some ⟨Bq, 0, none⟩)] encA (Kp 29 cc n₀) (fun ys => ys = axL va vb (p0, p1) (q0, q1))
      (fun pre => ∃ k, pre = (axL va vb (p0, p1) (q0, q1)).take k) (axL va vb (p0, p1) (q0, q1)).length w := fun l J Jx W hW hA hAx hY h0 =>
  axes1_in m l cc Ba Bb Bp Bq n₀ Ra Rb p0 p1 q0 q1 A B na ca nb cb va vb hSa hSb h1 h2 h3 h4 J Jx hY W (Nat.le_trans hn₀ hW.size) (fun W' h => hH W' ((BelowX.of hW hn₀).trans h)) hA hAx h0
end Go.Proofs.Ytipcppbbpmdijaa
