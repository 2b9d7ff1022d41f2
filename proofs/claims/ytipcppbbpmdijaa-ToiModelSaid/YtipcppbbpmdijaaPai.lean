/-
  What chapter 6's generator of two bodies returns. Conditions: the slice as it came in.
-/
import Derived.Test.YtipcppbbpmdijaaTob
import Derived.Test.YtipcppbbpmdijaaOpen
namespace Go.Proofs.Ytipcppbbpmdijaa
open Go.RowKit Go.Sort
attribute [local go_sem ↓] Go.wp_at_zero Go.wp_at_succ

theorem B6.set23 {W : World} {b : Nat} {v0 v1 v2 v3 v4 v5 : Value} (h : B6 W b v0 v1 v2 v3 v4 v5) (u v : Value) : B6 ((W.setCell ⟨b, 2, none⟩ u).setCell ⟨b, 3, none⟩ v) b v0 v1 u v v4 v5 :=
  ⟨(h.1.far (.inr (by decide)) u).far (.inr (by decide)) v, (h.2.1.far (.inr (by decide)) u).far (.inr (by decide)) v, (h.2.2.1.same u).far (.inr (by decide)) v, (h.2.2.2.1.far (.inr (by decide)) u).same v, (h.2.2.2.2.1.far (.inr (by decide)) u).far (.inr (by decide)) v, (h.2.2.2.2.2.far (.inr (by decide)) u).far (.inr (by decide)) v⟩
theorem B6.set45 {W : World} {b : Nat} {v0 v1 v2 v3 v4 v5 : Value} (h : B6 W b v0 v1 v2 v3 v4 v5) (u v : Value) : B6 ((W.setCell ⟨b, 4, none⟩ u).setCell ⟨b, 5, none⟩ v) b v0 v1 v2 v3 u v :=
  ⟨(h.1.far (.inr (by decide)) u).far (.inr (by decide)) v, (h.2.1.far (.inr (by decide)) u).far (.inr (by decide)) v, (h.2.2.1.far (.inr (by decide)) u).far (.inr (by decide)) v, (h.2.2.2.1.far (.inr (by decide)) u).far (.inr (by decide)) v, (h.2.2.2.2.1.same u).far (.inr (by decide)) v, (h.2.2.2.2.2.far (.inr (by decide)) u).same v⟩
theorem Pol.ltA {W : World} {A : Option Addr} {n c : Nat} {vs : List V2} (h : Pol W A n c vs) {a : Addr} (e : A = some a) : a.block < W.heap.size := by
  obtain ⟨_, _, _, h4, h5⟩ := h
  by_cases hn : n = 0
  · rw [(h4 hn).1] at e; cases e
  · obtain ⟨b, hb, hlt, _⟩ := h5 (by omega)
    rw [hb] at e; cases e; exact hlt
theorem Pol.farA {W : World} {A : Option Addr} {n c : Nat} {vs : List V2} (h : Pol W A n c vs) {b j : Nat} (hne : ∀ a, A = some a → b ≠ a.block) (u : Value) : Pol (W.setCell ⟨b, j, none⟩ u) A n c vs := by
  cases A with
  | none =>
    obtain ⟨h1, h2, h3, h4, h5⟩ := h
    refine ⟨h1, h2, h3, h4, fun hn => ?_⟩
    obtain ⟨b, hb, _⟩ := h5 hn
    cases hb
  | some a =>
    obtain ⟨h1, h2, h3, h4, h5⟩ := h
    refine ⟨h1, h2, h3, h4, fun hn => ?_⟩
    obtain ⟨b', hb, hlt, hc⟩ := h5 hn
    cases hb
    have hne' := hne _ rfl
    dsimp only at hne'
    refine ⟨b', rfl, by simpa using hlt, fun i v hv => ?_⟩
    obtain ⟨k1, k2⟩ := hc i v hv
    exact ⟨(World.cell?_setCell_other W ⟨b, j, none⟩ ⟨b', i * 2, none⟩ u (fun e => by cases e; exact hne' rfl)).trans k1, (World.cell?_setCell_other W ⟨b, j, none⟩ ⟨b', i * 2 + 1, none⟩ u (fun e => by cases e; exact hne' rfl)).trans k2⟩
theorem B6.fill {W : World} {b : Nat} {v0 v1 v2 v3 v4 v5 : Value} (h : B6 W b v0 v1 v2 v3 v4 v5) (u0 u1 u2 u3 u4 u5 : Value) : B6 ((((((W.setCell ⟨b, 0, none⟩ u0).setCell ⟨b, 1, none⟩ u1).setCell ⟨b, 2, none⟩ u2).setCell ⟨b, 3, none⟩ u3).setCell ⟨b, 4, none⟩ u4).setCell ⟨b, 5, none⟩ u5) b u0 u1 u2 u3 u4 u5 :=
  ⟨((((((h.1.same u0).far (.inr (by decide)) u1).far (.inr (by decide)) u2).far (.inr (by decide)) u3).far (.inr (by decide)) u4).far (.inr (by decide)) u5), ((((((h.2.1.far (.inr (by decide)) u0).same u1).far (.inr (by decide)) u2).far (.inr (by decide)) u3).far (.inr (by decide)) u4).far (.inr (by decide)) u5), ((((((h.2.2.1.far (.inr (by decide)) u0).far (.inr (by decide)) u1).same u2).far (.inr (by decide)) u3).far (.inr (by decide)) u4).far (.inr (by decide)) u5), ((((((h.2.2.2.1.far (.inr (by decide)) u0).far (.inr (by decide)) u1).far (.inr (by decide)) u2).same u3).far (.inr (by decide)) u4).far (.inr (by decide)) u5), ((((((h.2.2.2.2.1.far (.inr (by decide)) u0).far (.inr (by decide)) u1).far (.inr (by decide)) u2).far (.inr (by decide)) u3).same u4).far (.inr (by decide)) u5), ((((((h.2.2.2.2.2.far (.inr (by decide)) u0).far (.inr (by decide)) u1).far (.inr (by decide)) u2).far (.inr (by decide)) u3).far (.inr (by decide)) u4).same u5)⟩
theorem B6.far6 {W : World} {b c : Nat} {v0 v1 v2 v3 v4 v5 : Value} (h : B6 W b v0 v1 v2 v3 v4 v5) (hne : c ≠ b) (u0 u1 u2 u3 u4 u5 : Value) : B6 ((((((W.setCell ⟨c, 0, none⟩ u0).setCell ⟨c, 1, none⟩ u1).setCell ⟨c, 2, none⟩ u2).setCell ⟨c, 3, none⟩ u3).setCell ⟨c, 4, none⟩ u4).setCell ⟨c, 5, none⟩ u5) b v0 v1 v2 v3 v4 v5 :=
  ((((((h.far hne u0).far hne u1).far hne u2).far hne u3).far hne u4).far hne u5)
theorem Pol.far6 {W : World} {A : Option Addr} {n c : Nat} {vs : List V2} (h : Pol W A n c vs) {b : Nat} (hne : ∀ a, A = some a → b ≠ a.block) (u0 u1 u2 u3 u4 u5 : Value) : Pol ((((((W.setCell ⟨b, 0, none⟩ u0).setCell ⟨b, 1, none⟩ u1).setCell ⟨b, 2, none⟩ u2).setCell ⟨b, 3, none⟩ u3).setCell ⟨b, 4, none⟩ u4).setCell ⟨b, 5, none⟩ u5) A n c vs :=
  (Pol.farA (Pol.farA (Pol.farA (Pol.farA (Pol.farA (Pol.farA h hne u0) hne u1) hne u2) hne u3) hne u4) hne u5)
theorem below_set6 {b : Nat} {w W : World} (h : Below w.heap.size w W) (hle : w.heap.size ≤ b) (u0 u1 u2 u3 u4 u5 : Value) : Below w.heap.size w ((((((W.setCell ⟨b, 0, none⟩ u0).setCell ⟨b, 1, none⟩ u1).setCell ⟨b, 2, none⟩ u2).setCell ⟨b, 3, none⟩ u3).setCell ⟨b, 4, none⟩ u4).setCell ⟨b, 5, none⟩ u5) :=
  (below_set (below_set (below_set (below_set (below_set (below_set h hle u0) hle u1) hle u2) hle u3) hle u4) hle u5)
theorem bodyPost_named {P : Program} {f : Func} {post : Ending → World → Prop} {e : Exit} {a : Act} {W : World} (S : World → Prop) (hS : S W) (g : ∀ W', S W' → bodyPost P f post e a W') : bodyPost P f post e a W := g W hS
theorem IsRow.below {k : IntKind} {w w' : World} {a : Option Addr} {len cap : Nat} {zs : List Int} (h : IsRow k w a len cap zs) (g : Below w.heap.size w w') : IsRow k w' a len cap zs := by
  rcases h with h | ⟨x, h1, h2, h3, h4, h5, h6⟩
  · exact Or.inl h
  · exact Or.inr ⟨x, h1, h2, h3, h4, fun i hi => (g.cell (World.block_lt_of_cell? w _ (h5 i hi))).trans (h5 i hi), h6⟩
/-- Number i of the eight; 0 if there is none. -/
def pk (zs : List Int) (len i : Nat) : Int := if i < len then arnd (zs.getD i 0) 1000000000 else 0
theorem pk_bd (zs : List Int) (len i : Nat) : 0 ≤ pk zs len i ∧ pk zs len i ≤ 999999999 := by
  unfold pk
  split
  · exact arnd_bd _ (by decide)
  · omega
def pkl (k : Nat → Int) (j : Nat) : List Value := (List.range j).map fun i => .int .i64 (k i)
theorem pkl_succ (k : Nat → Int) (j : Nat) : pkl k (j + 1) = pkl k j ++ [.int .i64 (k j)] := by simp [pkl, List.range_succ]
theorem int_info : (Try.prog.info? 3).map (fun i => (i.zero, i.size, i.bytes)) = some (some (.int .i64 0), 1, 8) := by kernel_rfl

def prW (a0 a1 b0 b1 : Int) : Int := a1 - a0 + b1 - b0
def prD (Ra : Int) (va : List V2) (Rb : Int) (vb : List V2) (k2 k3 : Int) : V2 := (bnd k2 (prW (bx0 Ra va) (bx1 Ra va) (bx0 Rb vb) (bx1 Rb vb) + 5), bnd k3 (prW (by0 Ra va) (by1 Ra va) (by0 Rb vb) (by1 Rb vb) + 5))
def prP (k4 : Int) : V2 := (bnd k4 500000, bnd (k4 / 7) 500000)
def prU (d : V2) (k5 : Int) : V2 := (clp ((d.1 * (k5 % 5)).tdiv 2) (-16384) 16384, clp ((d.2 * (k5 / 5 % 5)).tdiv 2) (-16384) 16384)
def prV (k6 k7 : Int) : V2 := if 0 < k6 % 3 then (bnd (k6 / 3) 16384, bnd k7 16384) else (0, 0)
theorem prP_bd (k4 : Int) : LB (prP k4) 500000 := ⟨bnd_bd _ (by decide), bnd_bd _ (by decide)⟩
theorem prU_bd (d : V2) (k5 : Int) : LB (prU d k5) 16384 := by unfold prU clp LB; dsimp only; omega
theorem prV_bd (k6 k7 : Int) : LB (prV k6 k7) 16384 := by
  have a := bnd_bd (k6 / 3) (most := 16384) (by decide)
  have b := bnd_bd k7 (most := 16384) (by decide)
  unfold prV LB; split <;> dsimp only <;> omega
theorem prW_bd {a0 a1 b0 b1 : Int} (h1 : -32768 ≤ a0 ∧ a0 ≤ 32768) (h2 : -32768 ≤ a1 ∧ a1 ≤ 32768) (h3 : -32768 ≤ b0 ∧ b0 ≤ 32768) (h4 : -32768 ≤ b1 ∧ b1 ≤ 32768) (ha : a0 ≤ a1) (hb : b0 ≤ b1) : 0 ≤ prW a0 a1 b0 b1 ∧ prW a0 a1 b0 b1 ≤ 131072 := by
  unfold prW; omega
theorem prD_bd {Ra : Int} {va : List V2} {Rb : Int} {vb : List V2} (hA : SN Ra va) (hB : SN Rb vb) (k2 k3 : Int) : LB (prD Ra va Rb vb k2 k3) 131077 := by
  obtain ⟨a1, a2, a3, a4⟩ := bb_bd hA
  obtain ⟨b1, b2, b3, b4⟩ := bb_bd hB
  obtain ⟨o1, o2⟩ := bb_ord hA
  obtain ⟨o3, o4⟩ := bb_ord hB
  have w1 := prW_bd a1 a3 b1 b3 o1 o3
  have w2 := prW_bd a2 a4 b2 b4 o2 o4
  unfold prD
  generalize prW (bx0 Ra va) (bx1 Ra va) (bx0 Rb vb) (bx1 Rb vb) = p at *
  generalize prW (by0 Ra va) (by1 Ra va) (by0 Rb vb) (by1 Rb vb) = q at *
  have d1 := bnd_bd k2 (most := p + 5) (by omega)
  have d2 := bnd_bd k3 (most := q + 5) (by omega)
  unfold LB
  dsimp only at *
  omega
/-- The two bodies that eight numbers stand for. -/
def PairRet (w : World) (k : Nat → Int) (e : Ending) (w' : World) : Prop :=
  ∃ A na ca B nb cb d, d = prD (shR (k 0)) (shV (k 0)) (shR (k 1)) (shV (k 1)) (k 2) (k 3) ∧
    e = .returned (.tuple #[.agg #[.int .i64 (shR (k 0)), .slice A na ca, .int .i64 (prP (k 4)).1, .int .i64 (prP (k 4)).2, .int .i64 (prU d (k 5)).1, .int .i64 (prU d (k 5)).2],
      .agg #[.int .i64 (shR (k 1)), .slice B nb cb, .int .i64 ((prP (k 4)).1 + d.1), .int .i64 ((prP (k 4)).2 + d.2), .int .i64 (prV (k 6) (k 7)).1, .int .i64 (prV (k 6) (k 7)).2]]) ∧
    Pol w' A na ca (shV (k 0)) ∧ Pol w' B nb cb (shV (k 1)) ∧ (∀ a, A = some a → w.heap.size ≤ a.block) ∧ (∀ a, B = some a → w.heap.size ≤ a.block) ∧ Below w.heap.size w w'

set_option maxRecDepth 100000 in
set_option maxHeartbeats 8000000 in
theorem Pair_any (a : Option Addr) (len cap : Nat) (zs : List Int) (w : World) (hr : IsRow .i64 w a len cap zs) :
    Calls Try.prog 55 #[.slice a len cap] w (PairRet w (pk zs len)) := by
  obtain ⟨i0, hi0, hz0, hz1, hz2⟩ := info_parts int_info
  have hbd := pk_bd zs len
  have hkd : ∀ j, pk zs len j = if j < len then arnd (zs.getD j 0) 1000000000 else 0 := fun j => rfl
  generalize pk zs len = k at *
  have HBD := Lib.hid hbd; clear hbd
  have HKD := Lib.hid hkd; clear hkd
  go_enter Try.func55, Try.ntmps55
  go_wp2_with fail
  refine code_named ?_; intro W0 hW; have dW0 : Below w.heap.size w W0 := (by rw [hW]; exact (by repeat (first | with_reducible exact Below.refl _ _ | with_reducible refine below_alloc ?_ _ | with_reducible refine Below.drew ?_ | with_reducible refine below_set ?_ (by (first | (simp; done) | (simp; omega))) _ | with_reducible refine below_step (by assumption) ?_)))
  have X2 : B6 W0 w.heap.size (.int .i64 0) (.slice none 0 0) (.int .i64 0) (.int .i64 0) (.int .i64 0) (.int .i64 0) := by rw [hW]; unfold B6 Cel; simp [go_sem]
  have X3 : B6 W0 (w.heap.size + 1) (.int .i64 0) (.slice none 0 0) (.int .i64 0) (.int .i64 0) (.int .i64 0) (.int .i64 0) := by rw [hW]; unfold B6 Cel; simp [go_sem]
  clear hW
  have lw0 := B6.lt X3
  have HR := Lib.hid (hr.below dW0); clear hr
  go_loopg [4, 5] 8 (fun gk l i wr => ∃ j : Nat, gk + j = 8 ∧ i = .int .i64 j ∧ wr.ownsRow W0.heap.size 3 1 l j (pkl k j) ∧ Below W0.heap.size W0 wr)
  case atStart => exact ⟨0, by omega, rfl, World.ownsRow_nil _ _ _ _, Below.refl _ _⟩
  case round =>
    obtain ⟨j, hj, rfl, hrw, jb⟩ := hrel
    have HO := Lib.hid hrw; clear hrw
    by_cases hlt : j < 8
    · have hz := HKD.out j
      have hsn := pkl_succ k j
      generalize k j = z at *
      have HSN := Lib.hid hsn; clear hsn
      by_cases hjl : j < len
      · rw [if_pos hjl] at hz
        rcases HR.out with ⟨_, h0, _⟩ | ⟨x, rfl, hl, hmx, hzl, hcell, hwz⟩
        · omega
        have hcell0 := hcell
        obtain ⟨b, off, rfl, hcc⟩ := ints_at hcell (by omega)
        have hbl := World.block_lt_of_cell? W0 _ (hcc 0 (by omega))
        have hc0 := (jb.cell (p := ⟨b, off + j, none⟩) hbl).trans (hcc j (by omega))
        have hw := bounds_i64 (hwz (zs.getD j 0) (by rw [List.getD_eq_getElem?_getD, List.getElem?_eq_getElem (show j < zs.length by omega)]; exact List.getElem_mem _))
        generalize zs.getD j 0 = y at *
        have hA := fun W => Around_any y 1000000000 W (by omega) hw.1 hw.2
        rw [← hz] at hA
        have HA := Lib.hid hA; clear hA hz hcell hcell0 hcc hwz
        have hj1 : (j : Int) < (len : Int) := by omega
        have hj0 : (0 : Int) ≤ (j : Int) := by omega
        unfold maxLen at hmx
        go_wp2_with (first
          | (go_at_call 25; refine (HA.out _).mono ?_; rintro e w' ⟨rfl, rfl⟩)
          | (at_builtin; refine wpList_append_lies _ rfl _ _ _ rfl W0.heap.size 3 i0 _ 1 8 Try.underlying67 hi0 hz0 hz1 hz2 rfl (by omega) u4 j _ rfl (HO.out.alloc _) ⟨wr.heap.size, 0, none⟩ 1 1 [.int .i64 z] rfl rfl (cell_one_new _ _ _) (by simp [Value.oneCell']) (by omega) (by unfold maxLen; omega) (by omega) (by have := jb.size; simp; omega) (wr.heap.size + 1) (by simp) ?_; intro g2 cp w11 hown hgr hat hlt2; have j11 : Below W0.heap.size W0 w11 := (jb.alloc jb.size _).grown hgr (by have := jb.size; simp; omega) (fun k e => (HO.out.lt k e).1); have HO2 := Lib.hid hown; clear hown hgr hat))
        go_roundg (8 - (j + 1))
        case measure => omega
        case rel => exact ⟨j + 1, by omega, by go_num, by rw [HSN.out]; exact HO2.out, j11⟩
      · rw [if_neg hjl] at hz
        subst hz
        have hj1 : (len : Int) ≤ (j : Int) := by omega
        go_wp2_with (first
          | (at_builtin; refine wpList_append_lies _ rfl _ _ _ rfl W0.heap.size 3 i0 _ 1 8 Try.underlying67 hi0 hz0 hz1 hz2 rfl (by omega) u4 j _ rfl (HO.out.alloc _) ⟨wr.heap.size, 0, none⟩ 1 1 [.int .i64 0] rfl rfl (cell_one_new _ _ _) (by simp [Value.oneCell']) (by omega) (by unfold maxLen; omega) (by omega) (by have := jb.size; simp; omega) (wr.heap.size + 1) (by simp) ?_; intro g2 cp w11 hown hgr hat hlt2; have j11 : Below W0.heap.size W0 w11 := (jb.alloc jb.size _).grown hgr (by have := jb.size; simp; omega) (fun k e => (HO.out.lt k e).1); have HO2 := Lib.hid hown; clear hown hgr hat))
        go_roundg (8 - (j + 1))
        case measure => omega
        case rel => exact ⟨j + 1, by omega, by go_num, by rw [HSN.out]; exact HO2.out, j11⟩
    · obtain rfl : j = 8 := by omega
      obtain ⟨g, cp, rfl, hg, hgl⟩ := HO.out.form (by omega)
      have hc := fun (i : Nat) (hi : i < 8) => (HO.out.cellAt i (by omega)).trans (show (pkl k 8)[i]? = some (.int .i64 (k i)) by unfold pkl; rw [List.getElem?_map, List.getElem?_range hi]; rfl)
      have HCW := Lib.hid (fun W' (hW : Below wr.heap.size wr W') (i : Nat) (hi : i < 8) => (hW.cell (p := ⟨g, i, none⟩) hgl).trans (hc i hi))
      have c0 := hc 0 (by omega)
      have k0 := HBD.out 0
      have k1 := HBD.out 1
      have k2 := HBD.out 2
      have k3 := HBD.out 3
      have k4 := HBD.out 4
      have k5 := HBD.out 5
      have k6 := HBD.out 6
      have k7 := HBD.out 7
      replace X2 := X2.below jb; replace X3 := X3.below jb
      have i0' : Below w.heap.size w wr := (by repeat (first | with_reducible exact Below.refl _ _ | with_reducible refine below_alloc ?_ _ | with_reducible refine Below.drew ?_ | with_reducible refine below_set ?_ (by (first | (simp; done) | (simp; omega))) _ | with_reducible refine below_step (by assumption) ?_))
      have l2 := X2.lt; have l3 := X3.lt
      have h8c : (8 : Int) ≤ (cp : Int) := by
        rcases HO.out.2 with ⟨h, _⟩ | ⟨_, _, _, h, _, _, h8, _⟩
        · cases h
        · cases h; omega
      have gW : W0.heap.size ≤ g := hg
      clear hc HR
      go_wp2_with fail
      refine (Shape_any (k 0) _ (by omega) (by omega)).mono ?_
      rintro e w1 ⟨A, na, ca, rfl, PA, hb1, hnA0⟩
      have hnA : ∀ a, A = some a → wr.heap.size ≤ a.block ∧ a.block < w1.heap.size := fun a e => ⟨hnA0 a e, PA.ltA e⟩
      have HNA := Lib.hid hnA; clear hnA hnA0
      have c1 := HCW.out w1 hb1 1 (by omega)
      replace X2 := X2.below hb1; replace X3 := X3.below hb1
      have j1 : Below wr.heap.size wr w1 := hb1
      have lg1 : g < w1.heap.size := Nat.lt_of_lt_of_le hgl hb1.size
      clear c0
      go_wp2_with fail
      refine calls_at ?_; intro W1 hW; have dW1 : Below w1.heap.size w1 W1 := (by rw [hW]; exact (by repeat (first | with_reducible exact Below.refl _ _ | with_reducible refine below_alloc ?_ _ | with_reducible refine Below.drew ?_ | with_reducible refine below_set ?_ (by (first | (simp; done) | (simp; omega))) _ | with_reducible refine below_step (by assumption) ?_))); replace PA := PA.below dW1; (try clear lPA); have lPA := PA.lt; replace X2 := X2.below dW1; (try clear lX2); have lX2 := X2.lt; replace X3 := X3.below dW1; (try clear lX3); have lX3 := X3.lt
      have XA : B6 W1 w1.heap.size (.int .i64 (shR (k 0))) (.slice A na ca) (.int .i64 0) (.int .i64 0) (.int .i64 0) (.int .i64 0) := by rw [hW]; unfold B6 Cel; simp [go_sem]
      have lXA1 : w1.heap.size < W1.heap.size := XA.lt
      clear hW c1
      refine (Shape_any (k 1) _ (by omega) (by omega)).mono ?_
      rintro e w2 ⟨B, nb, cb, rfl, PB, hb2, hnB0⟩
      have hnB : ∀ a, B = some a → w1.heap.size < a.block ∧ a.block < w2.heap.size := fun a e => ⟨by have := hnB0 a e; omega, PB.ltA e⟩
      have HNB := Lib.hid hnB; clear hnB hnB0
      replace PA := PA.below hb2; replace X2 := X2.below hb2; replace X3 := X3.below hb2; replace XA := XA.below hb2
      have j2 : Below wr.heap.size wr w2 := (by repeat (first | with_reducible exact Below.refl _ _ | with_reducible refine below_alloc ?_ _ | with_reducible refine Below.drew ?_ | with_reducible refine below_set ?_ (by (first | (simp; done) | (simp; omega))) _ | with_reducible refine below_step (by assumption) ?_))
      have lXA := XA.lt
      have hAB : w1.heap.size < w2.heap.size := lXA
      clear lX2 lX3
      have lX2 := X2.lt; have lX3 := X3.lt
      have hSa := (shape_gs (k 0)).sn
      have hSb := (shape_gs (k 1)).sn
      have HX1 := Lib.hid (fun W P => rBounds_zero (shR (k 0)) A na ca (shV (k 0)) W P hSa)
      have HX2 := Lib.hid (fun W P => rBounds_zero (shR (k 1)) B nb cb (shV (k 1)) W P hSb)
      have wb1 := prW_bd (bb_bd hSa).1 (bb_bd hSa).2.2.1 (bb_bd hSb).1 (bb_bd hSb).2.2.1 (bb_ord hSa).1 (bb_ord hSb).1
      have wb2 := prW_bd (bb_bd hSa).2.1 (bb_bd hSa).2.2.2 (bb_bd hSb).2.1 (bb_bd hSb).2.2.2 (bb_ord hSa).2 (bb_ord hSb).2
      have hD := prD_bd hSa hSb (k 2) (k 3)
      obtain ⟨a1, a2, a3, a4⟩ := bb_bd hSa
      obtain ⟨b1, b2, b3, b4⟩ := bb_bd hSb
      have hB1 := fun W => Bound_any (k 2) (prW (bx0 (shR (k 0)) (shV (k 0))) (bx1 (shR (k 0)) (shV (k 0))) (bx0 (shR (k 1)) (shV (k 1))) (bx1 (shR (k 1)) (shV (k 1))) + 5) W (by omega) (by omega) (by omega) (by omega)
      have hB2 := fun W => Bound_any (k 3) (prW (by0 (shR (k 0)) (shV (k 0))) (by1 (shR (k 0)) (shV (k 0))) (by0 (shR (k 1)) (shV (k 1))) (by1 (shR (k 1)) (shV (k 1))) + 5) W (by omega) (by omega) (by omega) (by omega)
      obtain ⟨d, hd⟩ : ∃ d, d = prD (shR (k 0)) (shV (k 0)) (shR (k 1)) (shV (k 1)) (k 2) (k 3) := ⟨_, rfl⟩
      have e1 : bnd (k 2) (prW (bx0 (shR (k 0)) (shV (k 0))) (bx1 (shR (k 0)) (shV (k 0))) (bx0 (shR (k 1)) (shV (k 1))) (bx1 (shR (k 1)) (shV (k 1))) + 5) = d.1 := by rw [hd]; rfl
      have e2 : bnd (k 3) (prW (by0 (shR (k 0)) (shV (k 0))) (by1 (shR (k 0)) (shV (k 0))) (by0 (shR (k 1)) (shV (k 1))) (by1 (shR (k 1)) (shV (k 1))) + 5) = d.2 := by rw [hd]; rfl
      rw [e1] at hB1; rw [e2] at hB2
      rw [← hd] at hD
      have HDD := Lib.hid hd
      clear e1 e2 hd
      obtain ⟨d0, d1⟩ := d
      unfold LB at hD
      unfold prW at hB1 hB2 wb1 wb2
      dsimp only at hD hB1 hB2
      generalize bx0 (shR (k 0)) (shV (k 0)) = x0 at *
      generalize by0 (shR (k 0)) (shV (k 0)) = x1 at *
      generalize bx1 (shR (k 0)) (shV (k 0)) = x2 at *
      generalize by1 (shR (k 0)) (shV (k 0)) = x3 at *
      generalize bx0 (shR (k 1)) (shV (k 1)) = y0 at *
      generalize by0 (shR (k 1)) (shV (k 1)) = y1 at *
      generalize bx1 (shR (k 1)) (shV (k 1)) = y2 at *
      generalize by1 (shR (k 1)) (shV (k 1)) = y3 at *
      have HB1 := Lib.hid hB1; clear hB1
      have HB2 := Lib.hid hB2; clear hB2
      clear hSa hSb
      go_wp2_with fail
      refine calls_at ?_; intro W2 hW; have dW2 : Below w2.heap.size w2 W2 := (by rw [hW]; exact (by repeat (first | with_reducible exact Below.refl _ _ | with_reducible refine below_alloc ?_ _ | with_reducible refine Below.drew ?_ | with_reducible refine below_set ?_ (by (first | (simp; done) | (simp; omega))) _ | with_reducible refine below_step (by assumption) ?_))); replace PA := PA.below dW2; (try clear lPA); have lPA := PA.lt; replace PB := PB.below dW2; (try clear lPB); have lPB := PB.lt; replace X2 := X2.below dW2; (try clear lX2); have lX2 := X2.lt; replace X3 := X3.below dW2; (try clear lX3); have lX3 := X3.lt; replace XA := XA.below dW2; (try clear lXA); have lXA := XA.lt
      have XB : B6 W2 w2.heap.size (.int .i64 (shR (k 1))) (.slice B nb cb) (.int .i64 0) (.int .i64 0) (.int .i64 0) (.int .i64 0) := by rw [hW]; unfold B6 Cel; simp [go_sem]
      have j2' : Below wr.heap.size wr W2 := (by repeat (first | with_reducible exact Below.refl _ _ | with_reducible refine below_alloc ?_ _ | with_reducible refine Below.drew ?_ | with_reducible refine below_set ?_ (by (first | (simp; done) | (simp; omega))) _ | with_reducible refine below_step (by assumption) ?_))
      clear hW
      refine (HX1.out _ PA).mono ?_
      rintro e w3 ⟨rfl, hb3⟩; have d3 : Below W2.heap.size W2 w3 := below_step hb3 (by repeat (first | with_reducible exact Below.refl _ _ | with_reducible refine below_alloc ?_ _ | with_reducible refine Below.drew ?_ | with_reducible refine below_set ?_ (by (first | (simp; done) | (simp; omega))) _ | with_reducible refine below_step (by assumption) ?_)); have z3 := hb3.size; (try simp at z3); replace PA := PA.below d3; (try clear lPA); have lPA := PA.lt; replace PB := PB.below d3; (try clear lPB); have lPB := PB.lt; replace X2 := X2.below d3; (try clear lX2); have lX2 := X2.lt; replace X3 := X3.below d3; (try clear lX3); have lX3 := X3.lt; replace XA := XA.below d3; (try clear lXA); have lXA := XA.lt; replace XB := XB.below d3; (try clear lXB); have lXB := XB.lt
      go_wp2_with fail
      refine calls_at ?_; intro W4 hW; have dW4 : Below w3.heap.size w3 W4 := (by rw [hW]; exact (by repeat (first | with_reducible exact Below.refl _ _ | with_reducible refine below_alloc ?_ _ | with_reducible refine Below.drew ?_ | with_reducible refine below_set ?_ (by (first | (simp; done) | (simp; omega))) _ | with_reducible refine below_step (by assumption) ?_))); replace PA := PA.below dW4; (try clear lPA); have lPA := PA.lt; replace PB := PB.below dW4; (try clear lPB); have lPB := PB.lt; replace X2 := X2.below dW4; (try clear lX2); have lX2 := X2.lt; replace X3 := X3.below dW4; (try clear lX3); have lX3 := X3.lt; replace XA := XA.below dW4; (try clear lXA); have lXA := XA.lt; replace XB := XB.below dW4; (try clear lXB); have lXB := XB.lt
      have XX : B4 W4 (w3.heap.size) (.int .i64 (x0)) (.int .i64 (x1)) (.int .i64 (x2)) (.int .i64 (x3)) := (by rw [hW]; unfold B4 Cel; simp [go_sem]); have lXX := XX.lt
      have j4 : Below wr.heap.size wr W4 := (by repeat (first | with_reducible exact Below.refl _ _ | with_reducible refine below_alloc ?_ _ | with_reducible refine Below.drew ?_ | with_reducible refine below_set ?_ (by (first | (simp; done) | (simp; omega))) _ | with_reducible refine below_step (by assumption) ?_))
      clear hW
      refine (HX2.out _ PB).mono ?_
      rintro e w5 ⟨rfl, hb5⟩; have d5 : Below W4.heap.size W4 w5 := below_step hb5 (by repeat (first | with_reducible exact Below.refl _ _ | with_reducible refine below_alloc ?_ _ | with_reducible refine Below.drew ?_ | with_reducible refine below_set ?_ (by (first | (simp; done) | (simp; omega))) _ | with_reducible refine below_step (by assumption) ?_)); have z5 := hb5.size; (try simp at z5); replace PA := PA.below d5; (try clear lPA); have lPA := PA.lt; replace PB := PB.below d5; (try clear lPB); have lPB := PB.lt; replace X2 := X2.below d5; (try clear lX2); have lX2 := X2.lt; replace X3 := X3.below d5; (try clear lX3); have lX3 := X3.lt; replace XA := XA.below d5; (try clear lXA); have lXA := XA.lt; replace XB := XB.below d5; (try clear lXB); have lXB := XB.lt; replace XX := XX.below d5; (try clear lXX); have lXX := XX.lt
      go_upto_region 15 with fail
      refine code_named ?_; intro W6 hW; have dW6 : Below w5.heap.size w5 W6 := (by rw [hW]; exact (by repeat (first | with_reducible exact Below.refl _ _ | with_reducible refine below_alloc ?_ _ | with_reducible refine Below.drew ?_ | with_reducible refine below_set ?_ (by (first | (simp; done) | (simp; omega))) _ | with_reducible refine below_step (by assumption) ?_))); replace PA := PA.below dW6; (try clear lPA); have lPA := PA.lt; replace PB := PB.below dW6; (try clear lPB); have lPB := PB.lt; replace X2 := X2.below dW6; (try clear lX2); have lX2 := X2.lt; replace X3 := X3.below dW6; (try clear lX3); have lX3 := X3.lt; replace XA := XA.below dW6; (try clear lXA); have lXA := XA.lt; replace XB := XB.below dW6; (try clear lXB); have lXB := XB.lt
      have j6 : Below wr.heap.size wr W6 := (by repeat (first | with_reducible exact Below.refl _ _ | with_reducible refine below_alloc ?_ _ | with_reducible refine Below.drew ?_ | with_reducible refine below_set ?_ (by (first | (simp; done) | (simp; omega))) _ | with_reducible refine below_step (by assumption) ?_))
      clear hW d3 d5 hb1 hb2 hb3 hb5 dW1 dW2 dW4 dW6 z3 z5 HX1 HX2 XX lXX j1 j2 j2' j4
      have c2 := HCW.out W6 j6 2 (by omega)
      have c3 := HCW.out W6 j6 3 (by omega)
      have q1 : IntKind.i64.wrap (x2 - x0 + y2 - y0 + 5) = x2 - x0 + y2 - y0 + 5 := IntWalk.i64_in _ (by omega)
      have q2 : IntKind.i64.wrap (x3 - x1 + y3 - y1 + 5) = x3 - x1 + y3 - y1 + 5 := IntWalk.i64_in _ (by omega)
      have hB6 : w2.heap.size < W6.heap.size := XB.lt
      have lg6 : g < W6.heap.size := Nat.lt_of_lt_of_le hgl j6.size
      go_cut [13] (fun s13 w' => ∃ h : Nat, s13 = .pointer (some ⟨h, 0, none⟩) ∧ W6.heap.size ≤ h ∧ B2 w' h (.int .i64 d0) (.int .i64 d1) ∧ Below W6.heap.size W6 w')
      case first =>
        have KS := Lib.hid (show ∀ w', Below W6.heap.size W6 w' → (w'.cell? ⟨g, 2, none⟩ = some (.int .i64 (k 2)) ∧ w'.cell? ⟨g, 3, none⟩ = some (.int .i64 (k 3)) ∧ Below W6.heap.size W6 w') from fun w' hb => ⟨keep_cell hb c2, keep_cell hb c3, hb⟩)
        go_region_held3 (fun w' => w'.cell? ⟨g, 2, none⟩ = some (.int .i64 (k 2)) ∧ w'.cell? ⟨g, 3, none⟩ = some (.int .i64 (k 3)) ∧ Below W6.heap.size W6 w') (refine KS.out _ (by repeat (first | with_reducible exact Below.refl _ _ | with_reducible refine below_alloc ?_ _ | with_reducible refine Below.drew ?_ | with_reducible refine below_set ?_ (by (first | (simp; done) | (simp; omega))) _ | with_reducible refine below_step (by assumption) ?_)))
          (first | (go_at_call 42; first | ((with_reducible refine (HB1.out _).mono ?_); rintro e w' ⟨rfl, rfl⟩) | ((with_reducible refine (HB2.out _).mono ?_); rintro e w' ⟨rfl, rfl⟩)))
        all_goals (rename _ ∧ _ ∧ Below W6.heap.size W6 _ => hS; go_wp2_with fail; go_meet; exact ⟨_, rfl, (by have := hS.2.2.size; first | exact Nat.le_refl _ | (simp at this ⊢; done) | (simp at this ⊢; omega)), (by unfold B2 Cel; simp (maxDischargeDepth := 6) [go_sem, *]), hS.2.2⟩)
      case rest =>
        rename World => w7
        obtain ⟨h, rfl, lh, XD, d7⟩ := hcut
        replace PA := PA.below d7; replace PB := PB.below d7; replace X2 := X2.below d7; replace X3 := X3.below d7; replace XA := XA.below d7; replace XB := XB.below d7
        have j7 : Below wr.heap.size wr w7 := j6.trans (d7.mono j6.size)
        have c4 := HCW.out w7 j7 4 (by omega)
        have kc4 := cell_regrown c4
        have hB3 := fun W => Bound_any (k 4) 500000 W (by omega) (by omega) (by omega) (by omega)
        have hB4 := fun W => Bound_any (k 4 / 7) 500000 W (by omega) (by omega) (by omega) (by omega)
        have r1 := bnd_bd (k 4) (most := 500000) (by decide)
        have r2 := bnd_bd (k 4 / 7) (most := 500000) (by decide)
        generalize hp0 : bnd (k 4) 500000 = p0 at *
        generalize hp1 : bnd (k 4 / 7) 500000 = p1 at *
        have HP := Lib.hid (And.intro hp0 hp1); clear hp0 hp1
        have HB3 := Lib.hid hB3; clear hB3
        have HB4 := Lib.hid hB4; clear hB4
        have q3 : (k 4).tdiv 7 = k 4 / 7 := Int.tdiv_eq_ediv_of_nonneg (by omega)
        have q4 : IntKind.i64.wrap (k 4 / 7) = k 4 / 7 := IntWalk.i64_in _ (by omega)
        have lg7 : g < w7.heap.size := Nat.lt_of_lt_of_le hgl j7.size
        clear c2 c3 q1 q2 HB1 HB2 d7 lPA lPB lX2 lX3 lXA lXB
        go_wp2_with fail
        refine wp_region_last 11 (by kernel_rfl) (by kernel_rfl) ?_; simp only [List.take_succ_cons, List.take_zero, List.drop_succ_cons, List.drop_zero]
        repeat (go_big_quiet_step ((go_at_call 42; first | (with_reducible exact met_same (HB3.out _)) | (with_reducible exact met_same (HB4.out _)))))
        refine wpQuiet_nil ?_; intro w8 d8
        replace PA := PA.below d8; replace PB := PB.below d8; replace X2 := X2.below d8; replace X3 := X3.below d8; replace XA := XA.below d8; replace XB := XB.below d8; replace XD := XD.below d8
        have j8 : Below wr.heap.size wr w8 := j7.trans (d8.mono j7.size)
        clear kc4 c4 q3 q4 d8
        have lA8 := XA.lt; have lB8 := XB.lt; have lD8 := XD.lt; have l28 := X2.lt; have l38 := X3.lt
        have w18 : wr.heap.size ≤ w8.heap.size := j8.size
        go_wp2_with fail
        refine calls_at ?_; intro W9 hW
        have ZA : B6 W9 w1.heap.size (.int .i64 (shR (k 0))) (.slice A na ca) (.int .i64 p0) (.int .i64 p1) (.int .i64 0) (.int .i64 0) := by rw [hW]; exact XA.set23 _ _
        have ZB : B6 W9 w2.heap.size (.int .i64 (shR (k 1))) (.slice B nb cb) (.int .i64 0) (.int .i64 0) (.int .i64 0) (.int .i64 0) := by rw [hW]; exact (XB.far (by omega) _).far (by omega) _
        have ZD : B2 W9 h (.int .i64 d0) (.int .i64 d1) := by rw [hW]; exact (XD.far (by omega) _).far (by omega) _
        have Z2 := (show B6 W9 w.heap.size _ _ _ _ _ _ by rw [hW]; exact (X2.far (by omega) _).far (by omega) _)
        have Z3 := (show B6 W9 (w.heap.size + 1) _ _ _ _ _ _ by rw [hW]; exact (X3.far (by omega) _).far (by omega) _)
        have QA : Pol W9 A na ca (shV (k 0)) := by rw [hW]; exact Pol.farA (Pol.farA PA (fun a e => by have := HNA.out a e; omega) _) (fun a e => by have := HNA.out a e; omega) _
        have QB : Pol W9 B nb cb (shV (k 1)) := by rw [hW]; exact Pol.farA (Pol.farA PB (fun a e => by have := HNB.out a e; omega) _) (fun a e => by have := HNB.out a e; omega) _
        have hcg : ∀ i, i < 8 → W9.cell? ⟨g, i, none⟩ = some (.int .i64 (k i)) := fun i hi => by
          rw [hW]
          rw [World.cell?_setCell_other _ _ ⟨g, i, none⟩ _ (fun e => by cases e; omega), World.cell?_setCell_other _ _ ⟨g, i, none⟩ _ (fun e => by cases e; omega)]
          exact HCW.out w8 j8 i hi
        have HCG := Lib.hid hcg
        have j9 : Below w.heap.size w W9 := by rw [hW]; exact below_set (below_set (i0'.trans (j8.mono i0'.size)) (by simp; omega) _) (by simp; omega) _
        have w9s : wr.heap.size ≤ W9.heap.size := by rw [hW]; simpa using w18
        have lg9 : g < W9.heap.size := by omega
        clear hW hcg X2 X3 XA XB XD PA PB
        refine (rAdd_any _ _ _ _ _ (by omega) (by omega) (by omega) (by omega)).mono ?_
        rintro e w10 ⟨rfl, hb10⟩
        replace QA := QA.below hb10; replace QB := QB.below hb10; replace Z2 := Z2.below hb10; replace Z3 := Z3.below hb10; replace ZA := ZA.below hb10; replace ZB := ZB.below hb10; replace ZD := ZD.below hb10
        have HCG2 := Lib.hid (fun i hi => (hb10.cell (p := ⟨g, i, none⟩) lg9).trans (HCG.out i hi))
        have j10 : Below w.heap.size w w10 := (by repeat (first | with_reducible exact Below.refl _ _ | with_reducible refine below_alloc ?_ _ | with_reducible refine Below.drew ?_ | with_reducible refine below_set ?_ (by (first | (simp; done) | (simp; omega))) _ | with_reducible refine below_step (by assumption) ?_))
        have lZA := ZA.lt; have lZB := ZB.lt; have lZD := ZD.lt; have lZ2 := Z2.lt; have lZ3 := Z3.lt
        have w10s := hb10.size
        clear HCG hb10
        go_upto_region 18 with fail
        refine code_named ?_; intro W11 hW
        have YA : B6 W11 w1.heap.size (.int .i64 (shR (k 0))) (.slice A na ca) (.int .i64 p0) (.int .i64 p1) (.int .i64 0) (.int .i64 0) := by rw [hW]; exact (ZA.far (by omega) _).far (by omega) _
        have YB : B6 W11 w2.heap.size (.int .i64 (shR (k 1))) (.slice B nb cb) (.int .i64 (p0 + d0)) (.int .i64 (p1 + d1)) (.int .i64 0) (.int .i64 0) := by rw [hW]; exact ZB.set23 _ _
        have YD : B2 W11 h (.int .i64 d0) (.int .i64 d1) := by rw [hW]; exact (ZD.far (by omega) _).far (by omega) _
        have Y2 := (show B6 W11 w.heap.size _ _ _ _ _ _ by rw [hW]; exact (Z2.far (by omega) _).far (by omega) _)
        have Y3 := (show B6 W11 (w.heap.size + 1) _ _ _ _ _ _ by rw [hW]; exact (Z3.far (by omega) _).far (by omega) _)
        have PA : Pol W11 A na ca (shV (k 0)) := by rw [hW]; exact Pol.farA (Pol.farA QA (fun a e => by have := HNA.out a e; omega) _) (fun a e => by have := HNA.out a e; omega) _
        have PB : Pol W11 B nb cb (shV (k 1)) := by rw [hW]; exact Pol.farA (Pol.farA QB (fun a e => by have := HNB.out a e; omega) _) (fun a e => by have := HNB.out a e; omega) _
        have hcg : ∀ i, i < 8 → W11.cell? ⟨g, i, none⟩ = some (.int .i64 (k i)) := fun i hi => by
          rw [hW]
          rw [World.cell?_setCell_other _ _ ⟨g, i, none⟩ _ (fun e => by cases e; omega), World.cell?_setCell_other _ _ ⟨g, i, none⟩ _ (fun e => by cases e; omega)]
          exact HCG2.out i hi
        have j11 : Below w.heap.size w W11 := by rw [hW]; exact below_set (below_set j10 (by simp; omega) _) (by simp; omega) _
        have w11s : W9.heap.size ≤ W11.heap.size := by rw [hW]; simp; omega
        clear hW Z2 Z3 ZA ZB ZD QA QB HCG2 j10 j9
        have c5 := hcg 5 (by omega)
        have kc5 := cell_regrown c5
        have HCG := Lib.hid hcg; clear hcg
        have t1 : 0 ≤ k 5 % 5 ∧ k 5 % 5 ≤ 4 := by omega
        have t2 : 0 ≤ k 5 / 5 % 5 ∧ k 5 / 5 % 5 ≤ 4 := by omega
        have m1 := mul_bd (a := d0) (b := k 5 % 5) (A := 131077) (B := 4) (by omega) (by omega)
        have m2 := mul_bd (a := d1) (b := k 5 / 5 % 5) (A := 131077) (B := 4) (by omega) (by omega)
        have n1 := Int.mul_tdiv_add_tmod (d0 * (k 5 % 5)) 2
        have n2 := Int.mul_tdiv_add_tmod (d1 * (k 5 / 5 % 5)) 2
        have n3 := tmod_bd (d0 * (k 5 % 5)) (c := 2) (by decide)
        have n4 := tmod_bd (d1 * (k 5 / 5 % 5)) (c := 2) (by decide)
        have q1 : (k 5).tmod 5 = k 5 % 5 := Int.tmod_eq_emod_of_nonneg (by omega)
        have q2 : (k 5).tdiv 5 = k 5 / 5 := Int.tdiv_eq_ediv_of_nonneg (by omega)
        have q3 : (k 5 / 5).tmod 5 = k 5 / 5 % 5 := Int.tmod_eq_emod_of_nonneg (by omega)
        have q4 : IntKind.i64.wrap (k 5 % 5) = k 5 % 5 := IntWalk.i64_in _ (by omega)
        have q5 : IntKind.i64.wrap (k 5 / 5) = k 5 / 5 := IntWalk.i64_in _ (by omega)
        have q6 : IntKind.i64.wrap (k 5 / 5 % 5) = k 5 / 5 % 5 := IntWalk.i64_in _ (by omega)
        have q7 : IntKind.i64.wrap (d0 * (k 5 % 5)) = d0 * (k 5 % 5) := IntWalk.i64_in _ (by omega)
        have q8 : IntKind.i64.wrap (d1 * (k 5 / 5 % 5)) = d1 * (k 5 / 5 % 5) := IntWalk.i64_in _ (by omega)
        have q9 : IntKind.i64.wrap ((d0 * (k 5 % 5)).tdiv 2) = (d0 * (k 5 % 5)).tdiv 2 := IntWalk.i64_in _ (by omega)
        have q10 : IntKind.i64.wrap ((d1 * (k 5 / 5 % 5)).tdiv 2) = (d1 * (k 5 / 5 % 5)).tdiv 2 := IntWalk.i64_in _ (by omega)
        clear n1 n2 n3 n4
        have KYD := YD.re; refine wp_region_last 21 (by kernel_rfl) (by kernel_rfl) ?_; simp only [List.take_succ_cons, List.take_zero, List.drop_succ_cons, List.drop_zero]
        repeat (go_big_quiet_step ((go_at_call 82; exact met_same (rClamp_any _ _ _ _ (by omega)))))
        refine wpQuiet_nil ?_; intro w12 d12; clear KYD; replace YD := YD.below d12; (try clear lYD); have lYD := YD.lt
        replace PA := PA.below d12; replace PB := PB.below d12; replace Y2 := Y2.below d12; replace Y3 := Y3.below d12; replace YA := YA.below d12; replace YB := YB.below d12
        have HCH := Lib.hid (fun i hi => (d12.cell (p := ⟨g, i, none⟩) (show g < W11.heap.size by omega)).trans (HCG.out i hi))
        have j12 : Below w.heap.size w w12 := j11.trans (d12.mono j11.size)
        have w12s : W9.heap.size ≤ w12.heap.size := Nat.le_trans w11s d12.size
        clear kc5 c5 q1 q2 q3 q4 q5 q6 q7 q8 q9 q10 d12 m1 m2 HCG j11 YD lYD
        have lA12 := YA.lt; have lB12 := YB.lt; have l212 := Y2.lt; have l312 := Y3.lt
        have c6 := HCH.out 6 (by omega)
        have hu0 : clp ((d0 * (k 5 % 5)).tdiv 2) (-16384) 16384 = (prU (d0, d1) (k 5)).1 := rfl
        have hu1 : clp ((d1 * (k 5 / 5 % 5)).tdiv 2) (-16384) 16384 = (prU (d0, d1) (k 5)).2 := rfl
        rw [hu0, hu1]
        generalize hU : prU (d0, d1) (k 5) = U at *
        have HU := Lib.hid hU; clear hU hu0 hu1
        obtain ⟨U0, U1⟩ := U
        dsimp only
        have hV := prV_bd (k 6) (k 7)
        have hVd : prV (k 6) (k 7) = if 0 < k 6 % 3 then (bnd (k 6 / 3) 16384, bnd (k 7) 16384) else (0, 0) := rfl
        generalize prV (k 6) (k 7) = V at *
        obtain ⟨V0, V1⟩ := V
        have HVD := Lib.hid hVd; clear hVd
        clear hV
        go_upto_if 125 with fail
        go_cut [] (fun w' => B6 w' w1.heap.size (.int .i64 (shR (k 0))) (.slice A na ca) (.int .i64 p0) (.int .i64 p1) (.int .i64 U0) (.int .i64 U1) ∧ B6 w' w2.heap.size (.int .i64 (shR (k 1))) (.slice B nb cb) (.int .i64 (p0 + d0)) (.int .i64 (p1 + d1)) (.int .i64 V0) (.int .i64 V1) ∧
          B6 w' w.heap.size (.int .i64 0) (.slice none 0 0) (.int .i64 0) (.int .i64 0) (.int .i64 0) (.int .i64 0) ∧ B6 w' (w.heap.size + 1) (.int .i64 0) (.slice none 0 0) (.int .i64 0) (.int .i64 0) (.int .i64 0) (.int .i64 0) ∧
          Pol w' A na ca (shV (k 0)) ∧ Pol w' B nb cb (shV (k 1)) ∧ Below w.heap.size w w')
        case first =>
          refine code_named ?_; intro W13 hW
          have ZA : B6 W13 w1.heap.size (.int .i64 (shR (k 0))) (.slice A na ca) (.int .i64 p0) (.int .i64 p1) (.int .i64 U0) (.int .i64 U1) := by rw [hW]; exact YA.set45 _ _
          have ZB := (show B6 W13 w2.heap.size _ _ _ _ _ _ by rw [hW]; exact (YB.far (by omega) _).far (by omega) _)
          have Z2 := (show B6 W13 w.heap.size _ _ _ _ _ _ by rw [hW]; exact (Y2.far (by omega) _).far (by omega) _)
          have Z3 := (show B6 W13 (w.heap.size + 1) _ _ _ _ _ _ by rw [hW]; exact (Y3.far (by omega) _).far (by omega) _)
          have QA : Pol W13 A na ca (shV (k 0)) := by rw [hW]; exact Pol.farA (Pol.farA PA (fun a e => by have := HNA.out a e; omega) _) (fun a e => by have := HNA.out a e; omega) _
          have QB : Pol W13 B nb cb (shV (k 1)) := by rw [hW]; exact Pol.farA (Pol.farA PB (fun a e => by have := HNB.out a e; omega) _) (fun a e => by have := HNB.out a e; omega) _
          have hcg : ∀ i, i < 8 → W13.cell? ⟨g, i, none⟩ = some (.int .i64 (k i)) := fun i hi => by
            rw [hW]
            rw [World.cell?_setCell_other _ _ ⟨g, i, none⟩ _ (fun e => by cases e; omega), World.cell?_setCell_other _ _ ⟨g, i, none⟩ _ (fun e => by cases e; omega)]
            exact HCH.out i hi
          have j13 : Below w.heap.size w W13 := by rw [hW]; exact below_set (below_set j12 (by simp; omega) _) (by simp; omega) _
          have w13s : W9.heap.size ≤ W13.heap.size := by rw [hW]; simp; omega
          clear hW Y2 Y3 YA YB PA PB HCH j12 c6
          have c6 := hcg 6 (by omega)
          have c7 := hcg 7 (by omega)
          have lg13 : g < W13.heap.size := by omega
          clear hcg
          have kc6 := cell_regrown c6
          have kc7 := cell_regrown c7
          by_cases hp : 0 < k 6 % 3
          · have hVV := HVD.out
            rw [if_pos hp] at hVV
            obtain ⟨hv0, hv1⟩ := Prod.mk.inj hVV
            have hB5 := fun W => Bound_any (k 6 / 3) 16384 W (by omega) (by omega) (by omega) (by omega)
            have hB6 := fun W => Bound_any (k 7) 16384 W (by omega) (by omega) (by omega) (by omega)
            rw [← hv0] at hB5; rw [← hv1] at hB6
            have HB5 := Lib.hid hB5; clear hB5
            have HB6 := Lib.hid hB6; clear hB6
            clear hVV hv0 hv1
            have q2 : (k 6).tdiv 3 = k 6 / 3 := Int.tdiv_eq_ediv_of_nonneg (by omega)
            have q5 : IntKind.i64.wrap (k 6 / 3) = k 6 / 3 := IntWalk.i64_in _ (by omega)
            go_wp2_with fail
            refine wp_region_last 11 (by kernel_rfl) (by kernel_rfl) ?_; simp only [List.take_succ_cons, List.take_zero, List.drop_succ_cons, List.drop_zero]
            repeat (go_big_quiet_step ((go_at_call 42; first | (with_reducible exact met_same (HB5.out _)) | (with_reducible exact met_same (HB6.out _)))))
            refine wpQuiet_nil ?_; intro w15 d15
            clear kc6 kc7 q2 q5
            replace ZA := ZA.below d15; replace ZB := ZB.below d15; replace Z2 := Z2.below d15; replace Z3 := Z3.below d15; replace QA := QA.below d15; replace QB := QB.below d15
            have j15 : Below w.heap.size w w15 := j13.trans (d15.mono j13.size)
            have lB15 := ZB.lt
            clear c6 c7
            go_wp2_with fail
            go_meet
            exact ⟨(ZA.far (by omega) _).far (by omega) _, ZB.set45 _ _, (Z2.far (by omega) _).far (by omega) _, (Z3.far (by omega) _).far (by omega) _, Pol.farA (Pol.farA QA (fun a e => by have := HNA.out a e; omega) _) (fun a e => by have := HNA.out a e; omega) _, Pol.farA (Pol.farA QB (fun a e => by have := HNB.out a e; omega) _) (fun a e => by have := HNB.out a e; omega) _, below_set (below_set j15 (by simp; omega) _) (by simp; omega) _⟩
          · have hVV := HVD.out
            rw [if_neg hp] at hVV
            obtain ⟨rfl, rfl⟩ := Prod.mk.inj hVV
            clear kc6 kc7 hVV
            go_wp2_with fail
            go_meet
            exact ⟨ZA, ZB, Z2, Z3, QA, QB, j13⟩
        case rest =>
          rename World => w14
          obtain ⟨ZA, ZB, Z2, Z3, QA, QB, j14⟩ := hcut
          clear YA YB Y2 Y3 PA PB j12 c6 HCH
          have lZA := ZA.lt; have lZB := ZB.lt; have lZ2 := Z2.lt; have lZ3 := Z3.lt
          have ne1 : w1.heap.size ≠ w.heap.size := by omega
          have ne2 : w1.heap.size ≠ w.heap.size + 1 := by omega
          have ne3 : w2.heap.size ≠ w.heap.size := by omega
          have ne4 : w2.heap.size ≠ w.heap.size + 1 := by omega
          have ne1' := Ne.symm ne1; have ne2' := Ne.symm ne2; have ne3' := Ne.symm ne3; have ne4' := Ne.symm ne4
          have hv : prV (k 6) (k 7) = (V0, V1) := HVD.out.symm
          have hu : prU (d0, d1) (k 5) = (U0, U1) := HU.out
          have hpp : prP (k 4) = (p0, p1) := by unfold prP; rw [HP.out.1, HP.out.2]
          have HF := Lib.hid (And.intro hv (And.intro hu hpp))
          clear hv hu hpp
          go_wp2_with fail
          go_region
          all_goals go_wp2_with fail
          obtain ⟨hv, hu, hpp⟩ := HF.out
          have Z2' := ((Z2.fill (.int .i64 (shR (k 0))) (.slice A na ca) (.int .i64 p0) (.int .i64 p1) (.int .i64 U0) (.int .i64 U1)).far6 (by omega : w.heap.size + 1 ≠ w.heap.size) (.int .i64 (shR (k 1))) (.slice B nb cb) (.int .i64 (p0 + d0)) (.int .i64 (p1 + d1)) (.int .i64 V0) (.int .i64 V1))
          have Z3' := ((Z3.far6 (by omega : w.heap.size ≠ w.heap.size + 1) (.int .i64 (shR (k 0))) (.slice A na ca) (.int .i64 p0) (.int .i64 p1) (.int .i64 U0) (.int .i64 U1)).fill (.int .i64 (shR (k 1))) (.slice B nb cb) (.int .i64 (p0 + d0)) (.int .i64 (p1 + d1)) (.int .i64 V0) (.int .i64 V1))
          have QA' := ((QA.far6 (b := w.heap.size) (fun a e => by have := HNA.out a e; omega) (.int .i64 (shR (k 0))) (.slice A na ca) (.int .i64 p0) (.int .i64 p1) (.int .i64 U0) (.int .i64 U1)).far6 (b := w.heap.size + 1) (fun a e => by have := HNA.out a e; omega) (.int .i64 (shR (k 1))) (.slice B nb cb) (.int .i64 (p0 + d0)) (.int .i64 (p1 + d1)) (.int .i64 V0) (.int .i64 V1))
          have QB' := ((QB.far6 (b := w.heap.size) (fun a e => by have := HNB.out a e; omega) (.int .i64 (shR (k 0))) (.slice A na ca) (.int .i64 p0) (.int .i64 p1) (.int .i64 U0) (.int .i64 U1)).far6 (b := w.heap.size + 1) (fun a e => by have := HNB.out a e; omega) (.int .i64 (shR (k 1))) (.slice B nb cb) (.int .i64 (p0 + d0)) (.int .i64 (p1 + d1)) (.int .i64 V0) (.int .i64 V1))
          have j14' := below_set6 (below_set6 j14 (by omega : w.heap.size ≤ w.heap.size) (.int .i64 (shR (k 0))) (.slice A na ca) (.int .i64 p0) (.int .i64 p1) (.int .i64 U0) (.int .i64 U1)) (by omega : w.heap.size ≤ w.heap.size + 1) (.int .i64 (shR (k 1))) (.slice B nb cb) (.int .i64 (p0 + d0)) (.int .i64 (p1 + d1)) (.int .i64 V0) (.int .i64 V1)
          refine bodyPost_named (fun W' => B6 W' w.heap.size (.int .i64 (shR (k 0))) (.slice A na ca) (.int .i64 p0) (.int .i64 p1) (.int .i64 U0) (.int .i64 U1) ∧ B6 W' (w.heap.size + 1) (.int .i64 (shR (k 1))) (.slice B nb cb) (.int .i64 (p0 + d0)) (.int .i64 (p1 + d1)) (.int .i64 V0) (.int .i64 V1) ∧ Pol W' A na ca (shV (k 0)) ∧ Pol W' B nb cb (shV (k 1)) ∧ Below w.heap.size w W') ⟨Z2'.below (Below.drew (Below.refl _ _)), Z3'.below (Below.drew (Below.refl _ _)), QA'.below (Below.drew (Below.refl _ _)), QB'.below (Below.drew (Below.refl _ _)), Below.drew j14'⟩ ?_
          clear Z2' Z3' QA' QB' j14' Z2 Z3 ZA ZB QA QB j14
          rintro WF ⟨⟨a20, a21, a22, a23, a24, a25⟩, ⟨a30, a31, a32, a33, a34, a35⟩, QA, QB, j14⟩
          exact bodyPost_ret (v := .tuple #[.agg #[.int .i64 (shR (k 0)), .slice A na ca, .int .i64 p0, .int .i64 p1, .int .i64 U0, .int .i64 U1], .agg #[.int .i64 (shR (k 1)), .slice B nb cb, .int .i64 (p0 + d0), .int .i64 (p1 + d1), .int .i64 V0, .int .i64 V1]])
            (by simp [results, Try.results55, go_sem, a20.1, a21.1, a22.1, a23.1, a24.1, a25.1, a30.1, a31.1, a32.1, a33.1, a34.1, a35.1]) rfl
            ⟨A, na, ca, B, nb, cb, (d0, d1), HDD.out, by rw [hu, hv, hpp], QA, QB, (fun a e => by have := HNA.out a e; omega), (fun a e => by have := HNB.out a e; omega), j14⟩
end Go.Proofs.Ytipcppbbpmdijaa
