/-
  ShapeBounds: a covered point lies in the bounds, and each side of the bounds is touched. Conditions: none.
-/
import Derived.Test.YtipcppbbpmdijaaRows
import Derived.Test.YtipcppbbpmdijaaHead
import Derived.Test.YtipcppbbpmdijaaOpen
import Derived.Test.YtipcppbbpmdijaaNear
import Derived.ChangeKeysEq
namespace Go.Proofs.Ytipcppbbpmdijaa.shapeBounds
open Go.ChangeShapes Go.WideShapes Go.ChangeAt Go.RowKit Go.Sort
attribute [local go_sem ↓] Go.wp_at_zero Go.wp_at_succ

theorem eq4 (w : World) : (Op.equalIn 10000 40 (.agg #[.bool true, .bool true, .bool true, .bool true]) (.agg #[.bool true, .bool true, .bool true, .bool true])).run Try.prog w = .ok true w := by
  obtain ⟨i, hi⟩ : ∃ i, (Try.prog).info? 4 = some i := Option.isSome_iff_exists.1 (by kernel_rfl)
  have hc : (Try.prog).cellsOf 4 = 1 := by kernel_rfl
  rw [run_equalIn_array w 9999 _ _ Try.underlying40 hi, hc]
  simp [List.range_succ_eq_map, Op.eqItems, go_sem]

set_option maxRecDepth 100000 in
set_option maxHeartbeats 4000000 in
theorem walk (n : Int) (ln : -9223372036854775808 ≤ n) (un : n ≤ 9223372036854775807) (x : Int) (lx : -9223372036854775808 ≤ x) (ux : x ≤ 9223372036854775807) (y : Int) (ly : -9223372036854775808 ≤ y) (uy : y ≤ 9223372036854775807) (px : Int) (lpx : -9223372036854775808 ≤ px) (upx : px ≤ 9223372036854775807) (py : Int) (lpy : -9223372036854775808 ≤ py) (upy : py ≤ 9223372036854775807) (w : World) :
    Calls Try.prog 4 #[.int .i64 n, .int .i64 x, .int .i64 y, .int .i64 px, .int .i64 py] w fun e w' => e = .returned (.bool true) ∧ Below w.heap.size w w' := by
  have hG := shape_gs n
  have hS := hG.sn
  have hV := hG.valid
  have hSh := Shape_any n w ln un
  have tx := tdiv8 lx ux
  have ty := tdiv8 ly uy
  generalize shR n = R at *
  generalize shV n = vs at *
  have n1 := (nr_bd hS px py).1
  have n2 := (nr_bd hS px py).2
  have HN := Lib.hid (fun A c m W P => near_any R px py A c m vs W P hS lpx upx lpy upy)
  have HO1 := Lib.hid (fun W => Of_any (x.tdiv 8) (y.tdiv 8) W tx.1 tx.2 ty.1 ty.2)
  have o1 := ofX_bd (x.tdiv 8)
  have o2 := ofY_bd (x.tdiv 8) (y.tdiv 8)
  generalize ofX (x.tdiv 8) = p0 at *
  generalize ofY (x.tdiv 8) (y.tdiv 8) = p1 at *
  generalize nrX R vs px = n0 at *
  generalize nrY R vs py = m0 at *
  have hbb := bb_bd hS
  have hin := fun (h : cov R vs (p0 + n0 - p0, p1 + m0 - p1) = true) => cov_box hV h
  have hC1 := fun A m c W P => Contains_any R p0 p1 (p0 + n0) (p1 + m0) A m c vs W P hS (by omega) (by omega) (by omega) (by omega)
  have hX1 := fun A m c W P => Bounds_any R p0 p1 A m c vs W P hS (by omega) (by omega)
  have hci : vs = [] → (∀ W, Calls Try.prog 33 #[.agg #[.int .i64 R, .slice none 0 0], .agg #[.int .i64 p0, .int .i64 p1], .agg #[.int .i64 (bx0 R vs + p0), .int .i64 p1]] W fun e w' => e = .returned (.bool true) ∧ Below W.heap.size W w') ∧
      (∀ W, Calls Try.prog 33 #[.agg #[.int .i64 R, .slice none 0 0], .agg #[.int .i64 p0, .int .i64 p1], .agg #[.int .i64 (bx1 R vs + p0), .int .i64 p1]] W fun e w' => e = .returned (.bool true) ∧ Below W.heap.size W w') ∧
      (∀ W, Calls Try.prog 33 #[.agg #[.int .i64 R, .slice none 0 0], .agg #[.int .i64 p0, .int .i64 p1], .agg #[.int .i64 p0, .int .i64 (by0 R vs + p1)]] W fun e w' => e = .returned (.bool true) ∧ Below W.heap.size W w') ∧
      (∀ W, Calls Try.prog 33 #[.agg #[.int .i64 R, .slice none 0 0], .agg #[.int .i64 p0, .int .i64 p1], .agg #[.int .i64 p0, .int .i64 (by1 R vs + p1)]] W fun e w' => e = .returned (.bool true) ∧ Below W.heap.size W w') := by
    intro h
    subst h
    obtain ⟨t1, t2, t3, t4⟩ := circle_sides R p0 p1
    refine ⟨fun W => ?_, fun W => ?_, fun W => ?_, fun W => ?_⟩
    · have := Contains_any R p0 p1 (bx0 R [] + p0) p1 none 0 0 [] W (Pol.empty _) hS (by omega) (by omega) (by omega) (by omega)
      rwa [t1] at this
    · have := Contains_any R p0 p1 (bx1 R [] + p0) p1 none 0 0 [] W (Pol.empty _) hS (by omega) (by omega) (by omega) (by omega)
      rwa [t2] at this
    · have := Contains_any R p0 p1 p0 (by0 R [] + p1) none 0 0 [] W (Pol.empty _) hS (by omega) (by omega) (by omega) (by omega)
      rwa [t3] at this
    · have := Contains_any R p0 p1 p0 (by1 R [] + p1) none 0 0 [] W (Pol.empty _) hS (by omega) (by omega) (by omega) (by omega)
      rwa [t4] at this
  have htt := fun (h : vs ≠ []) => box_touch (R := R) h
  generalize cov R vs (p0 + n0 - p0, p1 + m0 - p1) = cv at *
  generalize bx0 R vs = x0 at *
  generalize by0 R vs = y0 at *
  generalize bx1 R vs = x1 at *
  generalize by1 R vs = y1 at *
  obtain ⟨hbb1, hbb2, hbb3, hbb4⟩ := hbb
  have HC1 := Lib.hid hC1; clear hC1
  have HX1 := Lib.hid hX1; clear hX1
  have HIN := Lib.hid hin; clear hin
  have HCI := Lib.hid hci; clear hci
  have HTT := Lib.hid htt; clear htt
  have HSH := Lib.hid hSh; clear hSh
  have HS := Lib.hid hS; clear hS
  have HV := Lib.hid hV; clear hV
  have HG := Lib.hid hG; clear hG
  go_enter Try.func4, Try.ntmps4
  go_wp2_with fail
  refine HSH.out.mono ?_
  rintro e w1 ⟨A, m, c, rfl, P, hb1, -⟩
  go_wp2_with fail
  refine calls_at ?_; intro W1 hW; have dW1 : Below w1.heap.size w1 W1 := (by rw [hW]; exact (by repeat (first | with_reducible exact Below.refl _ _ | with_reducible refine below_alloc ?_ _ | with_reducible refine Below.drew ?_ | with_reducible refine below_set ?_ (by (first | (simp; done) | (simp; omega))) _ | with_reducible refine below_step (by assumption) ?_))); replace P := P.below dW1; (try clear lP); have lP := P.lt
  have XS : B2 W1 w1.heap.size (.int .i64 R) (.slice A m c) := (by rw [hW]; unfold B2 Cel; simp [go_sem])
  have i1 : Below w.heap.size w W1 := (by repeat (first | with_reducible exact Below.refl _ _ | with_reducible refine below_alloc ?_ _ | with_reducible refine Below.drew ?_ | with_reducible refine below_set ?_ (by (first | (simp; done) | (simp; omega))) _ | with_reducible refine below_step (by assumption) ?_))
  clear hW
  refine (HO1.out _).mono ?_
  rintro e w2 ⟨rfl, hb2⟩; have d2 : Below W1.heap.size W1 w2 := below_step hb2 (by repeat (first | with_reducible exact Below.refl _ _ | with_reducible refine below_alloc ?_ _ | with_reducible refine Below.drew ?_ | with_reducible refine below_set ?_ (by (first | (simp; done) | (simp; omega))) _ | with_reducible refine below_step (by assumption) ?_)); have z2 := hb2.size; (try simp at z2); replace P := P.below d2; (try clear lP); have lP := P.lt; replace XS := XS.below d2; (try clear lXS); have lXS := XS.lt
  go_wp2_with fail
  refine code_named ?_; intro W3 hW; have dW3 : Below w2.heap.size w2 W3 := (by rw [hW]; exact (by repeat (first | with_reducible exact Below.refl _ _ | with_reducible refine below_alloc ?_ _ | with_reducible refine Below.drew ?_ | with_reducible refine below_set ?_ (by (first | (simp; done) | (simp; omega))) _ | with_reducible refine below_step (by assumption) ?_))); replace P := P.below dW3; (try clear lP); have lP := P.lt; replace XS := XS.below dW3; (try clear lXS); have lXS := XS.lt
  have XP : B2 W3 (w2.heap.size) (.int .i64 (p0)) (.int .i64 (p1)) := (by rw [hW]; unfold B2 Cel; simp [go_sem]); have lXP := XP.lt
  have i3 : Below w.heap.size w W3 := (by repeat (first | with_reducible exact Below.refl _ _ | with_reducible refine below_alloc ?_ _ | with_reducible refine Below.drew ?_ | with_reducible refine below_set ?_ (by (first | (simp; done) | (simp; omega))) _ | with_reducible refine below_step (by assumption) ?_))
  clear hW
  clear hb1 hb2 d2 dW1 dW3 i1 z2
  go_cut [13] (fun s18 w' => ∃ g : Nat, s18 = .pointer (some ⟨g, 0, none⟩) ∧ B2 w' g (.int .i64 (p0 + n0)) (.int .i64 (p1 + m0)) ∧ Below W3.heap.size W3 w')
  case first =>
    have HNW := Lib.hid (fun W hW => HN.out A m c W (Pol.below P hW))
    have KS := Lib.hid (show ∀ w', Below W3.heap.size W3 w' → (B2 w' w1.heap.size (.int .i64 R) (.slice A m c) ∧ B2 w' w2.heap.size (.int .i64 p0) (.int .i64 p1) ∧ Below W3.heap.size W3 w') from fun w' hb => ⟨XS.below hb, XP.below hb, hb⟩)
    go_region_held3 (fun w' => B2 w' w1.heap.size (.int .i64 R) (.slice A m c) ∧ B2 w' w2.heap.size (.int .i64 p0) (.int .i64 p1) ∧ Below W3.heap.size W3 w') (refine KS.out _ (by repeat (first | with_reducible exact Below.refl _ _ | with_reducible refine below_alloc ?_ _ | with_reducible refine Below.drew ?_ | with_reducible refine below_set ?_ (by (first | (simp; done) | (simp; omega))) _ | with_reducible refine below_step (by assumption) ?_)))
      (first
        | (go_at_call 31; refine (HNW.out _ (‹_ ∧ _ ∧ Below W3.heap.size W3 _›).2.2).mono ?_; rintro e w9 ⟨rfl, hb9⟩; obtain ⟨hc9, hf9, hx9, hy9, hn9, hz9⟩ := bcellA hb9; (try simp at hz9); (try have ltw9_0 : W3.heap.size < w9.heap.size := by omega); (try have lew9_0 : W3.heap.size ≤ w9.heap.size := by omega))
        | (go_at_call 30; refine (Add_any _ _ _ _ _ (by omega) (by omega) (by omega) (by omega)).mono ?_; rintro e w8 ⟨rfl, hb8⟩; obtain ⟨hc8, hf8, hx8, hy8, hn8, hz8⟩ := bcellA hb8; (try simp at hz8); (try have ltw8_0 : W3.heap.size < w8.heap.size := by omega); (try have lew8_0 : W3.heap.size ≤ w8.heap.size := by omega); (try have ltw8_1 : w9.heap.size < w8.heap.size := by omega); (try have lew8_1 : w9.heap.size ≤ w8.heap.size := by omega)))
    all_goals (rename _ ∧ _ ∧ Below W3.heap.size W3 _ => hS; go_wp2_with fail; go_meet; exact ⟨_, rfl, (by unfold B2 Cel; simp (maxDischargeDepth := 6) [go_sem, World.cell?_setCell_same', *]), hS.2.2⟩)
  case rest =>
    rename World => w4
    obtain ⟨g, rfl, XV, d4⟩ := hcut
    replace P := P.below d4
    replace XS := XS.below d4
    replace XP := XP.below d4
    have i4 := i3.trans (d4.mono i3.size)
    clear d4 lP lXS lXP
    clear HN HO1
    go_wp2_with fail
    refine (HX1.out _ _ _ _ P).mono ?_
    rintro e w5 ⟨rfl, hb5⟩; have d5 : Below w4.heap.size w4 w5 := below_step hb5 (by repeat (first | with_reducible exact Below.refl _ _ | with_reducible refine below_alloc ?_ _ | with_reducible refine Below.drew ?_ | with_reducible refine below_set ?_ (by (first | (simp; done) | (simp; omega))) _ | with_reducible refine below_step (by assumption) ?_)); have z5 := hb5.size; (try simp at z5); replace P := P.below d5; (try clear lP); have lP := P.lt; replace XS := XS.below d5; (try clear lXS); have lXS := XS.lt; replace XP := XP.below d5; (try clear lXP); have lXP := XP.lt; replace XV := XV.below d5; (try clear lXV); have lXV := XV.lt
    have i5 : Below w.heap.size w w5 := (by repeat (first | with_reducible exact Below.refl _ _ | with_reducible refine below_alloc ?_ _ | with_reducible refine Below.drew ?_ | with_reducible refine below_set ?_ (by (first | (simp; done) | (simp; omega))) _ | with_reducible refine below_step (by assumption) ?_))
    go_upto_region 5 with fail
    go_cut [15] (fun s15 w' => ∃ b : Bool, s15 = .bool b ∧ (cv = true → b = true) ∧ B4 w' w5.heap.size (.int .i64 (x0 + p0)) (.int .i64 (y0 + p1)) (.int .i64 (x1 + p0)) (.int .i64 (y1 + p1)) ∧ Below w5.heap.size w5 w')
    case first =>
      by_cases hc : cv = true
      · have hin := HIN.out hc
        have k1 : x0 + p0 ≤ p0 + n0 := by omega
        have k2 : p0 + n0 ≤ x1 + p0 := by omega
        have k3 : y0 + p1 ≤ p1 + m0 := by omega
        have k4 : p1 + m0 ≤ y1 + p1 := by omega
        clear hin
        go_wp2_with fail
        go_meet
        exact ⟨_, rfl, fun _ => rfl, by unfold B4 Cel; simp [go_sem], (by repeat (first | with_reducible exact Below.refl _ _ | with_reducible refine below_alloc ?_ _ | with_reducible refine Below.drew ?_ | with_reducible refine below_set ?_ (by (first | (simp; done) | (simp; omega))) _ | with_reducible refine below_step (by assumption) ?_))⟩
      · go_wp2_with fail
        all_goals (go_meet; exact ⟨_, rfl, fun h => absurd h hc, by unfold B4 Cel; simp [go_sem], (by repeat (first | with_reducible exact Below.refl _ _ | with_reducible refine below_alloc ?_ _ | with_reducible refine Below.drew ?_ | with_reducible refine below_set ?_ (by (first | (simp; done) | (simp; omega))) _ | with_reducible refine below_step (by assumption) ?_))⟩)
    case rest =>
      rename World => w6
      obtain ⟨b, rfl, hcb, XB, hb6⟩ := hcut
      replace P := P.below hb6; replace XS := XS.below hb6; replace XP := XP.below hb6; replace XV := XV.below hb6
      have lXB := XB.lt
      have i6 : Below w.heap.size w w6 := (by repeat (first | with_reducible exact Below.refl _ _ | with_reducible refine below_alloc ?_ _ | with_reducible refine Below.drew ?_ | with_reducible refine below_set ?_ (by (first | (simp; done) | (simp; omega))) _ | with_reducible refine below_step (by assumption) ?_))
      clear hb5 hb6 d5 z5 i5 i4
      have HCB := Lib.hid hcb; clear hcb
      go_upto_region 6 with fail
      go_cut [68] (fun s68 w' => s68 = .bool false ∧ Below w6.heap.size w6 w')
      case first =>
        go_wp2_with fail
        refine (HC1.out _ _ _ _ P).mono ?_
        rintro e w7 ⟨rfl, hb7⟩
        cases cv with
        | true =>
          obtain rfl := HCB.out rfl
          go_wp2_with fail
          go_meet
          exact ⟨rfl, hb7⟩
        | false =>
          go_wp2_with fail
          go_meet
          exact ⟨rfl, hb7⟩
      case rest =>
        rename World => w7
        obtain ⟨rfl, d7⟩ := hcut
        replace P := P.below d7; replace XS := XS.below d7; replace XP := XP.below d7; replace XB := XB.below d7
        have i7 := i6.trans (d7.mono i6.size)
        clear d7 i6 lXS lXP lXB lXV lP XV HIN HC1 HX1 HCB
        by_cases hv : vs = []
        · obtain ⟨rfl, rfl, rfl⟩ := P.nil hv
          have hci := HCI.out hv
          obtain ⟨g1, g2, g3, g4⟩ := hci
          have G1 := Lib.hid g1; have G2 := Lib.hid g2; have G3 := Lib.hid g3; have G4 := Lib.hid g4
          clear g1 g2 g3 g4 HCI HTT
          go_wp2_with fail
          refine (G1.out _).mono ?_
          rintro e w8 ⟨rfl, hb8⟩; have d8 : Below w7.heap.size w7 w8 := below_step hb8 (by repeat (first | with_reducible exact Below.refl _ _ | with_reducible refine below_alloc ?_ _ | with_reducible refine Below.drew ?_ | with_reducible refine below_set ?_ (by (first | (simp; done) | (simp; omega))) _ | with_reducible refine below_step (by assumption) ?_)); have z8 := hb8.size; (try simp at z8); replace XS := XS.below d8; (try clear lXS); have lXS := XS.lt; replace XP := XP.below d8; (try clear lXP); have lXP := XP.lt; replace XB := XB.below d8; (try clear lXB); have lXB := XB.lt
          go_wp2_with fail
          refine (G2.out _).mono ?_
          rintro e w9 ⟨rfl, hb9⟩; have d9 : Below w8.heap.size w8 w9 := below_step hb9 (by repeat (first | with_reducible exact Below.refl _ _ | with_reducible refine below_alloc ?_ _ | with_reducible refine Below.drew ?_ | with_reducible refine below_set ?_ (by (first | (simp; done) | (simp; omega))) _ | with_reducible refine below_step (by assumption) ?_)); have z9 := hb9.size; (try simp at z9); replace XS := XS.below d9; (try clear lXS); have lXS := XS.lt; replace XP := XP.below d9; (try clear lXP); have lXP := XP.lt; replace XB := XB.below d9; (try clear lXB); have lXB := XB.lt
          go_wp2_with fail
          refine (G3.out _).mono ?_
          rintro e w10 ⟨rfl, hb10⟩; have d10 : Below w9.heap.size w9 w10 := below_step hb10 (by repeat (first | with_reducible exact Below.refl _ _ | with_reducible refine below_alloc ?_ _ | with_reducible refine Below.drew ?_ | with_reducible refine below_set ?_ (by (first | (simp; done) | (simp; omega))) _ | with_reducible refine below_step (by assumption) ?_)); have z10 := hb10.size; (try simp at z10); replace XS := XS.below d10; (try clear lXS); have lXS := XS.lt; replace XP := XP.below d10; (try clear lXP); have lXP := XP.lt; replace XB := XB.below d10; (try clear lXB); have lXB := XB.lt
          go_wp2_with fail
          refine (G4.out _).mono ?_
          rintro e w11 ⟨rfl, hb11⟩; have d11 : Below w10.heap.size w10 w11 := below_step hb11 (by repeat (first | with_reducible exact Below.refl _ _ | with_reducible refine below_alloc ?_ _ | with_reducible refine Below.drew ?_ | with_reducible refine below_set ?_ (by (first | (simp; done) | (simp; omega))) _ | with_reducible refine below_step (by assumption) ?_)); have z11 := hb11.size; (try simp at z11)
          have i11 : Below w.heap.size w w11 := (by repeat (first | with_reducible exact Below.refl _ _ | with_reducible refine below_alloc ?_ _ | with_reducible refine Below.drew ?_ | with_reducible refine below_set ?_ (by (first | (simp; done) | (simp; omega))) _ | with_reducible refine below_step (by assumption) ?_))
          go_wp2_with fail
          refine (lives3_any _).mono ?_
          rintro e w12 ⟨rfl, hb12⟩
          go_wp2_with fail
          go_ret
          exact ⟨rfl, i11.trans (hb12.mono i11.size)⟩
        · obtain ⟨g', rfl, hm0, hml, hmc, hmm, hbl, hcell⟩ := P.at_ hv
          have htt := HTT.out hv
          have HTV := Lib.hid htt; clear htt HTT HCI
          have HC := Lib.hid hcell; clear hcell
          have HML := Lib.hid hml; clear hml
          have HNV := Lib.hid hv; clear hv
          have hm1 : ((m : Int) == 0) = false := by simp; omega
          have lP := XP.lt
          have lB := XB.lt
          have lS := XS.lt
          go_wp2_with fail
          go_loopg [17] m (fun gk i wr => ∃ j : Nat, gk + j = m ∧ i = .int .i64 j ∧ B4 wr w7.heap.size (.bool (hasX x0 (vs.take j))) (.bool (hasX x1 (vs.take j))) (.bool (hasY y0 (vs.take j))) (.bool (hasY y1 (vs.take j))) ∧ Below w7.heap.size w7 wr)
          case atStart => exact ⟨0, by omega, rfl, by unfold B4 Cel; simp [go_sem, hasX, hasY], (by repeat (first | with_reducible exact Below.refl _ _ | with_reducible refine below_alloc ?_ _ | with_reducible refine Below.drew ?_ | with_reducible refine below_set ?_ (by (first | (simp; done) | (simp; omega))) _ | with_reducible refine below_step (by assumption) ?_))⟩
          case round =>
            obtain ⟨j, hj, rfl, Z, jb⟩ := hrel
            have YP := XP.below jb; have YB := XB.below jb; have YS := XS.below jb
            by_cases hlt : j < m
            · obtain ⟨⟨x', y'⟩, hv'⟩ : ∃ v, vs[j]? = some v := ⟨_, List.getElem?_eq_getElem (by have := HML.out; omega)⟩
              have hx := (jb.cell (p := ⟨g', j * 2, none⟩) hbl).trans (HC.out j _ hv').1
              have hy := (jb.cell (p := ⟨g', j * 2 + 1, none⟩) hbl).trans (HC.out j _ hv').2
              have hts := take_snoc' vs j hv'
              have bv := HS.out.2.2 _ (List.mem_of_getElem? hv')
              dsimp only at hx hy bv
              have HTS := Lib.hid hts; clear hts hv'
              generalize ht0 : hasX x0 (vs.take j) = t0 at *
              generalize ht1 : hasX x1 (vs.take j) = t1 at *
              generalize ht2 : hasY y0 (vs.take j) = t2 at *
              generalize ht3 : hasY y1 (vs.take j) = t3 at *
              have HT := Lib.hid (And.intro ht0 (And.intro ht1 (And.intro ht2 ht3))); clear ht0 ht1 ht2 ht3
              have hj1 : (0 : Int) ≤ (j : Int) := by omega
              have hj2 : (j : Int) < (m : Int) := by omega
              have hg2 := jb.size
              have lZ := Z.lt
              go_upto_region 14 with fail
              go_cut [18] (fun s18 w' => ∃ g2 : Nat, s18 = .pointer (some ⟨g2, 0, none⟩) ∧ w7.heap.size < g2 ∧ B2 w' g2 (.int .i64 (p0 + x')) (.int .i64 (p1 + y')) ∧ Below wr.heap.size wr w')
              case first =>
                have KS := Lib.hid (show ∀ w', Below wr.heap.size wr w' → (B2 w' w1.heap.size (.int .i64 R) (.slice (some ⟨g', 0, none⟩) m c) ∧ B2 w' w2.heap.size (.int .i64 p0) (.int .i64 p1) ∧ w'.cell? ⟨g', j * 2, none⟩ = some (.int .i64 x') ∧ w'.cell? ⟨g', j * 2 + 1, none⟩ = some (.int .i64 y') ∧ Below wr.heap.size wr w') from fun w' hb => ⟨YS.below hb, YP.below hb, keep_cell hb hx, keep_cell hb hy, hb⟩)
                go_region_held3 (fun w' => B2 w' w1.heap.size (.int .i64 R) (.slice (some ⟨g', 0, none⟩) m c) ∧ B2 w' w2.heap.size (.int .i64 p0) (.int .i64 p1) ∧ w'.cell? ⟨g', j * 2, none⟩ = some (.int .i64 x') ∧ w'.cell? ⟨g', j * 2 + 1, none⟩ = some (.int .i64 y') ∧ Below wr.heap.size wr w') (refine KS.out _ (by repeat (first | with_reducible exact Below.refl _ _ | with_reducible refine below_alloc ?_ _ | with_reducible refine Below.drew ?_ | with_reducible refine below_set ?_ (by (first | (simp; done) | (simp; omega))) _ | with_reducible refine below_step (by assumption) ?_)))
                  (first | (go_at_call 30; refine (Add_any _ _ _ _ _ (by omega) (by omega) (by omega) (by omega)).mono ?_; rintro e w9 ⟨rfl, hb9⟩; obtain ⟨hc9, hf9, hx9, hy9, hn9, hz9⟩ := bcellA hb9; (try simp at hz9); (try have ltw9_0 : wr.heap.size < w9.heap.size := by omega); (try have lew9_0 : wr.heap.size ≤ w9.heap.size := by omega)))
                all_goals (rename _ ∧ _ ∧ _ ∧ _ ∧ Below wr.heap.size wr _ => hS; go_wp2_with fail; go_meet; exact ⟨_, rfl, by omega, by unfold B2 Cel; simp (maxDischargeDepth := 6) [go_sem, World.cell?_setCell_same', *], hS.2.2.2.2⟩)
              case rest =>
              clear YS YP YB hx hy
              rename World => w10
              obtain ⟨g2, rfl, lg2, Y2, d10⟩ := hcut
              replace Z := Z.below d10
              replace jb : Below w7.heap.size w7 w10 := jb.trans (d10.mono jb.size)
              have YP := XP.below jb; have YB := XB.below jb; have YS := XS.below jb
              clear d10
              go_upto_region 15 with fail
              go_cut [] (fun w' => B4 w' w7.heap.size (.bool (t0 || decide (x' = x0))) (.bool t1) (.bool t2) (.bool t3) ∧ B2 w' g2 (.int .i64 (p0 + x')) (.int .i64 (p1 + y')) ∧ Below w7.heap.size w7 w')
              case first =>
                by_cases hq : x' = x0
                · have kq : ((p0 + x' : Int) == x0 + p0) = true := by simp; omega
                  cases t0 with
                  | true =>
                    go_wp2_with fail
                    go_meet
                    exact ⟨by simpa [hq] using Z.set0 (.bool true), Y2.far (by omega) _, (by repeat (first | with_reducible exact Below.refl _ _ | with_reducible refine below_alloc ?_ _ | with_reducible refine Below.drew ?_ | with_reducible refine below_set ?_ (by (first | (simp; done) | (simp; omega))) _ | with_reducible refine below_step (by assumption) ?_))⟩
                  | false =>
                    go_wp2_with fail
                    go_meet
                    exact ⟨by simpa [hq, Int.add_comm] using Z.set0 (.bool (p0 + x' == x0 + p0)), Y2.far (by omega) _, (by repeat (first | with_reducible exact Below.refl _ _ | with_reducible refine below_alloc ?_ _ | with_reducible refine Below.drew ?_ | with_reducible refine below_set ?_ (by (first | (simp; done) | (simp; omega))) _ | with_reducible refine below_step (by assumption) ?_))⟩
                · have kq : ((p0 + x' : Int) == x0 + p0) = false := by simp; omega
                  cases t0 with
                  | true =>
                    go_wp2_with fail
                    go_meet
                    exact ⟨by simpa [hq] using Z.set0 (.bool true), Y2.far (by omega) _, (by repeat (first | with_reducible exact Below.refl _ _ | with_reducible refine below_alloc ?_ _ | with_reducible refine Below.drew ?_ | with_reducible refine below_set ?_ (by (first | (simp; done) | (simp; omega))) _ | with_reducible refine below_step (by assumption) ?_))⟩
                  | false =>
                    go_wp2_with fail
                    go_meet
                    exact ⟨by simpa [hq] using Z.set0 (.bool false), Y2.far (by omega) _, (by repeat (first | with_reducible exact Below.refl _ _ | with_reducible refine below_alloc ?_ _ | with_reducible refine Below.drew ?_ | with_reducible refine below_set ?_ (by (first | (simp; done) | (simp; omega))) _ | with_reducible refine below_step (by assumption) ?_))⟩
              case rest =>
              clear Z Y2 YS YP YB jb
              rename World => w11
              obtain ⟨Z, Y2, jb⟩ := hcut
              have YP := XP.below jb; have YB := XB.below jb; have YS := XS.below jb
              go_upto_region 16 with fail
              go_cut [] (fun w' => B4 w' w7.heap.size (.bool (t0 || decide (x' = x0))) (.bool (t1 || decide (x' = x1))) (.bool t2) (.bool t3) ∧ B2 w' g2 (.int .i64 (p0 + x')) (.int .i64 (p1 + y')) ∧ Below w7.heap.size w7 w')
              case first =>
                by_cases hq : x' = x1
                · have kq : ((p0 + x' : Int) == x1 + p0) = true := by simp; omega
                  cases t1 with
                  | true =>
                    go_wp2_with fail
                    go_meet
                    exact ⟨by simpa [hq] using Z.set1 (.bool true), Y2.far (by omega) _, (by repeat (first | with_reducible exact Below.refl _ _ | with_reducible refine below_alloc ?_ _ | with_reducible refine Below.drew ?_ | with_reducible refine below_set ?_ (by (first | (simp; done) | (simp; omega))) _ | with_reducible refine below_step (by assumption) ?_))⟩
                  | false =>
                    go_wp2_with fail
                    go_meet
                    exact ⟨by simpa [hq, Int.add_comm] using Z.set1 (.bool (p0 + x' == x1 + p0)), Y2.far (by omega) _, (by repeat (first | with_reducible exact Below.refl _ _ | with_reducible refine below_alloc ?_ _ | with_reducible refine Below.drew ?_ | with_reducible refine below_set ?_ (by (first | (simp; done) | (simp; omega))) _ | with_reducible refine below_step (by assumption) ?_))⟩
                · have kq : ((p0 + x' : Int) == x1 + p0) = false := by simp; omega
                  cases t1 with
                  | true =>
                    go_wp2_with fail
                    go_meet
                    exact ⟨by simpa [hq] using Z.set1 (.bool true), Y2.far (by omega) _, (by repeat (first | with_reducible exact Below.refl _ _ | with_reducible refine below_alloc ?_ _ | with_reducible refine Below.drew ?_ | with_reducible refine below_set ?_ (by (first | (simp; done) | (simp; omega))) _ | with_reducible refine below_step (by assumption) ?_))⟩
                  | false =>
                    go_wp2_with fail
                    go_meet
                    exact ⟨by simpa [hq] using Z.set1 (.bool false), Y2.far (by omega) _, (by repeat (first | with_reducible exact Below.refl _ _ | with_reducible refine below_alloc ?_ _ | with_reducible refine Below.drew ?_ | with_reducible refine below_set ?_ (by (first | (simp; done) | (simp; omega))) _ | with_reducible refine below_step (by assumption) ?_))⟩
              case rest =>
              clear Z Y2 YS YP YB jb
              rename World => w12
              obtain ⟨Z, Y2, jb⟩ := hcut
              have YP := XP.below jb; have YB := XB.below jb; have YS := XS.below jb
              go_upto_region 17 with fail
              go_cut [] (fun w' => B4 w' w7.heap.size (.bool (t0 || decide (x' = x0))) (.bool (t1 || decide (x' = x1))) (.bool (t2 || decide (y' = y0))) (.bool t3) ∧ B2 w' g2 (.int .i64 (p0 + x')) (.int .i64 (p1 + y')) ∧ Below w7.heap.size w7 w')
              case first =>
                by_cases hq : y' = y0
                · have kq : ((p1 + y' : Int) == y0 + p1) = true := by simp; omega
                  cases t2 with
                  | true =>
                    go_wp2_with fail
                    go_meet
                    exact ⟨by simpa [hq] using Z.set2 (.bool true), Y2.far (by omega) _, (by repeat (first | with_reducible exact Below.refl _ _ | with_reducible refine below_alloc ?_ _ | with_reducible refine Below.drew ?_ | with_reducible refine below_set ?_ (by (first | (simp; done) | (simp; omega))) _ | with_reducible refine below_step (by assumption) ?_))⟩
                  | false =>
                    go_wp2_with fail
                    go_meet
                    exact ⟨by simpa [hq, Int.add_comm] using Z.set2 (.bool (p1 + y' == y0 + p1)), Y2.far (by omega) _, (by repeat (first | with_reducible exact Below.refl _ _ | with_reducible refine below_alloc ?_ _ | with_reducible refine Below.drew ?_ | with_reducible refine below_set ?_ (by (first | (simp; done) | (simp; omega))) _ | with_reducible refine below_step (by assumption) ?_))⟩
                · have kq : ((p1 + y' : Int) == y0 + p1) = false := by simp; omega
                  cases t2 with
                  | true =>
                    go_wp2_with fail
                    go_meet
                    exact ⟨by simpa [hq] using Z.set2 (.bool true), Y2.far (by omega) _, (by repeat (first | with_reducible exact Below.refl _ _ | with_reducible refine below_alloc ?_ _ | with_reducible refine Below.drew ?_ | with_reducible refine below_set ?_ (by (first | (simp; done) | (simp; omega))) _ | with_reducible refine below_step (by assumption) ?_))⟩
                  | false =>
                    go_wp2_with fail
                    go_meet
                    exact ⟨by simpa [hq] using Z.set2 (.bool false), Y2.far (by omega) _, (by repeat (first | with_reducible exact Below.refl _ _ | with_reducible refine below_alloc ?_ _ | with_reducible refine Below.drew ?_ | with_reducible refine below_set ?_ (by (first | (simp; done) | (simp; omega))) _ | with_reducible refine below_step (by assumption) ?_))⟩
              case rest =>
              clear Z Y2 YS YP YB jb
              rename World => w13
              obtain ⟨Z, Y2, jb⟩ := hcut
              have YP := XP.below jb; have YB := XB.below jb; have YS := XS.below jb
              by_cases hq : y' = y1
              · have kq : ((p1 + y' : Int) == y1 + p1) = true := by simp; omega
                cases t3 with
                | true =>
                    go_wp2_with fail
                    go_roundg (m - (j + 1))
                    case measure => omega
                    case rel =>
                      obtain ⟨e0, e1, e2, e3⟩ := HT.out
                      refine ⟨j + 1, by omega, by go_num, ?_, (by repeat (first | with_reducible exact Below.refl _ _ | with_reducible refine below_alloc ?_ _ | with_reducible refine Below.drew ?_ | with_reducible refine below_set ?_ (by (first | (simp; done) | (simp; omega))) _ | with_reducible refine below_step (by assumption) ?_))⟩
                      rw [HTS.out, hasX_snoc, hasX_snoc, hasY_snoc, hasY_snoc, e0, e1, e2, e3]
                      simpa [hq] using Z.set3 (.bool true)
                | false =>
                    go_wp2_with fail
                    go_roundg (m - (j + 1))
                    case measure => omega
                    case rel =>
                      obtain ⟨e0, e1, e2, e3⟩ := HT.out
                      refine ⟨j + 1, by omega, by go_num, ?_, (by repeat (first | with_reducible exact Below.refl _ _ | with_reducible refine below_alloc ?_ _ | with_reducible refine Below.drew ?_ | with_reducible refine below_set ?_ (by (first | (simp; done) | (simp; omega))) _ | with_reducible refine below_step (by assumption) ?_))⟩
                      rw [HTS.out, hasX_snoc, hasX_snoc, hasY_snoc, hasY_snoc, e0, e1, e2, e3]
                      simpa [hq, Int.add_comm] using Z.set3 (.bool (p1 + y' == y1 + p1))
              · have kq : ((p1 + y' : Int) == y1 + p1) = false := by simp; omega
                cases t3 with
                | true =>
                    go_wp2_with fail
                    go_roundg (m - (j + 1))
                    case measure => omega
                    case rel =>
                      obtain ⟨e0, e1, e2, e3⟩ := HT.out
                      refine ⟨j + 1, by omega, by go_num, ?_, (by repeat (first | with_reducible exact Below.refl _ _ | with_reducible refine below_alloc ?_ _ | with_reducible refine Below.drew ?_ | with_reducible refine below_set ?_ (by (first | (simp; done) | (simp; omega))) _ | with_reducible refine below_step (by assumption) ?_))⟩
                      rw [HTS.out, hasX_snoc, hasX_snoc, hasY_snoc, hasY_snoc, e0, e1, e2, e3]
                      simpa [hq] using Z.set3 (.bool true)
                | false =>
                    go_wp2_with fail
                    go_roundg (m - (j + 1))
                    case measure => omega
                    case rel =>
                      obtain ⟨e0, e1, e2, e3⟩ := HT.out
                      refine ⟨j + 1, by omega, by go_num, ?_, (by repeat (first | with_reducible exact Below.refl _ _ | with_reducible refine below_alloc ?_ _ | with_reducible refine Below.drew ?_ | with_reducible refine below_set ?_ (by (first | (simp; done) | (simp; omega))) _ | with_reducible refine below_step (by assumption) ?_))⟩
                      rw [HTS.out, hasX_snoc, hasX_snoc, hasY_snoc, hasY_snoc, e0, e1, e2, e3]
                      simpa [hq] using Z.set3 (.bool false)
            · obtain rfl : j = m := by omega
              have ht : vs.take j = vs := List.take_of_length_le (by have := HML.out; omega)
              obtain ⟨f0, f1, f2, f3⟩ := HTV.out
              rw [ht, hasX_true f0, hasX_true f1, hasY_true f2, hasY_true f3] at Z
              have i12 := i7.trans (jb.mono i7.size)
              clear ht f0 f1 f2 f3
              have h44 := eq4
              go_wp2_with fail
              refine (lives3_any _).mono ?_
              rintro e w12 ⟨rfl, hb12⟩
              go_wp2_with fail
              go_ret
              exact ⟨rfl, i12.trans (hb12.mono i12.size)⟩

theorem own : ownKnob Try.prog.godebug = none := by kernel_rfl
theorem laidOut : laidOutB Try.prog = true := by kernel_rfl

set_option maxRecDepth 100000 in
theorem lifted (os : Os) (started : os.Started) (H : Type) (enc : TypeId × Value → H) :
    ReturnsInHanded {} Try.checked os 4 .any (Rows.shapeBoundsSpec.pre6 enc Try.prog Try.f4 Rows.shapeBoundsRow.domain false) (Rows.shapeBoundsSpec.post enc Try.prog Try.f4 false true false false) := by
  refine returnsInHanded_of_change (C := Try.checked) own started (by kernel_rfl) Try.func4
    (ChangeSpec.witness6 (enc := enc) (C := Try.checked) false ⟨#[], #[.int .i64 0, .int .i64 0, .int .i64 0, .int .i64 0, .int .i64 0], []⟩ 8 (by kernel_rfl) (by kernel_rfl) (by kernel_rfl) (by kernel_rfl)) ?_
  intro W base args ds gs before hval0 hW hcnd _
  have hval : ∀ (j : Nat) t v, Try.f4.params[j]? = some t → args[j]? = some v → Value.okWide Try.prog W .any base t v := hval0
  have hW' := hW
  obtain ⟨p, q, hA0, hV, rfl, hfz, hnd⟩ := hW
  have hA : DataW.TrodAll enc Try.prog W 0 (fun _ => true) true Try.f4.params.toList args.toList ds p := hA0
  rw [Try.params4] at hA hval
  obtain ⟨v0, vs0, d0, ds0, p0, q0, hargs, rfl, rfl, h0, r0⟩ := trodAll_cons hA
  obtain ⟨v1, vs1, d1, ds1, p1, q1, rfl, rfl, rfl, h1, r1⟩ := trodAll_cons r0
  obtain ⟨v2, vs2, d2, ds2, p2, q2, rfl, rfl, rfl, h2, r2⟩ := trodAll_cons r1
  obtain ⟨v3, vs3, d3, ds3, p3, q3, rfl, rfl, rfl, h3, r3⟩ := trodAll_cons r2
  obtain ⟨v4, vs4, d4, ds4, p4, q4, rfl, rfl, rfl, h4, r4⟩ := trodAll_cons r3
  obtain ⟨rfl, rfl, rfl⟩ := trodAll_nil r4
  obtain rfl : args = #[v0, v1, v2, v3, v4] := by cases args; simp_all
  obtain ⟨rfl, rfl⟩ := trodVars_none hV
  obtain ⟨a0, rfl, rfl, rfl, w0⟩ := open_int Try.underlying3 (hval 0 3 v0 rfl rfl) h0
  obtain ⟨a1, rfl, rfl, rfl, w1⟩ := open_int Try.underlying3 (hval 1 3 v1 rfl rfl) h1
  obtain ⟨a2, rfl, rfl, rfl, w2⟩ := open_int Try.underlying3 (hval 2 3 v2 rfl rfl) h2
  obtain ⟨a3, rfl, rfl, rfl, w3⟩ := open_int Try.underlying3 (hval 3 3 v3 rfl rfl) h3
  obtain ⟨a4, rfl, rfl, rfl, w4⟩ := open_int Try.underlying3 (hval 4 3 v4 rfl rfl) h4
  clear hA0 hval0
  refine (walk a0 (bounds_i64 w0).1 (bounds_i64 w0).2 a1 (bounds_i64 w1).1 (bounds_i64 w1).2 a2 (bounds_i64 w2).1 (bounds_i64 w2).2 a3 (bounds_i64 w3).1 (bounds_i64 w3).2 a4 (bounds_i64 w4).1 (bounds_i64 w4).2 W).mono fun e W' ⟨he, bel⟩ => ?_
  subst he
  exact ⟨_, rfl, _, _, _, [], _, [], hW', trodAll_mk1 (shut_bool Try.underlying4 _), (trodAll_cons_mk (shut_int Try.underlying3 w0) (trodAll_cons_mk (shut_int Try.underlying3 w1) (trodAll_cons_mk (shut_int Try.underlying3 w2) (trodAll_cons_mk (shut_int Try.underlying3 w3) (trodAll_cons_mk (shut_int Try.underlying3 w4) trodAll_mk0))))), rfl, bel.frame _, fun h => by cases h⟩

theorem closed : joinedFacts Try.prog 4 Try.f4 Rows.shapeBoundsSpec Rows.shapeBoundsRow = true := by
  unfold joinedFacts
  repeat' (with_reducible refine both_of ?_ ?_)
  all_goals (first | with_reducible exact mayEnter_ok | (rw [liftsFinal_is]; as_aux_lemma => kernel_rfl) | (rw [make_is]; as_aux_lemma => kernel_rfl) | (as_aux_lemma => kernel_rfl))

theorem over : Rows.shapeBoundsRow.holds Try.pinned (OpenSpec.ofChange Rows.shapeBoundsSpec) :=
  OpenClaim.holds_of_wide 4 Try.f4 rfl rfl rfl rfl rfl rfl rfl ⟨rfl, rfl, rfl, rfl, rfl⟩ rfl rfl rfl rfl rfl (by kernel_rfl) Try.func4 closed
    (of_decide_eq_true (by kernel_rfl)) (by unfold Func.isWrapper; first | (rw [if_pos (by decide +kernel)]; kernel_rfl) | (rw [if_neg (by decide +kernel)]; exact ⟨rfl, rfl⟩))
    (fun os started H enc _ => lifted os started H enc)

theorem proved : Rows.ShapeBoundsSaid := over
#print axioms proved

end Go.Proofs.Ytipcppbbpmdijaa.shapeBounds
