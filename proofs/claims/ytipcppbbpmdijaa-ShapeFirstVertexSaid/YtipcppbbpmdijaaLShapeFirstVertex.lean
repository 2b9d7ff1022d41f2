/-
  ShapeFirstVertex: another first vertex changes nothing; the reverse order is invalid. Conditions: none.
-/
import Derived.Test.YtipcppbbpmdijaaRows
import Derived.Test.YtipcppbbpmdijaaHead
import Derived.Test.YtipcppbbpmdijaaOpen
import Derived.Test.YtipcppbbpmdijaaNear
namespace Go.Proofs.Ytipcppbbpmdijaa.shapeFirstVertex
open Go.ChangeShapes Go.WideShapes Go.ChangeAt Go.RowKit Go.Sort
attribute [local go_sem ↓] Go.wp_at_zero Go.wp_at_succ

set_option maxRecDepth 100000 in
set_option maxHeartbeats 4000000 in
theorem walk (n : Int) (ln : -9223372036854775808 ≤ n) (un : n ≤ 9223372036854775807) (z : Int) (lz : -9223372036854775808 ≤ z) (uz : z ≤ 9223372036854775807) (x : Int) (lx : -9223372036854775808 ≤ x) (ux : x ≤ 9223372036854775807) (y : Int) (ly : -9223372036854775808 ≤ y) (uy : y ≤ 9223372036854775807) (px : Int) (lpx : -9223372036854775808 ≤ px) (upx : px ≤ 9223372036854775807) (py : Int) (lpy : -9223372036854775808 ≤ py) (upy : py ≤ 9223372036854775807) (w : World) :
    Calls Try.prog 9 #[.int .i64 n, .int .i64 z, .int .i64 x, .int .i64 y, .int .i64 px, .int .i64 py] w fun e w' => e = .returned (.bool true) ∧ Below w.heap.size w w' := by
  have hG := shape_gs n
  have hS := hG.sn
  have hV := hG.valid
  have hSh := Shape_any n w ln un
  have tx := tdiv8 lx ux
  have ty := tdiv8 ly uy
  generalize shR n = R at *
  generalize shV n = vs at *
  have n1 := (nr_bd hS px py).1
  have n2 := (nr_bd hS px py).2
  have HN := Lib.hid (fun A c m W P => near_any R px py A c m vs W P hS lpx upx lpy upy)
  have HO1 := Lib.hid (fun W => Of_any (x.tdiv 8) (y.tdiv 8) W tx.1 tx.2 ty.1 ty.2)
  have o1 := ofX_bd (x.tdiv 8)
  have o2 := ofY_bd (x.tdiv 8) (y.tdiv 8)
  generalize ofX (x.tdiv 8) = p0 at *
  generalize ofY (x.tdiv 8) (y.tdiv 8) = p1 at *
  generalize nrX R vs px = n0 at *
  generalize nrY R vs py = m0 at *
  have HAX := Lib.hid (fun W => axis_any px py W lpx upx lpy upy)
  have o7 := axA_bd px
  have o8 := axA_bd py
  generalize axA px = b0 at *
  generalize axA py = b1 at *
  have hTr := fun A m c W P => Turned_any R z A m c vs W P hG lz uz
  have hGt := trn_gs (z := z) hG
  have hJt : plo R (trn z vs) p0 p1 b0 b1 = plo R vs p0 p1 b0 b1 ∧ phi R (trn z vs) p0 p1 b0 b1 = phi R vs p0 p1 b0 b1 := plo_rot _ _ _ _ _ _ _
  have hXt : bx0 R (trn z vs) = bx0 R vs ∧ by0 R (trn z vs) = by0 R vs ∧ bx1 R (trn z vs) = bx1 R vs ∧ by1 R (trn z vs) = by1 R vs := box_rot _ _ _
  have hCt : cov R (trn z vs) (p0 + n0 - p0, p1 + m0 - p1) = cov R vs (p0 + n0 - p0, p1 + m0 - p1) := cov_trn hG z _
  generalize trn z vs = us at *
  have hSt := hGt.sn
  have hJ1 := fun A m c W P => Project_any R p0 p1 b0 b1 A m c vs W P hS (by omega) (by omega) (by omega) (by omega)
  have hJ2 := fun A m c W P => Project_any R p0 p1 b0 b1 A m c us W P hSt (by omega) (by omega) (by omega) (by omega)
  rw [hJt.1, hJt.2] at hJ2
  have hX1 := fun A m c W P => Bounds_any R p0 p1 A m c vs W P hS (by omega) (by omega)
  have hX2 := fun A m c W P => Bounds_any R p0 p1 A m c us W P hSt (by omega) (by omega)
  rw [hXt.1, hXt.2.1, hXt.2.2.1, hXt.2.2.2] at hX2
  have hC1 := fun A m c W P => Contains_any R p0 p1 (p0 + n0) (p1 + m0) A m c vs W P hS (by omega) (by omega) (by omega) (by omega)
  have hC2 := fun A m c W P => Contains_any R p0 p1 (p0 + n0) (p1 + m0) A m c us W P hSt (by omega) (by omega) (by omega) (by omega)
  rw [hCt] at hC2
  have hVt : ∀ A m c W, Pol W A m c us → Calls Try.prog 26 #[.agg #[.int .i64 R, .slice A m c]] W fun e w' => e = .returned (.int .i64 0) ∧ Below W.heap.size W w' := fun A m c W P => (Validate_any R A m c us W P (fun v hv => by have := hSt.2.2 v hv; omega)).mono fun e w' ⟨⟨q, he, hq⟩, hb⟩ => ⟨by rw [he, hq.ok hGt.valid], hb⟩
  have hVb : vs ≠ [] → ∀ g m c W, Pol W (some ⟨g, 0, none⟩) m c vs.reverse → Calls Try.prog 26 #[.agg #[.int .i64 0, .slice (some ⟨g, 0, none⟩) m c]] W fun e w' => e = .returned (.int .i64 10) ∧ Below W.heap.size W w' := fun hv g m c W P =>
    (Validate_any 0 _ m c vs.reverse W P (fun v hv => by have := hS.2.2 v (List.mem_reverse.1 hv); omega)).mono fun e w' ⟨⟨q, he, hq⟩, hb⟩ => ⟨by rw [he, hq.bad (gs_back hG hv)], hb⟩
  clear hJt hXt hCt hGt hSt
  generalize cov R vs (p0 + n0 - p0, p1 + m0 - p1) = cv at *
  generalize plo R vs p0 p1 b0 b1 = r0 at *
  generalize phi R vs p0 p1 b0 b1 = r1 at *
  generalize bx0 R vs = x0 at *
  generalize by0 R vs = y0 at *
  generalize bx1 R vs = x1 at *
  generalize by1 R vs = y1 at *
  have HC1 := Lib.hid hC1; clear hC1
  have HC2 := Lib.hid hC2; clear hC2
  have HX1 := Lib.hid hX1; clear hX1
  have HX2 := Lib.hid hX2; clear hX2
  have HJ1 := Lib.hid hJ1; clear hJ1
  have HJ2 := Lib.hid hJ2; clear hJ2
  have HVT := Lib.hid hVt; clear hVt
  have HVB := Lib.hid hVb; clear hVb
  have HTR := Lib.hid hTr; clear hTr
  obtain ⟨i0, hi0, hz0, hz1, hz2⟩ := info_parts vec_info
  have HSH := Lib.hid hSh; clear hSh
  have HS := Lib.hid hS; clear hS
  have HV := Lib.hid hV; clear hV
  have HG := Lib.hid hG; clear hG
  go_enter Try.func9, Try.ntmps9
  go_wp2_with fail
  refine HSH.out.mono ?_
  rintro e w1 ⟨A, m, c, rfl, P, hb1, -⟩
  go_wp2_with fail
  refine calls_at ?_; intro W1 hW; have dW1 : Below w1.heap.size w1 W1 := (by rw [hW]; exact (by repeat (first | with_reducible exact Below.refl _ _ | with_reducible refine below_alloc ?_ _ | with_reducible refine Below.drew ?_ | with_reducible refine below_set ?_ (by (first | (simp; done) | (simp; omega))) _ | with_reducible refine below_step (by assumption) ?_))); replace P := P.below dW1; (try clear lP); have lP := P.lt
  have XS : B2 W1 w1.heap.size (.int .i64 R) (.slice A m c) := (by rw [hW]; unfold B2 Cel; simp [go_sem])
  have i1 : Below w.heap.size w W1 := (by repeat (first | with_reducible exact Below.refl _ _ | with_reducible refine below_alloc ?_ _ | with_reducible refine Below.drew ?_ | with_reducible refine below_set ?_ (by (first | (simp; done) | (simp; omega))) _ | with_reducible refine below_step (by assumption) ?_))
  clear hW
  refine (HTR.out _ _ _ _ P).mono ?_
  rintro e wt ⟨A', m', c', rfl, T, hbt, -⟩
  replace P := P.below hbt; replace XS := XS.below hbt
  have it : Below w.heap.size w wt := i1.trans (hbt.mono i1.size)
  go_wp2_with fail
  refine calls_at ?_; intro Wt hW; have dWt : Below wt.heap.size wt Wt := (by rw [hW]; exact (by repeat (first | with_reducible exact Below.refl _ _ | with_reducible refine below_alloc ?_ _ | with_reducible refine Below.drew ?_ | with_reducible refine below_set ?_ (by (first | (simp; done) | (simp; omega))) _ | with_reducible refine below_step (by assumption) ?_))); replace P := P.below dWt; (try clear lP); have lP := P.lt; replace T := T.below dWt; (try clear lT); have lT := T.lt; replace XS := XS.below dWt; (try clear lXS); have lXS := XS.lt
  have XU : B2 Wt wt.heap.size (.int .i64 R) (.slice A' m' c') := (by rw [hW]; unfold B2 Cel; simp [go_sem])
  have lXU := XU.lt
  have iWt : Below w.heap.size w Wt := (by repeat (first | with_reducible exact Below.refl _ _ | with_reducible refine below_alloc ?_ _ | with_reducible refine Below.drew ?_ | with_reducible refine below_set ?_ (by (first | (simp; done) | (simp; omega))) _ | with_reducible refine below_step (by assumption) ?_))
  clear hW
  refine (HO1.out _).mono ?_
  rintro e w2 ⟨rfl, hb2⟩; have d2 : Below Wt.heap.size Wt w2 := below_step hb2 (by repeat (first | with_reducible exact Below.refl _ _ | with_reducible refine below_alloc ?_ _ | with_reducible refine Below.drew ?_ | with_reducible refine below_set ?_ (by (first | (simp; done) | (simp; omega))) _ | with_reducible refine below_step (by assumption) ?_)); have z2 := hb2.size; (try simp at z2); replace P := P.below d2; (try clear lP); have lP := P.lt; replace T := T.below d2; (try clear lT); have lT := T.lt; replace XS := XS.below d2; (try clear lXS); have lXS := XS.lt; replace XU := XU.below d2; (try clear lXU); have lXU := XU.lt
  go_wp2_with fail
  refine code_named ?_; intro W3 hW; have dW3 : Below w2.heap.size w2 W3 := (by rw [hW]; exact (by repeat (first | with_reducible exact Below.refl _ _ | with_reducible refine below_alloc ?_ _ | with_reducible refine Below.drew ?_ | with_reducible refine below_set ?_ (by (first | (simp; done) | (simp; omega))) _ | with_reducible refine below_step (by assumption) ?_))); replace P := P.below dW3; (try clear lP); have lP := P.lt; replace T := T.below dW3; (try clear lT); have lT := T.lt; replace XS := XS.below dW3; (try clear lXS); have lXS := XS.lt; replace XU := XU.below dW3; (try clear lXU); have lXU := XU.lt
  have XP : B2 W3 (w2.heap.size) (.int .i64 (p0)) (.int .i64 (p1)) := (by rw [hW]; unfold B2 Cel; simp [go_sem]); have lXP := XP.lt
  have i3 : Below w.heap.size w W3 := (by repeat (first | with_reducible exact Below.refl _ _ | with_reducible refine below_alloc ?_ _ | with_reducible refine Below.drew ?_ | with_reducible refine below_set ?_ (by (first | (simp; done) | (simp; omega))) _ | with_reducible refine below_step (by assumption) ?_))
  clear hW
  clear hb1 hbt hb2 d2 dW1 dWt dW3 i1 it iWt z2
  go_cut [16] (fun s18 w' => ∃ g : Nat, s18 = .pointer (some ⟨g, 0, none⟩) ∧ B2 w' g (.int .i64 (p0 + n0)) (.int .i64 (p1 + m0)) ∧ Below W3.heap.size W3 w')
  case first =>
    have HNW := Lib.hid (fun W hW => HN.out A m c W (Pol.below P hW))
    have KS := Lib.hid (show ∀ w', Below W3.heap.size W3 w' → (B2 w' w1.heap.size (.int .i64 R) (.slice A m c) ∧ B2 w' w2.heap.size (.int .i64 p0) (.int .i64 p1) ∧ Below W3.heap.size W3 w') from fun w' hb => ⟨XS.below hb, XP.below hb, hb⟩)
    go_region_held3 (fun w' => B2 w' w1.heap.size (.int .i64 R) (.slice A m c) ∧ B2 w' w2.heap.size (.int .i64 p0) (.int .i64 p1) ∧ Below W3.heap.size W3 w') (refine KS.out _ (by repeat (first | with_reducible exact Below.refl _ _ | with_reducible refine below_alloc ?_ _ | with_reducible refine Below.drew ?_ | with_reducible refine below_set ?_ (by (first | (simp; done) | (simp; omega))) _ | with_reducible refine below_step (by assumption) ?_)))
      (first
        | (go_at_call 31; refine (HNW.out _ (‹_ ∧ _ ∧ Below W3.heap.size W3 _›).2.2).mono ?_; rintro e w9 ⟨rfl, hb9⟩; obtain ⟨hc9, hf9, hx9, hy9, hn9, hz9⟩ := bcellA hb9; (try simp at hz9); (try have ltw9_0 : W3.heap.size < w9.heap.size := by omega); (try have lew9_0 : W3.heap.size ≤ w9.heap.size := by omega))
        | (go_at_call 30; refine (Add_any _ _ _ _ _ (by omega) (by omega) (by omega) (by omega)).mono ?_; rintro e w8 ⟨rfl, hb8⟩; obtain ⟨hc8, hf8, hx8, hy8, hn8, hz8⟩ := bcellA hb8; (try simp at hz8); (try have ltw8_0 : W3.heap.size < w8.heap.size := by omega); (try have lew8_0 : W3.heap.size ≤ w8.heap.size := by omega); (try have ltw8_1 : w9.heap.size < w8.heap.size := by omega); (try have lew8_1 : w9.heap.size ≤ w8.heap.size := by omega)))
    all_goals (rename _ ∧ _ ∧ Below W3.heap.size W3 _ => hS; go_wp2_with fail; go_meet; exact ⟨_, rfl, (by unfold B2 Cel; simp (maxDischargeDepth := 6) [go_sem, World.cell?_setCell_same', *]), hS.2.2⟩)
  case rest =>
    rename World => w4
    obtain ⟨g, rfl, XV, d4⟩ := hcut
    replace P := P.below d4
    replace T := T.below d4
    replace XS := XS.below d4
    replace XU := XU.below d4
    replace XP := XP.below d4
    have i4 := i3.trans (d4.mono i3.size)
    clear d4 lP lT lXS lXU lXP
    go_wp2_with fail
    refine calls_at ?_; intro W5 hW; have dW5 : Below w4.heap.size w4 W5 := (by rw [hW]; exact (by repeat (first | with_reducible exact Below.refl _ _ | with_reducible refine below_alloc ?_ _ | with_reducible refine Below.drew ?_ | with_reducible refine below_set ?_ (by (first | (simp; done) | (simp; omega))) _ | with_reducible refine below_step (by assumption) ?_))); replace P := P.below dW5; (try clear lP); have lP := P.lt; replace T := T.below dW5; (try clear lT); have lT := T.lt; replace XS := XS.below dW5; (try clear lXS); have lXS := XS.lt; replace XU := XU.below dW5; (try clear lXU); have lXU := XU.lt; replace XP := XP.below dW5; (try clear lXP); have lXP := XP.lt; replace XV := XV.below dW5; (try clear lXV); have lXV := XV.lt
    clear hW
    refine (HAX.out _).mono ?_
    rintro e w6 ⟨rfl, hb6⟩; have d6 : Below W5.heap.size W5 w6 := below_step hb6 (by repeat (first | with_reducible exact Below.refl _ _ | with_reducible refine below_alloc ?_ _ | with_reducible refine Below.drew ?_ | with_reducible refine below_set ?_ (by (first | (simp; done) | (simp; omega))) _ | with_reducible refine below_step (by assumption) ?_)); have z6 := hb6.size; (try simp at z6); replace P := P.below d6; (try clear lP); have lP := P.lt; replace T := T.below d6; (try clear lT); have lT := T.lt; replace XS := XS.below d6; (try clear lXS); have lXS := XS.lt; replace XU := XU.below d6; (try clear lXU); have lXU := XU.lt; replace XP := XP.below d6; (try clear lXP); have lXP := XP.lt; replace XV := XV.below d6; (try clear lXV); have lXV := XV.lt
    go_wp2_with fail
    refine calls_at ?_; intro W7 hW; have dW7 : Below w6.heap.size w6 W7 := (by rw [hW]; exact (by repeat (first | with_reducible exact Below.refl _ _ | with_reducible refine below_alloc ?_ _ | with_reducible refine Below.drew ?_ | with_reducible refine below_set ?_ (by (first | (simp; done) | (simp; omega))) _ | with_reducible refine below_step (by assumption) ?_))); replace P := P.below dW7; (try clear lP); have lP := P.lt; replace T := T.below dW7; (try clear lT); have lT := T.lt; replace XS := XS.below dW7; (try clear lXS); have lXS := XS.lt; replace XU := XU.below dW7; (try clear lXU); have lXU := XU.lt; replace XP := XP.below dW7; (try clear lXP); have lXP := XP.lt; replace XV := XV.below dW7; (try clear lXV); have lXV := XV.lt
    have XA : B2 W7 (w6.heap.size) (.int .i64 (b0)) (.int .i64 (b1)) := (by rw [hW]; unfold B2 Cel; simp [go_sem]); have lXA := XA.lt
    have i7 : Below w.heap.size w W7 := (by repeat (first | with_reducible exact Below.refl _ _ | with_reducible refine below_alloc ?_ _ | with_reducible refine Below.drew ?_ | with_reducible refine below_set ?_ (by (first | (simp; done) | (simp; omega))) _ | with_reducible refine below_step (by assumption) ?_))
    clear hW
    refine (HJ1.out _ _ _ _ P).mono ?_
    rintro e w8 ⟨rfl, hb8⟩; have d8 : Below W7.heap.size W7 w8 := below_step hb8 (by repeat (first | with_reducible exact Below.refl _ _ | with_reducible refine below_alloc ?_ _ | with_reducible refine Below.drew ?_ | with_reducible refine below_set ?_ (by (first | (simp; done) | (simp; omega))) _ | with_reducible refine below_step (by assumption) ?_)); have z8 := hb8.size; (try simp at z8); replace P := P.below d8; (try clear lP); have lP := P.lt; replace T := T.below d8; (try clear lT); have lT := T.lt; replace XS := XS.below d8; (try clear lXS); have lXS := XS.lt; replace XU := XU.below d8; (try clear lXU); have lXU := XU.lt; replace XP := XP.below d8; (try clear lXP); have lXP := XP.lt; replace XV := XV.below d8; (try clear lXV); have lXV := XV.lt; replace XA := XA.below d8; (try clear lXA); have lXA := XA.lt
    go_wp2_with fail
    refine (HJ2.out _ _ _ _ T).mono ?_
    rintro e w9 ⟨rfl, hb9⟩; have d9 : Below w8.heap.size w8 w9 := below_step hb9 (by repeat (first | with_reducible exact Below.refl _ _ | with_reducible refine below_alloc ?_ _ | with_reducible refine Below.drew ?_ | with_reducible refine below_set ?_ (by (first | (simp; done) | (simp; omega))) _ | with_reducible refine below_step (by assumption) ?_)); have z9 := hb9.size; (try simp at z9); replace P := P.below d9; (try clear lP); have lP := P.lt; replace T := T.below d9; (try clear lT); have lT := T.lt; replace XS := XS.below d9; (try clear lXS); have lXS := XS.lt; replace XU := XU.below d9; (try clear lXU); have lXU := XU.lt; replace XP := XP.below d9; (try clear lXP); have lXP := XP.lt; replace XV := XV.below d9; (try clear lXV); have lXV := XV.lt
    have i9 : Below w.heap.size w w9 := (by repeat (first | with_reducible exact Below.refl _ _ | with_reducible refine below_alloc ?_ _ | with_reducible refine Below.drew ?_ | with_reducible refine below_set ?_ (by (first | (simp; done) | (simp; omega))) _ | with_reducible refine below_step (by assumption) ?_))
    clear hb6 hb8 hb9 d6 d8 d9 dW5 dW7 z6 z8 z9 i7 i4
    go_wp2_with fail
    have hPC := Lib.hid (fun (d : Nat) (os : Array Obj) => P.re d os)
    have hTC := Lib.hid (fun (d : Nat) (os : Array Obj) => T.re d os)
    have KXS := XS.re; have KXU := XU.re; have KXP := XP.re; have KXV := XV.re; refine wp_region_below (by kernel_rfl) (by kernel_rfl) ?_
    repeat (go_big_quiet_step (first
      | (go_at_call 26; exact met_below (HVT.out _ _ _ _ (hTC.out _ _)))
      | (go_at_call 32; first | (with_reducible exact met_below (HX1.out _ _ _ _ (hPC.out _ _))) | (with_reducible exact met_below (HX2.out _ _ _ _ (hTC.out _ _))))
      | (go_at_call 33; first | (with_reducible exact met_below (HC1.out _ _ _ _ (hPC.out _ _))) | (with_reducible exact met_below (HC2.out _ _ _ _ (hTC.out _ _))))))
    refine wpQuiet_nil ?_; intro w10 d10; clear KXS KXU KXP KXV; replace XS := XS.below d10; (try clear lXS); have lXS := XS.lt; replace XU := XU.below d10; (try clear lXU); have lXU := XU.lt; replace XP := XP.below d10; (try clear lXP); have lXP := XP.lt; replace XV := XV.below d10; (try clear lXV); have lXV := XV.lt
    replace P := P.below d10
    have i10 : Below w.heap.size w w10 := (by repeat (first | with_reducible exact Below.refl _ _ | with_reducible refine below_alloc ?_ _ | with_reducible refine Below.drew ?_ | with_reducible refine below_set ?_ (by (first | (simp; done) | (simp; omega))) _ | with_reducible refine below_step (by assumption) ?_))
    clear hPC hTC d10 i9 XU lXU XV lXV XP lXP T
    have hml : vs.length = m := P.1
    have hmb := P.2.2.1
    have HML := Lib.hid hml; clear hml
    go_wp2_with fail
    go_loopg [22, 23] m (fun gk l i wr => ∃ j : Nat, gk + j = m ∧ i = .int .i64 ((m : Int) - 1 - (j : Int)) ∧ wr.ownsRow w10.heap.size 24 2 l j (flat (vs.reverse.take j)) ∧ Below w10.heap.size w10 wr)
    case atStart => exact ⟨0, by omega, by simp, World.ownsRow_nil _ _ _ _, Below.refl _ _⟩
    case round =>
      obtain ⟨j, hj, rfl, hrw, jb⟩ := hrel
      have HR := Lib.hid hrw; clear hrw
      have YS := XS.below jb
      have YP := P.below jb
      by_cases hlt : j < m
      · have hv : vs ≠ [] := by intro e; have := HML.out; rw [e] at this; simp at this; omega
        obtain ⟨b, rfl, -, -, hnc, -, hbl, hcell⟩ := YP.at_ hv
        obtain ⟨t, ht⟩ : ∃ t : Nat, t + j + 1 = m := ⟨m - 1 - j, by omega⟩
        obtain ⟨⟨x', y'⟩, hv'⟩ : ∃ v, vs[t]? = some v := ⟨_, List.getElem?_eq_getElem (by have := HML.out; omega)⟩
        have hrv : vs.reverse[j]? = some (x', y') := by rw [List.getElem?_reverse (by have := HML.out; omega), ← hv']; congr 1; have := HML.out; omega
        obtain ⟨hx, hy⟩ := hcell t _ hv'
        have hts := take_snoc' _ j hrv
        have HTS := Lib.hid hts
        dsimp only at hx hy
        have e1 : (m : Int) - 1 - (j : Int) = (t : Int) := by omega
        have ht1 : (0 : Int) ≤ (t : Int) := by omega
        have ht2 : (t : Int) < (m : Int) := by omega
        clear hts hrv hv' hcell hv
        rw [e1]
        go_wp2_with (at_builtin; refine wpList_append_lies _ rfl _ _ _ rfl w10.heap.size 24 i0 _ 2 16 Try.underlying25 hi0 hz0 hz1 hz2 rfl (by omega) u22 j _ rfl (HR.out.alloc _) ⟨wr.heap.size, 0, none⟩ 1 1 [.int .i64 x', .int .i64 y'] rfl rfl (cell_two_new _ _ _ _) (by simp [Value.oneCell']) (by omega) (by unfold maxLen; omega) (by omega) (by have := jb.size; simp; omega) (wr.heap.size + 1) (by simp) ?_; intro g2 cap w11 hown hgr hat hlt2; have j11 : Below w10.heap.size w10 w11 := (jb.alloc jb.size _).grown hgr (by have := jb.size; simp; omega) (fun k e => (HR.out.lt k e).1); have HO := Lib.hid hown; clear hown hgr hat)
        go_roundg (m - (j + 1))
        case measure => omega
        case rel => exact ⟨j + 1, by omega, by congr 1; omega, by rw [HTS.out, flat_snoc]; exact HO.out, j11⟩
      · obtain rfl : j = m := by omega
        have ht : vs.reverse.take j = vs.reverse := List.take_of_length_le (by have := HML.out; simp; omega)
        have hrw := HR.out
        rw [ht] at hrw
        have i11 : Below w.heap.size w wr := (by repeat (first | with_reducible exact Below.refl _ _ | with_reducible refine below_alloc ?_ _ | with_reducible refine Below.drew ?_ | with_reducible refine below_set ?_ (by (first | (simp; done) | (simp; omega))) _ | with_reducible refine below_step (by assumption) ?_))
        have hneg : ¬ (0 : Int) ≤ (j : Int) - 1 - (j : Int) := by omega
        by_cases hv : vs = []
        · obtain ⟨rfl, rfl, rfl⟩ := P.nil hv
          rcases hrw.2 with ⟨rfl, _⟩ | ⟨g2, cap, cur, rfl, _⟩
          all_goals
            clear hrw ht
            go_wp2_with fail
            refine (lives3_any _).mono ?_
            rintro e w13 ⟨rfl, hb13⟩
            go_wp2_with fail
            go_ret
            exact ⟨rfl, (by repeat (first | with_reducible exact Below.refl _ _ | with_reducible refine below_alloc ?_ _ | with_reducible refine Below.drew ?_ | with_reducible refine below_set ?_ (by (first | (simp; done) | (simp; omega))) _ | with_reducible refine below_step (by assumption) ?_))⟩
        · have hm0 : 0 < j := by obtain ⟨b, -, h, -⟩ := P.at_ hv; exact h
          obtain ⟨g2, cap, rfl, hg2, hlt2⟩ := hrw.form hm0
          have hP := own_pol hrw hm0 (by omega)
          have hm1 : ((j : Int) == 0) = false := by simp; omega
          have HVB' := Lib.hid (HVB.out hv)
          clear hrw ht hv
          go_wp2_with fail
          refine (HVB'.out _ _ _ _ hP).mono ?_
          rintro e w12 ⟨rfl, hb12⟩
          go_wp2_with fail
          refine (lives3_any _).mono ?_
          rintro e w13 ⟨rfl, hb13⟩
          go_wp2_with fail
          go_ret
          exact ⟨rfl, (by repeat (first | with_reducible exact Below.refl _ _ | with_reducible refine below_alloc ?_ _ | with_reducible refine Below.drew ?_ | with_reducible refine below_set ?_ (by (first | (simp; done) | (simp; omega))) _ | with_reducible refine below_step (by assumption) ?_))⟩

theorem own : ownKnob Try.prog.godebug = none := by kernel_rfl
theorem laidOut : laidOutB Try.prog = true := by kernel_rfl

set_option maxRecDepth 100000 in
theorem lifted (os : Os) (started : os.Started) (H : Type) (enc : TypeId × Value → H) :
    ReturnsInHanded {} Try.checked os 9 .any (Rows.shapeFirstVertexSpec.pre6 enc Try.prog Try.f9 Rows.shapeFirstVertexRow.domain false) (Rows.shapeFirstVertexSpec.post enc Try.prog Try.f9 false true false false) := by
  refine returnsInHanded_of_change (C := Try.checked) own started (by kernel_rfl) Try.func9
    (ChangeSpec.witness6 (enc := enc) (C := Try.checked) false ⟨#[], #[.int .i64 0, .int .i64 0, .int .i64 0, .int .i64 0, .int .i64 0, .int .i64 0], []⟩ 8 (by kernel_rfl) (by kernel_rfl) (by kernel_rfl) (by kernel_rfl)) ?_
  intro W base args ds gs before hval0 hW hcnd _
  have hval : ∀ (j : Nat) t v, Try.f9.params[j]? = some t → args[j]? = some v → Value.okWide Try.prog W .any base t v := hval0
  have hW' := hW
  obtain ⟨p, q, hA0, hV, rfl, hfz, hnd⟩ := hW
  have hA : DataW.TrodAll enc Try.prog W 0 (fun _ => true) true Try.f9.params.toList args.toList ds p := hA0
  rw [Try.params9] at hA hval
  obtain ⟨v0, vs0, d0, ds0, p0, q0, hargs, rfl, rfl, h0, r0⟩ := trodAll_cons hA
  obtain ⟨v1, vs1, d1, ds1, p1, q1, rfl, rfl, rfl, h1, r1⟩ := trodAll_cons r0
  obtain ⟨v2, vs2, d2, ds2, p2, q2, rfl, rfl, rfl, h2, r2⟩ := trodAll_cons r1
  obtain ⟨v3, vs3, d3, ds3, p3, q3, rfl, rfl, rfl, h3, r3⟩ := trodAll_cons r2
  obtain ⟨v4, vs4, d4, ds4, p4, q4, rfl, rfl, rfl, h4, r4⟩ := trodAll_cons r3
  obtain ⟨v5, vs5, d5, ds5, p5, q5, rfl, rfl, rfl, h5, r5⟩ := trodAll_cons r4
  obtain ⟨rfl, rfl, rfl⟩ := trodAll_nil r5
  obtain rfl : args = #[v0, v1, v2, v3, v4, v5] := by cases args; simp_all
  obtain ⟨rfl, rfl⟩ := trodVars_none hV
  obtain ⟨a0, rfl, rfl, rfl, w0⟩ := open_int Try.underlying3 (hval 0 3 v0 rfl rfl) h0
  obtain ⟨a1, rfl, rfl, rfl, w1⟩ := open_int Try.underlying3 (hval 1 3 v1 rfl rfl) h1
  obtain ⟨a2, rfl, rfl, rfl, w2⟩ := open_int Try.underlying3 (hval 2 3 v2 rfl rfl) h2
  obtain ⟨a3, rfl, rfl, rfl, w3⟩ := open_int Try.underlying3 (hval 3 3 v3 rfl rfl) h3
  obtain ⟨a4, rfl, rfl, rfl, w4⟩ := open_int Try.underlying3 (hval 4 3 v4 rfl rfl) h4
  obtain ⟨a5, rfl, rfl, rfl, w5⟩ := open_int Try.underlying3 (hval 5 3 v5 rfl rfl) h5
  clear hA0 hval0
  refine (walk a0 (bounds_i64 w0).1 (bounds_i64 w0).2 a1 (bounds_i64 w1).1 (bounds_i64 w1).2 a2 (bounds_i64 w2).1 (bounds_i64 w2).2 a3 (bounds_i64 w3).1 (bounds_i64 w3).2 a4 (bounds_i64 w4).1 (bounds_i64 w4).2 a5 (bounds_i64 w5).1 (bounds_i64 w5).2 W).mono fun e W' ⟨he, bel⟩ => ?_
  subst he
  exact ⟨_, rfl, _, _, _, [], _, [], hW', trodAll_mk1 (shut_bool Try.underlying4 _), (trodAll_cons_mk (shut_int Try.underlying3 w0) (trodAll_cons_mk (shut_int Try.underlying3 w1) (trodAll_cons_mk (shut_int Try.underlying3 w2) (trodAll_cons_mk (shut_int Try.underlying3 w3) (trodAll_cons_mk (shut_int Try.underlying3 w4) (trodAll_cons_mk (shut_int Try.underlying3 w5) trodAll_mk0)))))), rfl, bel.frame _, fun h => by cases h⟩

theorem closed : joinedFacts Try.prog 9 Try.f9 Rows.shapeFirstVertexSpec Rows.shapeFirstVertexRow = true := by
  unfold joinedFacts
  repeat' (with_reducible refine both_of ?_ ?_)
  all_goals (first | with_reducible exact mayEnter_ok | (rw [liftsFinal_is]; as_aux_lemma => kernel_rfl) | (rw [make_is]; as_aux_lemma => kernel_rfl) | (as_aux_lemma => kernel_rfl))

theorem over : Rows.shapeFirstVertexRow.holds Try.pinned (OpenSpec.ofChange Rows.shapeFirstVertexSpec) :=
  OpenClaim.holds_of_wide 9 Try.f9 rfl rfl rfl rfl rfl rfl rfl ⟨rfl, rfl, rfl, rfl, rfl⟩ rfl rfl rfl rfl rfl (by kernel_rfl) Try.func9 closed
    (of_decide_eq_true (by kernel_rfl)) (by unfold Func.isWrapper; first | (rw [if_pos (by decide +kernel)]; kernel_rfl) | (rw [if_neg (by decide +kernel)]; exact ⟨rfl, rfl⟩))
    (fun os started H enc _ => lifted os started H enc)

theorem proved : Rows.ShapeFirstVertexSaid := over
#print axioms proved

end Go.Proofs.Ytipcppbbpmdijaa.shapeFirstVertex
