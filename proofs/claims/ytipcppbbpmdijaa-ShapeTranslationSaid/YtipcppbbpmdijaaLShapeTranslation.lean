/-
  ShapeTranslation: moving a shape and a point together. Conditions: none.
-/
import Derived.Test.YtipcppbbpmdijaaRows
import Derived.Test.YtipcppbbpmdijaaHead
import Derived.Test.YtipcppbbpmdijaaOpen
import Derived.Test.YtipcppbbpmdijaaNear
namespace Go.Proofs.Ytipcppbbpmdijaa.shapeTranslation
open Go.ChangeShapes Go.WideShapes Go.ChangeAt Go.RowKit Go.Sort
attribute [local go_sem ↓] Go.wp_at_zero Go.wp_at_succ

set_option maxRecDepth 100000 in
set_option maxHeartbeats 4000000 in
theorem walk (n : Int) (ln : -9223372036854775808 ≤ n) (un : n ≤ 9223372036854775807) (x : Int) (lx : -9223372036854775808 ≤ x) (ux : x ≤ 9223372036854775807) (y : Int) (ly : -9223372036854775808 ≤ y) (uy : y ≤ 9223372036854775807) (dx : Int) (ldx : -9223372036854775808 ≤ dx) (udx : dx ≤ 9223372036854775807) (dy : Int) (ldy : -9223372036854775808 ≤ dy) (udy : dy ≤ 9223372036854775807) (px : Int) (lpx : -9223372036854775808 ≤ px) (upx : px ≤ 9223372036854775807) (py : Int) (lpy : -9223372036854775808 ≤ py) (upy : py ≤ 9223372036854775807) (w : World) :
    Calls Try.prog 8 #[.int .i64 n, .int .i64 x, .int .i64 y, .int .i64 dx, .int .i64 dy, .int .i64 px, .int .i64 py] w fun e w' => e = .returned (.bool true) ∧ Below w.heap.size w w' := by
  have hG := shape_gs n
  have hS := hG.sn
  have hV := hG.valid
  have hSh := Shape_any n w ln un
  have tx := tdiv8 lx ux
  have ty := tdiv8 ly uy
  generalize shR n = R at *
  generalize shV n = vs at *
  have n1 := (nr_bd hS px py).1
  have n2 := (nr_bd hS px py).2
  have HN := Lib.hid (fun A c m W P => near_any R px py A c m vs W P hS lpx upx lpy upy)
  have HO1 := Lib.hid (fun W => Of_any (x.tdiv 8) (y.tdiv 8) W tx.1 tx.2 ty.1 ty.2)
  have o1 := ofX_bd (x.tdiv 8)
  have o2 := ofY_bd (x.tdiv 8) (y.tdiv 8)
  generalize ofX (x.tdiv 8) = p0 at *
  generalize ofY (x.tdiv 8) (y.tdiv 8) = p1 at *
  generalize nrX R vs px = n0 at *
  generalize nrY R vs py = m0 at *
  have hB1 := fun W => Bound_any dx 1048576 W (by omega) (by omega) ldx udx
  have hB2 := fun W => Bound_any dy 1048576 W (by omega) (by omega) ldy udy
  have hB3 := fun W => Bound_any dx 1000 W (by omega) (by omega) ldx udx
  have hB4 := fun W => Bound_any dy 1000 W (by omega) (by omega) ldy udy
  have HAX := Lib.hid (fun W => axis_any px py W lpx upx lpy upy)
  have o3 := bnd_bd dx (most := 1048576) (by decide)
  have o4 := bnd_bd dy (most := 1048576) (by decide)
  have o5 := bnd_bd dx (most := 1000) (by decide)
  have o6 := bnd_bd dy (most := 1000) (by decide)
  have o7 := axA_bd px
  have o8 := axA_bd py
  generalize bnd dx 1048576 = d0 at *
  generalize bnd dy 1048576 = d1 at *
  generalize bnd dx 1000 = i0 at *
  generalize bnd dy 1000 = k0 at *
  generalize axA px = b0 at *
  generalize axA py = b1 at *
  have HB1 := Lib.hid hB1; clear hB1
  have HB2 := Lib.hid hB2; clear hB2
  have HB3 := Lib.hid hB3; clear hB3
  have HB4 := Lib.hid hB4; clear hB4
  have m1 := mul_bd (a := i0) (b := b0) (A := 1000) (B := 720) (by omega) (by omega)
  have m2 := mul_bd (a := k0) (b := b1) (A := 1000) (B := 720) (by omega) (by omega)
  have hbd := plo_bd hS (px := p0) (py := p1) (ax := b0) (ay := b1) (by omega) (by omega) (by omega) (by omega)
  have hC1 := fun A m c W P => Contains_any R p0 p1 (p0 + n0) (p1 + m0) A m c vs W P hS (by omega) (by omega) (by omega) (by omega)
  have hC2 := fun A m c W P => Contains_any R (p0 + d0) (p1 + d1) (p0 + n0 + d0) (p1 + m0 + d1) A m c vs W P hS (by omega) (by omega) (by omega) (by omega)
  rw [show p0 + n0 - p0 = n0 by omega, show p1 + m0 - p1 = m0 by omega] at hC1
  rw [show p0 + n0 + d0 - (p0 + d0) = n0 by omega, show p1 + m0 + d1 - (p1 + d1) = m0 by omega] at hC2
  have hX1 := fun A m c W P => Bounds_any R p0 p1 A m c vs W P hS (by omega) (by omega)
  have hX2 := fun A m c W P => Bounds_any R (p0 + d0) (p1 + d1) A m c vs W P hS (by omega) (by omega)
  simp only [← Int.add_assoc] at hX2
  have hJ1 := fun A m c W P => Project_any R p0 p1 b0 b1 A m c vs W P hS (by omega) (by omega) (by omega) (by omega)
  have hJ2 := fun A m c W P => Project_any R (p0 + i0 * 1024) (p1 + k0 * 1024) b0 b1 A m c vs W P hS (by omega) (by omega) (by omega) (by omega)
  rw [(plo_step R vs p0 p1 b0 b1 i0 k0).1, (plo_step R vs p0 p1 b0 b1 i0 k0).2] at hJ2
  have hbb := bb_bd hS
  generalize cov R vs (n0, m0) = cv at *
  generalize plo R vs p0 p1 b0 b1 = r0 at *
  generalize phi R vs p0 p1 b0 b1 = r1 at *
  generalize bx0 R vs = x0 at *
  generalize by0 R vs = y0 at *
  generalize bx1 R vs = x1 at *
  generalize by1 R vs = y1 at *
  obtain ⟨hbb1, hbb2, hbb3, hbb4⟩ := hbb
  obtain ⟨hbd1, hbd2⟩ := hbd
  have HC1 := Lib.hid hC1; clear hC1
  have HC2 := Lib.hid hC2; clear hC2
  have HX1 := Lib.hid hX1; clear hX1
  have HX2 := Lib.hid hX2; clear hX2
  have HJ1 := Lib.hid hJ1; clear hJ1
  have HJ2 := Lib.hid hJ2; clear hJ2
  have HSH := Lib.hid hSh; clear hSh
  have HS := Lib.hid hS; clear hS
  have HV := Lib.hid hV; clear hV
  have HG := Lib.hid hG; clear hG
  go_enter Try.func8, Try.ntmps8
  go_wp2_with fail
  refine HSH.out.mono ?_
  rintro e w1 ⟨A, m, c, rfl, P, hb1, -⟩
  go_wp2_with fail
  refine calls_at ?_; intro W1 hW; have dW1 : Below w1.heap.size w1 W1 := (by rw [hW]; exact (by repeat (first | with_reducible exact Below.refl _ _ | with_reducible refine below_alloc ?_ _ | with_reducible refine Below.drew ?_ | with_reducible refine below_set ?_ (by (first | (simp; done) | (simp; omega))) _ | with_reducible refine below_step (by assumption) ?_))); replace P := P.below dW1; (try clear lP); have lP := P.lt
  have XS : B2 W1 w1.heap.size (.int .i64 R) (.slice A m c) := (by rw [hW]; unfold B2 Cel; simp [go_sem])
  have i1 : Below w.heap.size w W1 := (by repeat (first | with_reducible exact Below.refl _ _ | with_reducible refine below_alloc ?_ _ | with_reducible refine Below.drew ?_ | with_reducible refine below_set ?_ (by (first | (simp; done) | (simp; omega))) _ | with_reducible refine below_step (by assumption) ?_))
  clear hW
  refine (HO1.out _).mono ?_
  rintro e w2 ⟨rfl, hb2⟩; have d2 : Below W1.heap.size W1 w2 := below_step hb2 (by repeat (first | with_reducible exact Below.refl _ _ | with_reducible refine below_alloc ?_ _ | with_reducible refine Below.drew ?_ | with_reducible refine below_set ?_ (by (first | (simp; done) | (simp; omega))) _ | with_reducible refine below_step (by assumption) ?_)); have z2 := hb2.size; (try simp at z2); replace P := P.below d2; (try clear lP); have lP := P.lt; replace XS := XS.below d2; (try clear lXS); have lXS := XS.lt
  go_wp2_with fail
  refine calls_at ?_; intro Wa hW; have dWa : Below w2.heap.size w2 Wa := (by rw [hW]; exact (by repeat (first | with_reducible exact Below.refl _ _ | with_reducible refine below_alloc ?_ _ | with_reducible refine Below.drew ?_ | with_reducible refine below_set ?_ (by (first | (simp; done) | (simp; omega))) _ | with_reducible refine below_step (by assumption) ?_))); replace P := P.below dWa; (try clear lP); have lP := P.lt; replace XS := XS.below dWa; (try clear lXS); have lXS := XS.lt
  have XP : B2 Wa (w2.heap.size) (.int .i64 (p0)) (.int .i64 (p1)) := (by rw [hW]; unfold B2 Cel; simp [go_sem]); have lXP := XP.lt
  have ia : Below w.heap.size w Wa := (by repeat (first | with_reducible exact Below.refl _ _ | with_reducible refine below_alloc ?_ _ | with_reducible refine Below.drew ?_ | with_reducible refine below_set ?_ (by (first | (simp; done) | (simp; omega))) _ | with_reducible refine below_step (by assumption) ?_))
  clear hW
  refine (HB1.out _).mono ?_
  rintro e w' ⟨rfl, rfl⟩
  go_wp2_with fail
  refine (HB2.out _).mono ?_
  rintro e w' ⟨rfl, rfl⟩
  go_wp2_with fail
  refine calls_at ?_; intro Wb hW; have dWb : Below Wa.heap.size Wa Wb := (by rw [hW]; exact (by repeat (first | with_reducible exact Below.refl _ _ | with_reducible refine below_alloc ?_ _ | with_reducible refine Below.drew ?_ | with_reducible refine below_set ?_ (by (first | (simp; done) | (simp; omega))) _ | with_reducible refine below_step (by assumption) ?_))); replace P := P.below dWb; (try clear lP); have lP := P.lt; replace XS := XS.below dWb; (try clear lXS); have lXS := XS.lt; replace XP := XP.below dWb; (try clear lXP); have lXP := XP.lt
  have XD : B2 Wb (Wa.heap.size) (.int .i64 (d0)) (.int .i64 (d1)) := (by rw [hW]; unfold B2 Cel; simp [go_sem]); have lXD := XD.lt
  have ib : Below w.heap.size w Wb := (by repeat (first | with_reducible exact Below.refl _ _ | with_reducible refine below_alloc ?_ _ | with_reducible refine Below.drew ?_ | with_reducible refine below_set ?_ (by (first | (simp; done) | (simp; omega))) _ | with_reducible refine below_step (by assumption) ?_))
  clear hW
  refine (Add_any _ _ _ _ _ (by omega) (by omega) (by omega) (by omega)).mono ?_
  rintro e w3 ⟨rfl, hb3⟩; have d3 : Below Wb.heap.size Wb w3 := below_step hb3 (by repeat (first | with_reducible exact Below.refl _ _ | with_reducible refine below_alloc ?_ _ | with_reducible refine Below.drew ?_ | with_reducible refine below_set ?_ (by (first | (simp; done) | (simp; omega))) _ | with_reducible refine below_step (by assumption) ?_)); have z3 := hb3.size; (try simp at z3); replace P := P.below d3; (try clear lP); have lP := P.lt; replace XS := XS.below d3; (try clear lXS); have lXS := XS.lt; replace XP := XP.below d3; (try clear lXP); have lXP := XP.lt; replace XD := XD.below d3; (try clear lXD); have lXD := XD.lt
  go_wp2_with fail
  refine code_named ?_; intro W3 hW; have dW3 : Below w3.heap.size w3 W3 := (by rw [hW]; exact (by repeat (first | with_reducible exact Below.refl _ _ | with_reducible refine below_alloc ?_ _ | with_reducible refine Below.drew ?_ | with_reducible refine below_set ?_ (by (first | (simp; done) | (simp; omega))) _ | with_reducible refine below_step (by assumption) ?_))); replace P := P.below dW3; (try clear lP); have lP := P.lt; replace XS := XS.below dW3; (try clear lXS); have lXS := XS.lt; replace XP := XP.below dW3; (try clear lXP); have lXP := XP.lt; replace XD := XD.below dW3; (try clear lXD); have lXD := XD.lt
  have XT : B2 W3 (w3.heap.size) (.int .i64 (p0 + d0)) (.int .i64 (p1 + d1)) := (by rw [hW]; unfold B2 Cel; simp [go_sem]); have lXT := XT.lt
  have i3 : Below w.heap.size w W3 := (by repeat (first | with_reducible exact Below.refl _ _ | with_reducible refine below_alloc ?_ _ | with_reducible refine Below.drew ?_ | with_reducible refine below_set ?_ (by (first | (simp; done) | (simp; omega))) _ | with_reducible refine below_step (by assumption) ?_))
  clear hW
  clear hb1 hb2 hb3 d2 d3 dW1 dWa dWb dW3 i1 ia ib z2 z3
  go_cut [19] (fun s18 w' => ∃ g : Nat, s18 = .pointer (some ⟨g, 0, none⟩) ∧ B2 w' g (.int .i64 (p0 + n0)) (.int .i64 (p1 + m0)) ∧ Below W3.heap.size W3 w')
  case first =>
    have HNW := Lib.hid (fun W hW => HN.out A m c W (Pol.below P hW))
    have KS := Lib.hid (show ∀ w', Below W3.heap.size W3 w' → (B2 w' w1.heap.size (.int .i64 R) (.slice A m c) ∧ B2 w' w2.heap.size (.int .i64 p0) (.int .i64 p1) ∧ Below W3.heap.size W3 w') from fun w' hb => ⟨XS.below hb, XP.below hb, hb⟩)
    go_region_held3 (fun w' => B2 w' w1.heap.size (.int .i64 R) (.slice A m c) ∧ B2 w' w2.heap.size (.int .i64 p0) (.int .i64 p1) ∧ Below W3.heap.size W3 w') (refine KS.out _ (by repeat (first | with_reducible exact Below.refl _ _ | with_reducible refine below_alloc ?_ _ | with_reducible refine Below.drew ?_ | with_reducible refine below_set ?_ (by (first | (simp; done) | (simp; omega))) _ | with_reducible refine below_step (by assumption) ?_)))
      (first
        | (go_at_call 31; refine (HNW.out _ (‹_ ∧ _ ∧ Below W3.heap.size W3 _›).2.2).mono ?_; rintro e w9 ⟨rfl, hb9⟩; obtain ⟨hc9, hf9, hx9, hy9, hn9, hz9⟩ := bcellA hb9; (try simp at hz9); (try have ltw9_0 : W3.heap.size < w9.heap.size := by omega); (try have lew9_0 : W3.heap.size ≤ w9.heap.size := by omega))
        | (go_at_call 30; refine (Add_any _ _ _ _ _ (by omega) (by omega) (by omega) (by omega)).mono ?_; rintro e w8 ⟨rfl, hb8⟩; obtain ⟨hc8, hf8, hx8, hy8, hn8, hz8⟩ := bcellA hb8; (try simp at hz8); (try have ltw8_0 : W3.heap.size < w8.heap.size := by omega); (try have lew8_0 : W3.heap.size ≤ w8.heap.size := by omega); (try have ltw8_1 : w9.heap.size < w8.heap.size := by omega); (try have lew8_1 : w9.heap.size ≤ w8.heap.size := by omega)))
    all_goals (rename _ ∧ _ ∧ Below W3.heap.size W3 _ => hS; go_wp2_with fail; go_meet; exact ⟨_, rfl, (by unfold B2 Cel; simp (maxDischargeDepth := 6) [go_sem, World.cell?_setCell_same', *]), hS.2.2⟩)
  case rest =>
    rename World => w4
    obtain ⟨g, rfl, XV, d4⟩ := hcut
    replace P := P.below d4
    replace XS := XS.below d4
    replace XP := XP.below d4
    replace XD := XD.below d4
    replace XT := XT.below d4
    have i4 := i3.trans (d4.mono i3.size)
    clear d4 lP lXS lXP lXD lXT
    go_wp2_with fail
    have hPC := Lib.hid (fun (d : Nat) (os : Array Obj) => P.re d os)
    have KXS := XS.re; have KXP := XP.re; have KXD := XD.re; have KXT := XT.re; have KXV := XV.re; refine wp_region_below (by kernel_rfl) (by kernel_rfl) ?_
    repeat (go_big_quiet_step (first
      | (go_at_call 30; exact met_below (Add_any _ _ _ _ _ (by omega) (by omega) (by omega) (by omega)))
      | (go_at_call 33; first | (with_reducible exact met_below (HC1.out _ _ _ _ (hPC.out _ _))) | (with_reducible exact met_below (HC2.out _ _ _ _ (hPC.out _ _))))))
    refine wpQuiet_nil ?_; intro w5 d5; clear KXS KXP KXD KXT KXV; replace XS := XS.below d5; (try clear lXS); have lXS := XS.lt; replace XP := XP.below d5; (try clear lXP); have lXP := XP.lt; replace XD := XD.below d5; (try clear lXD); have lXD := XD.lt; replace XT := XT.below d5; (try clear lXT); have lXT := XT.lt; replace XV := XV.below d5; (try clear lXV); have lXV := XV.lt
    replace P := P.below d5
    have i5 : Below w.heap.size w w5 := (by repeat (first | with_reducible exact Below.refl _ _ | with_reducible refine below_alloc ?_ _ | with_reducible refine Below.drew ?_ | with_reducible refine below_set ?_ (by (first | (simp; done) | (simp; omega))) _ | with_reducible refine below_step (by assumption) ?_))
    clear hPC d5 i4
    go_wp2_with fail
    refine (HX1.out _ _ _ _ P).mono ?_
    rintro e w6 ⟨rfl, hb6⟩; have d6 : Below w5.heap.size w5 w6 := below_step hb6 (by repeat (first | with_reducible exact Below.refl _ _ | with_reducible refine below_alloc ?_ _ | with_reducible refine Below.drew ?_ | with_reducible refine below_set ?_ (by (first | (simp; done) | (simp; omega))) _ | with_reducible refine below_step (by assumption) ?_)); have z6 := hb6.size; (try simp at z6); replace P := P.below d6; (try clear lP); have lP := P.lt; replace XS := XS.below d6; (try clear lXS); have lXS := XS.lt; replace XP := XP.below d6; (try clear lXP); have lXP := XP.lt; replace XD := XD.below d6; (try clear lXD); have lXD := XD.lt; replace XT := XT.below d6; (try clear lXT); have lXT := XT.lt
    go_wp2_with fail
    refine calls_at ?_; intro W7 hW; have dW7 : Below w6.heap.size w6 W7 := (by rw [hW]; exact (by repeat (first | with_reducible exact Below.refl _ _ | with_reducible refine below_alloc ?_ _ | with_reducible refine Below.drew ?_ | with_reducible refine below_set ?_ (by (first | (simp; done) | (simp; omega))) _ | with_reducible refine below_step (by assumption) ?_))); replace P := P.below dW7; (try clear lP); have lP := P.lt; replace XS := XS.below dW7; (try clear lXS); have lXS := XS.lt; replace XP := XP.below dW7; (try clear lXP); have lXP := XP.lt; replace XD := XD.below dW7; (try clear lXD); have lXD := XD.lt; replace XT := XT.below dW7; (try clear lXT); have lXT := XT.lt
    have XB : B4 W7 (w6.heap.size) (.int .i64 (x0 + p0)) (.int .i64 (y0 + p1)) (.int .i64 (x1 + p0)) (.int .i64 (y1 + p1)) := (by rw [hW]; unfold B4 Cel; simp [go_sem]); have lXB := XB.lt
    have i7 : Below w.heap.size w W7 := (by repeat (first | with_reducible exact Below.refl _ _ | with_reducible refine below_alloc ?_ _ | with_reducible refine Below.drew ?_ | with_reducible refine below_set ?_ (by (first | (simp; done) | (simp; omega))) _ | with_reducible refine below_step (by assumption) ?_))
    clear hW
    refine (HX2.out _ _ _ _ P).mono ?_
    rintro e w8 ⟨rfl, hb8⟩; have d8 : Below W7.heap.size W7 w8 := below_step hb8 (by repeat (first | with_reducible exact Below.refl _ _ | with_reducible refine below_alloc ?_ _ | with_reducible refine Below.drew ?_ | with_reducible refine below_set ?_ (by (first | (simp; done) | (simp; omega))) _ | with_reducible refine below_step (by assumption) ?_)); have z8 := hb8.size; (try simp at z8); replace P := P.below d8; (try clear lP); have lP := P.lt; replace XS := XS.below d8; (try clear lXS); have lXS := XS.lt; replace XP := XP.below d8; (try clear lXP); have lXP := XP.lt; replace XD := XD.below d8; (try clear lXD); have lXD := XD.lt; replace XT := XT.below d8; (try clear lXT); have lXT := XT.lt; replace XB := XB.below d8; (try clear lXB); have lXB := XB.lt
    have i8 : Below w.heap.size w w8 := (by repeat (first | with_reducible exact Below.refl _ _ | with_reducible refine below_alloc ?_ _ | with_reducible refine Below.drew ?_ | with_reducible refine below_set ?_ (by (first | (simp; done) | (simp; omega))) _ | with_reducible refine below_step (by assumption) ?_))
    clear hb6 hb8 d6 d8 dW7 z6 z8 i7 i5
    go_wp2_with fail
    refine (HB3.out _).mono ?_
    rintro e w' ⟨rfl, rfl⟩
    go_wp2_with fail
    refine (HB4.out _).mono ?_
    rintro e w' ⟨rfl, rfl⟩
    go_wp2_with fail
    refine calls_at ?_; intro W9 hW; have dW9 : Below w8.heap.size w8 W9 := (by rw [hW]; exact (by repeat (first | with_reducible exact Below.refl _ _ | with_reducible refine below_alloc ?_ _ | with_reducible refine Below.drew ?_ | with_reducible refine below_set ?_ (by (first | (simp; done) | (simp; omega))) _ | with_reducible refine below_step (by assumption) ?_))); replace P := P.below dW9; (try clear lP); have lP := P.lt; replace XS := XS.below dW9; (try clear lXS); have lXS := XS.lt; replace XP := XP.below dW9; (try clear lXP); have lXP := XP.lt
    have i9 : Below w.heap.size w W9 := (by repeat (first | with_reducible exact Below.refl _ _ | with_reducible refine below_alloc ?_ _ | with_reducible refine Below.drew ?_ | with_reducible refine below_set ?_ (by (first | (simp; done) | (simp; omega))) _ | with_reducible refine below_step (by assumption) ?_))
    clear hW XD XT XB lXD lXT lXB XV lXV
    refine (HAX.out _).mono ?_
    rintro e w10 ⟨rfl, hb10⟩; have d10 : Below W9.heap.size W9 w10 := below_step hb10 (by repeat (first | with_reducible exact Below.refl _ _ | with_reducible refine below_alloc ?_ _ | with_reducible refine Below.drew ?_ | with_reducible refine below_set ?_ (by (first | (simp; done) | (simp; omega))) _ | with_reducible refine below_step (by assumption) ?_)); have z10 := hb10.size; (try simp at z10); replace P := P.below d10; (try clear lP); have lP := P.lt; replace XS := XS.below d10; (try clear lXS); have lXS := XS.lt; replace XP := XP.below d10; (try clear lXP); have lXP := XP.lt
    go_wp2_with fail
    refine calls_at ?_; intro W11 hW; have dW11 : Below w10.heap.size w10 W11 := (by rw [hW]; exact (by repeat (first | with_reducible exact Below.refl _ _ | with_reducible refine below_alloc ?_ _ | with_reducible refine Below.drew ?_ | with_reducible refine below_set ?_ (by (first | (simp; done) | (simp; omega))) _ | with_reducible refine below_step (by assumption) ?_))); replace P := P.below dW11; (try clear lP); have lP := P.lt; replace XS := XS.below dW11; (try clear lXS); have lXS := XS.lt; replace XP := XP.below dW11; (try clear lXP); have lXP := XP.lt
    have XA : B2 W11 (w10.heap.size) (.int .i64 (b0)) (.int .i64 (b1)) := (by rw [hW]; unfold B2 Cel; simp [go_sem]); have lXA := XA.lt
    have i11 : Below w.heap.size w W11 := (by repeat (first | with_reducible exact Below.refl _ _ | with_reducible refine below_alloc ?_ _ | with_reducible refine Below.drew ?_ | with_reducible refine below_set ?_ (by (first | (simp; done) | (simp; omega))) _ | with_reducible refine below_step (by assumption) ?_))
    clear hW
    refine (HJ1.out _ _ _ _ P).mono ?_
    rintro e w12 ⟨rfl, hb12⟩; have d12 : Below W11.heap.size W11 w12 := below_step hb12 (by repeat (first | with_reducible exact Below.refl _ _ | with_reducible refine below_alloc ?_ _ | with_reducible refine Below.drew ?_ | with_reducible refine below_set ?_ (by (first | (simp; done) | (simp; omega))) _ | with_reducible refine below_step (by assumption) ?_)); have z12 := hb12.size; (try simp at z12); replace P := P.below d12; (try clear lP); have lP := P.lt; replace XS := XS.below d12; (try clear lXS); have lXS := XS.lt; replace XP := XP.below d12; (try clear lXP); have lXP := XP.lt; replace XA := XA.below d12; (try clear lXA); have lXA := XA.lt
    have i12 : Below w.heap.size w w12 := (by repeat (first | with_reducible exact Below.refl _ _ | with_reducible refine below_alloc ?_ _ | with_reducible refine Below.drew ?_ | with_reducible refine below_set ?_ (by (first | (simp; done) | (simp; omega))) _ | with_reducible refine below_step (by assumption) ?_))
    clear hb10 hb12 d10 d12 dW9 dW11 z10 z12 i8 i9 i11
    go_wp2_with fail
    have hPC := Lib.hid (fun (d : Nat) (os : Array Obj) => P.re d os)
    have e1 : IntKind.i64.wrap (i0 * 1024) = i0 * 1024 := IntWalk.i64_in _ (by omega)
    have e2 : IntKind.i64.wrap (k0 * 1024) = k0 * 1024 := IntWalk.i64_in _ (by omega)
    have KXS := XS.re; have KXP := XP.re; have KXA := XA.re; refine wp_region_below (by kernel_rfl) (by kernel_rfl) ?_
    repeat (go_big_quiet_step (first
      | (go_at_call 30; exact met_below (Add_any _ _ _ _ _ (by omega) (by omega) (by omega) (by omega)))
      | (go_at_call 35; exact met_below (HJ2.out _ _ _ _ (hPC.out _ _)))))
    refine wpQuiet_nil ?_; intro w13 d13; clear KXS KXP KXA; replace XS := XS.below d13; (try clear lXS); have lXS := XS.lt; replace XP := XP.below d13; (try clear lXP); have lXP := XP.lt; replace XA := XA.below d13; (try clear lXA); have lXA := XA.lt
    have i13 : Below w.heap.size w w13 := (by repeat (first | with_reducible exact Below.refl _ _ | with_reducible refine below_alloc ?_ _ | with_reducible refine Below.drew ?_ | with_reducible refine below_set ?_ (by (first | (simp; done) | (simp; omega))) _ | with_reducible refine below_step (by assumption) ?_))
    clear hPC e1 e2
    go_wp2_with fail
    refine (lives3_any _).mono ?_
    rintro e w14 ⟨rfl, hb14⟩
    go_wp2_with fail
    go_ret
    exact ⟨rfl, i13.trans (hb14.mono i13.size)⟩

theorem own : ownKnob Try.prog.godebug = none := by kernel_rfl
theorem laidOut : laidOutB Try.prog = true := by kernel_rfl

set_option maxRecDepth 100000 in
theorem lifted (os : Os) (started : os.Started) (H : Type) (enc : TypeId × Value → H) :
    ReturnsInHanded {} Try.checked os 8 .any (Rows.shapeTranslationSpec.pre6 enc Try.prog Try.f8 Rows.shapeTranslationRow.domain false) (Rows.shapeTranslationSpec.post enc Try.prog Try.f8 false true false false) := by
  refine returnsInHanded_of_change (C := Try.checked) own started (by kernel_rfl) Try.func8
    (ChangeSpec.witness6 (enc := enc) (C := Try.checked) false ⟨#[], #[.int .i64 0, .int .i64 0, .int .i64 0, .int .i64 0, .int .i64 0, .int .i64 0, .int .i64 0], []⟩ 8 (by kernel_rfl) (by kernel_rfl) (by kernel_rfl) (by kernel_rfl)) ?_
  intro W base args ds gs before hval0 hW hcnd _
  have hval : ∀ (j : Nat) t v, Try.f8.params[j]? = some t → args[j]? = some v → Value.okWide Try.prog W .any base t v := hval0
  have hW' := hW
  obtain ⟨p, q, hA0, hV, rfl, hfz, hnd⟩ := hW
  have hA : DataW.TrodAll enc Try.prog W 0 (fun _ => true) true Try.f8.params.toList args.toList ds p := hA0
  rw [Try.params8] at hA hval
  obtain ⟨v0, vs0, d0, ds0, p0, q0, hargs, rfl, rfl, h0, r0⟩ := trodAll_cons hA
  obtain ⟨v1, vs1, d1, ds1, p1, q1, rfl, rfl, rfl, h1, r1⟩ := trodAll_cons r0
  obtain ⟨v2, vs2, d2, ds2, p2, q2, rfl, rfl, rfl, h2, r2⟩ := trodAll_cons r1
  obtain ⟨v3, vs3, d3, ds3, p3, q3, rfl, rfl, rfl, h3, r3⟩ := trodAll_cons r2
  obtain ⟨v4, vs4, d4, ds4, p4, q4, rfl, rfl, rfl, h4, r4⟩ := trodAll_cons r3
  obtain ⟨v5, vs5, d5, ds5, p5, q5, rfl, rfl, rfl, h5, r5⟩ := trodAll_cons r4
  obtain ⟨v6, vs6, d6, ds6, p6, q6, rfl, rfl, rfl, h6, r6⟩ := trodAll_cons r5
  obtain ⟨rfl, rfl, rfl⟩ := trodAll_nil r6
  obtain rfl : args = #[v0, v1, v2, v3, v4, v5, v6] := by cases args; simp_all
  obtain ⟨rfl, rfl⟩ := trodVars_none hV
  obtain ⟨a0, rfl, rfl, rfl, w0⟩ := open_int Try.underlying3 (hval 0 3 v0 rfl rfl) h0
  obtain ⟨a1, rfl, rfl, rfl, w1⟩ := open_int Try.underlying3 (hval 1 3 v1 rfl rfl) h1
  obtain ⟨a2, rfl, rfl, rfl, w2⟩ := open_int Try.underlying3 (hval 2 3 v2 rfl rfl) h2
  obtain ⟨a3, rfl, rfl, rfl, w3⟩ := open_int Try.underlying3 (hval 3 3 v3 rfl rfl) h3
  obtain ⟨a4, rfl, rfl, rfl, w4⟩ := open_int Try.underlying3 (hval 4 3 v4 rfl rfl) h4
  obtain ⟨a5, rfl, rfl, rfl, w5⟩ := open_int Try.underlying3 (hval 5 3 v5 rfl rfl) h5
  obtain ⟨a6, rfl, rfl, rfl, w6⟩ := open_int Try.underlying3 (hval 6 3 v6 rfl rfl) h6
  clear hA0 hval0
  refine (walk a0 (bounds_i64 w0).1 (bounds_i64 w0).2 a1 (bounds_i64 w1).1 (bounds_i64 w1).2 a2 (bounds_i64 w2).1 (bounds_i64 w2).2 a3 (bounds_i64 w3).1 (bounds_i64 w3).2 a4 (bounds_i64 w4).1 (bounds_i64 w4).2 a5 (bounds_i64 w5).1 (bounds_i64 w5).2 a6 (bounds_i64 w6).1 (bounds_i64 w6).2 W).mono fun e W' ⟨he, bel⟩ => ?_
  subst he
  exact ⟨_, rfl, _, _, _, [], _, [], hW', trodAll_mk1 (shut_bool Try.underlying4 _), (trodAll_cons_mk (shut_int Try.underlying3 w0) (trodAll_cons_mk (shut_int Try.underlying3 w1) (trodAll_cons_mk (shut_int Try.underlying3 w2) (trodAll_cons_mk (shut_int Try.underlying3 w3) (trodAll_cons_mk (shut_int Try.underlying3 w4) (trodAll_cons_mk (shut_int Try.underlying3 w5) (trodAll_cons_mk (shut_int Try.underlying3 w6) trodAll_mk0))))))), rfl, bel.frame _, fun h => by cases h⟩

theorem closed : joinedFacts Try.prog 8 Try.f8 Rows.shapeTranslationSpec Rows.shapeTranslationRow = true := by
  unfold joinedFacts
  repeat' (with_reducible refine both_of ?_ ?_)
  all_goals (first | with_reducible exact mayEnter_ok | (rw [liftsFinal_is]; as_aux_lemma => kernel_rfl) | (rw [make_is]; as_aux_lemma => kernel_rfl) | (as_aux_lemma => kernel_rfl))

theorem over : Rows.shapeTranslationRow.holds Try.pinned (OpenSpec.ofChange Rows.shapeTranslationSpec) :=
  OpenClaim.holds_of_wide 8 Try.f8 rfl rfl rfl rfl rfl rfl rfl ⟨rfl, rfl, rfl, rfl, rfl⟩ rfl rfl rfl rfl rfl (by kernel_rfl) Try.func8 closed
    (of_decide_eq_true (by kernel_rfl)) (by unfold Func.isWrapper; first | (rw [if_pos (by decide +kernel)]; kernel_rfl) | (rw [if_neg (by decide +kernel)]; exact ⟨rfl, rfl⟩))
    (fun os started H enc _ => lifted os started H enc)

theorem proved : Rows.ShapeTranslationSaid := over
#print axioms proved

end Go.Proofs.Ytipcppbbpmdijaa.shapeTranslation
