/-
  ShapeProjection: what a shape covers projects into its range. Conditions: none.
-/
import Derived.Test.YtipcppbbpmdijaaRows
import Derived.Test.YtipcppbbpmdijaaHead
import Derived.Test.YtipcppbbpmdijaaOpen
import Derived.Test.YtipcppbbpmdijaaNear
namespace Go.Proofs.Ytipcppbbpmdijaa.shapeProjection
open Go.ChangeShapes Go.WideShapes Go.ChangeAt Go.RowKit Go.Sort
attribute [local go_sem ↓] Go.wp_at_zero Go.wp_at_succ

set_option maxRecDepth 100000 in
set_option maxHeartbeats 4000000 in
theorem walk (n : Int) (ln : -9223372036854775808 ≤ n) (un : n ≤ 9223372036854775807) (x : Int) (lx : -9223372036854775808 ≤ x) (ux : x ≤ 9223372036854775807) (y : Int) (ly : -9223372036854775808 ≤ y) (uy : y ≤ 9223372036854775807) (ax : Int) (lax : -9223372036854775808 ≤ ax) (uax : ax ≤ 9223372036854775807) (ay : Int) (lay : -9223372036854775808 ≤ ay) (uay : ay ≤ 9223372036854775807) (px : Int) (lpx : -9223372036854775808 ≤ px) (upx : px ≤ 9223372036854775807) (py : Int) (lpy : -9223372036854775808 ≤ py) (upy : py ≤ 9223372036854775807) (w : World) :
    Calls Try.prog 7 #[.int .i64 n, .int .i64 x, .int .i64 y, .int .i64 ax, .int .i64 ay, .int .i64 px, .int .i64 py] w fun e w' => e = .returned (.bool true) ∧ Below w.heap.size w w' := by
  have hG := shape_gs n
  have hS := hG.sn
  have hV := hG.valid
  have hSh := Shape_any n w ln un
  have tx := tdiv8 lx ux
  have ty := tdiv8 ly uy
  generalize shR n = R at *
  generalize shV n = vs at *
  have n1 := (nr_bd hS px py).1
  have n2 := (nr_bd hS px py).2
  have HN := Lib.hid (fun A c m W P => near_any R px py A c m vs W P hS lpx upx lpy upy)
  have HO1 := Lib.hid (fun W => Of_any (x.tdiv 8) (y.tdiv 8) W tx.1 tx.2 ty.1 ty.2)
  have o1 := ofX_bd (x.tdiv 8)
  have o2 := ofY_bd (x.tdiv 8) (y.tdiv 8)
  generalize ofX (x.tdiv 8) = p0 at *
  generalize ofY (x.tdiv 8) (y.tdiv 8) = p1 at *
  generalize nrX R vs px = n0 at *
  generalize nrY R vs py = m0 at *
  have HO2 := Lib.hid (fun W => Of_any ax ay W lax uax lay uay)
  have HAX := Lib.hid (fun W => axis_any ax ay W lax uax lay uay)
  have o3 := ofX_bd ax
  have o4 := ofY_bd ax ay
  have o5 := axA_bd ax
  have o6 := axA_bd ay
  have hsq := axA_sq ax ay
  generalize ofX ax = a0 at *
  generalize ofY ax ay = a1 at *
  generalize axA ax = b0 at *
  generalize axA ay = b1 at *
  have hP1 := cov_proj hV p0 p1 (p0 + n0) (p1 + m0) b0 b1 hsq
  have HSQ := Lib.hid hsq; clear hsq
  have q1 := mul_bd (a := p0 + n0) (b := b0) (A := 9000000) (B := 8388608) (by omega) (by omega)
  have q2 := mul_bd (a := p1 + m0) (b := b1) (A := 9000000) (B := 8388608) (by omega) (by omega)
  have q3 := mul_bd (a := p0 + n0) (b := a0) (A := 9000000) (B := 8388608) (by omega) (by omega)
  have q4 := mul_bd (a := p1 + m0) (b := a1) (A := 9000000) (B := 8388608) (by omega) (by omega)
  have HSH := Lib.hid hSh; clear hSh
  have HS := Lib.hid hS; clear hS
  have HV := Lib.hid hV; clear hV
  have HG := Lib.hid hG; clear hG
  go_enter Try.func7, Try.ntmps7
  go_wp2_with fail
  refine HSH.out.mono ?_
  rintro e w1 ⟨A, m, c, rfl, P, hb1, -⟩
  go_wp2_with fail
  refine calls_at ?_; intro W1 hW; have dW1 : Below w1.heap.size w1 W1 := (by rw [hW]; exact (by repeat (first | with_reducible exact Below.refl _ _ | with_reducible refine below_alloc ?_ _ | with_reducible refine Below.drew ?_ | with_reducible refine below_set ?_ (by (first | (simp; done) | (simp; omega))) _ | with_reducible refine below_step (by assumption) ?_))); replace P := P.below dW1; (try clear lP); have lP := P.lt
  have XS : B2 W1 w1.heap.size (.int .i64 R) (.slice A m c) := (by rw [hW]; unfold B2 Cel; simp [go_sem])
  have i1 : Below w.heap.size w W1 := (by repeat (first | with_reducible exact Below.refl _ _ | with_reducible refine below_alloc ?_ _ | with_reducible refine Below.drew ?_ | with_reducible refine below_set ?_ (by (first | (simp; done) | (simp; omega))) _ | with_reducible refine below_step (by assumption) ?_))
  clear hW
  refine (HO1.out _).mono ?_
  rintro e w2 ⟨rfl, hb2⟩; have d2 : Below W1.heap.size W1 w2 := below_step hb2 (by repeat (first | with_reducible exact Below.refl _ _ | with_reducible refine below_alloc ?_ _ | with_reducible refine Below.drew ?_ | with_reducible refine below_set ?_ (by (first | (simp; done) | (simp; omega))) _ | with_reducible refine below_step (by assumption) ?_)); have z2 := hb2.size; (try simp at z2); replace P := P.below d2; (try clear lP); have lP := P.lt; replace XS := XS.below d2; (try clear lXS); have lXS := XS.lt
  go_wp2_with fail
  refine code_named ?_; intro W3 hW; have dW3 : Below w2.heap.size w2 W3 := (by rw [hW]; exact (by repeat (first | with_reducible exact Below.refl _ _ | with_reducible refine below_alloc ?_ _ | with_reducible refine Below.drew ?_ | with_reducible refine below_set ?_ (by (first | (simp; done) | (simp; omega))) _ | with_reducible refine below_step (by assumption) ?_))); replace P := P.below dW3; (try clear lP); have lP := P.lt; replace XS := XS.below dW3; (try clear lXS); have lXS := XS.lt
  have XP : B2 W3 (w2.heap.size) (.int .i64 (p0)) (.int .i64 (p1)) := (by rw [hW]; unfold B2 Cel; simp [go_sem]); have lXP := XP.lt
  have i3 : Below w.heap.size w W3 := (by repeat (first | with_reducible exact Below.refl _ _ | with_reducible refine below_alloc ?_ _ | with_reducible refine Below.drew ?_ | with_reducible refine below_set ?_ (by (first | (simp; done) | (simp; omega))) _ | with_reducible refine below_step (by assumption) ?_))
  clear hW
  clear hb1 hb2 d2 dW1 dW3 i1 z2
  go_cut [17] (fun s18 w' => ∃ g : Nat, s18 = .pointer (some ⟨g, 0, none⟩) ∧ B2 w' g (.int .i64 (p0 + n0)) (.int .i64 (p1 + m0)) ∧ Below W3.heap.size W3 w')
  case first =>
    have HNW := Lib.hid (fun W hW => HN.out A m c W (Pol.below P hW))
    have KS := Lib.hid (show ∀ w', Below W3.heap.size W3 w' → (B2 w' w1.heap.size (.int .i64 R) (.slice A m c) ∧ B2 w' w2.heap.size (.int .i64 p0) (.int .i64 p1) ∧ Below W3.heap.size W3 w') from fun w' hb => ⟨XS.below hb, XP.below hb, hb⟩)
    go_region_held3 (fun w' => B2 w' w1.heap.size (.int .i64 R) (.slice A m c) ∧ B2 w' w2.heap.size (.int .i64 p0) (.int .i64 p1) ∧ Below W3.heap.size W3 w') (refine KS.out _ (by repeat (first | with_reducible exact Below.refl _ _ | with_reducible refine below_alloc ?_ _ | with_reducible refine Below.drew ?_ | with_reducible refine below_set ?_ (by (first | (simp; done) | (simp; omega))) _ | with_reducible refine below_step (by assumption) ?_)))
      (first
        | (go_at_call 31; refine (HNW.out _ (‹_ ∧ _ ∧ Below W3.heap.size W3 _›).2.2).mono ?_; rintro e w9 ⟨rfl, hb9⟩; obtain ⟨hc9, hf9, hx9, hy9, hn9, hz9⟩ := bcellA hb9; (try simp at hz9); (try have ltw9_0 : W3.heap.size < w9.heap.size := by omega); (try have lew9_0 : W3.heap.size ≤ w9.heap.size := by omega))
        | (go_at_call 30; refine (Add_any _ _ _ _ _ (by omega) (by omega) (by omega) (by omega)).mono ?_; rintro e w8 ⟨rfl, hb8⟩; obtain ⟨hc8, hf8, hx8, hy8, hn8, hz8⟩ := bcellA hb8; (try simp at hz8); (try have ltw8_0 : W3.heap.size < w8.heap.size := by omega); (try have lew8_0 : W3.heap.size ≤ w8.heap.size := by omega); (try have ltw8_1 : w9.heap.size < w8.heap.size := by omega); (try have lew8_1 : w9.heap.size ≤ w8.heap.size := by omega)))
    all_goals (rename _ ∧ _ ∧ Below W3.heap.size W3 _ => hS; go_wp2_with fail; go_meet; exact ⟨_, rfl, (by unfold B2 Cel; simp (maxDischargeDepth := 6) [go_sem, World.cell?_setCell_same', *]), hS.2.2⟩)
  case rest =>
    rename World => w4
    obtain ⟨g, rfl, XV, d4⟩ := hcut
    replace P := P.below d4
    replace XS := XS.below d4
    replace XP := XP.below d4
    have i4 := i3.trans (d4.mono i3.size)
    clear d4 lP lXS lXP
    have hC := Contains_any R p0 p1 (p0 + n0) (p1 + m0) A m c vs
    generalize hcv : cov R vs (p0 + n0 - p0, p1 + m0 - p1) = cv at *
    have HC := Lib.hid hC; clear hC
    go_wp2_with fail
    refine (HC.out _ P HS.out (by omega) (by omega) (by omega) (by omega)).mono ?_
    rintro e w5 ⟨rfl, hb5⟩; have d5 : Below w4.heap.size w4 w5 := below_step hb5 (by repeat (first | with_reducible exact Below.refl _ _ | with_reducible refine below_alloc ?_ _ | with_reducible refine Below.drew ?_ | with_reducible refine below_set ?_ (by (first | (simp; done) | (simp; omega))) _ | with_reducible refine below_step (by assumption) ?_)); have z5 := hb5.size; (try simp at z5); replace P := P.below d5; (try clear lP); have lP := P.lt; replace XS := XS.below d5; (try clear lXS); have lXS := XS.lt; replace XP := XP.below d5; (try clear lXP); have lXP := XP.lt; replace XV := XV.below d5; (try clear lXV); have lXV := XV.lt
    have i5 : Below w.heap.size w w5 := (by repeat (first | with_reducible exact Below.refl _ _ | with_reducible refine below_alloc ?_ _ | with_reducible refine Below.drew ?_ | with_reducible refine below_set ?_ (by (first | (simp; done) | (simp; omega))) _ | with_reducible refine below_step (by assumption) ?_))
    clear HC HN d5 i4 hb5
    by_cases hc : cv = true
    · subst hc
      have hP1' := hP1 rfl
      obtain ⟨j1, j2⟩ := hP1'
      clear hP1
      go_wp2_with fail
      refine (HAX.out _).mono ?_
      rintro e w6 ⟨rfl, hb6⟩; have d6 : Below w5.heap.size w5 w6 := below_step hb6 (by repeat (first | with_reducible exact Below.refl _ _ | with_reducible refine below_alloc ?_ _ | with_reducible refine Below.drew ?_ | with_reducible refine below_set ?_ (by (first | (simp; done) | (simp; omega))) _ | with_reducible refine below_step (by assumption) ?_)); have z6 := hb6.size; (try simp at z6); replace P := P.below d6; (try clear lP); have lP := P.lt; replace XS := XS.below d6; (try clear lXS); have lXS := XS.lt; replace XP := XP.below d6; (try clear lXP); have lXP := XP.lt; replace XV := XV.below d6; (try clear lXV); have lXV := XV.lt
      go_wp2_with fail
      refine calls_at ?_; intro W7 hW; have dW7 : Below w6.heap.size w6 W7 := (by rw [hW]; exact (by repeat (first | with_reducible exact Below.refl _ _ | with_reducible refine below_alloc ?_ _ | with_reducible refine Below.drew ?_ | with_reducible refine below_set ?_ (by (first | (simp; done) | (simp; omega))) _ | with_reducible refine below_step (by assumption) ?_))); replace P := P.below dW7; (try clear lP); have lP := P.lt; replace XS := XS.below dW7; (try clear lXS); have lXS := XS.lt; replace XP := XP.below dW7; (try clear lXP); have lXP := XP.lt; replace XV := XV.below dW7; (try clear lXV); have lXV := XV.lt
      have XA : B2 W7 (w6.heap.size) (.int .i64 (b0)) (.int .i64 (b1)) := (by rw [hW]; unfold B2 Cel; simp [go_sem]); have lXA := XA.lt
      have i7 : Below w.heap.size w W7 := (by repeat (first | with_reducible exact Below.refl _ _ | with_reducible refine below_alloc ?_ _ | with_reducible refine Below.drew ?_ | with_reducible refine below_set ?_ (by (first | (simp; done) | (simp; omega))) _ | with_reducible refine below_step (by assumption) ?_))
      clear hW
      refine (Project_any R p0 p1 b0 b1 _ _ _ vs _ P HS.out (by omega) (by omega) (by omega) (by omega)).mono ?_
      rintro e w7 ⟨rfl, hb7⟩; have d7 : Below W7.heap.size W7 w7 := below_step hb7 (by repeat (first | with_reducible exact Below.refl _ _ | with_reducible refine below_alloc ?_ _ | with_reducible refine Below.drew ?_ | with_reducible refine below_set ?_ (by (first | (simp; done) | (simp; omega))) _ | with_reducible refine below_step (by assumption) ?_)); have z7 := hb7.size; (try simp at z7); replace P := P.below d7; (try clear lP); have lP := P.lt; replace XS := XS.below d7; (try clear lXS); have lXS := XS.lt; replace XP := XP.below d7; (try clear lXP); have lXP := XP.lt; replace XV := XV.below d7; (try clear lXV); have lXV := XV.lt; replace XA := XA.below d7; (try clear lXA); have lXA := XA.lt
      go_wp2_with fail
      refine (Dot_any (p0 + n0) (p1 + m0) b0 b1 _ (by omega) (by omega) (by omega) (by omega)).mono ?_
      rintro e w8 ⟨rfl, hb8⟩; have d8 : Below w7.heap.size w7 w8 := below_step hb8 (by repeat (first | with_reducible exact Below.refl _ _ | with_reducible refine below_alloc ?_ _ | with_reducible refine Below.drew ?_ | with_reducible refine below_set ?_ (by (first | (simp; done) | (simp; omega))) _ | with_reducible refine below_step (by assumption) ?_)); have z8 := hb8.size; (try simp at z8); replace P := P.below d8; (try clear lP); have lP := P.lt; replace XS := XS.below d8; (try clear lXS); have lXS := XS.lt; replace XP := XP.below d8; (try clear lXP); have lXP := XP.lt; replace XV := XV.below d8; (try clear lXV); have lXV := XV.lt
      have i8 : Below w.heap.size w w8 := (by repeat (first | with_reducible exact Below.refl _ _ | with_reducible refine below_alloc ?_ _ | with_reducible refine Below.drew ?_ | with_reducible refine below_set ?_ (by (first | (simp; done) | (simp; omega))) _ | with_reducible refine below_step (by assumption) ?_))
      clear hb6 hb7 hb8 d6 d7 d8 dW7 z6 z7 z8 i7 i5
      generalize plo R vs p0 p1 b0 b1 = r0 at *
      generalize phi R vs p0 p1 b0 b1 = r1 at *
      generalize dotz (p0 + n0) (p1 + m0) b0 b1 = r2 at *
      have k1 : ¬ r2 < r0 := by omega
      have k2 : ¬ r1 < r2 := by omega
      by_cases hv : vs = []
      · obtain ⟨rfl, rfl, rfl⟩ := P.nil hv
        clear hcv
        go_wp2_with fail
        refine (lives3_any _).mono ?_
        rintro e w9 ⟨rfl, hb9⟩
        go_wp2_with fail
        go_ret
        exact ⟨rfl, i8.trans (hb9.mono i8.size)⟩
      · obtain ⟨rfl, hV0⟩ := HV.out.poly hv
        have hP2 := cov_proj_poly hV0 hv p0 p1 (p0 + n0) (p1 + m0) a0 a1 hcv
        obtain ⟨j3, j4⟩ := hP2
        obtain ⟨b, -, hm0, -⟩ := P.at_ hv
        have hm1 : (0 : Int) < (m : Int) := by omega
        clear hcv hV0
        have HNV := Lib.hid hv; clear hv
        go_wp2_with fail
        refine (HO2.out _).mono ?_
        rintro e w9 ⟨rfl, hb9⟩; have d9 : Below w8.heap.size w8 w9 := below_step hb9 (by repeat (first | with_reducible exact Below.refl _ _ | with_reducible refine below_alloc ?_ _ | with_reducible refine Below.drew ?_ | with_reducible refine below_set ?_ (by (first | (simp; done) | (simp; omega))) _ | with_reducible refine below_step (by assumption) ?_)); have z9 := hb9.size; (try simp at z9); replace P := P.below d9; (try clear lP); have lP := P.lt; replace XS := XS.below d9; (try clear lXS); have lXS := XS.lt; replace XP := XP.below d9; (try clear lXP); have lXP := XP.lt; replace XV := XV.below d9; (try clear lXV); have lXV := XV.lt
        go_wp2_with fail
        refine calls_at ?_; intro W10 hW; have dW10 : Below w9.heap.size w9 W10 := (by rw [hW]; exact (by repeat (first | with_reducible exact Below.refl _ _ | with_reducible refine below_alloc ?_ _ | with_reducible refine Below.drew ?_ | with_reducible refine below_set ?_ (by (first | (simp; done) | (simp; omega))) _ | with_reducible refine below_step (by assumption) ?_))); replace P := P.below dW10; (try clear lP); have lP := P.lt; replace XS := XS.below dW10; (try clear lXS); have lXS := XS.lt; replace XP := XP.below dW10; (try clear lXP); have lXP := XP.lt; replace XV := XV.below dW10; (try clear lXV); have lXV := XV.lt
        have XO : B2 W10 (w9.heap.size) (.int .i64 (a0)) (.int .i64 (a1)) := (by rw [hW]; unfold B2 Cel; simp [go_sem]); have lXO := XO.lt
        have i10 : Below w.heap.size w W10 := (by repeat (first | with_reducible exact Below.refl _ _ | with_reducible refine below_alloc ?_ _ | with_reducible refine Below.drew ?_ | with_reducible refine below_set ?_ (by (first | (simp; done) | (simp; omega))) _ | with_reducible refine below_step (by assumption) ?_))
        clear hW
        refine (Project_any 0 p0 p1 a0 a1 _ _ _ vs _ P HS.out (by omega) (by omega) (by omega) (by omega)).mono ?_
        rintro e w10 ⟨rfl, hb10⟩; have d10 : Below W10.heap.size W10 w10 := below_step hb10 (by repeat (first | with_reducible exact Below.refl _ _ | with_reducible refine below_alloc ?_ _ | with_reducible refine Below.drew ?_ | with_reducible refine below_set ?_ (by (first | (simp; done) | (simp; omega))) _ | with_reducible refine below_step (by assumption) ?_)); have z10 := hb10.size; (try simp at z10); replace P := P.below d10; (try clear lP); have lP := P.lt; replace XS := XS.below d10; (try clear lXS); have lXS := XS.lt; replace XP := XP.below d10; (try clear lXP); have lXP := XP.lt; replace XV := XV.below d10; (try clear lXV); have lXV := XV.lt; replace XO := XO.below d10; (try clear lXO); have lXO := XO.lt
        go_wp2_with fail
        refine (Dot_any (p0 + n0) (p1 + m0) a0 a1 _ (by omega) (by omega) (by omega) (by omega)).mono ?_
        rintro e w11 ⟨rfl, hb11⟩; have d11 : Below w10.heap.size w10 w11 := below_step hb11 (by repeat (first | with_reducible exact Below.refl _ _ | with_reducible refine below_alloc ?_ _ | with_reducible refine Below.drew ?_ | with_reducible refine below_set ?_ (by (first | (simp; done) | (simp; omega))) _ | with_reducible refine below_step (by assumption) ?_)); have z11 := hb11.size; (try simp at z11); replace P := P.below d11; (try clear lP); have lP := P.lt
        have i11 : Below w.heap.size w w11 := (by repeat (first | with_reducible exact Below.refl _ _ | with_reducible refine below_alloc ?_ _ | with_reducible refine Below.drew ?_ | with_reducible refine below_set ?_ (by (first | (simp; done) | (simp; omega))) _ | with_reducible refine below_step (by assumption) ?_))
        generalize plo 0 vs p0 p1 a0 a1 = r3 at *
        generalize phi 0 vs p0 p1 a0 a1 = r4 at *
        generalize dotz (p0 + n0) (p1 + m0) a0 a1 = r5 at *
        have k3 : ¬ r5 < r3 := by omega
        have k4 : ¬ r4 < r5 := by omega
        go_wp2_with fail
        refine (lives3_any _).mono ?_
        rintro e w12 ⟨rfl, hb12⟩
        go_wp2_with fail
        go_ret
        exact ⟨rfl, i11.trans (hb12.mono i11.size)⟩
    · obtain rfl : cv = false := by simpa using hc
      clear hP1 hc hcv
      go_wp2_with fail
      refine (lives3_any _).mono ?_
      rintro e w6 ⟨rfl, hb6⟩
      go_wp2_with fail
      go_ret
      exact ⟨rfl, i5.trans (hb6.mono i5.size)⟩

theorem own : ownKnob Try.prog.godebug = none := by kernel_rfl
theorem laidOut : laidOutB Try.prog = true := by kernel_rfl

set_option maxRecDepth 100000 in
theorem lifted (os : Os) (started : os.Started) (H : Type) (enc : TypeId × Value → H) :
    ReturnsInHanded {} Try.checked os 7 .any (Rows.shapeProjectionSpec.pre6 enc Try.prog Try.f7 Rows.shapeProjectionRow.domain false) (Rows.shapeProjectionSpec.post enc Try.prog Try.f7 false true false false) := by
  refine returnsInHanded_of_change (C := Try.checked) own started (by kernel_rfl) Try.func7
    (ChangeSpec.witness6 (enc := enc) (C := Try.checked) false ⟨#[], #[.int .i64 0, .int .i64 0, .int .i64 0, .int .i64 0, .int .i64 0, .int .i64 0, .int .i64 0], []⟩ 8 (by kernel_rfl) (by kernel_rfl) (by kernel_rfl) (by kernel_rfl)) ?_
  intro W base args ds gs before hval0 hW hcnd _
  have hval : ∀ (j : Nat) t v, Try.f7.params[j]? = some t → args[j]? = some v → Value.okWide Try.prog W .any base t v := hval0
  have hW' := hW
  obtain ⟨p, q, hA0, hV, rfl, hfz, hnd⟩ := hW
  have hA : DataW.TrodAll enc Try.prog W 0 (fun _ => true) true Try.f7.params.toList args.toList ds p := hA0
  rw [Try.params7] at hA hval
  obtain ⟨v0, vs0, d0, ds0, p0, q0, hargs, rfl, rfl, h0, r0⟩ := trodAll_cons hA
  obtain ⟨v1, vs1, d1, ds1, p1, q1, rfl, rfl, rfl, h1, r1⟩ := trodAll_cons r0
  obtain ⟨v2, vs2, d2, ds2, p2, q2, rfl, rfl, rfl, h2, r2⟩ := trodAll_cons r1
  obtain ⟨v3, vs3, d3, ds3, p3, q3, rfl, rfl, rfl, h3, r3⟩ := trodAll_cons r2
  obtain ⟨v4, vs4, d4, ds4, p4, q4, rfl, rfl, rfl, h4, r4⟩ := trodAll_cons r3
  obtain ⟨v5, vs5, d5, ds5, p5, q5, rfl, rfl, rfl, h5, r5⟩ := trodAll_cons r4
  obtain ⟨v6, vs6, d6, ds6, p6, q6, rfl, rfl, rfl, h6, r6⟩ := trodAll_cons r5
  obtain ⟨rfl, rfl, rfl⟩ := trodAll_nil r6
  obtain rfl : args = #[v0, v1, v2, v3, v4, v5, v6] := by cases args; simp_all
  obtain ⟨rfl, rfl⟩ := trodVars_none hV
  obtain ⟨a0, rfl, rfl, rfl, w0⟩ := open_int Try.underlying3 (hval 0 3 v0 rfl rfl) h0
  obtain ⟨a1, rfl, rfl, rfl, w1⟩ := open_int Try.underlying3 (hval 1 3 v1 rfl rfl) h1
  obtain ⟨a2, rfl, rfl, rfl, w2⟩ := open_int Try.underlying3 (hval 2 3 v2 rfl rfl) h2
  obtain ⟨a3, rfl, rfl, rfl, w3⟩ := open_int Try.underlying3 (hval 3 3 v3 rfl rfl) h3
  obtain ⟨a4, rfl, rfl, rfl, w4⟩ := open_int Try.underlying3 (hval 4 3 v4 rfl rfl) h4
  obtain ⟨a5, rfl, rfl, rfl, w5⟩ := open_int Try.underlying3 (hval 5 3 v5 rfl rfl) h5
  obtain ⟨a6, rfl, rfl, rfl, w6⟩ := open_int Try.underlying3 (hval 6 3 v6 rfl rfl) h6
  clear hA0 hval0
  refine (walk a0 (bounds_i64 w0).1 (bounds_i64 w0).2 a1 (bounds_i64 w1).1 (bounds_i64 w1).2 a2 (bounds_i64 w2).1 (bounds_i64 w2).2 a3 (bounds_i64 w3).1 (bounds_i64 w3).2 a4 (bounds_i64 w4).1 (bounds_i64 w4).2 a5 (bounds_i64 w5).1 (bounds_i64 w5).2 a6 (bounds_i64 w6).1 (bounds_i64 w6).2 W).mono fun e W' ⟨he, bel⟩ => ?_
  subst he
  exact ⟨_, rfl, _, _, _, [], _, [], hW', trodAll_mk1 (shut_bool Try.underlying4 _), (trodAll_cons_mk (shut_int Try.underlying3 w0) (trodAll_cons_mk (shut_int Try.underlying3 w1) (trodAll_cons_mk (shut_int Try.underlying3 w2) (trodAll_cons_mk (shut_int Try.underlying3 w3) (trodAll_cons_mk (shut_int Try.underlying3 w4) (trodAll_cons_mk (shut_int Try.underlying3 w5) (trodAll_cons_mk (shut_int Try.underlying3 w6) trodAll_mk0))))))), rfl, bel.frame _, fun h => by cases h⟩

theorem closed : joinedFacts Try.prog 7 Try.f7 Rows.shapeProjectionSpec Rows.shapeProjectionRow = true := by
  unfold joinedFacts
  repeat' (with_reducible refine both_of ?_ ?_)
  all_goals (first | with_reducible exact mayEnter_ok | (rw [liftsFinal_is]; as_aux_lemma => kernel_rfl) | (rw [make_is]; as_aux_lemma => kernel_rfl) | (as_aux_lemma => kernel_rfl))

theorem over : Rows.shapeProjectionRow.holds Try.pinned (OpenSpec.ofChange Rows.shapeProjectionSpec) :=
  OpenClaim.holds_of_wide 7 Try.f7 rfl rfl rfl rfl rfl rfl rfl ⟨rfl, rfl, rfl, rfl, rfl⟩ rfl rfl rfl rfl rfl (by kernel_rfl) Try.func7 closed
    (of_decide_eq_true (by kernel_rfl)) (by unfold Func.isWrapper; first | (rw [if_pos (by decide +kernel)]; kernel_rfl) | (rw [if_neg (by decide +kernel)]; exact ⟨rfl, rfl⟩))
    (fun os started H enc _ => lifted os started H enc)

theorem proved : Rows.ShapeProjectionSaid := over
#print axioms proved

end Go.Proofs.Ytipcppbbpmdijaa.shapeProjection
