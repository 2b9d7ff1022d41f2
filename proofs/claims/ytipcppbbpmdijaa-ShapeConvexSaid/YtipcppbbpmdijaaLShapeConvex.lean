/-
  ShapeConvex: a shape covers the middle of two points that it covers, its position and its vertices. Conditions: none.
-/
import Derived.Test.YtipcppbbpmdijaaRows
import Derived.Test.YtipcppbbpmdijaaHead
import Derived.Test.YtipcppbbpmdijaaOpen
import Derived.Test.YtipcppbbpmdijaaNear
namespace Go.Proofs.Ytipcppbbpmdijaa.shapeConvex
open Go.ChangeShapes Go.WideShapes Go.ChangeAt Go.RowKit Go.Sort
attribute [local go_sem ↓] Go.wp_at_zero Go.wp_at_succ

set_option maxRecDepth 100000 in
set_option maxHeartbeats 4000000 in
theorem walk (n : Int) (ln : -9223372036854775808 ≤ n) (un : n ≤ 9223372036854775807) (x : Int) (lx : -9223372036854775808 ≤ x) (ux : x ≤ 9223372036854775807) (y : Int) (ly : -9223372036854775808 ≤ y) (uy : y ≤ 9223372036854775807) (e : Int) (le : -9223372036854775808 ≤ e) (ue : e ≤ 9223372036854775807) (f : Int) (lf : -9223372036854775808 ≤ f) (uf : f ≤ 9223372036854775807) (g : Int) (lg : -9223372036854775808 ≤ g) (ug : g ≤ 9223372036854775807) (h : Int) (lh : -9223372036854775808 ≤ h) (uh : h ≤ 9223372036854775807) (w : World) :
    Calls Try.prog 5 #[.int .i64 n, .int .i64 x, .int .i64 y, .agg #[.int .i64 e, .int .i64 f], .agg #[.int .i64 g, .int .i64 h]] w fun E w' => E = .returned (.bool true) ∧ Below w.heap.size w w' := by
  have hG := shape_gs n
  have hS := hG.sn
  have hV := hG.valid
  have hSh := fun W => Shape_any n W ln un
  have tx := tdiv8 lx ux
  have ty := tdiv8 ly uy
  generalize shR n = R at *
  generalize shV n = vs at *
  have n1 := (nr_bd hS e f).1
  have n2 := (nr_bd hS e f).2
  have n3 := (nr_bd hS g h).1
  have n4 := (nr_bd hS g h).2
  have HN1 := Lib.hid (fun A c m W P => near_any R e f A c m vs W P hS le ue lf uf)
  have HN2 := Lib.hid (fun A c m W P => near_any R g h A c m vs W P hS lg ug lh uh)
  have HO1 := Lib.hid (fun W => Of_any (x.tdiv 8) (y.tdiv 8) W tx.1 tx.2 ty.1 ty.2)
  have o1 := ofX_bd (x.tdiv 8)
  have o2 := ofY_bd (x.tdiv 8) (y.tdiv 8)
  generalize ofX (x.tdiv 8) = p0 at *
  generalize ofY (x.tdiv 8) (y.tdiv 8) = p1 at *
  generalize nrX R vs e = a0 at *
  generalize nrY R vs f = a1 at *
  generalize nrX R vs g = b0 at *
  generalize nrY R vs h = b1 at *
  obtain ⟨r0, hr0, tr0⟩ : ∃ r, (a0 + b0).tmod 2 = r ∧ -1 ≤ r ∧ r ≤ 1 := ⟨_, rfl, by have := tmod_bd (a0 + b0) (c := 2) (by decide); omega⟩
  obtain ⟨r1, hr1, tr1⟩ : ∃ r, (a1 + b1).tmod 2 = r ∧ -1 ≤ r ∧ r ≤ 1 := ⟨_, rfl, by have := tmod_bd (a1 + b1) (c := 2) (by decide); omega⟩
  obtain ⟨g0, hg0, tg0⟩ : ∃ q, (a0 + (b0 + r0)).tdiv 2 = q ∧ 2 * q = a0 + (b0 + r0) := ⟨_, rfl, by have q1 := Int.mul_tdiv_add_tmod (a0 + b0) 2; have q2 := Int.mul_tdiv_add_tmod (a0 + (b0 + r0)) 2; have := tmod_bd (a0 + (b0 + r0)) (c := 2) (by decide); omega⟩
  obtain ⟨g1, hg1, tg1⟩ : ∃ q, (a1 + (b1 + r1)).tdiv 2 = q ∧ 2 * q = a1 + (b1 + r1) := ⟨_, rfl, by have q1 := Int.mul_tdiv_add_tmod (a1 + b1) 2; have q2 := Int.mul_tdiv_add_tmod (a1 + (b1 + r1)) 2; have := tmod_bd (a1 + (b1 + r1)) (c := 2) (by decide); omega⟩
  have hCp := fun A c m W P => Contains_any R p0 p1 (p0 + a0) (p1 + a1) A m c vs W P hS (by omega) (by omega) (by omega) (by omega)
  rw [show p0 + a0 - p0 = a0 by omega, show p1 + a1 - p1 = a1 by omega] at hCp
  have hCq := fun A c m W P => Contains_any R p0 p1 (p0 + (b0 + r0)) (p1 + (b1 + r1)) A m c vs W P hS (by omega) (by omega) (by omega) (by omega)
  rw [show p0 + (b0 + r0) - p0 = b0 + r0 by omega, show p1 + (b1 + r1) - p1 = b1 + r1 by omega] at hCq
  have hCm := fun A c m W P => Contains_any R p0 p1 (p0 + g0) (p1 + g1) A m c vs W P hS (by omega) (by omega) (by omega) (by omega)
  rw [show p0 + g0 - p0 = g0 by omega, show p1 + g1 - p1 = g1 by omega] at hCm
  have hCo := fun A c m W P => Contains_any R p0 p1 p0 p1 A m c vs W P hS (by omega) (by omega) (by omega) (by omega)
  rw [show (p0 - p0, p1 - p1) = ((0, 0) : V2) by simp, cov_zero hV] at hCo
  have hmid := fun h1 h2 => cov_mid hV (p := (a0, a1)) (q := (b0 + r0, b1 + r1)) (m := (g0, g1)) h1 h2 tg0 tg1
  have hvt := fun (k : Nat) (hk : k < vs.length) => cov_vtx hV hk
  generalize cov R vs (a0, a1) = cp at *
  generalize cov R vs (b0 + r0, b1 + r1) = cq at *
  generalize cov R vs (g0, g1) = cm at *
  have HCP := Lib.hid hCp; clear hCp
  have HCQ := Lib.hid hCq; clear hCq
  have HCM := Lib.hid hCm; clear hCm
  have HCO := Lib.hid hCo; clear hCo
  have HMID := Lib.hid hmid; clear hmid
  have HVT := Lib.hid hvt; clear hvt
  have HSH := Lib.hid hSh; clear hSh
  have HS := Lib.hid hS; clear hS
  clear hV hG
  go_enter Try.func5, Try.ntmps5
  go_wp2_with fail
  refine calls_at ?_; intro W0 hW; have dW0 : Below w.heap.size w W0 := (by rw [hW]; exact (by repeat (first | with_reducible exact Below.refl _ _ | with_reducible refine below_alloc ?_ _ | with_reducible refine Below.drew ?_ | with_reducible refine below_set ?_ (by (first | (simp; done) | (simp; omega))) _ | with_reducible refine below_step (by assumption) ?_)))
  have XE : B2 W0 (w.heap.size) (.int .i64 (e)) (.int .i64 (f)) := (by rw [hW]; unfold B2 Cel; simp [go_sem]); have lXE := XE.lt
  have XF : B2 W0 (w.heap.size + 1) (.int .i64 (g)) (.int .i64 (h)) := (by rw [hW]; unfold B2 Cel; simp [go_sem]); have lXF := XF.lt
  clear hW
  refine (HSH.out _).mono ?_
  rintro E w1 ⟨A, m, c, rfl, P, hb1, -⟩
  replace XE := XE.below hb1; replace XF := XF.below hb1; clear lXE lXF; have lXE := XE.lt; have lXF := XF.lt
  go_wp2_with fail
  refine calls_at ?_; intro W1 hW; have dW1 : Below w1.heap.size w1 W1 := (by rw [hW]; exact (by repeat (first | with_reducible exact Below.refl _ _ | with_reducible refine below_alloc ?_ _ | with_reducible refine Below.drew ?_ | with_reducible refine below_set ?_ (by (first | (simp; done) | (simp; omega))) _ | with_reducible refine below_step (by assumption) ?_))); replace P := P.below dW1; (try clear lP); have lP := P.lt; replace XE := XE.below dW1; (try clear lXE); have lXE := XE.lt; replace XF := XF.below dW1; (try clear lXF); have lXF := XF.lt
  have XS : B2 W1 w1.heap.size (.int .i64 R) (.slice A m c) := (by rw [hW]; unfold B2 Cel; simp [go_sem])
  have i1 : Below w.heap.size w W1 := (by repeat (first | with_reducible exact Below.refl _ _ | with_reducible refine below_alloc ?_ _ | with_reducible refine Below.drew ?_ | with_reducible refine below_set ?_ (by (first | (simp; done) | (simp; omega))) _ | with_reducible refine below_step (by assumption) ?_))
  clear hW
  refine (HO1.out _).mono ?_
  rintro e w2 ⟨rfl, hb2⟩; have d2 : Below W1.heap.size W1 w2 := below_step hb2 (by repeat (first | with_reducible exact Below.refl _ _ | with_reducible refine below_alloc ?_ _ | with_reducible refine Below.drew ?_ | with_reducible refine below_set ?_ (by (first | (simp; done) | (simp; omega))) _ | with_reducible refine below_step (by assumption) ?_)); have z2 := hb2.size; (try simp at z2); replace P := P.below d2; (try clear lP); have lP := P.lt; replace XS := XS.below d2; (try clear lXS); have lXS := XS.lt; replace XE := XE.below d2; (try clear lXE); have lXE := XE.lt; replace XF := XF.below d2; (try clear lXF); have lXF := XF.lt
  go_wp2_with fail
  refine calls_at ?_; intro W3 hW; have dW3 : Below w2.heap.size w2 W3 := (by rw [hW]; exact (by repeat (first | with_reducible exact Below.refl _ _ | with_reducible refine below_alloc ?_ _ | with_reducible refine Below.drew ?_ | with_reducible refine below_set ?_ (by (first | (simp; done) | (simp; omega))) _ | with_reducible refine below_step (by assumption) ?_))); replace P := P.below dW3; (try clear lP); have lP := P.lt; replace XS := XS.below dW3; (try clear lXS); have lXS := XS.lt; replace XE := XE.below dW3; (try clear lXE); have lXE := XE.lt; replace XF := XF.below dW3; (try clear lXF); have lXF := XF.lt
  have XP : B2 W3 (w2.heap.size) (.int .i64 (p0)) (.int .i64 (p1)) := (by rw [hW]; unfold B2 Cel; simp [go_sem]); have lXP := XP.lt
  have i3 : Below w.heap.size w W3 := (by repeat (first | with_reducible exact Below.refl _ _ | with_reducible refine below_alloc ?_ _ | with_reducible refine Below.drew ?_ | with_reducible refine below_set ?_ (by (first | (simp; done) | (simp; omega))) _ | with_reducible refine below_step (by assumption) ?_))
  clear hW
  refine (HN1.out _ _ _ _ P).mono ?_
  rintro e w4 ⟨rfl, hb4⟩; have d4 : Below W3.heap.size W3 w4 := below_step hb4 (by repeat (first | with_reducible exact Below.refl _ _ | with_reducible refine below_alloc ?_ _ | with_reducible refine Below.drew ?_ | with_reducible refine below_set ?_ (by (first | (simp; done) | (simp; omega))) _ | with_reducible refine below_step (by assumption) ?_)); have z4 := hb4.size; (try simp at z4); replace P := P.below d4; (try clear lP); have lP := P.lt; replace XS := XS.below d4; (try clear lXS); have lXS := XS.lt; replace XE := XE.below d4; (try clear lXE); have lXE := XE.lt; replace XF := XF.below d4; (try clear lXF); have lXF := XF.lt; replace XP := XP.below d4; (try clear lXP); have lXP := XP.lt
  go_wp2_with fail
  refine calls_at ?_; intro W5 hW; have dW5 : Below w4.heap.size w4 W5 := (by rw [hW]; exact (by repeat (first | with_reducible exact Below.refl _ _ | with_reducible refine below_alloc ?_ _ | with_reducible refine Below.drew ?_ | with_reducible refine below_set ?_ (by (first | (simp; done) | (simp; omega))) _ | with_reducible refine below_step (by assumption) ?_))); replace P := P.below dW5; (try clear lP); have lP := P.lt; replace XS := XS.below dW5; (try clear lXS); have lXS := XS.lt; replace XE := XE.below dW5; (try clear lXE); have lXE := XE.lt; replace XF := XF.below dW5; (try clear lXF); have lXF := XF.lt; replace XP := XP.below dW5; (try clear lXP); have lXP := XP.lt
  have XQ : B2 W5 (w4.heap.size) (.int .i64 (a0)) (.int .i64 (a1)) := (by rw [hW]; unfold B2 Cel; simp [go_sem]); have lXQ := XQ.lt
  have i5 : Below w.heap.size w W5 := (by repeat (first | with_reducible exact Below.refl _ _ | with_reducible refine below_alloc ?_ _ | with_reducible refine Below.drew ?_ | with_reducible refine below_set ?_ (by (first | (simp; done) | (simp; omega))) _ | with_reducible refine below_step (by assumption) ?_))
  clear hW
  refine (HN2.out _ _ _ _ P).mono ?_
  rintro e w6 ⟨rfl, hb6⟩; have d6 : Below W5.heap.size W5 w6 := below_step hb6 (by repeat (first | with_reducible exact Below.refl _ _ | with_reducible refine below_alloc ?_ _ | with_reducible refine Below.drew ?_ | with_reducible refine below_set ?_ (by (first | (simp; done) | (simp; omega))) _ | with_reducible refine below_step (by assumption) ?_)); have z6 := hb6.size; (try simp at z6); replace P := P.below d6; (try clear lP); have lP := P.lt; replace XS := XS.below d6; (try clear lXS); have lXS := XS.lt; replace XP := XP.below d6; (try clear lXP); have lXP := XP.lt; replace XQ := XQ.below d6; (try clear lXQ); have lXQ := XQ.lt
  have i6 : Below w.heap.size w w6 := (by repeat (first | with_reducible exact Below.refl _ _ | with_reducible refine below_alloc ?_ _ | with_reducible refine Below.drew ?_ | with_reducible refine below_set ?_ (by (first | (simp; done) | (simp; omega))) _ | with_reducible refine below_step (by assumption) ?_))
  clear XE XF lXE lXF hb1 hb2 hb4 hb6 dW0 dW1 dW3 dW5 d2 d4 d6 z2 z4 z6 i1 i3 i5
  go_upto_region 8 with fail
  go_cut [91] (fun s91 w' => s91 = .bool false ∧ Below w6.heap.size w6 w')
  case first =>
    refine code_named ?_; intro W7 hW; have dW7 : Below w6.heap.size w6 W7 := (by rw [hW]; exact (by repeat (first | with_reducible exact Below.refl _ _ | with_reducible refine below_alloc ?_ _ | with_reducible refine Below.drew ?_ | with_reducible refine below_set ?_ (by (first | (simp; done) | (simp; omega))) _ | with_reducible refine below_step (by assumption) ?_))); replace P := P.below dW7; (try clear lP); have lP := P.lt; replace XS := XS.below dW7; (try clear lXS); have lXS := XS.lt; replace XP := XP.below dW7; (try clear lXP); have lXP := XP.lt; replace XQ := XQ.below dW7; (try clear lXQ); have lXQ := XQ.lt
    have XU : B2 W7 (w6.heap.size) (.int .i64 (b0 + r0)) (.int .i64 (b1 + r1)) := (by rw [hW]; unfold B2 Cel; simp [go_sem]); have lXU := XU.lt
    have XM : B2 W7 (w6.heap.size + 1) (.int .i64 (g0)) (.int .i64 (g1)) := (by rw [hW]; unfold B2 Cel; simp [go_sem]); have lXM := XM.lt
    clear hW
    have hPC := Lib.hid (fun (d : Nat) (os : Array Obj) => P.re d os)
    cases cp with
    | false =>
      have KXS := XS.re; have KXP := XP.re; have KXQ := XQ.re; have KXU := XU.re; have KXM := XM.re; refine wp_region_below (by kernel_rfl) (by kernel_rfl) ?_
      repeat (go_big_quiet_step (first
        | (go_at_call 30; exact met_below (Add_any _ _ _ _ _ (by omega) (by omega) (by omega) (by omega)))
        | (go_at_call 33; first | (with_reducible exact met_below (HCP.out _ _ _ _ (hPC.out _ _))))))
      refine wpQuiet_nil ?_
      intro w10 d10
      go_wp2_with fail
      go_meet
      exact ⟨rfl, (by repeat (first | with_reducible exact Below.refl _ _ | with_reducible refine below_alloc ?_ _ | with_reducible refine Below.drew ?_ | with_reducible refine below_set ?_ (by (first | (simp; done) | (simp; omega))) _ | with_reducible refine below_step (by assumption) ?_))⟩
    | true =>
      cases cq with
      | false =>
        have KXS := XS.re; have KXP := XP.re; have KXQ := XQ.re; have KXU := XU.re; have KXM := XM.re; refine wp_region_below (by kernel_rfl) (by kernel_rfl) ?_
        repeat (go_big_quiet_step (first
          | (go_at_call 30; exact met_below (Add_any _ _ _ _ _ (by omega) (by omega) (by omega) (by omega)))
          | (go_at_call 33; first | (with_reducible exact met_below (HCP.out _ _ _ _ (hPC.out _ _))) | (with_reducible exact met_below (HCQ.out _ _ _ _ (hPC.out _ _))))))
        refine wpQuiet_nil ?_
        intro w10 d10
        go_wp2_with fail
        go_meet
        exact ⟨rfl, (by repeat (first | with_reducible exact Below.refl _ _ | with_reducible refine below_alloc ?_ _ | with_reducible refine Below.drew ?_ | with_reducible refine below_set ?_ (by (first | (simp; done) | (simp; omega))) _ | with_reducible refine below_step (by assumption) ?_))⟩
      | true =>
        obtain rfl := HMID.out rfl rfl
        have KXS := XS.re; have KXP := XP.re; have KXQ := XQ.re; have KXU := XU.re; have KXM := XM.re; refine wp_region_below (by kernel_rfl) (by kernel_rfl) ?_
        repeat (go_big_quiet_step (first
          | (go_at_call 30; exact met_below (Add_any _ _ _ _ _ (by omega) (by omega) (by omega) (by omega)))
          | (go_at_call 33; first | (with_reducible exact met_below (HCP.out _ _ _ _ (hPC.out _ _))) | (with_reducible exact met_below (HCQ.out _ _ _ _ (hPC.out _ _))) | (with_reducible exact met_below (HCM.out _ _ _ _ (hPC.out _ _))))))
        refine wpQuiet_nil ?_
        intro w10 d10
        go_wp2_with fail
        go_meet
        exact ⟨rfl, (by repeat (first | with_reducible exact Below.refl _ _ | with_reducible refine below_alloc ?_ _ | with_reducible refine Below.drew ?_ | with_reducible refine below_set ?_ (by (first | (simp; done) | (simp; omega))) _ | with_reducible refine below_step (by assumption) ?_))⟩
  case rest =>
    rename World => w8
    obtain ⟨rfl, d8⟩ := hcut
    replace P := P.below d8; replace XS := XS.below d8; replace XP := XP.below d8
    have i8 := i6.trans (d8.mono i6.size)
    clear d8 i6 lP lXS lXP lXQ XQ HCP HCQ HCM HMID
    have hml : vs.length = m := P.1
    have HML := Lib.hid hml; clear hml
    have hmm := P.2.2.1
    have hPK := Lib.hid (fun W hW => Pol.below P (W' := W) hW)
    go_wp2_with fail
    go_loopg [16] m (fun gk i wr => ∃ j : Nat, gk + j = m ∧ i = .int .i64 j ∧ Below w8.heap.size w8 wr)
    case atStart => exact ⟨0, by omega, rfl, Below.refl _ _⟩
    case round =>
      obtain ⟨j, hj, rfl, jb⟩ := hrel
      have YP := XP.below jb; have YS := XS.below jb; have Q := P.below jb
      have lYP := YP.lt
      have lYS := YS.lt
      by_cases hlt : j < m
      · have hv : vs ≠ [] := by intro e; have := HML.out; rw [e] at this; simp at this; omega
        obtain ⟨b, rfl, hm0, -, hmc, -, hbl, hcell⟩ := Q.at_ hv
        obtain ⟨⟨x', y'⟩, hv'⟩ : ∃ v, vs[j]? = some v := ⟨_, List.getElem?_eq_getElem (by have := HML.out; omega)⟩
        obtain ⟨hx, hy⟩ := hcell j _ hv'
        have bv := HS.out.2.2 _ (List.mem_of_getElem? hv')
        have hcv := HVT.out j (by have := HML.out; omega)
        rw [vtx_at hv'] at hcv
        dsimp only at hx hy bv
        have hC := fun W P => Contains_any R p0 p1 (p0 + x') (p1 + y') (some ⟨b, 0, none⟩) m c vs W P HS.out (by omega) (by omega) (by omega) (by omega)
        rw [show p0 + x' - p0 = x' by omega, show p1 + y' - p1 = y' by omega, hcv] at hC
        have HC := Lib.hid hC
        have hj1 : (0 : Int) ≤ (j : Int) := by omega
        have hj2 : (j : Int) < (m : Int) := by omega
        have kx := cell_regrown hx
        have ky := cell_regrown hy
        have hPC := Lib.hid (fun (d : Nat) (os : Array Obj) => Q.re d os)
        clear hC hcv hv hv' hcell
        go_wp2_with fail
        have KYS := YS.re; have KYP := YP.re; refine wp_region_below (by kernel_rfl) (by kernel_rfl) ?_
        repeat (go_big_quiet_step (first
          | (go_at_call 30; exact met_below (Add_any _ _ _ _ _ (by omega) (by omega) (by omega) (by omega)))
          | (go_at_call 33; exact met_below (HC.out _ (hPC.out _ _)))))
        refine wpQuiet_nil ?_
        intro w9 d9
        clear kx ky hx hy hPC
        go_wp2_with fail
        go_roundg (m - (j + 1))
        case measure => omega
        case rel => exact ⟨j + 1, by omega, by go_num, jb.trans (d9.mono jb.size)⟩
      · have i9 := i8.trans (jb.mono i8.size)
        obtain rfl : j = m := by omega
        go_wp2_with fail
        refine (HCO.out _ _ _ _ Q).mono ?_
        rintro e' w9 ⟨rfl, hb9⟩
        go_wp2_with fail
        refine (lives3_any _).mono ?_
        rintro e' w10 ⟨rfl, hb10⟩
        go_wp2_with fail
        go_ret
        exact ⟨rfl, (by repeat (first | with_reducible exact Below.refl _ _ | with_reducible refine below_alloc ?_ _ | with_reducible refine Below.drew ?_ | with_reducible refine below_set ?_ (by (first | (simp; done) | (simp; omega))) _ | with_reducible refine below_step (by assumption) ?_))⟩

theorem own : ownKnob Try.prog.godebug = none := by kernel_rfl
theorem laidOut : laidOutB Try.prog = true := by kernel_rfl

set_option maxRecDepth 100000 in
theorem lifted (os : Os) (started : os.Started) (H : Type) (enc : TypeId × Value → H) :
    ReturnsInHanded {} Try.checked os 5 .any (Rows.shapeConvexSpec.pre6 enc Try.prog Try.f5 Rows.shapeConvexRow.domain false) (Rows.shapeConvexSpec.post enc Try.prog Try.f5 false true false false) := by
  refine returnsInHanded_of_change (C := Try.checked) own started (by kernel_rfl) Try.func5
    (ChangeSpec.witness6 (enc := enc) (C := Try.checked) false ⟨#[], #[.int .i64 0, .int .i64 0, .int .i64 0, .agg #[.int .i64 0, .int .i64 0], .agg #[.int .i64 0, .int .i64 0]], []⟩ 8 (by kernel_rfl) (by kernel_rfl) (by kernel_rfl) (by kernel_rfl)) ?_
  intro W base args ds gs before hval0 hW hcnd _
  have hval : ∀ (j : Nat) t v, Try.f5.params[j]? = some t → args[j]? = some v → Value.okWide Try.prog W .any base t v := hval0
  have hW' := hW
  obtain ⟨p, q, hA0, hV, rfl, hfz, hnd⟩ := hW
  have hA : DataW.TrodAll enc Try.prog W 0 (fun _ => true) true Try.f5.params.toList args.toList ds p := hA0
  rw [Try.params5] at hA hval
  obtain ⟨v0, vs0, d0, ds0, p0, q0, hargs, rfl, rfl, h0, r0⟩ := trodAll_cons hA
  obtain ⟨v1, vs1, d1, ds1, p1, q1, rfl, rfl, rfl, h1, r1⟩ := trodAll_cons r0
  obtain ⟨v2, vs2, d2, ds2, p2, q2, rfl, rfl, rfl, h2, r2⟩ := trodAll_cons r1
  obtain ⟨v3, vs3, d3, ds3, p3, q3, rfl, rfl, rfl, h3, r3⟩ := trodAll_cons r2
  obtain ⟨v4, vs4, d4, ds4, p4, q4, rfl, rfl, rfl, h4, r4⟩ := trodAll_cons r3
  obtain ⟨rfl, rfl, rfl⟩ := trodAll_nil r4
  obtain rfl : args = #[v0, v1, v2, v3, v4] := by cases args; simp_all
  obtain ⟨rfl, rfl⟩ := trodVars_none hV
  obtain ⟨a0, rfl, rfl, rfl, w0⟩ := open_int Try.underlying3 (hval 0 3 v0 rfl rfl) h0
  obtain ⟨a1, rfl, rfl, rfl, w1⟩ := open_int Try.underlying3 (hval 1 3 v1 rfl rfl) h1
  obtain ⟨a2, rfl, rfl, rfl, w2⟩ := open_int Try.underlying3 (hval 2 3 v2 rfl rfl) h2
  have k3 := h3
  have lt3 : ∀ x ∈ p3, x.block < W.heap.size := by obtain ⟨m, hm⟩ := k3; exact DataW.trod_lt m _ _ _ hm
  obtain ⟨zs3, rfl, hz3, hw3⟩ := open_arr Try.underlying42 Try.underlying3 (by kernel_rfl) (by kernel_rfl) (hval 3 42 v3 rfl rfl) h3
  obtain ⟨z3_0, z3_1, rfl⟩ := list2 hz3
  have bz3_0 := bounds_i64 (hw3 z3_0 (by simp))
  have bz3_1 := bounds_i64 (hw3 z3_1 (by simp))
  have k4 := h4
  have lt4 : ∀ x ∈ p4, x.block < W.heap.size := by obtain ⟨m, hm⟩ := k4; exact DataW.trod_lt m _ _ _ hm
  obtain ⟨zs4, rfl, hz4, hw4⟩ := open_arr Try.underlying42 Try.underlying3 (by kernel_rfl) (by kernel_rfl) (hval 4 42 v4 rfl rfl) h4
  obtain ⟨z4_0, z4_1, rfl⟩ := list2 hz4
  have bz4_0 := bounds_i64 (hw4 z4_0 (by simp))
  have bz4_1 := bounds_i64 (hw4 z4_1 (by simp))
  clear hA0 hval0
  refine (walk a0 (bounds_i64 w0).1 (bounds_i64 w0).2 a1 (bounds_i64 w1).1 (bounds_i64 w1).2 a2 (bounds_i64 w2).1 (bounds_i64 w2).2 z3_0 bz3_0.1 bz3_0.2 z3_1 bz3_1.1 bz3_1.2 z4_0 bz4_0.1 bz4_0.2 z4_1 bz4_1.1 bz4_1.2 W).mono fun e W' ⟨he, bel⟩ => ?_
  subst he
  exact ⟨_, rfl, _, _, _, [], _, [], hW', trodAll_mk1 (shut_bool Try.underlying4 _), (trodAll_cons_mk (shut_int Try.underlying3 w0) (trodAll_cons_mk (shut_int Try.underlying3 w1) (trodAll_cons_mk (shut_int Try.underlying3 w2) (trodAll_cons_mk (Below.trod laidOut (by kernel_rfl) (of_decide_eq_true (by kernel_rfl)) k3 bel lt3) (trodAll_cons_mk (Below.trod laidOut (by kernel_rfl) (of_decide_eq_true (by kernel_rfl)) k4 bel lt4) trodAll_mk0))))), rfl, bel.frame _, fun h => by cases h⟩

theorem closed : joinedFacts Try.prog 5 Try.f5 Rows.shapeConvexSpec Rows.shapeConvexRow = true := by
  unfold joinedFacts
  repeat' (with_reducible refine both_of ?_ ?_)
  all_goals (first | with_reducible exact mayEnter_ok | (rw [liftsFinal_is]; as_aux_lemma => kernel_rfl) | (rw [make_is]; as_aux_lemma => kernel_rfl) | (as_aux_lemma => kernel_rfl))

theorem over : Rows.shapeConvexRow.holds Try.pinned (OpenSpec.ofChange Rows.shapeConvexSpec) :=
  OpenClaim.holds_of_wide 5 Try.f5 rfl rfl rfl rfl rfl rfl rfl ⟨rfl, rfl, rfl, rfl, rfl⟩ rfl rfl rfl rfl rfl (by kernel_rfl) Try.func5 closed
    (of_decide_eq_true (by kernel_rfl)) (by unfold Func.isWrapper; first | (rw [if_pos (by decide +kernel)]; kernel_rfl) | (rw [if_neg (by decide +kernel)]; exact ⟨rfl, rfl⟩))
    (fun os started H enc _ => lifted os started H enc)

theorem proved : Rows.ShapeConvexSaid := over
#print axioms proved

end Go.Proofs.Ytipcppbbpmdijaa.shapeConvex
