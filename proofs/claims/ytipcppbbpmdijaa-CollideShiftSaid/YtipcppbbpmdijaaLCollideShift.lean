/-
  CollideShift: moving two generated shapes by the same multiples of One changes neither the axes nor the contact. Conditions: none.
-/
import Derived.Test.YtipcppbbpmdijaaRows
import Derived.Test.YtipcppbbpmdijaaHead
import Derived.Test.YtipcppbbpmdijaaOpen
import Derived.Test.YtipcppbbpmdijaaPla
import Derived.Test.YtipcppbbpmdijaaEqu
namespace Go.Proofs.Ytipcppbbpmdijaa.collideShift
open Go.ChangeShapes Go.WideShapes Go.ChangeAt Go.RowKit Go.Sort
attribute [local go_sem ↓] Go.wp_at_zero Go.wp_at_succ

set_option maxRecDepth 100000 in
set_option maxHeartbeats 8000000 in
theorem walk (n : Int) (ln : -9223372036854775808 ≤ n) (un : n ≤ 9223372036854775807) (m : Int) (lm : -9223372036854775808 ≤ m) (um : m ≤ 9223372036854775807) (t0 : Int) (lt0 : -9223372036854775808 ≤ t0) (ut0 : t0 ≤ 9223372036854775807) (t1 : Int) (lt1 : -9223372036854775808 ≤ t1) (ut1 : t1 ≤ 9223372036854775807) (t2 : Int) (lt2 : -9223372036854775808 ≤ t2) (ut2 : t2 ≤ 9223372036854775807) (t3 : Int) (lt3 : -9223372036854775808 ≤ t3) (ut3 : t3 ≤ 9223372036854775807)
    (x : Int) (lx : -9223372036854775808 ≤ x) (ux : x ≤ 9223372036854775807) (y : Int) (ly : -9223372036854775808 ≤ y) (uy : y ≤ 9223372036854775807) (w : World) :
    Calls Try.prog 15 #[.int .i64 n, .int .i64 m, .agg #[.int .i64 t0, .int .i64 t1, .int .i64 t2, .int .i64 t3], .int .i64 x, .int .i64 y] w fun e w' => e = .returned (.bool true) ∧ Below w.heap.size w w' := by
  have hGa := shape_gs n
  have hGb := shape_gs m
  have hSa := hGa.sn
  have hSb := hGb.sn
  have hSh1 := fun W => Shape_any n W ln un
  have hSh2 := fun W => Shape_any m W lm um
  generalize shR n = Ra at *
  generalize shV n = va at *
  generalize shR m = Rb at *
  generalize shV m = vb at *
  have hP := fun A j c B k d W P Q => Place_any Ra Rb t0 t1 t2 t3 A B j c k d va vb W P Q hSa hSb ⟨lt0, ut0⟩ ⟨lt1, ut1⟩ ⟨lt2, ut2⟩ ⟨lt3, ut3⟩
  have pb := plP_bd t0 t1
  have qb := plQ_bd hSa hSb t0 t1 t2 t3
  generalize plP t0 t1 = p at *
  generalize plQ Ra va Rb vb t0 t1 t2 t3 = q at *
  obtain ⟨p0, p1⟩ := p
  obtain ⟨q0, q1⟩ := q
  unfold LB at pb qb
  dsimp only at pb qb hP
  have hC := fun A j c B k d W P Q => Collide_any Ra Rb p0 p1 q0 q1 A B j c k d va vb W P Q hSa hSb (by omega) (by omega) (by omega) (by omega)
  have c0 := bnd_bd x (most := 800) (by decide)
  have c1 := bnd_bd y (most := 800) (by decide)
  have hB0 := fun W => Bound_any x 800 W (by omega) (by omega) lx ux
  have hB1 := fun W => Bound_any y 800 W (by omega) (by omega) ly uy
  generalize bnd x 800 = e0 at *
  generalize bnd y 800 = e1 at *
  have hmv := con_mov Ra va (p0, p1) Rb vb (q0, q1) e0 e1
  have hmx := axl_mov va vb (p0, p1) (q0, q1) e0 e1
  unfold mov at hmv hmx
  dsimp only at hmv hmx
  rw [Int.mul_comm e0, Int.mul_comm e1] at hmv hmx
  have hC2 := fun A j c B k d W P Q => Collide_any Ra Rb (p0 + 1024 * e0) (p1 + 1024 * e1) (q0 + 1024 * e0) (q1 + 1024 * e1) A B j c k d va vb W P Q hSa hSb (by omega) (by omega) (by omega) (by omega)
  rw [hmv.1, hmv.2.1, hmv.2.2] at hC2
  have hX1 := fun A j c B k d W P Q => Axes_pol Ra Rb p0 p1 q0 q1 A B j c k d va vb W P Q hSa hSb (by omega) (by omega) (by omega) (by omega)
  have hX2 := fun A j c B k d W P Q => Axes_pol Ra Rb (p0 + 1024 * e0) (p1 + 1024 * e1) (q0 + 1024 * e0) (q1 + 1024 * e1) A B j c k d va vb W P Q hSa hSb (by omega) (by omega) (by omega) (by omega)
  rw [hmx] at hX2
  generalize axl va vb (p0, p1) (q0, q1) = X at *
  generalize hit Ra va (p0, p1) Rb vb (q0, q1) = h1 at *
  generalize cnD Ra va (p0, p1) Rb vb (q0, q1) = d1 at *
  generalize cnN Ra va (p0, p1) Rb vb (q0, q1) = m1 at *
  have hA1 := fun W => Add_any p0 p1 (1024 * e0) (1024 * e1) W (by omega) (by omega) (by omega) (by omega)
  have hA2 := fun W => Add_any q0 q1 (1024 * e0) (1024 * e1) W (by omega) (by omega) (by omega) (by omega)
  have HP := Lib.hid hP; clear hP
  have HC := Lib.hid hC; clear hC
  have HC2 := Lib.hid hC2; clear hC2
  have HX1 := Lib.hid hX1; clear hX1
  have HX2 := Lib.hid hX2; clear hX2
  have HB0 := Lib.hid hB0; clear hB0
  have HB1 := Lib.hid hB1; clear hB1
  have HA1 := Lib.hid hA1; clear hA1
  have HA2 := Lib.hid hA2; clear hA2
  have HSH1 := Lib.hid hSh1; clear hSh1
  have HSH2 := Lib.hid hSh2; clear hSh2
  clear hGa hGb hSa hSb hmv hmx
  go_enter Try.func15, Try.ntmps15
  go_wp2_with fail
  refine calls_at ?_; intro W0 hW; have dW0 : Below w.heap.size w W0 := (by rw [hW]; exact (by repeat (first | with_reducible exact Below.refl _ _ | with_reducible refine below_alloc ?_ _ | with_reducible refine Below.drew ?_ | with_reducible refine below_set ?_ (by (first | (simp; done) | (simp; omega))) _ | with_reducible refine below_step (by assumption) ?_)))
  have XT : B4 W0 (w.heap.size) (.int .i64 (t0)) (.int .i64 (t1)) (.int .i64 (t2)) (.int .i64 (t3)) := (by rw [hW]; unfold B4 Cel; simp [go_sem]); have lXT := XT.lt
  clear hW
  refine (HSH1.out _).mono ?_
  rintro e w1 ⟨A, ja, ca, rfl, PA, hb1, -⟩
  replace XT := XT.below hb1; clear lXT; have lXT := XT.lt
  go_wp2_with fail
  refine calls_at ?_; intro W2 hW; have dW2 : Below w1.heap.size w1 W2 := (by rw [hW]; exact (by repeat (first | with_reducible exact Below.refl _ _ | with_reducible refine below_alloc ?_ _ | with_reducible refine Below.drew ?_ | with_reducible refine below_set ?_ (by (first | (simp; done) | (simp; omega))) _ | with_reducible refine below_step (by assumption) ?_))); replace XT := XT.below dW2; (try clear lXT); have lXT := XT.lt; replace PA := PA.below dW2; (try clear lPA); have lPA := PA.lt
  have XA : B2 W2 w1.heap.size (.int .i64 Ra) (.slice A ja ca) := (by rw [hW]; unfold B2 Cel; simp [go_sem])
  have i2 : Below w.heap.size w W2 := (by repeat (first | with_reducible exact Below.refl _ _ | with_reducible refine below_alloc ?_ _ | with_reducible refine Below.drew ?_ | with_reducible refine below_set ?_ (by (first | (simp; done) | (simp; omega))) _ | with_reducible refine below_step (by assumption) ?_))
  clear hW
  refine (HSH2.out _).mono ?_
  rintro e w3 ⟨B, jb, cb, rfl, PB, hb3, -⟩
  replace XT := XT.below hb3; replace XA := XA.below hb3; replace PA := PA.below hb3
  clear lXT; have lXT := XT.lt; have lXA := XA.lt
  have i3 : Below w.heap.size w w3 := i2.trans (hb3.mono i2.size)
  go_wp2_with fail
  refine calls_at ?_; intro W4 hW; have dW4 : Below w3.heap.size w3 W4 := (by rw [hW]; exact (by repeat (first | with_reducible exact Below.refl _ _ | with_reducible refine below_alloc ?_ _ | with_reducible refine Below.drew ?_ | with_reducible refine below_set ?_ (by (first | (simp; done) | (simp; omega))) _ | with_reducible refine below_step (by assumption) ?_))); replace XT := XT.below dW4; (try clear lXT); have lXT := XT.lt; replace XA := XA.below dW4; (try clear lXA); have lXA := XA.lt; replace PA := PA.below dW4; (try clear lPA); have lPA := PA.lt; replace PB := PB.below dW4; (try clear lPB); have lPB := PB.lt
  have XB : B2 W4 w3.heap.size (.int .i64 Rb) (.slice B jb cb) := (by rw [hW]; unfold B2 Cel; simp [go_sem])
  have i4 : Below w.heap.size w W4 := (by repeat (first | with_reducible exact Below.refl _ _ | with_reducible refine below_alloc ?_ _ | with_reducible refine Below.drew ?_ | with_reducible refine below_set ?_ (by (first | (simp; done) | (simp; omega))) _ | with_reducible refine below_step (by assumption) ?_))
  clear hW dW0 dW2 dW4 i2 i3 hb1 hb3
  refine (HP.out _ _ _ _ _ _ _ PA PB).mono ?_
  rintro e w5 ⟨rfl, hb5⟩; have d5 : Below W4.heap.size W4 w5 := below_step hb5 (by repeat (first | with_reducible exact Below.refl _ _ | with_reducible refine below_alloc ?_ _ | with_reducible refine Below.drew ?_ | with_reducible refine below_set ?_ (by (first | (simp; done) | (simp; omega))) _ | with_reducible refine below_step (by assumption) ?_)); have z5 := hb5.size; (try simp at z5); replace XT := XT.below d5; (try clear lXT); have lXT := XT.lt; replace XA := XA.below d5; (try clear lXA); have lXA := XA.lt; replace PA := PA.below d5; (try clear lPA); have lPA := PA.lt; replace PB := PB.below d5; (try clear lPB); have lPB := PB.lt; replace XB := XB.below d5; (try clear lXB); have lXB := XB.lt
  go_wp2_with fail
  refine calls_at ?_; intro W6 hW; have dW6 : Below w5.heap.size w5 W6 := (by rw [hW]; exact (by repeat (first | with_reducible exact Below.refl _ _ | with_reducible refine below_alloc ?_ _ | with_reducible refine Below.drew ?_ | with_reducible refine below_set ?_ (by (first | (simp; done) | (simp; omega))) _ | with_reducible refine below_step (by assumption) ?_))); replace PA := PA.below dW6; (try clear lPA); have lPA := PA.lt; replace PB := PB.below dW6; (try clear lPB); have lPB := PB.lt; replace XA := XA.below dW6; (try clear lXA); have lXA := XA.lt; replace XB := XB.below dW6; (try clear lXB); have lXB := XB.lt
  have XP : B2 W6 (w5.heap.size) (.int .i64 (p0)) (.int .i64 (p1)) := (by rw [hW]; unfold B2 Cel; simp [go_sem]); have lXP := XP.lt
  have XQ : B2 W6 (w5.heap.size + 1) (.int .i64 (q0)) (.int .i64 (q1)) := (by rw [hW]; unfold B2 Cel; simp [go_sem]); have lXQ := XQ.lt
  have i6 : Below w.heap.size w W6 := (by repeat (first | with_reducible exact Below.refl _ _ | with_reducible refine below_alloc ?_ _ | with_reducible refine Below.drew ?_ | with_reducible refine below_set ?_ (by (first | (simp; done) | (simp; omega))) _ | with_reducible refine below_step (by assumption) ?_))
  clear hW hb5 d5 dW6 i4 XT lXT z5
  generalize w1.heap.size = ga at *
  generalize w3.heap.size = gb at *
  generalize w5.heap.size = gp at *
  generalize gp + 1 = gq at *
  go_wp2_with ((go_at_call 42; first | ((with_reducible refine (HB0.out _).mono ?_); rintro e w' ⟨rfl, rfl⟩) | ((with_reducible refine (HB1.out _).mono ?_); rintro e w' ⟨rfl, rfl⟩)))
  refine calls_at ?_; intro W7 hW; have dW7 : Below W6.heap.size W6 W7 := (by rw [hW]; exact (by repeat (first | with_reducible exact Below.refl _ _ | with_reducible refine below_alloc ?_ _ | with_reducible refine Below.drew ?_ | with_reducible refine below_set ?_ (by (first | (simp; done) | (simp; omega))) _ | with_reducible refine below_step (by assumption) ?_))); replace PA := PA.below dW7; (try clear lPA); have lPA := PA.lt; replace PB := PB.below dW7; (try clear lPB); have lPB := PB.lt; replace XA := XA.below dW7; (try clear lXA); have lXA := XA.lt; replace XB := XB.below dW7; (try clear lXB); have lXB := XB.lt; replace XP := XP.below dW7; (try clear lXP); have lXP := XP.lt; replace XQ := XQ.below dW7; (try clear lXQ); have lXQ := XQ.lt
  have XD : B2 W7 W6.heap.size (.int .i64 (1024 * e0)) (.int .i64 (1024 * e1)) := (by rw [hW]; unfold B2 Cel; simp [go_sem])
  have lXD := XD.lt
  have i7 : Below w.heap.size w W7 := i6.trans (dW7.mono i6.size)
  clear hW
  refine (HC.out _ _ _ _ _ _ _ PA PB).mono ?_
  rintro e w8 ⟨rfl, hb8⟩; have d8 : Below W7.heap.size W7 w8 := below_step hb8 (by repeat (first | with_reducible exact Below.refl _ _ | with_reducible refine below_alloc ?_ _ | with_reducible refine Below.drew ?_ | with_reducible refine below_set ?_ (by (first | (simp; done) | (simp; omega))) _ | with_reducible refine below_step (by assumption) ?_)); have z8 := hb8.size; (try simp at z8); replace PA := PA.below d8; (try clear lPA); have lPA := PA.lt; replace PB := PB.below d8; (try clear lPB); have lPB := PB.lt; replace XA := XA.below d8; (try clear lXA); have lXA := XA.lt; replace XB := XB.below d8; (try clear lXB); have lXB := XB.lt; replace XP := XP.below d8; (try clear lXP); have lXP := XP.lt; replace XQ := XQ.below d8; (try clear lXQ); have lXQ := XQ.lt; replace XD := XD.below d8; (try clear lXD); have lXD := XD.lt
  have i8 : Below w.heap.size w w8 := i7.trans (d8.mono i7.size)
  go_upto_region 6 with fail
  refine code_named ?_; intro Wa hW; have dWa : Below w8.heap.size w8 Wa := (by rw [hW]; exact (by repeat (first | with_reducible exact Below.refl _ _ | with_reducible refine below_alloc ?_ _ | with_reducible refine Below.drew ?_ | with_reducible refine below_set ?_ (by (first | (simp; done) | (simp; omega))) _ | with_reducible refine below_step (by assumption) ?_))); replace PA := PA.below dWa; (try clear lPA); have lPA := PA.lt; replace PB := PB.below dWa; (try clear lPB); have lPB := PB.lt; replace XA := XA.below dWa; (try clear lXA); have lXA := XA.lt; replace XB := XB.below dWa; (try clear lXB); have lXB := XB.lt; replace XP := XP.below dWa; (try clear lXP); have lXP := XP.lt; replace XQ := XQ.below dWa; (try clear lXQ); have lXQ := XQ.lt; replace XD := XD.below dWa; (try clear lXD); have lXD := XD.lt
  have XC : B3 Wa w8.heap.size (.int .i64 m1.1) (.int .i64 m1.2) (.int .i64 d1) := (by rw [hW]; unfold B3 Cel; simp [go_sem])
  have lXC := XC.lt
  have ia : Below w.heap.size w Wa := i8.trans (dWa.mono i8.size)
  clear hW hb8 d8 z8 dWa dW7 i6 i7 i8 HC HB0 HB1 HP HSH1 HSH2
  generalize W6.heap.size = gd at *
  generalize w8.heap.size = gc at *
  go_cut [18, 19] (fun s18 s19 w' => ∃ gx : Nat, s18 = .pointer (some ⟨gx, 0, none⟩) ∧ s19 = .bool h1 ∧ B3 w' gx (.int .i64 m1.1) (.int .i64 m1.2) (.int .i64 d1) ∧ Below Wa.heap.size Wa w')
  case first =>
    have HPW := Lib.hid (fun W (hW : Below Wa.heap.size Wa W) => HC2.out _ _ _ _ _ _ W (PA.below hW) (PB.below hW))
    have KS := Lib.hid (show ∀ w', Below Wa.heap.size Wa w' → (B2 w' ga (.int .i64 Ra) (.slice A ja ca) ∧ B2 w' gb (.int .i64 Rb) (.slice B jb cb) ∧ B2 w' gp (.int .i64 p0) (.int .i64 p1) ∧ B2 w' gq (.int .i64 q0) (.int .i64 q1) ∧ B2 w' gd (.int .i64 (1024 * e0)) (.int .i64 (1024 * e1)) ∧ Below Wa.heap.size Wa w') from fun w' hb => ⟨XA.below hb, XB.below hb, XP.below hb, XQ.below hb, XD.below hb, hb⟩)
    clear HX1 HX2 PA PB HC2
    go_region_held3 (fun w' => B2 w' ga (.int .i64 Ra) (.slice A ja ca) ∧ B2 w' gb (.int .i64 Rb) (.slice B jb cb) ∧ B2 w' gp (.int .i64 p0) (.int .i64 p1) ∧ B2 w' gq (.int .i64 q0) (.int .i64 q1) ∧ B2 w' gd (.int .i64 (1024 * e0)) (.int .i64 (1024 * e1)) ∧ Below Wa.heap.size Wa w') (refine KS.out _ (by repeat (first | with_reducible exact Below.refl _ _ | with_reducible refine below_alloc ?_ _ | with_reducible refine Below.drew ?_ | with_reducible refine below_set ?_ (by (first | (simp; done) | (simp; omega))) _ | with_reducible refine below_step (by assumption) ?_)))
      (first
        | (go_at_call 30; first | ((with_reducible refine (HA1.out _).mono ?_); rintro e w7 ⟨rfl, hb7⟩; obtain ⟨hc7, hf7, hx7, hy7, hn7, hz7⟩ := bcellA hb7; (try simp at hz7); (try have ltw7_0 : Wa.heap.size < w7.heap.size := by omega); (try have lew7_0 : Wa.heap.size ≤ w7.heap.size := by omega); (try have ltw7_1 : w5.heap.size < w7.heap.size := by omega); (try have lew7_1 : w5.heap.size ≤ w7.heap.size := by omega); (try have ltw7_2 : w6.heap.size < w7.heap.size := by omega); (try have lew7_2 : w6.heap.size ≤ w7.heap.size := by omega)) | ((with_reducible refine (HA2.out _).mono ?_); rintro e w5 ⟨rfl, hb5⟩; obtain ⟨hc5, hf5, hx5, hy5, hn5, hz5⟩ := bcellA hb5; (try simp at hz5); (try have ltw5_0 : Wa.heap.size < w5.heap.size := by omega); (try have lew5_0 : Wa.heap.size ≤ w5.heap.size := by omega); (try have ltw5_1 : w7.heap.size < w5.heap.size := by omega); (try have lew5_1 : w7.heap.size ≤ w5.heap.size := by omega); (try have ltw5_2 : w6.heap.size < w5.heap.size := by omega); (try have lew5_2 : w6.heap.size ≤ w5.heap.size := by omega)))
        | (go_at_call 46; refine (HPW.out _ (‹_ ∧ _ ∧ _ ∧ _ ∧ _ ∧ Below Wa.heap.size Wa _›).2.2.2.2.2).mono ?_; rintro e w6 ⟨rfl, hb6⟩; obtain ⟨hc6, hf6, hx6, hy6, hn6, hz6⟩ := bcellA hb6; (try simp at hz6); (try have ltw6_0 : Wa.heap.size < w6.heap.size := by omega); (try have lew6_0 : Wa.heap.size ≤ w6.heap.size := by omega); (try have ltw6_1 : w7.heap.size < w6.heap.size := by omega); (try have lew6_1 : w7.heap.size ≤ w6.heap.size := by omega); (try have ltw6_2 : w5.heap.size < w6.heap.size := by omega); (try have lew6_2 : w5.heap.size ≤ w6.heap.size := by omega)))
    all_goals (rename _ ∧ _ ∧ _ ∧ _ ∧ _ ∧ Below Wa.heap.size Wa _ => hS; go_wp2_with fail; go_meet; exact ⟨_, rfl, rfl, by unfold B3 Cel; simp (maxDischargeDepth := 6) [go_sem, *], hS.2.2.2.2.2⟩)
  case rest =>
    rename World => wb
    obtain ⟨gx, rfl, rfl, XE, db⟩ := hcut
    replace PA := PA.below db; replace PB := PB.below db; replace XA := XA.below db; replace XB := XB.below db; replace XP := XP.below db; replace XQ := XQ.below db; replace XD := XD.below db; replace XC := XC.below db
    have ib : Below w.heap.size w wb := ia.trans (db.mono ia.size)
    clear db ia lXA lXB lXP lXQ lXD lXC HC2 lPA lPB
    have HX1W := Lib.hid (fun W (hW : Below wb.heap.size wb W) => HX1.out _ _ _ _ _ _ W (PA.below hW) (PB.below hW))
    have HX2W := Lib.hid (fun W (hW : Below wb.heap.size wb W) => HX2.out _ _ _ _ _ _ W (PA.below hW) (PB.below hW))
    have HEQ := Lib.hid (fun g1 g2 c1 c2 W P Q => Equal_same (some ⟨g1, 0, none⟩) (some ⟨g2, 0, none⟩) X.length c1 c2 X W P Q)
    have KS := Lib.hid (show ∀ w', Below wb.heap.size wb w' → (B2 w' ga (.int .i64 Ra) (.slice A ja ca) ∧ B2 w' gb (.int .i64 Rb) (.slice B jb cb) ∧ B2 w' gp (.int .i64 p0) (.int .i64 p1) ∧ B2 w' gq (.int .i64 q0) (.int .i64 q1) ∧ B2 w' gd (.int .i64 (1024 * e0)) (.int .i64 (1024 * e1)) ∧ B3 w' gc (.int .i64 m1.1) (.int .i64 m1.2) (.int .i64 d1) ∧ B3 w' gx (.int .i64 m1.1) (.int .i64 m1.2) (.int .i64 d1) ∧ Below wb.heap.size wb w') from fun w' hb => ⟨XA.below hb, XB.below hb, XP.below hb, XQ.below hb, XD.below hb, XC.below hb, XE.below hb, hb⟩)
    have lb0 := XA.lt; have lb1 := XB.lt; have lb2 := XP.lt; have lb3 := XQ.lt; have lb4 := XD.lt; have lb5 := XC.lt; have lb6 := XE.lt
    clear HX1 HX2 PA PB
    go_wp2_with fail
    go_region_held3 (fun w' => B2 w' ga (.int .i64 Ra) (.slice A ja ca) ∧ B2 w' gb (.int .i64 Rb) (.slice B jb cb) ∧ B2 w' gp (.int .i64 p0) (.int .i64 p1) ∧ B2 w' gq (.int .i64 q0) (.int .i64 q1) ∧ B2 w' gd (.int .i64 (1024 * e0)) (.int .i64 (1024 * e1)) ∧ B3 w' gc (.int .i64 m1.1) (.int .i64 m1.2) (.int .i64 d1) ∧ B3 w' gx (.int .i64 m1.1) (.int .i64 m1.2) (.int .i64 d1) ∧ Below wb.heap.size wb w') (refine KS.out _ (by repeat (first | with_reducible exact Below.refl _ _ | with_reducible refine below_alloc ?_ _ | with_reducible refine Below.drew ?_ | with_reducible refine below_set ?_ (by (first | (simp; done) | (simp; omega))) _ | with_reducible refine below_step (by assumption) ?_)))
      (first
        | (go_at_call 30; first | ((with_reducible refine (HA1.out _).mono ?_); rintro e w7 ⟨rfl, hb7⟩; obtain ⟨hc7, hf7, hx7, hy7, hn7, hz7⟩ := bcellA hb7; (try simp at hz7)) | ((with_reducible refine (HA2.out _).mono ?_); rintro e w5 ⟨rfl, hb5⟩; obtain ⟨hc5, hf5, hx5, hy5, hn5, hz5⟩ := bcellA hb5; (try simp at hz5)))
        | (go_at_call 50; first
            | ((with_reducible refine (HX1W.out _ (‹_ ∧ _ ∧ _ ∧ _ ∧ _ ∧ _ ∧ _ ∧ Below wb.heap.size wb _›).2.2.2.2.2.2.2).mono ?_); rintro e w8 ⟨k8, c8, rfl, P8, g8, hb8⟩; obtain ⟨hc8, hf8, hx8, hy8, hn8, hz8⟩ := bcellA hb8; (try simp at hz8))
            | ((with_reducible refine (HX2W.out _ (‹_ ∧ _ ∧ _ ∧ _ ∧ _ ∧ _ ∧ _ ∧ Below wb.heap.size wb _›).2.2.2.2.2.2.2).mono ?_); rintro e w9 ⟨k9, c9, rfl, P9, g9, hb9⟩; obtain ⟨hc9, hf9, hx9, hy9, hn9, hz9⟩ := bcellA hb9; (try simp at hz9)))
        | (go_at_call 49; refine (HEQ.out _ _ _ _ _ (P8.below (by repeat (first | with_reducible exact Below.refl _ _ | with_reducible refine below_alloc ?_ _ | with_reducible refine Below.drew ?_ | with_reducible refine below_set ?_ (by (first | (simp; done) | (simp; omega))) _ | with_reducible refine below_step (by assumption) ?_))) (P9.below (by repeat (first | with_reducible exact Below.refl _ _ | with_reducible refine below_alloc ?_ _ | with_reducible refine Below.drew ?_ | with_reducible refine below_set ?_ (by (first | (simp; done) | (simp; omega))) _ | with_reducible refine below_step (by assumption) ?_)))).mono ?_; rintro e w4 ⟨rfl, hb4⟩; obtain ⟨hc4, hf4, hx4, hy4, hn4, hz4⟩ := bcellA hb4; (try simp at hz4))
        | (go_at_call 44; refine (lives5_any _).mono ?_; rintro e w3 ⟨rfl, hb3⟩; obtain ⟨hc3, hf3, hx3, hy3, hn3, hz3⟩ := bcellA hb3; (try simp at hz3)))
    all_goals (rename _ ∧ _ ∧ _ ∧ _ ∧ _ ∧ _ ∧ _ ∧ Below wb.heap.size wb _ => hS; go_wp2_with fail; go_ret; exact ⟨rfl, ib.trans (hS.2.2.2.2.2.2.2.mono ib.size)⟩)

theorem own : ownKnob Try.prog.godebug = none := by kernel_rfl
theorem laidOut : laidOutB Try.prog = true := by kernel_rfl

set_option maxRecDepth 100000 in
theorem lifted (os : Os) (started : os.Started) (H : Type) (enc : TypeId × Value → H) :
    ReturnsInHanded {} Try.checked os 15 .any (Rows.collideShiftSpec.pre6 enc Try.prog Try.f15 Rows.collideShiftRow.domain false) (Rows.collideShiftSpec.post enc Try.prog Try.f15 false true false false) := by
  refine returnsInHanded_of_change (C := Try.checked) own started (by kernel_rfl) Try.func15
    (ChangeSpec.witness6 (enc := enc) (C := Try.checked) false ⟨#[], #[.int .i64 0, .int .i64 0, .agg #[.int .i64 0, .int .i64 0, .int .i64 0, .int .i64 0], .int .i64 0, .int .i64 0], []⟩ 8 (by kernel_rfl) (by kernel_rfl) (by kernel_rfl) (by kernel_rfl)) ?_
  intro W base args ds gs before hval0 hW hcnd _
  have hval : ∀ (j : Nat) t v, Try.f15.params[j]? = some t → args[j]? = some v → Value.okWide Try.prog W .any base t v := hval0
  have hW' := hW
  obtain ⟨p, q, hA0, hV, rfl, hfz, hnd⟩ := hW
  have hA : DataW.TrodAll enc Try.prog W 0 (fun _ => true) true Try.f15.params.toList args.toList ds p := hA0
  rw [Try.params15] at hA hval
  obtain ⟨v0, vs0, d0, ds0, p0, q0, hargs, rfl, rfl, h0, r0⟩ := trodAll_cons hA
  obtain ⟨v1, vs1, d1, ds1, p1, q1, rfl, rfl, rfl, h1, r1⟩ := trodAll_cons r0
  obtain ⟨v2, vs2, d2, ds2, p2, q2, rfl, rfl, rfl, h2, r2⟩ := trodAll_cons r1
  obtain ⟨v3, vs3, d3, ds3, p3, q3, rfl, rfl, rfl, h3, r3⟩ := trodAll_cons r2
  obtain ⟨v4, vs4, d4, ds4, p4, q4, rfl, rfl, rfl, h4, r4⟩ := trodAll_cons r3
  obtain ⟨rfl, rfl, rfl⟩ := trodAll_nil r4
  obtain rfl : args = #[v0, v1, v2, v3, v4] := by cases args; simp_all
  obtain ⟨rfl, rfl⟩ := trodVars_none hV
  obtain ⟨a0, rfl, rfl, rfl, w0⟩ := open_int Try.underlying3 (hval 0 3 v0 rfl rfl) h0
  obtain ⟨a1, rfl, rfl, rfl, w1⟩ := open_int Try.underlying3 (hval 1 3 v1 rfl rfl) h1
  have k2 := h2
  have lt2 : ∀ x ∈ p2, x.block < W.heap.size := by obtain ⟨m, hm⟩ := k2; exact DataW.trod_lt m _ _ _ hm
  obtain ⟨zs2, rfl, hz2, hw2⟩ := open_arr Try.underlying51 Try.underlying3 (by kernel_rfl) (by kernel_rfl) (hval 2 51 v2 rfl rfl) h2
  obtain ⟨z2_0, z2_1, z2_2, z2_3, rfl⟩ := list4 hz2
  have bz2_0 := bounds_i64 (hw2 z2_0 (by simp))
  have bz2_1 := bounds_i64 (hw2 z2_1 (by simp))
  have bz2_2 := bounds_i64 (hw2 z2_2 (by simp))
  have bz2_3 := bounds_i64 (hw2 z2_3 (by simp))
  obtain ⟨a3, rfl, rfl, rfl, w3⟩ := open_int Try.underlying3 (hval 3 3 v3 rfl rfl) h3
  obtain ⟨a4, rfl, rfl, rfl, w4⟩ := open_int Try.underlying3 (hval 4 3 v4 rfl rfl) h4
  clear hA0 hval0
  refine (walk a0 (bounds_i64 w0).1 (bounds_i64 w0).2 a1 (bounds_i64 w1).1 (bounds_i64 w1).2 z2_0 bz2_0.1 bz2_0.2 z2_1 bz2_1.1 bz2_1.2 z2_2 bz2_2.1 bz2_2.2 z2_3 bz2_3.1 bz2_3.2 a3 (bounds_i64 w3).1 (bounds_i64 w3).2 a4 (bounds_i64 w4).1 (bounds_i64 w4).2 W).mono fun e W' ⟨he, bel⟩ => ?_
  subst he
  exact ⟨_, rfl, _, _, _, [], _, [], hW', trodAll_mk1 (shut_bool Try.underlying4 _), (trodAll_cons_mk (shut_int Try.underlying3 w0) (trodAll_cons_mk (shut_int Try.underlying3 w1) (trodAll_cons_mk (Below.trod laidOut (by kernel_rfl) (of_decide_eq_true (by kernel_rfl)) k2 bel lt2) (trodAll_cons_mk (shut_int Try.underlying3 w3) (trodAll_cons_mk (shut_int Try.underlying3 w4) trodAll_mk0))))), rfl, bel.frame _, fun h => by cases h⟩

theorem closed : joinedFacts Try.prog 15 Try.f15 Rows.collideShiftSpec Rows.collideShiftRow = true := by
  unfold joinedFacts
  repeat' (with_reducible refine both_of ?_ ?_)
  all_goals (first | with_reducible exact mayEnter_ok | (rw [liftsFinal_is]; as_aux_lemma => kernel_rfl) | (rw [make_is]; as_aux_lemma => kernel_rfl) | (as_aux_lemma => kernel_rfl))

theorem over : Rows.collideShiftRow.holds Try.pinned (OpenSpec.ofChange Rows.collideShiftSpec) :=
  OpenClaim.holds_of_wide 15 Try.f15 rfl rfl rfl rfl rfl rfl rfl ⟨rfl, rfl, rfl, rfl, rfl⟩ rfl rfl rfl rfl rfl (by kernel_rfl) Try.func15 closed
    (of_decide_eq_true (by kernel_rfl)) (by unfold Func.isWrapper; first | (rw [if_pos (by decide +kernel)]; kernel_rfl) | (rw [if_neg (by decide +kernel)]; exact ⟨rfl, rfl⟩))
    (fun os started H enc _ => lifted os started H enc)

theorem proved : Rows.CollideShiftSaid := over
#print axioms proved

end Go.Proofs.Ytipcppbbpmdijaa.collideShift
