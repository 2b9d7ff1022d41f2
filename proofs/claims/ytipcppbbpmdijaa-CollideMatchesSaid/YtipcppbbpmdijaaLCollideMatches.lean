/-
  CollideMatches: for two generated shapes Axes and Collide agree with the reference, in both orders. Conditions: none.
-/
import Derived.Test.YtipcppbbpmdijaaRows
import Derived.Test.YtipcppbbpmdijaaHead
import Derived.Test.YtipcppbbpmdijaaOpen
import Derived.Test.YtipcppbbpmdijaaPla
import Derived.Test.YtipcppbbpmdijaaRco
import Derived.Deep.RegionWith
namespace Go.Proofs.Ytipcppbbpmdijaa.collideMatches
open Go.ChangeShapes Go.WideShapes Go.ChangeAt Go.RowKit Go.Sort
attribute [local go_sem ↓] Go.wp_at_zero Go.wp_at_succ

set_option maxRecDepth 100000 in
set_option maxHeartbeats 8000000 in
theorem walk (n : Int) (ln : -9223372036854775808 ≤ n) (un : n ≤ 9223372036854775807) (m : Int) (lm : -9223372036854775808 ≤ m) (um : m ≤ 9223372036854775807) (t0 : Int) (lt0 : -9223372036854775808 ≤ t0) (ut0 : t0 ≤ 9223372036854775807) (t1 : Int) (lt1 : -9223372036854775808 ≤ t1) (ut1 : t1 ≤ 9223372036854775807) (t2 : Int) (lt2 : -9223372036854775808 ≤ t2) (ut2 : t2 ≤ 9223372036854775807) (t3 : Int) (lt3 : -9223372036854775808 ≤ t3) (ut3 : t3 ≤ 9223372036854775807) (w : World) :
    Calls Try.prog 13 #[.int .i64 n, .int .i64 m, .agg #[.int .i64 t0, .int .i64 t1, .int .i64 t2, .int .i64 t3]] w fun e w' => e = .returned (.bool true) ∧ Below w.heap.size w w' := by
  have hGa := shape_gs n
  have hGb := shape_gs m
  have hSa := hGa.sn
  have hSb := hGb.sn
  have hSh1 := fun W => Shape_any n W ln un
  have hSh2 := fun W => Shape_any m W lm um
  generalize shR n = Ra at *
  generalize shV n = va at *
  generalize shR m = Rb at *
  generalize shV m = vb at *
  have hP := fun A j c B k d W P Q => Place_any Ra Rb t0 t1 t2 t3 A B j c k d va vb W P Q hSa hSb ⟨lt0, ut0⟩ ⟨lt1, ut1⟩ ⟨lt2, ut2⟩ ⟨lt3, ut3⟩
  have pb := plP_bd t0 t1
  have qb := plQ_bd hSa hSb t0 t1 t2 t3
  generalize plP t0 t1 = p at *
  generalize plQ Ra va Rb vb t0 t1 t2 t3 = q at *
  obtain ⟨p0, p1⟩ := p
  obtain ⟨q0, q1⟩ := q
  unfold LB at pb qb
  dsimp only at pb qb hP
  have hC := fun A j c B k d W P Q => Collide_any Ra Rb p0 p1 q0 q1 A B j c k d va vb W P Q hSa hSb (by omega) (by omega) (by omega) (by omega)
  have hC2 := fun A j c B k d W P Q => Collide_any Rb Ra q0 q1 p0 p1 B A k d j c vb va W Q P hSb hSa (by omega) (by omega) (by omega) (by omega)
  have hR := fun A j c B k d W P Q => rCollide_any Ra Rb p0 p1 q0 q1 A B j c k d va vb W P Q hSa hSb (by omega) (by omega) (by omega) (by omega)
  have hR2 := fun A j c B k d W P Q => rCollide_any Rb Ra q0 q1 p0 p1 B A k d j c vb va W Q P hSb hSa (by omega) (by omega) (by omega) (by omega)
  have hX1 := fun A j c B k d W P Q => Axes_pol Ra Rb p0 p1 q0 q1 A B j c k d va vb W P Q hSa hSb (by omega) (by omega) (by omega) (by omega)
  have hX2 := fun A j c B k d W P Q => rAxes_pol Ra Rb p0 p1 q0 q1 A B j c k d va vb W P Q hSa hSb (by omega) (by omega) (by omega) (by omega)
  have hX3 := fun A j c B k d W P Q => Axes_pol Rb Ra q0 q1 p0 p1 B A k d j c vb va W Q P hSb hSa (by omega) (by omega) (by omega) (by omega)
  have hX4 := fun A j c B k d W P Q => rAxes_pol Rb Ra q0 q1 p0 p1 B A k d j c vb va W Q P hSb hSa (by omega) (by omega) (by omega) (by omega)
  have hE1 := fun g1 g2 c1 c2 W P Q => Equal_same (some ⟨g1, 0, none⟩) (some ⟨g2, 0, none⟩) (axl va vb (p0, p1) (q0, q1)).length c1 c2 (axl va vb (p0, p1) (q0, q1)) W P Q
  have hE2 := fun g1 g2 c1 c2 W P Q => Equal_same (some ⟨g1, 0, none⟩) (some ⟨g2, 0, none⟩) (axl vb va (q0, q1) (p0, p1)).length c1 c2 (axl vb va (q0, q1) (p0, p1)) W P Q
  generalize axl va vb (p0, p1) (q0, q1) = X at *
  generalize axl vb va (q0, q1) (p0, p1) = Y at *
  generalize X.length = nx at *
  generalize Y.length = ny at *
  generalize hit Ra va (p0, p1) Rb vb (q0, q1) = h1 at *
  generalize cnD Ra va (p0, p1) Rb vb (q0, q1) = d1 at *
  generalize cnN Ra va (p0, p1) Rb vb (q0, q1) = m1 at *
  generalize hit Rb vb (q0, q1) Ra va (p0, p1) = h2 at *
  generalize cnD Rb vb (q0, q1) Ra va (p0, p1) = d2 at *
  generalize cnN Rb vb (q0, q1) Ra va (p0, p1) = m2 at *
  have HP := Lib.hid hP; clear hP
  have HC := Lib.hid hC; clear hC
  have HC2 := Lib.hid hC2; clear hC2
  have HR := Lib.hid hR; clear hR
  have HR2 := Lib.hid hR2; clear hR2
  have HX1 := Lib.hid hX1; clear hX1
  have HX2 := Lib.hid hX2; clear hX2
  have HX3 := Lib.hid hX3; clear hX3
  have HX4 := Lib.hid hX4; clear hX4
  have HE1 := Lib.hid hE1; clear hE1
  have HE2 := Lib.hid hE2; clear hE2
  have HSH1 := Lib.hid hSh1; clear hSh1
  have HSH2 := Lib.hid hSh2; clear hSh2
  clear hGa hGb hSa hSb
  go_enter Try.func13, Try.ntmps13
  go_wp2_with fail
  refine calls_at ?_; intro W0 hW; have dW0 : Below w.heap.size w W0 := (by rw [hW]; exact (by repeat (first | with_reducible exact Below.refl _ _ | with_reducible refine below_alloc ?_ _ | with_reducible refine Below.drew ?_ | with_reducible refine below_set ?_ (by (first | (simp; done) | (simp; omega))) _ | with_reducible refine below_step (by assumption) ?_)))
  have XT : B4 W0 (w.heap.size) (.int .i64 (t0)) (.int .i64 (t1)) (.int .i64 (t2)) (.int .i64 (t3)) := (by rw [hW]; unfold B4 Cel; simp [go_sem]); have lXT := XT.lt
  clear hW
  refine (HSH1.out _).mono ?_
  rintro e w1 ⟨A, ja, ca, rfl, PA, hb1, -⟩
  replace XT := XT.below hb1; clear lXT; have lXT := XT.lt
  go_wp2_with fail
  refine calls_at ?_; intro W2 hW; have dW2 : Below w1.heap.size w1 W2 := (by rw [hW]; exact (by repeat (first | with_reducible exact Below.refl _ _ | with_reducible refine below_alloc ?_ _ | with_reducible refine Below.drew ?_ | with_reducible refine below_set ?_ (by (first | (simp; done) | (simp; omega))) _ | with_reducible refine below_step (by assumption) ?_))); replace XT := XT.below dW2; (try clear lXT); have lXT := XT.lt; replace PA := PA.below dW2; (try clear lPA); have lPA := PA.lt
  have XA : B2 W2 w1.heap.size (.int .i64 Ra) (.slice A ja ca) := (by rw [hW]; unfold B2 Cel; simp [go_sem])
  have i2 : Below w.heap.size w W2 := (by repeat (first | with_reducible exact Below.refl _ _ | with_reducible refine below_alloc ?_ _ | with_reducible refine Below.drew ?_ | with_reducible refine below_set ?_ (by (first | (simp; done) | (simp; omega))) _ | with_reducible refine below_step (by assumption) ?_))
  clear hW
  refine (HSH2.out _).mono ?_
  rintro e w3 ⟨B, jb, cb, rfl, PB, hb3, -⟩
  replace XT := XT.below hb3; replace XA := XA.below hb3; replace PA := PA.below hb3
  clear lXT; have lXT := XT.lt; have lXA := XA.lt
  have i3 : Below w.heap.size w w3 := i2.trans (hb3.mono i2.size)
  go_wp2_with fail
  refine calls_at ?_; intro W4 hW; have dW4 : Below w3.heap.size w3 W4 := (by rw [hW]; exact (by repeat (first | with_reducible exact Below.refl _ _ | with_reducible refine below_alloc ?_ _ | with_reducible refine Below.drew ?_ | with_reducible refine below_set ?_ (by (first | (simp; done) | (simp; omega))) _ | with_reducible refine below_step (by assumption) ?_))); replace XT := XT.below dW4; (try clear lXT); have lXT := XT.lt; replace XA := XA.below dW4; (try clear lXA); have lXA := XA.lt; replace PA := PA.below dW4; (try clear lPA); have lPA := PA.lt; replace PB := PB.below dW4; (try clear lPB); have lPB := PB.lt
  have XB : B2 W4 w3.heap.size (.int .i64 Rb) (.slice B jb cb) := (by rw [hW]; unfold B2 Cel; simp [go_sem])
  have i4 : Below w.heap.size w W4 := (by repeat (first | with_reducible exact Below.refl _ _ | with_reducible refine below_alloc ?_ _ | with_reducible refine Below.drew ?_ | with_reducible refine below_set ?_ (by (first | (simp; done) | (simp; omega))) _ | with_reducible refine below_step (by assumption) ?_))
  clear hW dW0 dW2 dW4 i2 i3 hb1 hb3
  refine (HP.out _ _ _ _ _ _ _ PA PB).mono ?_
  rintro e w5 ⟨rfl, hb5⟩; have d5 : Below W4.heap.size W4 w5 := below_step hb5 (by repeat (first | with_reducible exact Below.refl _ _ | with_reducible refine below_alloc ?_ _ | with_reducible refine Below.drew ?_ | with_reducible refine below_set ?_ (by (first | (simp; done) | (simp; omega))) _ | with_reducible refine below_step (by assumption) ?_)); have z5 := hb5.size; (try simp at z5); replace XT := XT.below d5; (try clear lXT); have lXT := XT.lt; replace XA := XA.below d5; (try clear lXA); have lXA := XA.lt; replace PA := PA.below d5; (try clear lPA); have lPA := PA.lt; replace PB := PB.below d5; (try clear lPB); have lPB := PB.lt; replace XB := XB.below d5; (try clear lXB); have lXB := XB.lt
  go_wp2_with fail
  refine code_named ?_; intro W6 hW; have dW6 : Below w5.heap.size w5 W6 := (by rw [hW]; exact (by repeat (first | with_reducible exact Below.refl _ _ | with_reducible refine below_alloc ?_ _ | with_reducible refine Below.drew ?_ | with_reducible refine below_set ?_ (by (first | (simp; done) | (simp; omega))) _ | with_reducible refine below_step (by assumption) ?_))); replace PA := PA.below dW6; (try clear lPA); have lPA := PA.lt; replace PB := PB.below dW6; (try clear lPB); have lPB := PB.lt; replace XA := XA.below dW6; (try clear lXA); have lXA := XA.lt; replace XB := XB.below dW6; (try clear lXB); have lXB := XB.lt
  have XP : B2 W6 (w5.heap.size) (.int .i64 (p0)) (.int .i64 (p1)) := (by rw [hW]; unfold B2 Cel; simp [go_sem]); have lXP := XP.lt
  have XQ : B2 W6 (w5.heap.size + 1) (.int .i64 (q0)) (.int .i64 (q1)) := (by rw [hW]; unfold B2 Cel; simp [go_sem]); have lXQ := XQ.lt
  have i6 : Below w.heap.size w W6 := (by repeat (first | with_reducible exact Below.refl _ _ | with_reducible refine below_alloc ?_ _ | with_reducible refine Below.drew ?_ | with_reducible refine below_set ?_ (by (first | (simp; done) | (simp; omega))) _ | with_reducible refine below_step (by assumption) ?_))
  clear hW hb5 d5 dW6 i4 XT lXT z5
  generalize w1.heap.size = ga at *
  generalize w3.heap.size = gb at *
  generalize w5.heap.size = gp at *
  generalize gp + 1 = gq at *
  clear HP HSH1 HSH2
  go_upto_region 4 with fail
  go_cut [55] (fun s55 w' => s55 = .bool false ∧ Below W6.heap.size W6 w')
  case first =>
    have HX1W := Lib.hid (fun W (hW : Below W6.heap.size W6 W) => HX1.out _ _ _ _ _ _ W (PA.below hW) (PB.below hW))
    have HX2W := Lib.hid (fun W (hW : Below W6.heap.size W6 W) => HX2.out _ _ _ _ _ _ W (PA.below hW) (PB.below hW))
    have HX3W := Lib.hid (fun W (hW : Below W6.heap.size W6 W) => HX3.out _ _ _ _ _ _ W (PA.below hW) (PB.below hW))
    have HX4W := Lib.hid (fun W (hW : Below W6.heap.size W6 W) => HX4.out _ _ _ _ _ _ W (PA.below hW) (PB.below hW))
    have KS := Lib.hid (show ∀ w', Below W6.heap.size W6 w' → (B2 w' ga (.int .i64 Ra) (.slice A ja ca) ∧ B2 w' gb (.int .i64 Rb) (.slice B jb cb) ∧ B2 w' gp (.int .i64 p0) (.int .i64 p1) ∧ B2 w' gq (.int .i64 q0) (.int .i64 q1) ∧ Below W6.heap.size W6 w') from fun w' hb => ⟨XA.below hb, XB.below hb, XP.below hb, XQ.below hb, hb⟩)
    clear HX1 HX2 HX3 HX4 PA PB HC HC2 HR HR2
    go_region_held3 (fun w' => B2 w' ga (.int .i64 Ra) (.slice A ja ca) ∧ B2 w' gb (.int .i64 Rb) (.slice B jb cb) ∧ B2 w' gp (.int .i64 p0) (.int .i64 p1) ∧ B2 w' gq (.int .i64 q0) (.int .i64 q1) ∧ Below W6.heap.size W6 w') (refine KS.out _ (by repeat (first | with_reducible exact Below.refl _ _ | with_reducible refine below_alloc ?_ _ | with_reducible refine Below.drew ?_ | with_reducible refine below_set ?_ (by (first | (simp; done) | (simp; omega))) _ | with_reducible refine below_step (by assumption) ?_)))
      (first
        | (go_at_call_of 50 (#[Value.agg #[Value.int .i64 Ra, Value.slice A ja ca], Value.agg #[Value.int .i64 p0, Value.int .i64 p1], Value.agg #[Value.int .i64 Rb, Value.slice B jb cb], Value.agg #[Value.int .i64 q0, Value.int .i64 q1]] : Array Value); (with_reducible refine (HX1W.out _ (‹_ ∧ _ ∧ _ ∧ _ ∧ Below W6.heap.size W6 _›).2.2.2.2).mono ?_); rintro e v1 ⟨k1, c1, rfl, P1, g1, hb1⟩; obtain ⟨hc1, hf1, hx1, hy1, hn1, hz1⟩ := bcellA hb1; (try simp at hz1))
        | (go_at_call_of 51 (#[Value.agg #[Value.int .i64 Ra, Value.slice A ja ca], Value.agg #[Value.int .i64 p0, Value.int .i64 p1], Value.agg #[Value.int .i64 Rb, Value.slice B jb cb], Value.agg #[Value.int .i64 q0, Value.int .i64 q1]] : Array Value); (with_reducible refine (HX2W.out _ (‹_ ∧ _ ∧ _ ∧ _ ∧ Below W6.heap.size W6 _›).2.2.2.2).mono ?_); rintro e v2 ⟨k2, c2, rfl, P2, g2, hb2⟩; obtain ⟨hc2, hf2, hx2, hy2, hn2, hz2⟩ := bcellA hb2; (try simp at hz2))
        | (go_at_call_of 50 (#[Value.agg #[Value.int .i64 Rb, Value.slice B jb cb], Value.agg #[Value.int .i64 q0, Value.int .i64 q1], Value.agg #[Value.int .i64 Ra, Value.slice A ja ca], Value.agg #[Value.int .i64 p0, Value.int .i64 p1]] : Array Value); (with_reducible refine (HX3W.out _ (‹_ ∧ _ ∧ _ ∧ _ ∧ Below W6.heap.size W6 _›).2.2.2.2).mono ?_); rintro e v3 ⟨k3, c3, rfl, P3, g3, hb3⟩; obtain ⟨hc3, hf3, hx3, hy3, hn3, hz3⟩ := bcellA hb3; (try simp at hz3))
        | (go_at_call_of 51 (#[Value.agg #[Value.int .i64 Rb, Value.slice B jb cb], Value.agg #[Value.int .i64 q0, Value.int .i64 q1], Value.agg #[Value.int .i64 Ra, Value.slice A ja ca], Value.agg #[Value.int .i64 p0, Value.int .i64 p1]] : Array Value); (with_reducible refine (HX4W.out _ (‹_ ∧ _ ∧ _ ∧ _ ∧ Below W6.heap.size W6 _›).2.2.2.2).mono ?_); rintro e v4 ⟨k4, c4, rfl, P4, g4, hb4⟩; obtain ⟨hc4, hf4, hx4, hy4, hn4, hz4⟩ := bcellA hb4; (try simp at hz4))
        | (go_at_call_of 49 nx; (with_reducible refine Calls.mono (HE1.out _ _ _ _ _ ?_ ?_) ?_); exact (P1.below (by repeat (first | with_reducible exact Below.refl _ _ | with_reducible refine below_alloc ?_ _ | with_reducible refine Below.drew ?_ | with_reducible refine below_set ?_ (by (first | (simp; done) | (simp; omega))) _ | with_reducible refine below_step (by assumption) ?_))); exact (P2.below (by repeat (first | with_reducible exact Below.refl _ _ | with_reducible refine below_alloc ?_ _ | with_reducible refine Below.drew ?_ | with_reducible refine below_set ?_ (by (first | (simp; done) | (simp; omega))) _ | with_reducible refine below_step (by assumption) ?_))); rintro e w5 ⟨rfl, hb5⟩; obtain ⟨hc5, hf5, hx5, hy5, hn5, hz5⟩ := bcellA hb5; (try simp at hz5))
        | (go_at_call_of 49 ny; (with_reducible refine Calls.mono (HE2.out _ _ _ _ _ ?_ ?_) ?_); exact (P3.below (by repeat (first | with_reducible exact Below.refl _ _ | with_reducible refine below_alloc ?_ _ | with_reducible refine Below.drew ?_ | with_reducible refine below_set ?_ (by (first | (simp; done) | (simp; omega))) _ | with_reducible refine below_step (by assumption) ?_))); exact (P4.below (by repeat (first | with_reducible exact Below.refl _ _ | with_reducible refine below_alloc ?_ _ | with_reducible refine Below.drew ?_ | with_reducible refine below_set ?_ (by (first | (simp; done) | (simp; omega))) _ | with_reducible refine below_step (by assumption) ?_))); rintro e w6 ⟨rfl, hb6⟩; obtain ⟨hc6, hf6, hx6, hy6, hn6, hz6⟩ := bcellA hb6; (try simp at hz6)))
    all_goals (rename _ ∧ _ ∧ _ ∧ _ ∧ Below W6.heap.size W6 _ => hS; go_wp2_with fail; go_meet; exact ⟨rfl, hS.2.2.2.2⟩)
  case rest =>
    rename World => w7
    obtain ⟨rfl, e7⟩ := hcut
    replace PA := PA.below e7; replace PB := PB.below e7; replace XA := XA.below e7; replace XB := XB.below e7; replace XP := XP.below e7; replace XQ := XQ.below e7
    have i7 : Below w.heap.size w w7 := i6.trans (e7.mono i6.size)
    clear e7 i6 HX1 HX2 HX3 HX4 HE1 HE2 lXA lXB lXP lXQ lPA lPB
    have lXA := XA.lt; have lXB := XB.lt; have lXP := XP.lt; have lXQ := XQ.lt
    go_wp2_with fail
    refine (HC.out _ _ _ _ _ _ _ PA PB).mono ?_
    rintro e w8 ⟨rfl, hb8⟩; have d8 : Below w7.heap.size w7 w8 := below_step hb8 (by repeat (first | with_reducible exact Below.refl _ _ | with_reducible refine below_alloc ?_ _ | with_reducible refine Below.drew ?_ | with_reducible refine below_set ?_ (by (first | (simp; done) | (simp; omega))) _ | with_reducible refine below_step (by assumption) ?_)); have z8 := hb8.size; (try simp at z8); replace PA := PA.below d8; (try clear lPA); have lPA := PA.lt; replace PB := PB.below d8; (try clear lPB); have lPB := PB.lt; replace XA := XA.below d8; (try clear lXA); have lXA := XA.lt; replace XB := XB.below d8; (try clear lXB); have lXB := XB.lt; replace XP := XP.below d8; (try clear lXP); have lXP := XP.lt; replace XQ := XQ.below d8; (try clear lXQ); have lXQ := XQ.lt
    have i8 := i7.trans (d8.mono i7.size)
    go_wp2_with fail
    refine calls_at ?_; intro W9 hW; have dW9 : Below w8.heap.size w8 W9 := (by rw [hW]; exact (by repeat (first | with_reducible exact Below.refl _ _ | with_reducible refine below_alloc ?_ _ | with_reducible refine Below.drew ?_ | with_reducible refine below_set ?_ (by (first | (simp; done) | (simp; omega))) _ | with_reducible refine below_step (by assumption) ?_))); replace PA := PA.below dW9; (try clear lPA); have lPA := PA.lt; replace PB := PB.below dW9; (try clear lPB); have lPB := PB.lt; replace XA := XA.below dW9; (try clear lXA); have lXA := XA.lt; replace XB := XB.below dW9; (try clear lXB); have lXB := XB.lt; replace XP := XP.below dW9; (try clear lXP); have lXP := XP.lt; replace XQ := XQ.below dW9; (try clear lXQ); have lXQ := XQ.lt
    have XC1 : B3 W9 w8.heap.size (.int .i64 m1.1) (.int .i64 m1.2) (.int .i64 d1) := (by rw [hW]; unfold B3 Cel; simp [go_sem])
    have lXC1 := XC1.lt
    have i9 := i8.trans (dW9.mono i8.size)
    clear hW hb8 d8 dW9 i8 i7
    refine (HR.out _ _ _ _ _ _ _ PA PB).mono ?_
    rintro e w10 ⟨rfl, hb10⟩; have d10 : Below W9.heap.size W9 w10 := below_step hb10 (by repeat (first | with_reducible exact Below.refl _ _ | with_reducible refine below_alloc ?_ _ | with_reducible refine Below.drew ?_ | with_reducible refine below_set ?_ (by (first | (simp; done) | (simp; omega))) _ | with_reducible refine below_step (by assumption) ?_)); have z10 := hb10.size; (try simp at z10); replace PA := PA.below d10; (try clear lPA); have lPA := PA.lt; replace PB := PB.below d10; (try clear lPB); have lPB := PB.lt; replace XA := XA.below d10; (try clear lXA); have lXA := XA.lt; replace XB := XB.below d10; (try clear lXB); have lXB := XB.lt; replace XP := XP.below d10; (try clear lXP); have lXP := XP.lt; replace XQ := XQ.below d10; (try clear lXQ); have lXQ := XQ.lt; replace XC1 := XC1.below d10; (try clear lXC1); have lXC1 := XC1.lt
    have i10 := i9.trans (d10.mono i9.size)
    go_wp2_with fail
    refine calls_at ?_; intro W11 hW; have dW11 : Below w10.heap.size w10 W11 := (by rw [hW]; exact (by repeat (first | with_reducible exact Below.refl _ _ | with_reducible refine below_alloc ?_ _ | with_reducible refine Below.drew ?_ | with_reducible refine below_set ?_ (by (first | (simp; done) | (simp; omega))) _ | with_reducible refine below_step (by assumption) ?_))); replace PA := PA.below dW11; (try clear lPA); have lPA := PA.lt; replace PB := PB.below dW11; (try clear lPB); have lPB := PB.lt; replace XA := XA.below dW11; (try clear lXA); have lXA := XA.lt; replace XB := XB.below dW11; (try clear lXB); have lXB := XB.lt; replace XP := XP.below dW11; (try clear lXP); have lXP := XP.lt; replace XQ := XQ.below dW11; (try clear lXQ); have lXQ := XQ.lt; replace XC1 := XC1.below dW11; (try clear lXC1); have lXC1 := XC1.lt
    have XC2 : B3 W11 w10.heap.size (.int .i64 m1.1) (.int .i64 m1.2) (.int .i64 d1) := (by rw [hW]; unfold B3 Cel; simp [go_sem])
    have lXC2 := XC2.lt
    have i11 := i10.trans (dW11.mono i10.size)
    clear hW hb10 d10 dW11 i10 i9
    refine (HC2.out _ _ _ _ _ _ _ PA PB).mono ?_
    rintro e w12 ⟨rfl, hb12⟩; have d12 : Below W11.heap.size W11 w12 := below_step hb12 (by repeat (first | with_reducible exact Below.refl _ _ | with_reducible refine below_alloc ?_ _ | with_reducible refine Below.drew ?_ | with_reducible refine below_set ?_ (by (first | (simp; done) | (simp; omega))) _ | with_reducible refine below_step (by assumption) ?_)); have z12 := hb12.size; (try simp at z12); replace PA := PA.below d12; (try clear lPA); have lPA := PA.lt; replace PB := PB.below d12; (try clear lPB); have lPB := PB.lt; replace XA := XA.below d12; (try clear lXA); have lXA := XA.lt; replace XB := XB.below d12; (try clear lXB); have lXB := XB.lt; replace XP := XP.below d12; (try clear lXP); have lXP := XP.lt; replace XQ := XQ.below d12; (try clear lXQ); have lXQ := XQ.lt; replace XC1 := XC1.below d12; (try clear lXC1); have lXC1 := XC1.lt; replace XC2 := XC2.below d12; (try clear lXC2); have lXC2 := XC2.lt
    have i12 := i11.trans (d12.mono i11.size)
    go_wp2_with fail
    refine calls_at ?_; intro W13 hW; have dW13 : Below w12.heap.size w12 W13 := (by rw [hW]; exact (by repeat (first | with_reducible exact Below.refl _ _ | with_reducible refine below_alloc ?_ _ | with_reducible refine Below.drew ?_ | with_reducible refine below_set ?_ (by (first | (simp; done) | (simp; omega))) _ | with_reducible refine below_step (by assumption) ?_))); replace PA := PA.below dW13; (try clear lPA); have lPA := PA.lt; replace PB := PB.below dW13; (try clear lPB); have lPB := PB.lt; replace XA := XA.below dW13; (try clear lXA); have lXA := XA.lt; replace XB := XB.below dW13; (try clear lXB); have lXB := XB.lt; replace XP := XP.below dW13; (try clear lXP); have lXP := XP.lt; replace XQ := XQ.below dW13; (try clear lXQ); have lXQ := XQ.lt; replace XC1 := XC1.below dW13; (try clear lXC1); have lXC1 := XC1.lt; replace XC2 := XC2.below dW13; (try clear lXC2); have lXC2 := XC2.lt
    have XC3 : B3 W13 w12.heap.size (.int .i64 m2.1) (.int .i64 m2.2) (.int .i64 d2) := (by rw [hW]; unfold B3 Cel; simp [go_sem])
    have lXC3 := XC3.lt
    have i13 := i12.trans (dW13.mono i12.size)
    clear hW hb12 d12 dW13 i12 i11
    refine (HR2.out _ _ _ _ _ _ _ PA PB).mono ?_
    rintro e w14 ⟨rfl, hb14⟩; have d14 : Below W13.heap.size W13 w14 := below_step hb14 (by repeat (first | with_reducible exact Below.refl _ _ | with_reducible refine below_alloc ?_ _ | with_reducible refine Below.drew ?_ | with_reducible refine below_set ?_ (by (first | (simp; done) | (simp; omega))) _ | with_reducible refine below_step (by assumption) ?_)); have z14 := hb14.size; (try simp at z14); replace XC1 := XC1.below d14; (try clear lXC1); have lXC1 := XC1.lt; replace XC2 := XC2.below d14; (try clear lXC2); have lXC2 := XC2.lt; replace XC3 := XC3.below d14; (try clear lXC3); have lXC3 := XC3.lt
    have i14 := i13.trans (d14.mono i13.size)
    clear hb14 d14 i13
    go_wp2_with fail
    refine (lives5_any _).mono ?_
    rintro e w15 ⟨rfl, hb15⟩
    go_wp2_with fail
    go_ret
    exact ⟨rfl, i14.trans (((by repeat (first | with_reducible exact Below.refl _ _ | with_reducible refine below_alloc ?_ _ | with_reducible refine Below.drew ?_ | with_reducible refine below_set ?_ (by (first | (simp; done) | (simp; omega))) _ | with_reducible refine below_step (by assumption) ?_)) : Below w14.heap.size w14 _).mono i14.size)⟩

theorem own : ownKnob Try.prog.godebug = none := by kernel_rfl
theorem laidOut : laidOutB Try.prog = true := by kernel_rfl

set_option maxRecDepth 100000 in
theorem lifted (os : Os) (started : os.Started) (H : Type) (enc : TypeId × Value → H) :
    ReturnsInHanded {} Try.checked os 13 .any (Rows.collideMatchesSpec.pre6 enc Try.prog Try.f13 Rows.collideMatchesRow.domain false) (Rows.collideMatchesSpec.post enc Try.prog Try.f13 false true false false) := by
  refine returnsInHanded_of_change (C := Try.checked) own started (by kernel_rfl) Try.func13
    (ChangeSpec.witness6 (enc := enc) (C := Try.checked) false ⟨#[], #[.int .i64 0, .int .i64 0, .agg #[.int .i64 0, .int .i64 0, .int .i64 0, .int .i64 0]], []⟩ 8 (by kernel_rfl) (by kernel_rfl) (by kernel_rfl) (by kernel_rfl)) ?_
  intro W base args ds gs before hval0 hW hcnd _
  have hval : ∀ (j : Nat) t v, Try.f13.params[j]? = some t → args[j]? = some v → Value.okWide Try.prog W .any base t v := hval0
  have hW' := hW
  obtain ⟨p, q, hA0, hV, rfl, hfz, hnd⟩ := hW
  have hA : DataW.TrodAll enc Try.prog W 0 (fun _ => true) true Try.f13.params.toList args.toList ds p := hA0
  rw [Try.params13] at hA hval
  obtain ⟨v0, vs0, d0, ds0, p0, q0, hargs, rfl, rfl, h0, r0⟩ := trodAll_cons hA
  obtain ⟨v1, vs1, d1, ds1, p1, q1, rfl, rfl, rfl, h1, r1⟩ := trodAll_cons r0
  obtain ⟨v2, vs2, d2, ds2, p2, q2, rfl, rfl, rfl, h2, r2⟩ := trodAll_cons r1
  obtain ⟨rfl, rfl, rfl⟩ := trodAll_nil r2
  obtain rfl : args = #[v0, v1, v2] := by cases args; simp_all
  obtain ⟨rfl, rfl⟩ := trodVars_none hV
  obtain ⟨a0, rfl, rfl, rfl, w0⟩ := open_int Try.underlying3 (hval 0 3 v0 rfl rfl) h0
  obtain ⟨a1, rfl, rfl, rfl, w1⟩ := open_int Try.underlying3 (hval 1 3 v1 rfl rfl) h1
  have k2 := h2
  have lt2 : ∀ x ∈ p2, x.block < W.heap.size := by obtain ⟨m, hm⟩ := k2; exact DataW.trod_lt m _ _ _ hm
  obtain ⟨zs2, rfl, hz2, hw2⟩ := open_arr Try.underlying51 Try.underlying3 (by kernel_rfl) (by kernel_rfl) (hval 2 51 v2 rfl rfl) h2
  obtain ⟨z2_0, z2_1, z2_2, z2_3, rfl⟩ := list4 hz2
  have bz2_0 := bounds_i64 (hw2 z2_0 (by simp))
  have bz2_1 := bounds_i64 (hw2 z2_1 (by simp))
  have bz2_2 := bounds_i64 (hw2 z2_2 (by simp))
  have bz2_3 := bounds_i64 (hw2 z2_3 (by simp))
  clear hA0 hval0
  refine (walk a0 (bounds_i64 w0).1 (bounds_i64 w0).2 a1 (bounds_i64 w1).1 (bounds_i64 w1).2 z2_0 bz2_0.1 bz2_0.2 z2_1 bz2_1.1 bz2_1.2 z2_2 bz2_2.1 bz2_2.2 z2_3 bz2_3.1 bz2_3.2 W).mono fun e W' ⟨he, bel⟩ => ?_
  subst he
  exact ⟨_, rfl, _, _, _, [], _, [], hW', trodAll_mk1 (shut_bool Try.underlying4 _), (trodAll_cons_mk (shut_int Try.underlying3 w0) (trodAll_cons_mk (shut_int Try.underlying3 w1) (trodAll_cons_mk (Below.trod laidOut (by kernel_rfl) (of_decide_eq_true (by kernel_rfl)) k2 bel lt2) trodAll_mk0))), rfl, bel.frame _, fun h => by cases h⟩

theorem closed : joinedFacts Try.prog 13 Try.f13 Rows.collideMatchesSpec Rows.collideMatchesRow = true := by
  unfold joinedFacts
  repeat' (with_reducible refine both_of ?_ ?_)
  all_goals (first | with_reducible exact mayEnter_ok | (rw [liftsFinal_is]; as_aux_lemma => kernel_rfl) | (rw [make_is]; as_aux_lemma => kernel_rfl) | (as_aux_lemma => kernel_rfl))

theorem over : Rows.collideMatchesRow.holds Try.pinned (OpenSpec.ofChange Rows.collideMatchesSpec) :=
  OpenClaim.holds_of_wide 13 Try.f13 rfl rfl rfl rfl rfl rfl rfl ⟨rfl, rfl, rfl, rfl, rfl⟩ rfl rfl rfl rfl rfl (by kernel_rfl) Try.func13 closed
    (of_decide_eq_true (by kernel_rfl)) (by unfold Func.isWrapper; first | (rw [if_pos (by decide +kernel)]; kernel_rfl) | (rw [if_neg (by decide +kernel)]; exact ⟨rfl, rfl⟩))
    (fun os started H enc _ => lifted os started H enc)

theorem proved : Rows.CollideMatchesSaid := over
#print axioms proved

end Go.Proofs.Ytipcppbbpmdijaa.collideMatches
