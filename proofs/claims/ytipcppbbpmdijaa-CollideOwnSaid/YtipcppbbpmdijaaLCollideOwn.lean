/-
  CollideOwn: Axes returns new memory, and neither Axes nor Collide modifies the shapes. Conditions: none.
-/
import Derived.Test.YtipcppbbpmdijaaRows
import Derived.Test.YtipcppbbpmdijaaHead
import Derived.Test.YtipcppbbpmdijaaOpen
import Derived.Test.YtipcppbbpmdijaaPla
import Derived.Test.YtipcppbbpmdijaaEqu
namespace Go.Proofs.Ytipcppbbpmdijaa.collideOwn
open Go.ChangeShapes Go.WideShapes Go.ChangeAt Go.RowKit Go.Sort
attribute [local go_sem ↓] Go.wp_at_zero Go.wp_at_succ

def Stopped (p : Prop) : Prop := p
theorem stop_here {p : Prop} (h : Stopped p) : p := h
theorem field_shape (R : Int) (A : Option Addr) (k c : Nat) (w : World) : Sem.run Try.prog (Instr.field 29 (.agg #[.int .i64 R, .slice A k c]) 1) w = .ok (.slice A k c) w := by
  simp [Instr.field, asAgg, go_sem]
attribute [local go_sem] field_shape
theorem shape_len (n : Int) (w : World) (h1 : -9223372036854775808 ≤ n) (h2 : n ≤ 9223372036854775807) :
    Calls Try.prog 28 #[.int .i64 n] w fun e w' => ∃ A c, e = .returned (.agg #[.int .i64 (shR n), .slice A (shV n).length c]) ∧ Pol w' A (shV n).length c (shV n) ∧ Below w.heap.size w w' := by
  refine (Shape_any n w h1 h2).mono ?_
  rintro e w' ⟨A, k, c, rfl, P, hb, -⟩
  obtain rfl := P.1
  exact ⟨A, c, rfl, P, hb⟩

set_option maxRecDepth 100000 in
set_option maxHeartbeats 8000000 in
theorem walk (n : Int) (ln : -9223372036854775808 ≤ n) (un : n ≤ 9223372036854775807) (m : Int) (lm : -9223372036854775808 ≤ m) (um : m ≤ 9223372036854775807) (t0 : Int) (lt0 : -9223372036854775808 ≤ t0) (ut0 : t0 ≤ 9223372036854775807) (t1 : Int) (lt1 : -9223372036854775808 ≤ t1) (ut1 : t1 ≤ 9223372036854775807) (t2 : Int) (lt2 : -9223372036854775808 ≤ t2) (ut2 : t2 ≤ 9223372036854775807) (t3 : Int) (lt3 : -9223372036854775808 ≤ t3) (ut3 : t3 ≤ 9223372036854775807) (w : World) :
    Calls Try.prog 16 #[.int .i64 n, .int .i64 m, .agg #[.int .i64 t0, .int .i64 t1, .int .i64 t2, .int .i64 t3]] w fun e w' => e = .returned (.bool true) ∧ Below w.heap.size w w' := by
  have hGa := shape_gs n
  have hGb := shape_gs m
  have hSa := hGa.sn
  have hSb := hGb.sn
  have hSh1 := fun W => shape_len n W ln un
  have hSh2 := fun W => shape_len m W lm um
  generalize shR n = Ra at *
  generalize shV n = va at *
  generalize shR m = Rb at *
  generalize shV m = vb at *
  generalize hja : va.length = ja at *
  generalize hjb : vb.length = jb at *
  have hP := fun A j c B k d W P Q => Place_any Ra Rb t0 t1 t2 t3 A B j c k d va vb W P Q hSa hSb ⟨lt0, ut0⟩ ⟨lt1, ut1⟩ ⟨lt2, ut2⟩ ⟨lt3, ut3⟩
  have pb := plP_bd t0 t1
  have qb := plQ_bd hSa hSb t0 t1 t2 t3
  generalize plP t0 t1 = p at *
  generalize plQ Ra va Rb vb t0 t1 t2 t3 = q at *
  obtain ⟨p0, p1⟩ := p
  obtain ⟨q0, q1⟩ := q
  unfold LB at pb qb
  dsimp only at pb qb hP
  have hC := fun A j c B k d W P Q => Collide_any Ra Rb p0 p1 q0 q1 A B j c k d va vb W P Q hSa hSb (by omega) (by omega) (by omega) (by omega)
  have hX := fun A j c B k d W P Q => Axes_any Ra Rb p0 p1 q0 q1 A B j c k d va vb W P Q hSa hSb (by omega) (by omega) (by omega) (by omega)
  have hX2 := fun A j c B k d W P Q => Axes_pol Ra Rb p0 p1 q0 q1 A B j c k d va vb W P Q hSa hSb (by omega) (by omega) (by omega) (by omega)
  have hl0 := List.length_pos_iff.2 (axl_ne va vb (p0, p1) (q0, q1))
  have hlm := axl_len va vb (p0, p1) (q0, q1)
  have hla := hSa.2.1
  have hlb := hSb.2.1
  generalize axl va vb (p0, p1) (q0, q1) = X at *
  generalize hnx : X.length = nx at *
  generalize hit Ra va (p0, p1) Rb vb (q0, q1) = h1 at *
  generalize cnD Ra va (p0, p1) Rb vb (q0, q1) = d1 at *
  generalize cnN Ra va (p0, p1) Rb vb (q0, q1) = m1 at *
  have hn17 : nx ≤ 17 := by omega
  obtain ⟨i0, hi0, hz0, hz1, hz2⟩ := info_parts vec_info
  have HNX := Lib.hid hnx; clear hnx
  have HP := Lib.hid hP; clear hP
  have HC := Lib.hid hC; clear hC
  have HX := Lib.hid hX; clear hX
  have HX2 := Lib.hid hX2; clear hX2
  have HSH1 := Lib.hid hSh1; clear hSh1
  have HSH2 := Lib.hid hSh2; clear hSh2
  clear hGa hGb hSa hSb hlm hla hlb
  go_enter Try.func16, Try.ntmps16
  go_wp2_with fail
  refine calls_at ?_; intro W0 hW; have dW0 : Below w.heap.size w W0 := (by rw [hW]; exact (by repeat (first | with_reducible exact Below.refl _ _ | with_reducible refine below_alloc ?_ _ | with_reducible refine Below.drew ?_ | with_reducible refine below_set ?_ (by (first | (simp; done) | (simp; omega))) _ | with_reducible refine below_step (by assumption) ?_)))
  have XT : B4 W0 (w.heap.size) (.int .i64 (t0)) (.int .i64 (t1)) (.int .i64 (t2)) (.int .i64 (t3)) := (by rw [hW]; unfold B4 Cel; simp [go_sem]); have lXT := XT.lt
  clear hW
  refine (HSH1.out _).mono ?_
  rintro e w1 ⟨A, ca, rfl, PA, hb1⟩
  replace XT := XT.below hb1; clear lXT; have lXT := XT.lt
  go_wp2_with fail
  refine calls_at ?_; intro W2 hW; have dW2 : Below w1.heap.size w1 W2 := (by rw [hW]; exact (by repeat (first | with_reducible exact Below.refl _ _ | with_reducible refine below_alloc ?_ _ | with_reducible refine Below.drew ?_ | with_reducible refine below_set ?_ (by (first | (simp; done) | (simp; omega))) _ | with_reducible refine below_step (by assumption) ?_))); replace XT := XT.below dW2; (try clear lXT); have lXT := XT.lt; replace PA := PA.below dW2; (try clear lPA); have lPA := PA.lt
  have XA : B2 W2 w1.heap.size (.int .i64 Ra) (.slice A ja ca) := (by rw [hW]; unfold B2 Cel; simp [go_sem])
  have i2 : Below w.heap.size w W2 := (by repeat (first | with_reducible exact Below.refl _ _ | with_reducible refine below_alloc ?_ _ | with_reducible refine Below.drew ?_ | with_reducible refine below_set ?_ (by (first | (simp; done) | (simp; omega))) _ | with_reducible refine below_step (by assumption) ?_))
  clear hW
  refine (HSH2.out _).mono ?_
  rintro e w3 ⟨B, cb, rfl, PB, hb3⟩
  replace XT := XT.below hb3; replace XA := XA.below hb3; replace PA := PA.below hb3
  clear lXT; have lXT := XT.lt; have lXA := XA.lt
  have i3 : Below w.heap.size w w3 := i2.trans (hb3.mono i2.size)
  go_wp2_with fail
  refine calls_at ?_; intro W4 hW; have dW4 : Below w3.heap.size w3 W4 := (by rw [hW]; exact (by repeat (first | with_reducible exact Below.refl _ _ | with_reducible refine below_alloc ?_ _ | with_reducible refine Below.drew ?_ | with_reducible refine below_set ?_ (by (first | (simp; done) | (simp; omega))) _ | with_reducible refine below_step (by assumption) ?_))); replace XT := XT.below dW4; (try clear lXT); have lXT := XT.lt; replace XA := XA.below dW4; (try clear lXA); have lXA := XA.lt; replace PA := PA.below dW4; (try clear lPA); have lPA := PA.lt; replace PB := PB.below dW4; (try clear lPB); have lPB := PB.lt
  have XB : B2 W4 w3.heap.size (.int .i64 Rb) (.slice B jb cb) := (by rw [hW]; unfold B2 Cel; simp [go_sem])
  have i4 : Below w.heap.size w W4 := (by repeat (first | with_reducible exact Below.refl _ _ | with_reducible refine below_alloc ?_ _ | with_reducible refine Below.drew ?_ | with_reducible refine below_set ?_ (by (first | (simp; done) | (simp; omega))) _ | with_reducible refine below_step (by assumption) ?_))
  clear hW dW0 dW2 dW4 i2 i3 hb1 hb3
  refine (HP.out _ _ _ _ _ _ _ PA PB).mono ?_
  rintro e w5 ⟨rfl, hb5⟩; have d5 : Below W4.heap.size W4 w5 := below_step hb5 (by repeat (first | with_reducible exact Below.refl _ _ | with_reducible refine below_alloc ?_ _ | with_reducible refine Below.drew ?_ | with_reducible refine below_set ?_ (by (first | (simp; done) | (simp; omega))) _ | with_reducible refine below_step (by assumption) ?_)); have z5 := hb5.size; (try simp at z5); replace XT := XT.below d5; (try clear lXT); have lXT := XT.lt; replace XA := XA.below d5; (try clear lXA); have lXA := XA.lt; replace PA := PA.below d5; (try clear lPA); have lPA := PA.lt; replace PB := PB.below d5; (try clear lPB); have lPB := PB.lt; replace XB := XB.below d5; (try clear lXB); have lXB := XB.lt
  go_wp2_with fail
  refine calls_at ?_; intro W6 hW; have dW6 : Below w5.heap.size w5 W6 := (by rw [hW]; exact (by repeat (first | with_reducible exact Below.refl _ _ | with_reducible refine below_alloc ?_ _ | with_reducible refine Below.drew ?_ | with_reducible refine below_set ?_ (by (first | (simp; done) | (simp; omega))) _ | with_reducible refine below_step (by assumption) ?_))); replace PA := PA.below dW6; (try clear lPA); have lPA := PA.lt; replace PB := PB.below dW6; (try clear lPB); have lPB := PB.lt; replace XA := XA.below dW6; (try clear lXA); have lXA := XA.lt; replace XB := XB.below dW6; (try clear lXB); have lXB := XB.lt
  have XP : B2 W6 (w5.heap.size) (.int .i64 (p0)) (.int .i64 (p1)) := (by rw [hW]; unfold B2 Cel; simp [go_sem]); have lXP := XP.lt
  have XQ : B2 W6 (w5.heap.size + 1) (.int .i64 (q0)) (.int .i64 (q1)) := (by rw [hW]; unfold B2 Cel; simp [go_sem]); have lXQ := XQ.lt
  have i6 : Below w.heap.size w W6 := (by repeat (first | with_reducible exact Below.refl _ _ | with_reducible refine below_alloc ?_ _ | with_reducible refine Below.drew ?_ | with_reducible refine below_set ?_ (by (first | (simp; done) | (simp; omega))) _ | with_reducible refine below_step (by assumption) ?_))
  clear hW hb5 d5 dW6 i4 XT lXT z5
  generalize w1.heap.size = ga at *
  generalize w3.heap.size = gb at *
  generalize w5.heap.size = gp at *
  generalize gp + 1 = gq at *
  refine (HX.out _ _ _ _ _ _ _ PA PB).mono ?_
  rintro e w7 ⟨v, rfl, ho, hb7⟩
  rw [HNX.out] at ho
  obtain ⟨g, c, rfl, hg, hlg⟩ := ho.form hl0
  have PL := own_pol ho hl0 (by omega)
  obtain ⟨g', hg', -, -, -, -, -, hcl⟩ := PL.at_ (fun h => by have := HNX.out; rw [h] at this; simp at this; omega)
  have hgg : g = g' := by injection hg' with hg'; injection hg'
  subst hgg
  have hnews := pol_news hcl 0 nx
  have HNEWS := Lib.hid hnews; clear hnews hcl PL hg'
  have hNl : (flat ((X.drop 0).take nx)).length = nx * 2 := by rw [flat_len, List.length_take, List.length_drop, HNX.out]; omega
  have HNL := Lib.hid hNl; clear hNl
  have HO := Lib.hid ho; clear ho
  have z7 := hb7.size
  have HLIT := Lib.hid (World.ownsRow_lit (e := 24) (size := 2) (base := w7.heap.size) w7 #[] 0 (Nat.le_refl _) (by unfold maxLen; omega) rfl)
  have hnw : ∀ j u, (flat ((X.drop 0).take nx))[j]? = some u → (w7.alloc (.cells #[] 24)).cell? ((⟨g, 0, none⟩ : Addr).add j) = some u := by
    intro j u h
    have := HNEWS.out j u h
    rw [add_at] at *
    rw [World.cell?_alloc_past _ _ _ hlg]
    simpa using this
  have HNEW := Lib.hid hnw; clear hnw HNEWS
  go_wp2_with (at_builtin; refine stop_here ?_)
  unfold Stopped
  refine wpList_append_own_at _ rfl (.tmp 30) (.tmp 31) _ rfl w7.heap.size 24 i0 _ 2 16 Try.underlying25 hi0 hz0 hz1 hz2 rfl (by omega) (.slice (some ⟨w7.heap.size, 0, none⟩) 0 0) 0 [] rfl HLIT.out
      ⟨g, 0, none⟩ nx c (flat ((X.drop 0).take nx)) rfl HNL.out HNEW.out (flat_one _) (by unfold maxLen; omega) (by omega) (by simp) ?_
  intro v1 w8 hown8 hg8 _ _
  rw [Nat.zero_add, List.nil_append, List.drop_zero, List.take_of_length_le (by rw [HNX.out]; exact Nat.le_refl _)] at hown8
  obtain ⟨gw, cw, rfl, hgw, -⟩ := hown8.form hl0
  have PW := own_pol hown8 hl0 (by omega)
  have d8 : Below w7.heap.size w7 w8 := (below_alloc (Below.refl _ _) _).grown hg8 (by simp) (fun k e => by have := ob_some e; dsimp only at this; omega)
  have HO8 := own_below HO.out d8
  have i8 : Below W6.heap.size W6 w8 := hb7.trans (d8.mono hb7.size)
  have hne : g ≠ gw := by omega
  clear hown8 hg8 d8 HO HLIT HNEW HNL
  go_wp2_with fail
  go_loopg [13] nx (fun gk i wr => ∃ (k : Nat) (ys : List Value), gk + k = nx ∧ i = .int .i64 k ∧ wr.ownsRow W6.heap.size 24 2 (.slice (some ⟨g, 0, none⟩) nx c) nx ys ∧ Pol wr (some ⟨gw, 0, none⟩) nx cw X ∧ Below W6.heap.size W6 wr)
  case atStart => exact ⟨0, _, by omega, rfl, HO8, PW, i8⟩
  case round =>
    clear HO8 PW i8
    obtain ⟨k, ys, hk, rfl, hrw, PW, ib⟩ := hrel
    by_cases hlt : k < nx
    · have hyl := hrw.1
      have hk1 : (0 : Int) ≤ (k : Int) := by omega
      have hk2 : (k : Int) < (nx : Int) := by omega
      obtain ⟨y0, hy0⟩ : ∃ u, ys[k * 2]? = some u := ⟨ys[k * 2]'(by omega), List.getElem?_eq_getElem (by omega)⟩
      obtain ⟨y1, hy1⟩ : ∃ u, ys[k * 2 + 1]? = some u := ⟨ys[k * 2 + 1]'(by omega), List.getElem?_eq_getElem (by omega)⟩
      have c0 := (hrw.cellAt (k * 2) (by omega)).trans hy0
      have c1 := (hrw.cellAt (k * 2 + 1) (by omega)).trans hy1
      have f0 := hrw.frozenAt (k * 2)
      have f1 := hrw.frozenAt (k * 2 + 1)
      have HRW := Lib.hid hrw; clear hrw hyl hy0 hy1
      clear HP HC HX HX2 HSH1 HSH2 PA PB XA XB XP XQ
      go_wp2_with fail
      go_roundg (gk - 1)
      case measure => omega
      case rel => exact ⟨k + 1, _, by omega, by go_num, ((HRW.out.stored (k * 2) _).1.stored (k * 2 + 1) _).1, (PW.far hne _).far hne _, below_set (below_set ib hg _) hg _⟩
    · have hkn : k = nx := by omega
      subst hkn
      clear hrw
      replace PA := PA.below ib; replace PB := PB.below ib; replace XA := XA.below ib; replace XB := XB.below ib; replace XP := XP.below ib; replace XQ := XQ.below ib
      have ir : Below w.heap.size w wr := i6.trans (ib.mono i6.size)
      clear lXA lXB lXP lXQ ib i6 hb7 lPA lPB
      have lXA := XA.lt; have lXB := XB.lt; have lXP := XP.lt; have lXQ := XQ.lt
      go_wp2_with fail
      refine (HC.out _ _ _ _ _ _ _ PA PB).mono ?_
      rintro e w9 ⟨rfl, hb9⟩; have d9 : Below wr.heap.size wr w9 := below_step hb9 (by repeat (first | with_reducible exact Below.refl _ _ | with_reducible refine below_alloc ?_ _ | with_reducible refine Below.drew ?_ | with_reducible refine below_set ?_ (by (first | (simp; done) | (simp; omega))) _ | with_reducible refine below_step (by assumption) ?_)); have z9 := hb9.size; (try simp at z9); replace PA := PA.below d9; (try clear lPA); have lPA := PA.lt; replace PB := PB.below d9; (try clear lPB); have lPB := PB.lt; replace PW := PW.below d9; (try clear lPW); have lPW := PW.lt; replace XA := XA.below d9; (try clear lXA); have lXA := XA.lt; replace XB := XB.below d9; (try clear lXB); have lXB := XB.lt; replace XP := XP.below d9; (try clear lXP); have lXP := XP.lt; replace XQ := XQ.below d9; (try clear lXQ); have lXQ := XQ.lt
      have i9 : Below w.heap.size w w9 := ir.trans (d9.mono ir.size)
      clear d9 hb9 z9 ir HC HP HX
      have HXW := Lib.hid (fun W (hW : Below w9.heap.size w9 W) => HX2.out _ _ _ _ _ _ W (PA.below hW) (PB.below hW))
      have HE1 := Lib.hid (fun g1 c1 W P Q => Equal_same (some ⟨g1, 0, none⟩) (some ⟨gw, 0, none⟩) k c1 cw X W P Q)
      have HE2 := Lib.hid (fun A' c' W P Q => Equal_same A A' ja ca c' va W P Q)
      have HE3 := Lib.hid (fun A' c' W P Q => Equal_same B A' jb cb c' vb W P Q)
      have KS := Lib.hid (show ∀ w', Below w9.heap.size w9 w' → (B2 w' ga (.int .i64 Ra) (.slice A ja ca) ∧ B2 w' gb (.int .i64 Rb) (.slice B jb cb) ∧ B2 w' gp (.int .i64 p0) (.int .i64 p1) ∧ B2 w' gq (.int .i64 q0) (.int .i64 q1) ∧ Below w9.heap.size w9 w') from fun w' hb => ⟨XA.below hb, XB.below hb, XP.below hb, XQ.below hb, hb⟩)
      clear HX2 lPA lPB lPW
      go_wp2_with fail
      go_region_held3 (fun w' => B2 w' ga (.int .i64 Ra) (.slice A ja ca) ∧ B2 w' gb (.int .i64 Rb) (.slice B jb cb) ∧ B2 w' gp (.int .i64 p0) (.int .i64 p1) ∧ B2 w' gq (.int .i64 q0) (.int .i64 q1) ∧ Below w9.heap.size w9 w') (refine KS.out _ (by repeat (first | with_reducible exact Below.refl _ _ | with_reducible refine below_alloc ?_ _ | with_reducible refine Below.drew ?_ | with_reducible refine below_set ?_ (by (first | (simp; done) | (simp; omega))) _ | with_reducible refine below_step (by assumption) ?_)))
        (first
          | (go_at_call 50; refine (HXW.out _ (‹_ ∧ _ ∧ _ ∧ _ ∧ Below w9.heap.size w9 _›).2.2.2.2).mono ?_; rintro e v8 ⟨k8, c8, rfl, P8, g8, hb8⟩; obtain ⟨hc8, hf8, hx8, hy8, hn8, hz8⟩ := bcellA hb8; (try simp at hz8))
          | (go_at_call 28; first
              | ((with_reducible refine (HSH1.out _).mono ?_); rintro e v7 ⟨A7, c7, rfl, P7, hb7⟩; obtain ⟨hc7, hf7, hx7, hy7, hn7, hz7⟩ := bcellA hb7; (try simp at hz7))
              | ((with_reducible refine (HSH2.out _).mono ?_); rintro e v6 ⟨A6, c6, rfl, P6, hb6⟩; obtain ⟨hc6, hf6, hx6, hy6, hn6, hz6⟩ := bcellA hb6; (try simp at hz6)))
          | (go_at_call 49; first
              | ((with_reducible refine Calls.mono (HE1.out _ _ _ ?_ ?_) ?_); exact (P8.below (by repeat (first | with_reducible exact Below.refl _ _ | with_reducible refine below_alloc ?_ _ | with_reducible refine Below.drew ?_ | with_reducible refine below_set ?_ (by (first | (simp; done) | (simp; omega))) _ | with_reducible refine below_step (by assumption) ?_))); exact (PW.below (by repeat (first | with_reducible exact Below.refl _ _ | with_reducible refine below_alloc ?_ _ | with_reducible refine Below.drew ?_ | with_reducible refine below_set ?_ (by (first | (simp; done) | (simp; omega))) _ | with_reducible refine below_step (by assumption) ?_))); rintro e w5 ⟨rfl, hb5⟩; obtain ⟨hc5, hf5, hx5, hy5, hn5, hz5⟩ := bcellA hb5; (try simp at hz5))
              | ((with_reducible refine Calls.mono (HE2.out _ _ _ ?_ ?_) ?_); exact (PA.below (by repeat (first | with_reducible exact Below.refl _ _ | with_reducible refine below_alloc ?_ _ | with_reducible refine Below.drew ?_ | with_reducible refine below_set ?_ (by (first | (simp; done) | (simp; omega))) _ | with_reducible refine below_step (by assumption) ?_))); exact (P7.below (by repeat (first | with_reducible exact Below.refl _ _ | with_reducible refine below_alloc ?_ _ | with_reducible refine Below.drew ?_ | with_reducible refine below_set ?_ (by (first | (simp; done) | (simp; omega))) _ | with_reducible refine below_step (by assumption) ?_))); rintro e w4 ⟨rfl, hb4⟩; obtain ⟨hc4, hf4, hx4, hy4, hn4, hz4⟩ := bcellA hb4; (try simp at hz4))
              | ((with_reducible refine Calls.mono (HE3.out _ _ _ ?_ ?_) ?_); exact (PB.below (by repeat (first | with_reducible exact Below.refl _ _ | with_reducible refine below_alloc ?_ _ | with_reducible refine Below.drew ?_ | with_reducible refine below_set ?_ (by (first | (simp; done) | (simp; omega))) _ | with_reducible refine below_step (by assumption) ?_))); exact (P6.below (by repeat (first | with_reducible exact Below.refl _ _ | with_reducible refine below_alloc ?_ _ | with_reducible refine Below.drew ?_ | with_reducible refine below_set ?_ (by (first | (simp; done) | (simp; omega))) _ | with_reducible refine below_step (by assumption) ?_))); rintro e w3 ⟨rfl, hb3⟩; obtain ⟨hc3, hf3, hx3, hy3, hn3, hz3⟩ := bcellA hb3; (try simp at hz3)))
          | (go_at_call 44; refine (lives5_any _).mono ?_; rintro e w2 ⟨rfl, hb2⟩; obtain ⟨hc2, hf2, hx2, hy2, hn2, hz2⟩ := bcellA hb2; (try simp at hz2)))
      all_goals (rename _ ∧ _ ∧ _ ∧ _ ∧ Below w9.heap.size w9 _ => hS; go_wp2_with fail; go_ret; exact ⟨rfl, i9.trans (hS.2.2.2.2.mono i9.size)⟩)

theorem own : ownKnob Try.prog.godebug = none := by kernel_rfl
theorem laidOut : laidOutB Try.prog = true := by kernel_rfl

set_option maxRecDepth 100000 in
theorem lifted (os : Os) (started : os.Started) (H : Type) (enc : TypeId × Value → H) :
    ReturnsInHanded {} Try.checked os 16 .any (Rows.collideOwnSpec.pre6 enc Try.prog Try.f16 Rows.collideOwnRow.domain false) (Rows.collideOwnSpec.post enc Try.prog Try.f16 false true false false) := by
  refine returnsInHanded_of_change (C := Try.checked) own started (by kernel_rfl) Try.func16
    (ChangeSpec.witness6 (enc := enc) (C := Try.checked) false ⟨#[], #[.int .i64 0, .int .i64 0, .agg #[.int .i64 0, .int .i64 0, .int .i64 0, .int .i64 0]], []⟩ 8 (by kernel_rfl) (by kernel_rfl) (by kernel_rfl) (by kernel_rfl)) ?_
  intro W base args ds gs before hval0 hW hcnd _
  have hval : ∀ (j : Nat) t v, Try.f16.params[j]? = some t → args[j]? = some v → Value.okWide Try.prog W .any base t v := hval0
  have hW' := hW
  obtain ⟨p, q, hA0, hV, rfl, hfz, hnd⟩ := hW
  have hA : DataW.TrodAll enc Try.prog W 0 (fun _ => true) true Try.f16.params.toList args.toList ds p := hA0
  rw [Try.params16] at hA hval
  obtain ⟨v0, vs0, d0, ds0, p0, q0, hargs, rfl, rfl, h0, r0⟩ := trodAll_cons hA
  obtain ⟨v1, vs1, d1, ds1, p1, q1, rfl, rfl, rfl, h1, r1⟩ := trodAll_cons r0
  obtain ⟨v2, vs2, d2, ds2, p2, q2, rfl, rfl, rfl, h2, r2⟩ := trodAll_cons r1
  obtain ⟨rfl, rfl, rfl⟩ := trodAll_nil r2
  obtain rfl : args = #[v0, v1, v2] := by cases args; simp_all
  obtain ⟨rfl, rfl⟩ := trodVars_none hV
  obtain ⟨a0, rfl, rfl, rfl, w0⟩ := open_int Try.underlying3 (hval 0 3 v0 rfl rfl) h0
  obtain ⟨a1, rfl, rfl, rfl, w1⟩ := open_int Try.underlying3 (hval 1 3 v1 rfl rfl) h1
  have k2 := h2
  have lt2 : ∀ x ∈ p2, x.block < W.heap.size := by obtain ⟨m, hm⟩ := k2; exact DataW.trod_lt m _ _ _ hm
  obtain ⟨zs2, rfl, hz2, hw2⟩ := open_arr Try.underlying51 Try.underlying3 (by kernel_rfl) (by kernel_rfl) (hval 2 51 v2 rfl rfl) h2
  obtain ⟨z2_0, z2_1, z2_2, z2_3, rfl⟩ := list4 hz2
  have bz2_0 := bounds_i64 (hw2 z2_0 (by simp))
  have bz2_1 := bounds_i64 (hw2 z2_1 (by simp))
  have bz2_2 := bounds_i64 (hw2 z2_2 (by simp))
  have bz2_3 := bounds_i64 (hw2 z2_3 (by simp))
  clear hA0 hval0
  refine (walk a0 (bounds_i64 w0).1 (bounds_i64 w0).2 a1 (bounds_i64 w1).1 (bounds_i64 w1).2 z2_0 bz2_0.1 bz2_0.2 z2_1 bz2_1.1 bz2_1.2 z2_2 bz2_2.1 bz2_2.2 z2_3 bz2_3.1 bz2_3.2 W).mono fun e W' ⟨he, bel⟩ => ?_
  subst he
  exact ⟨_, rfl, _, _, _, [], _, [], hW', trodAll_mk1 (shut_bool Try.underlying4 _), (trodAll_cons_mk (shut_int Try.underlying3 w0) (trodAll_cons_mk (shut_int Try.underlying3 w1) (trodAll_cons_mk (Below.trod laidOut (by kernel_rfl) (of_decide_eq_true (by kernel_rfl)) k2 bel lt2) trodAll_mk0))), rfl, bel.frame _, fun h => by cases h⟩

theorem closed : joinedFacts Try.prog 16 Try.f16 Rows.collideOwnSpec Rows.collideOwnRow = true := by
  unfold joinedFacts
  repeat' (with_reducible refine both_of ?_ ?_)
  all_goals (first | with_reducible exact mayEnter_ok | (rw [liftsFinal_is]; as_aux_lemma => kernel_rfl) | (rw [make_is]; as_aux_lemma => kernel_rfl) | (as_aux_lemma => kernel_rfl))

theorem over : Rows.collideOwnRow.holds Try.pinned (OpenSpec.ofChange Rows.collideOwnSpec) :=
  OpenClaim.holds_of_wide 16 Try.f16 rfl rfl rfl rfl rfl rfl rfl ⟨rfl, rfl, rfl, rfl, rfl⟩ rfl rfl rfl rfl rfl (by kernel_rfl) Try.func16 closed
    (of_decide_eq_true (by kernel_rfl)) (by unfold Func.isWrapper; first | (rw [if_pos (by decide +kernel)]; kernel_rfl) | (rw [if_neg (by decide +kernel)]; exact ⟨rfl, rfl⟩))
    (fun os started H enc _ => lifted os started H enc)

theorem proved : Rows.CollideOwnSaid := over
#print axioms proved

end Go.Proofs.Ytipcppbbpmdijaa.collideOwn
