/-
  CollideSwap: exchanging two polygons, or choosing another first vertex, changes neither whether they collide nor the depth. Conditions: none.
-/
import Derived.Test.YtipcppbbpmdijaaRows
import Derived.Test.YtipcppbbpmdijaaHead
import Derived.Test.YtipcppbbpmdijaaOpen
import Derived.Test.YtipcppbbpmdijaaPla
namespace Go.Proofs.Ytipcppbbpmdijaa.collideSwap
open Go.ChangeShapes Go.WideShapes Go.ChangeAt Go.RowKit Go.Sort
attribute [local go_sem ↓] Go.wp_at_zero Go.wp_at_succ

set_option maxRecDepth 100000 in
set_option maxHeartbeats 4000000 in
theorem walk (n : Int) (ln : -9223372036854775808 ≤ n) (un : n ≤ 9223372036854775807) (m : Int) (lm : -9223372036854775808 ≤ m) (um : m ≤ 9223372036854775807) (t0 : Int) (lt0 : -9223372036854775808 ≤ t0) (ut0 : t0 ≤ 9223372036854775807) (t1 : Int) (lt1 : -9223372036854775808 ≤ t1) (ut1 : t1 ≤ 9223372036854775807) (t2 : Int) (lt2 : -9223372036854775808 ≤ t2) (ut2 : t2 ≤ 9223372036854775807) (t3 : Int) (lt3 : -9223372036854775808 ≤ t3) (ut3 : t3 ≤ 9223372036854775807) (z : Int) (lz : -9223372036854775808 ≤ z) (uz : z ≤ 9223372036854775807) (w : World) :
    Calls Try.prog 10 #[.int .i64 n, .int .i64 m, .agg #[.int .i64 t0, .int .i64 t1, .int .i64 t2, .int .i64 t3], .int .i64 z] w fun e w' => e = .returned (.bool true) ∧ Below w.heap.size w w' := by
  have hGa := shape_gs n
  have hGb := shape_gs m
  have hSa := hGa.sn
  have hSb := hGb.sn
  have hSh1 := fun W => Shape_any n W ln un
  have hSh2 := fun W => Shape_any m W lm um
  generalize shR n = Ra at *
  generalize shV n = va at *
  generalize shR m = Rb at *
  generalize shV m = vb at *
  have hP := fun A j c B k d W P Q => Place_any Ra Rb t0 t1 t2 t3 A B j c k d va vb W P Q hSa hSb ⟨lt0, ut0⟩ ⟨lt1, ut1⟩ ⟨lt2, ut2⟩ ⟨lt3, ut3⟩
  have pb := plP_bd t0 t1
  have qb := plQ_bd hSa hSb t0 t1 t2 t3
  generalize plP t0 t1 = p at *
  generalize plQ Ra va Rb vb t0 t1 t2 t3 = q at *
  obtain ⟨p0, p1⟩ := p
  obtain ⟨q0, q1⟩ := q
  unfold LB at pb qb
  dsimp only at pb qb hP
  have hTr := fun A j c W P => Turned_any Ra z A j c va W P hGa lz uz
  have hSt := (trn_gs (z := z) hGa).sn
  have hC1 := fun A j c B k d W P Q => Collide_any Ra Rb p0 p1 q0 q1 A B j c k d va vb W P Q hSa hSb (by omega) (by omega) (by omega) (by omega)
  have hC2 := fun A j c B k d W P Q => Collide_any Rb Ra q0 q1 p0 p1 B A k d j c vb va W Q P hSb hSa (by omega) (by omega) (by omega) (by omega)
  have hC3 := fun A j c B k d W P Q => Collide_any Ra Rb p0 p1 q0 q1 A B j c k d (trn z va) vb W P Q hSt hSb (by omega) (by omega) (by omega) (by omega)
  have hsw : va ≠ [] → vb ≠ [] → (hit Ra va (p0, p1) Rb vb (q0, q1) = hit Rb vb (q0, q1) Ra va (p0, p1) ∧ cnD Ra va (p0, p1) Rb vb (q0, q1) = cnD Rb vb (q0, q1) Ra va (p0, p1)) ∧ hit Ra va (p0, p1) Rb vb (q0, q1) = hit Ra (trn z va) (p0, p1) Rb vb (q0, q1) ∧ cnD Ra va (p0, p1) Rb vb (q0, q1) = cnD Ra (trn z va) (p0, p1) Rb vb (q0, q1) := fun ha hb => ⟨hit_swap ha hb, by
    have hl := List.length_pos_iff.2 ha
    have := arnd_bd z (most := (va.length : Int)) (by omega)
    exact hit_rot hb (by omega)⟩
  generalize hit Ra va (p0, p1) Rb vb (q0, q1) = h1 at *
  generalize hit Rb vb (q0, q1) Ra va (p0, p1) = h2 at *
  generalize hit Ra (trn z va) (p0, p1) Rb vb (q0, q1) = h3 at *
  generalize cnD Ra va (p0, p1) Rb vb (q0, q1) = d1 at *
  generalize cnD Rb vb (q0, q1) Ra va (p0, p1) = d2 at *
  generalize cnD Ra (trn z va) (p0, p1) Rb vb (q0, q1) = d3 at *
  generalize cnN Ra va (p0, p1) Rb vb (q0, q1) = m1 at *
  generalize cnN Rb vb (q0, q1) Ra va (p0, p1) = m2 at *
  generalize cnN Ra (trn z va) (p0, p1) Rb vb (q0, q1) = m3 at *
  have HP := Lib.hid hP; clear hP
  have HC1 := Lib.hid hC1; clear hC1
  have HC2 := Lib.hid hC2; clear hC2
  have HC3 := Lib.hid hC3; clear hC3
  have HTR := Lib.hid hTr; clear hTr
  have HSW := Lib.hid hsw; clear hsw
  have HSH1 := Lib.hid hSh1; clear hSh1
  have HSH2 := Lib.hid hSh2; clear hSh2
  clear hGa hGb hSt
  go_enter Try.func10, Try.ntmps10
  go_wp2_with fail
  refine calls_at ?_; intro W0 hW; have dW0 : Below w.heap.size w W0 := (by rw [hW]; exact (by repeat (first | with_reducible exact Below.refl _ _ | with_reducible refine below_alloc ?_ _ | with_reducible refine Below.drew ?_ | with_reducible refine below_set ?_ (by (first | (simp; done) | (simp; omega))) _ | with_reducible refine below_step (by assumption) ?_)))
  have XT : B4 W0 (w.heap.size) (.int .i64 (t0)) (.int .i64 (t1)) (.int .i64 (t2)) (.int .i64 (t3)) := (by rw [hW]; unfold B4 Cel; simp [go_sem]); have lXT := XT.lt
  clear hW
  refine (HSH1.out _).mono ?_
  rintro e w1 ⟨A, ja, ca, rfl, PA, hb1, -⟩
  replace XT := XT.below hb1; clear lXT; have lXT := XT.lt
  go_wp2_with fail
  refine calls_at ?_; intro W2 hW; have dW2 : Below w1.heap.size w1 W2 := (by rw [hW]; exact (by repeat (first | with_reducible exact Below.refl _ _ | with_reducible refine below_alloc ?_ _ | with_reducible refine Below.drew ?_ | with_reducible refine below_set ?_ (by (first | (simp; done) | (simp; omega))) _ | with_reducible refine below_step (by assumption) ?_))); replace XT := XT.below dW2; (try clear lXT); have lXT := XT.lt; replace PA := PA.below dW2; (try clear lPA); have lPA := PA.lt
  have XA : B2 W2 w1.heap.size (.int .i64 Ra) (.slice A ja ca) := (by rw [hW]; unfold B2 Cel; simp [go_sem])
  have i2 : Below w.heap.size w W2 := (by repeat (first | with_reducible exact Below.refl _ _ | with_reducible refine below_alloc ?_ _ | with_reducible refine Below.drew ?_ | with_reducible refine below_set ?_ (by (first | (simp; done) | (simp; omega))) _ | with_reducible refine below_step (by assumption) ?_))
  clear hW
  refine (HSH2.out _).mono ?_
  rintro e w3 ⟨B, jb, cb, rfl, PB, hb3, -⟩
  replace XT := XT.below hb3; replace XA := XA.below hb3; replace PA := PA.below hb3
  clear lXT; have lXT := XT.lt; have lXA := XA.lt
  have i3 : Below w.heap.size w w3 := i2.trans (hb3.mono i2.size)
  by_cases ha : va = []
  · obtain ⟨rfl, rfl, rfl⟩ := PA.nil ha
    go_wp2_with fail
    refine (lives5_any _).mono ?_
    rintro e w4 ⟨rfl, hb4⟩
    go_wp2_with fail
    go_ret
    exact ⟨rfl, i3.trans (((by repeat (first | with_reducible exact Below.refl _ _ | with_reducible refine below_alloc ?_ _ | with_reducible refine Below.drew ?_ | with_reducible refine below_set ?_ (by (first | (simp; done) | (simp; omega))) _ | with_reducible refine below_step (by assumption) ?_)) : Below w3.heap.size w3 _).mono i3.size)⟩
  · obtain ⟨a, rfl, hj, -, -, -, -, -⟩ := PA.at_ ha
    have hj0 : ((ja : Int) == 0) = false := by simp; omega
    by_cases hb : vb = []
    · obtain ⟨rfl, rfl, rfl⟩ := PB.nil hb
      clear ha
      go_wp2_with fail
      refine (lives5_any _).mono ?_
      rintro e w4 ⟨rfl, hb4⟩
      go_wp2_with fail
      go_ret
      exact ⟨rfl, i3.trans (((by repeat (first | with_reducible exact Below.refl _ _ | with_reducible refine below_alloc ?_ _ | with_reducible refine Below.drew ?_ | with_reducible refine below_set ?_ (by (first | (simp; done) | (simp; omega))) _ | with_reducible refine below_step (by assumption) ?_)) : Below w3.heap.size w3 _).mono i3.size)⟩
    · obtain ⟨b, rfl, hk, -, -, -, -, -⟩ := PB.at_ hb
      have hk0 : ((jb : Int) == 0) = false := by simp; omega
      obtain ⟨⟨rfl, rfl⟩, rfl, rfl⟩ := HSW.out ha hb
      clear ha hb HSW
      go_wp2_with fail
      refine calls_at ?_; intro W4 hW; have dW4 : Below w3.heap.size w3 W4 := (by rw [hW]; exact (by repeat (first | with_reducible exact Below.refl _ _ | with_reducible refine below_alloc ?_ _ | with_reducible refine Below.drew ?_ | with_reducible refine below_set ?_ (by (first | (simp; done) | (simp; omega))) _ | with_reducible refine below_step (by assumption) ?_))); replace XT := XT.below dW4; (try clear lXT); have lXT := XT.lt; replace XA := XA.below dW4; (try clear lXA); have lXA := XA.lt; replace PA := PA.below dW4; (try clear lPA); have lPA := PA.lt; replace PB := PB.below dW4; (try clear lPB); have lPB := PB.lt
      have XB : B2 W4 w3.heap.size (.int .i64 Rb) (.slice (some ⟨b, 0, none⟩) jb cb) := (by rw [hW]; unfold B2 Cel; simp [go_sem])
      have i4 : Below w.heap.size w W4 := (by repeat (first | with_reducible exact Below.refl _ _ | with_reducible refine below_alloc ?_ _ | with_reducible refine Below.drew ?_ | with_reducible refine below_set ?_ (by (first | (simp; done) | (simp; omega))) _ | with_reducible refine below_step (by assumption) ?_))
      clear hW dW0 dW2 dW4 i2 i3 hb1 hb3
      refine (HP.out _ _ _ _ _ _ _ PA PB).mono ?_
      rintro e w5 ⟨rfl, hb5⟩; have d5 : Below W4.heap.size W4 w5 := below_step hb5 (by repeat (first | with_reducible exact Below.refl _ _ | with_reducible refine below_alloc ?_ _ | with_reducible refine Below.drew ?_ | with_reducible refine below_set ?_ (by (first | (simp; done) | (simp; omega))) _ | with_reducible refine below_step (by assumption) ?_)); have z5 := hb5.size; (try simp at z5); replace XT := XT.below d5; (try clear lXT); have lXT := XT.lt; replace XA := XA.below d5; (try clear lXA); have lXA := XA.lt; replace PA := PA.below d5; (try clear lPA); have lPA := PA.lt; replace PB := PB.below d5; (try clear lPB); have lPB := PB.lt; replace XB := XB.below d5; (try clear lXB); have lXB := XB.lt
      go_wp2_with fail
      refine calls_at ?_; intro W6 hW; have dW6 : Below w5.heap.size w5 W6 := (by rw [hW]; exact (by repeat (first | with_reducible exact Below.refl _ _ | with_reducible refine below_alloc ?_ _ | with_reducible refine Below.drew ?_ | with_reducible refine below_set ?_ (by (first | (simp; done) | (simp; omega))) _ | with_reducible refine below_step (by assumption) ?_))); replace XT := XT.below dW6; (try clear lXT); have lXT := XT.lt; replace PA := PA.below dW6; (try clear lPA); have lPA := PA.lt; replace PB := PB.below dW6; (try clear lPB); have lPB := PB.lt; replace XA := XA.below dW6; (try clear lXA); have lXA := XA.lt; replace XB := XB.below dW6; (try clear lXB); have lXB := XB.lt
      have XP : B2 W6 (w5.heap.size) (.int .i64 (p0)) (.int .i64 (p1)) := (by rw [hW]; unfold B2 Cel; simp [go_sem]); have lXP := XP.lt
      have XQ : B2 W6 (w5.heap.size + 1) (.int .i64 (q0)) (.int .i64 (q1)) := (by rw [hW]; unfold B2 Cel; simp [go_sem]); have lXQ := XQ.lt
      have i6 : Below w.heap.size w W6 := (by repeat (first | with_reducible exact Below.refl _ _ | with_reducible refine below_alloc ?_ _ | with_reducible refine Below.drew ?_ | with_reducible refine below_set ?_ (by (first | (simp; done) | (simp; omega))) _ | with_reducible refine below_step (by assumption) ?_))
      clear hW
      refine (HC1.out _ _ _ _ _ _ _ PA PB).mono ?_
      rintro e w7 ⟨rfl, hb7⟩; have d7 : Below W6.heap.size W6 w7 := below_step hb7 (by repeat (first | with_reducible exact Below.refl _ _ | with_reducible refine below_alloc ?_ _ | with_reducible refine Below.drew ?_ | with_reducible refine below_set ?_ (by (first | (simp; done) | (simp; omega))) _ | with_reducible refine below_step (by assumption) ?_)); have z7 := hb7.size; (try simp at z7); replace PA := PA.below d7; (try clear lPA); have lPA := PA.lt; replace PB := PB.below d7; (try clear lPB); have lPB := PB.lt; replace XA := XA.below d7; (try clear lXA); have lXA := XA.lt; replace XB := XB.below d7; (try clear lXB); have lXB := XB.lt; replace XP := XP.below d7; (try clear lXP); have lXP := XP.lt; replace XQ := XQ.below d7; (try clear lXQ); have lXQ := XQ.lt
      go_wp2_with fail
      refine calls_at ?_; intro W8 hW; have dW8 : Below w7.heap.size w7 W8 := (by rw [hW]; exact (by repeat (first | with_reducible exact Below.refl _ _ | with_reducible refine below_alloc ?_ _ | with_reducible refine Below.drew ?_ | with_reducible refine below_set ?_ (by (first | (simp; done) | (simp; omega))) _ | with_reducible refine below_step (by assumption) ?_))); replace PA := PA.below dW8; (try clear lPA); have lPA := PA.lt; replace PB := PB.below dW8; (try clear lPB); have lPB := PB.lt; replace XA := XA.below dW8; (try clear lXA); have lXA := XA.lt; replace XB := XB.below dW8; (try clear lXB); have lXB := XB.lt; replace XP := XP.below dW8; (try clear lXP); have lXP := XP.lt; replace XQ := XQ.below dW8; (try clear lXQ); have lXQ := XQ.lt
      have XC : B3 W8 w7.heap.size (.int .i64 m1.1) (.int .i64 m1.2) (.int .i64 d1) := (by rw [hW]; unfold B3 Cel; simp [go_sem])
      have lXC := XC.lt
      have i8 : Below w.heap.size w W8 := (by repeat (first | with_reducible exact Below.refl _ _ | with_reducible refine below_alloc ?_ _ | with_reducible refine Below.drew ?_ | with_reducible refine below_set ?_ (by (first | (simp; done) | (simp; omega))) _ | with_reducible refine below_step (by assumption) ?_))
      clear hW
      refine (HC2.out _ _ _ _ _ _ _ PA PB).mono ?_
      rintro e w9 ⟨rfl, hb9⟩; have d9 : Below W8.heap.size W8 w9 := below_step hb9 (by repeat (first | with_reducible exact Below.refl _ _ | with_reducible refine below_alloc ?_ _ | with_reducible refine Below.drew ?_ | with_reducible refine below_set ?_ (by (first | (simp; done) | (simp; omega))) _ | with_reducible refine below_step (by assumption) ?_)); have z9 := hb9.size; (try simp at z9); replace PA := PA.below d9; (try clear lPA); have lPA := PA.lt; replace PB := PB.below d9; (try clear lPB); have lPB := PB.lt; replace XA := XA.below d9; (try clear lXA); have lXA := XA.lt; replace XB := XB.below d9; (try clear lXB); have lXB := XB.lt; replace XP := XP.below d9; (try clear lXP); have lXP := XP.lt; replace XQ := XQ.below d9; (try clear lXQ); have lXQ := XQ.lt; replace XC := XC.below d9; (try clear lXC); have lXC := XC.lt
      go_wp2_with fail
      refine code_named ?_; intro Wa hW; have dWa : Below w9.heap.size w9 Wa := (by rw [hW]; exact (by repeat (first | with_reducible exact Below.refl _ _ | with_reducible refine below_alloc ?_ _ | with_reducible refine Below.drew ?_ | with_reducible refine below_set ?_ (by (first | (simp; done) | (simp; omega))) _ | with_reducible refine below_step (by assumption) ?_))); replace PA := PA.below dWa; (try clear lPA); have lPA := PA.lt; replace PB := PB.below dWa; (try clear lPB); have lPB := PB.lt; replace XA := XA.below dWa; (try clear lXA); have lXA := XA.lt; replace XB := XB.below dWa; (try clear lXB); have lXB := XB.lt; replace XP := XP.below dWa; (try clear lXP); have lXP := XP.lt; replace XQ := XQ.below dWa; (try clear lXQ); have lXQ := XQ.lt; replace XC := XC.below dWa; (try clear lXC); have lXC := XC.lt
      have XD : B3 Wa w9.heap.size (.int .i64 m2.1) (.int .i64 m2.2) (.int .i64 d1) := (by rw [hW]; unfold B3 Cel; simp [go_sem])
      have lXD := XD.lt
      have ia : Below w.heap.size w Wa := (by repeat (first | with_reducible exact Below.refl _ _ | with_reducible refine below_alloc ?_ _ | with_reducible refine Below.drew ?_ | with_reducible refine below_set ?_ (by (first | (simp; done) | (simp; omega))) _ | with_reducible refine below_step (by assumption) ?_))
      clear hW hb5 hb7 hb9 d5 d7 d9 dW6 dW8 dWa z5 z7 z9 i4 i6 i8 XT lXT
      go_cut [17, 18] (fun s17 s18 w' => ∃ g : Nat, s17 = .pointer (some ⟨g, 0, none⟩) ∧ s18 = .bool h1 ∧ B3 w' g (.int .i64 m3.1) (.int .i64 m3.2) (.int .i64 d1) ∧ Below Wa.heap.size Wa w')
      case first =>
        have HTW := Lib.hid (fun W hW => HTR.out _ _ _ W (PA.below hW))
        have HPW := Lib.hid (fun W (hW : Below Wa.heap.size Wa W) => PB.below hW)
        have KS := Lib.hid (show ∀ w', Below Wa.heap.size Wa w' → (B2 w' w1.heap.size (.int .i64 Ra) (.slice (some ⟨a, 0, none⟩) ja ca) ∧ B2 w' w3.heap.size (.int .i64 Rb) (.slice (some ⟨b, 0, none⟩) jb cb) ∧ B2 w' w5.heap.size (.int .i64 p0) (.int .i64 p1) ∧ B2 w' (w5.heap.size + 1) (.int .i64 q0) (.int .i64 q1) ∧ Below Wa.heap.size Wa w') from fun w' hb => ⟨XA.below hb, XB.below hb, XP.below hb, XQ.below hb, hb⟩)
        go_region_held3 (fun w' => B2 w' w1.heap.size (.int .i64 Ra) (.slice (some ⟨a, 0, none⟩) ja ca) ∧ B2 w' w3.heap.size (.int .i64 Rb) (.slice (some ⟨b, 0, none⟩) jb cb) ∧ B2 w' w5.heap.size (.int .i64 p0) (.int .i64 p1) ∧ B2 w' (w5.heap.size + 1) (.int .i64 q0) (.int .i64 q1) ∧ Below Wa.heap.size Wa w') (refine KS.out _ (by repeat (first | with_reducible exact Below.refl _ _ | with_reducible refine below_alloc ?_ _ | with_reducible refine Below.drew ?_ | with_reducible refine below_set ?_ (by (first | (simp; done) | (simp; omega))) _ | with_reducible refine below_step (by assumption) ?_)))
          (first
            | (go_at_call 43; refine (HTW.out _ (‹_ ∧ _ ∧ _ ∧ _ ∧ Below Wa.heap.size Wa _›).2.2.2.2).mono ?_; rintro e v9 ⟨A9, j9, c9, rfl, T9, hb9, -⟩; obtain ⟨hc9, hf9, hx9, hy9, hn9, hz9⟩ := bcellA hb9; (try simp at hz9))
            | (go_at_call 46; refine (HC3.out _ _ _ _ _ _ _ (T9.below (by repeat (first | with_reducible exact Below.refl _ _ | with_reducible refine below_alloc ?_ _ | with_reducible refine Below.drew ?_ | with_reducible refine below_set ?_ (by (first | (simp; done) | (simp; omega))) _ | with_reducible refine below_step (by assumption) ?_))) (HPW.out _ (‹_ ∧ _ ∧ _ ∧ _ ∧ Below Wa.heap.size Wa _›).2.2.2.2)).mono ?_; rintro e w8 ⟨rfl, hb8⟩; obtain ⟨hc8, hf8, hx8, hy8, hn8, hz8⟩ := bcellA hb8; (try simp at hz8)))
        all_goals (rename _ ∧ _ ∧ _ ∧ _ ∧ Below Wa.heap.size Wa _ => hS; go_wp2_with fail; go_meet; exact ⟨_, rfl, rfl, (by unfold B3 Cel; simp (maxDischargeDepth := 6) [go_sem, World.cell?_setCell_same', *]), hS.2.2.2.2⟩)
      case rest =>
        rename World => wb
        obtain ⟨g, rfl, rfl, XE, db⟩ := hcut
        replace XC := XC.below db; replace XD := XD.below db
        have ib := ia.trans (db.mono ia.size)
        clear db XA XB XP XQ lXA lXB lXP lXQ PA PB lPA lPB
        cases h1 with
        | true =>
          go_wp2_with fail
          refine (lives5_any _).mono ?_
          rintro e w10 ⟨rfl, hb10⟩
          go_wp2_with fail
          go_ret
          exact ⟨rfl, ib.trans (hb10.mono ib.size)⟩
        | false =>
          go_wp2_with fail
          refine (lives5_any _).mono ?_
          rintro e w10 ⟨rfl, hb10⟩
          go_wp2_with fail
          go_ret
          exact ⟨rfl, ib.trans (hb10.mono ib.size)⟩

theorem own : ownKnob Try.prog.godebug = none := by kernel_rfl
theorem laidOut : laidOutB Try.prog = true := by kernel_rfl

set_option maxRecDepth 100000 in
theorem lifted (os : Os) (started : os.Started) (H : Type) (enc : TypeId × Value → H) :
    ReturnsInHanded {} Try.checked os 10 .any (Rows.collideSwapSpec.pre6 enc Try.prog Try.f10 Rows.collideSwapRow.domain false) (Rows.collideSwapSpec.post enc Try.prog Try.f10 false true false false) := by
  refine returnsInHanded_of_change (C := Try.checked) own started (by kernel_rfl) Try.func10
    (ChangeSpec.witness6 (enc := enc) (C := Try.checked) false ⟨#[], #[.int .i64 0, .int .i64 0, .agg #[.int .i64 0, .int .i64 0, .int .i64 0, .int .i64 0], .int .i64 0], []⟩ 8 (by kernel_rfl) (by kernel_rfl) (by kernel_rfl) (by kernel_rfl)) ?_
  intro W base args ds gs before hval0 hW hcnd _
  have hval : ∀ (j : Nat) t v, Try.f10.params[j]? = some t → args[j]? = some v → Value.okWide Try.prog W .any base t v := hval0
  have hW' := hW
  obtain ⟨p, q, hA0, hV, rfl, hfz, hnd⟩ := hW
  have hA : DataW.TrodAll enc Try.prog W 0 (fun _ => true) true Try.f10.params.toList args.toList ds p := hA0
  rw [Try.params10] at hA hval
  obtain ⟨v0, vs0, d0, ds0, p0, q0, hargs, rfl, rfl, h0, r0⟩ := trodAll_cons hA
  obtain ⟨v1, vs1, d1, ds1, p1, q1, rfl, rfl, rfl, h1, r1⟩ := trodAll_cons r0
  obtain ⟨v2, vs2, d2, ds2, p2, q2, rfl, rfl, rfl, h2, r2⟩ := trodAll_cons r1
  obtain ⟨v3, vs3, d3, ds3, p3, q3, rfl, rfl, rfl, h3, r3⟩ := trodAll_cons r2
  obtain ⟨rfl, rfl, rfl⟩ := trodAll_nil r3
  obtain rfl : args = #[v0, v1, v2, v3] := by cases args; simp_all
  obtain ⟨rfl, rfl⟩ := trodVars_none hV
  obtain ⟨a0, rfl, rfl, rfl, w0⟩ := open_int Try.underlying3 (hval 0 3 v0 rfl rfl) h0
  obtain ⟨a1, rfl, rfl, rfl, w1⟩ := open_int Try.underlying3 (hval 1 3 v1 rfl rfl) h1
  have k2 := h2
  have lt2 : ∀ x ∈ p2, x.block < W.heap.size := by obtain ⟨m, hm⟩ := k2; exact DataW.trod_lt m _ _ _ hm
  obtain ⟨zs2, rfl, hz2, hw2⟩ := open_arr Try.underlying51 Try.underlying3 (by kernel_rfl) (by kernel_rfl) (hval 2 51 v2 rfl rfl) h2
  obtain ⟨z2_0, z2_1, z2_2, z2_3, rfl⟩ := list4 hz2
  have bz2_0 := bounds_i64 (hw2 z2_0 (by simp))
  have bz2_1 := bounds_i64 (hw2 z2_1 (by simp))
  have bz2_2 := bounds_i64 (hw2 z2_2 (by simp))
  have bz2_3 := bounds_i64 (hw2 z2_3 (by simp))
  obtain ⟨a3, rfl, rfl, rfl, w3⟩ := open_int Try.underlying3 (hval 3 3 v3 rfl rfl) h3
  clear hA0 hval0
  refine (walk a0 (bounds_i64 w0).1 (bounds_i64 w0).2 a1 (bounds_i64 w1).1 (bounds_i64 w1).2 z2_0 bz2_0.1 bz2_0.2 z2_1 bz2_1.1 bz2_1.2 z2_2 bz2_2.1 bz2_2.2 z2_3 bz2_3.1 bz2_3.2 a3 (bounds_i64 w3).1 (bounds_i64 w3).2 W).mono fun e W' ⟨he, bel⟩ => ?_
  subst he
  exact ⟨_, rfl, _, _, _, [], _, [], hW', trodAll_mk1 (shut_bool Try.underlying4 _), (trodAll_cons_mk (shut_int Try.underlying3 w0) (trodAll_cons_mk (shut_int Try.underlying3 w1) (trodAll_cons_mk (Below.trod laidOut (by kernel_rfl) (of_decide_eq_true (by kernel_rfl)) k2 bel lt2) (trodAll_cons_mk (shut_int Try.underlying3 w3) trodAll_mk0)))), rfl, bel.frame _, fun h => by cases h⟩

theorem closed : joinedFacts Try.prog 10 Try.f10 Rows.collideSwapSpec Rows.collideSwapRow = true := by
  unfold joinedFacts
  repeat' (with_reducible refine both_of ?_ ?_)
  all_goals (first | with_reducible exact mayEnter_ok | (rw [liftsFinal_is]; as_aux_lemma => kernel_rfl) | (rw [make_is]; as_aux_lemma => kernel_rfl) | (as_aux_lemma => kernel_rfl))

theorem over : Rows.collideSwapRow.holds Try.pinned (OpenSpec.ofChange Rows.collideSwapSpec) :=
  OpenClaim.holds_of_wide 10 Try.f10 rfl rfl rfl rfl rfl rfl rfl ⟨rfl, rfl, rfl, rfl, rfl⟩ rfl rfl rfl rfl rfl (by kernel_rfl) Try.func10 closed
    (of_decide_eq_true (by kernel_rfl)) (by unfold Func.isWrapper; first | (rw [if_pos (by decide +kernel)]; kernel_rfl) | (rw [if_neg (by decide +kernel)]; exact ⟨rfl, rfl⟩))
    (fun os started H enc _ => lifted os started H enc)

theorem proved : Rows.CollideSwapSaid := over
#print axioms proved

end Go.Proofs.Ytipcppbbpmdijaa.collideSwap
