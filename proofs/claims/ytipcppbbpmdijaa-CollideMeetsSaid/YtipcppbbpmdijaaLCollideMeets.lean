/-
  CollideMeets: two generated shapes without short edges that both cover a point and the four points at a distance of 4096 from it collide. Conditions: none.
-/
import Derived.Test.YtipcppbbpmdijaaRows
import Derived.Test.YtipcppbbpmdijaaHead
import Derived.Test.YtipcppbbpmdijaaOpen
import Derived.Test.YtipcppbbpmdijaaNear
import Derived.Test.YtipcppbbpmdijaaLng
namespace Go.Proofs.Ytipcppbbpmdijaa.collideMeets
open Go.ChangeShapes Go.WideShapes Go.ChangeAt Go.RowKit Go.Sort
attribute [local go_sem ↓] Go.wp_at_zero Go.wp_at_succ

def armL : List V2 := [(0, 0), (4096, 0), (-4096, 0), (0, 4096), (0, -4096)]
theorem armL_bd : ∀ v ∈ armL, (-4096 ≤ v.1 ∧ v.1 ≤ 4096) ∧ (-4096 ≤ v.2 ∧ v.2 ≤ 4096) := by decide
theorem cv5_of {R : Int} {vs : List V2} {p0 p1 c0 c1 : Int} (h : ∀ (s : Nat) v, s < 5 → armL[s]? = some v → cov R vs (c0 + v.1 - p0, c1 + v.2 - p1) = true) : Cv5 R vs (p0, p1) (c0, c1) := by
  have h0 := h 0 (0, 0) (by omega) rfl
  have h1 := h 1 (4096, 0) (by omega) rfl
  have h2 := h 2 (-4096, 0) (by omega) rfl
  have h3 := h 3 (0, 4096) (by omega) rfl
  have h4 := h 4 (0, -4096) (by omega) rfl
  dsimp only at h0 h1 h2 h3 h4
  rw [Int.add_zero, Int.add_zero] at h0
  rw [Int.add_zero] at h1 h2 h3 h4
  rw [show c0 + -4096 = c0 - 4096 by omega] at h2
  rw [show c1 + -4096 = c1 - 4096 by omega] at h4
  exact ⟨h0, h1, h2, h3, h4⟩

set_option maxRecDepth 100000 in
set_option maxHeartbeats 8000000 in
theorem walk (n : Int) (ln : -9223372036854775808 ≤ n) (un : n ≤ 9223372036854775807) (m : Int) (lm : -9223372036854775808 ≤ m) (um : m ≤ 9223372036854775807) (t0 : Int) (lt0 : -9223372036854775808 ≤ t0) (ut0 : t0 ≤ 9223372036854775807) (t1 : Int) (lt1 : -9223372036854775808 ≤ t1) (ut1 : t1 ≤ 9223372036854775807) (t2 : Int) (lt2 : -9223372036854775808 ≤ t2) (ut2 : t2 ≤ 9223372036854775807) (t3 : Int) (lt3 : -9223372036854775808 ≤ t3) (ut3 : t3 ≤ 9223372036854775807)
    (x : Int) (lx : -9223372036854775808 ≤ x) (ux : x ≤ 9223372036854775807) (y : Int) (ly : -9223372036854775808 ≤ y) (uy : y ≤ 9223372036854775807) (w : World) :
    Calls Try.prog 24 #[.int .i64 n, .int .i64 m, .agg #[.int .i64 t0, .int .i64 t1, .int .i64 t2, .int .i64 t3], .int .i64 x, .int .i64 y] w fun e w' => e = .returned (.bool true) ∧ Below w.heap.size w w' := by
  have hGa := shape_gs n
  have hGb := shape_gs m
  have hSa := hGa.sn
  have hSb := hGb.sn
  have hSh1 := fun W => Shape_any n W ln un
  have hSh2 := fun W => Shape_any m W lm um
  generalize shR n = Ra at *
  generalize shV n = va at *
  generalize shR m = Rb at *
  generalize shV m = vb at *
  have hP := fun A j c B k d W P Q => Place_any Ra Rb t0 t1 t2 t3 A B j c k d va vb W P Q hSa hSb ⟨lt0, ut0⟩ ⟨lt1, ut1⟩ ⟨lt2, ut2⟩ ⟨lt3, ut3⟩
  have pb := plP_bd t0 t1
  have qb := plQ_bd hSa hSb t0 t1 t2 t3
  generalize plP t0 t1 = p at *
  generalize plQ Ra va Rb vb t0 t1 t2 t3 = q at *
  obtain ⟨p0, p1⟩ := p
  obtain ⟨q0, q1⟩ := q
  unfold LB at pb qb
  dsimp only at pb qb hP
  have hC := fun A j c B k d W P Q => Collide_any Ra Rb p0 p1 q0 q1 A B j c k d va vb W P Q hSa hSb (by omega) (by omega) (by omega) (by omega)
  have hL1 := fun A j c W P => long_any Ra A j c va W P hSa
  have hL2 := fun A j c W P => long_any Rb A j c vb W P hSb
  have hBn := fun A j c W P => Bounds_any Ra p0 p1 A j c va W P hSa (by omega) (by omega)
  have bo := bb_ord hSa
  have bd := bb_bd hSa
  have hK1 := fun x y (hx : -250000 ≤ x ∧ x ≤ 250000) (hy : -250000 ≤ y ∧ y ≤ 250000) A j c W P => Contains_any Ra p0 p1 x y A j c va W P hSa (by omega) (by omega) (by omega) (by omega)
  have hK2 := fun x y (hx : -250000 ≤ x ∧ x ≤ 250000) (hy : -250000 ≤ y ∧ y ≤ 250000) A j c W P => Contains_any Rb q0 q1 x y A j c vb W P hSb (by omega) (by omega) (by omega) (by omega)
  have hme := fun c0 c1 l1 l2 h1 h2 => meets (Ra := Ra) (va := va) (p := (p0, p1)) (Rb := Rb) (vb := vb) (q := (q0, q1)) (c := (c0, c1)) hGa.valid hGb.valid hSa.1 hSb.1 l1 l2 h1 h2
  generalize hit Ra va (p0, p1) Rb vb (q0, q1) = hh at *
  generalize cnD Ra va (p0, p1) Rb vb (q0, q1) = d1 at *
  generalize cnN Ra va (p0, p1) Rb vb (q0, q1) = m1 at *
  generalize bx0 Ra va = b0 at *
  generalize by0 Ra va = b1 at *
  generalize bx1 Ra va = b2 at *
  generalize by1 Ra va = b3 at *
  have hA1 := fun W => Around_any x (b2 + p0 - (b0 + p0) + 1) W (by omega) lx ux
  have hA2 := fun W => Around_any y (b3 + p1 - (b1 + p1) + 1) W (by omega) ly uy
  have hA3 := fun W => Around_any x 3 W (by omega) lx ux
  have ab1 := arnd_bd x (most := b2 + p0 - (b0 + p0) + 1) (by omega)
  have ab2 := arnd_bd y (most := b3 + p1 - (b1 + p1) + 1) (by omega)
  generalize arnd x (b2 + p0 - (b0 + p0) + 1) = e0 at *
  generalize arnd y (b3 + p1 - (b1 + p1) + 1) = e1 at *
  generalize arnd x 3 = e3 at *
  have hAd := fun W => Add_any p0 p1 q0 q1 W (by omega) (by omega) (by omega) (by omega)
  have hMd := fun W => vMulDiv_any (p0 + q0) (p1 + q1) 1 2 W (by omega) (by omega) (by omega) (by omega)
  have mb0 := mdv_bd (x := p0 + q0) (n := 1) (c := 2) (M := 90000) (by decide) (by omega)
  have mb1 := mdv_bd (x := p1 + q1) (n := 1) (c := 2) (M := 90000) (by decide) (by omega)
  generalize mdv (p0 + q0) 1 2 = g0 at *
  generalize mdv (p1 + q1) 1 2 = g1 at *
  have HP := Lib.hid hP; clear hP
  have HC := Lib.hid hC; clear hC
  have HL1 := Lib.hid hL1; clear hL1
  have HL2 := Lib.hid hL2; clear hL2
  have HBN := Lib.hid hBn; clear hBn
  have HK1 := Lib.hid hK1; clear hK1
  have HK2 := Lib.hid hK2; clear hK2
  have HME := Lib.hid hme; clear hme
  have HA1 := Lib.hid hA1; clear hA1
  have HA2 := Lib.hid hA2; clear hA2
  have HA3 := Lib.hid hA3; clear hA3
  have HAD := Lib.hid hAd; clear hAd
  have HMD := Lib.hid hMd; clear hMd
  have HSH1 := Lib.hid hSh1; clear hSh1
  have HSH2 := Lib.hid hSh2; clear hSh2
  clear hGa hGb hSa hSb
  go_enter Try.func24, Try.ntmps24
  go_wp2_with fail
  refine calls_at ?_; intro W0 hW; have dW0 : Below w.heap.size w W0 := (by rw [hW]; exact (by repeat (first | with_reducible exact Below.refl _ _ | with_reducible refine below_alloc ?_ _ | with_reducible refine Below.drew ?_ | with_reducible refine below_set ?_ (by (first | (simp; done) | (simp; omega))) _ | with_reducible refine below_step (by assumption) ?_)))
  have XT : B4 W0 (w.heap.size) (.int .i64 (t0)) (.int .i64 (t1)) (.int .i64 (t2)) (.int .i64 (t3)) := (by rw [hW]; unfold B4 Cel; simp [go_sem]); have lXT := XT.lt
  clear hW
  refine (HSH1.out _).mono ?_
  rintro e w1 ⟨A, ja, ca, rfl, PA, hb1, -⟩
  replace XT := XT.below hb1; clear lXT; have lXT := XT.lt
  go_wp2_with fail
  refine calls_at ?_; intro W2 hW; have dW2 : Below w1.heap.size w1 W2 := (by rw [hW]; exact (by repeat (first | with_reducible exact Below.refl _ _ | with_reducible refine below_alloc ?_ _ | with_reducible refine Below.drew ?_ | with_reducible refine below_set ?_ (by (first | (simp; done) | (simp; omega))) _ | with_reducible refine below_step (by assumption) ?_))); replace XT := XT.below dW2; (try clear lXT); have lXT := XT.lt; replace PA := PA.below dW2; (try clear lPA); have lPA := PA.lt
  have XA : B2 W2 w1.heap.size (.int .i64 Ra) (.slice A ja ca) := (by rw [hW]; unfold B2 Cel; simp [go_sem])
  have i2 : Below w.heap.size w W2 := (by repeat (first | with_reducible exact Below.refl _ _ | with_reducible refine below_alloc ?_ _ | with_reducible refine Below.drew ?_ | with_reducible refine below_set ?_ (by (first | (simp; done) | (simp; omega))) _ | with_reducible refine below_step (by assumption) ?_))
  clear hW
  refine (HSH2.out _).mono ?_
  rintro e w3 ⟨B, jb, cb, rfl, PB, hb3, -⟩
  replace XT := XT.below hb3; replace XA := XA.below hb3; replace PA := PA.below hb3
  clear lXT; have lXT := XT.lt; have lXA := XA.lt
  have i3 : Below w.heap.size w w3 := i2.trans (hb3.mono i2.size)
  go_wp2_with fail
  refine calls_at ?_; intro W4 hW; have dW4 : Below w3.heap.size w3 W4 := (by rw [hW]; exact (by repeat (first | with_reducible exact Below.refl _ _ | with_reducible refine below_alloc ?_ _ | with_reducible refine Below.drew ?_ | with_reducible refine below_set ?_ (by (first | (simp; done) | (simp; omega))) _ | with_reducible refine below_step (by assumption) ?_))); replace XT := XT.below dW4; (try clear lXT); have lXT := XT.lt; replace XA := XA.below dW4; (try clear lXA); have lXA := XA.lt; replace PA := PA.below dW4; (try clear lPA); have lPA := PA.lt; replace PB := PB.below dW4; (try clear lPB); have lPB := PB.lt
  have XB : B2 W4 w3.heap.size (.int .i64 Rb) (.slice B jb cb) := (by rw [hW]; unfold B2 Cel; simp [go_sem])
  have i4 : Below w.heap.size w W4 := (by repeat (first | with_reducible exact Below.refl _ _ | with_reducible refine below_alloc ?_ _ | with_reducible refine Below.drew ?_ | with_reducible refine below_set ?_ (by (first | (simp; done) | (simp; omega))) _ | with_reducible refine below_step (by assumption) ?_))
  clear hW dW0 dW2 dW4 i2 i3 hb1 hb3
  refine (HP.out _ _ _ _ _ _ _ PA PB).mono ?_
  rintro e w5 ⟨rfl, hb5⟩; have d5 : Below W4.heap.size W4 w5 := below_step hb5 (by repeat (first | with_reducible exact Below.refl _ _ | with_reducible refine below_alloc ?_ _ | with_reducible refine Below.drew ?_ | with_reducible refine below_set ?_ (by (first | (simp; done) | (simp; omega))) _ | with_reducible refine below_step (by assumption) ?_)); have z5 := hb5.size; (try simp at z5); replace XT := XT.below d5; (try clear lXT); have lXT := XT.lt; replace XA := XA.below d5; (try clear lXA); have lXA := XA.lt; replace PA := PA.below d5; (try clear lPA); have lPA := PA.lt; replace PB := PB.below d5; (try clear lPB); have lPB := PB.lt; replace XB := XB.below d5; (try clear lXB); have lXB := XB.lt
  go_wp2_with fail
  refine calls_at ?_; intro W6 hW; have dW6 : Below w5.heap.size w5 W6 := (by rw [hW]; exact (by repeat (first | with_reducible exact Below.refl _ _ | with_reducible refine below_alloc ?_ _ | with_reducible refine Below.drew ?_ | with_reducible refine below_set ?_ (by (first | (simp; done) | (simp; omega))) _ | with_reducible refine below_step (by assumption) ?_))); replace PA := PA.below dW6; (try clear lPA); have lPA := PA.lt; replace PB := PB.below dW6; (try clear lPB); have lPB := PB.lt; replace XA := XA.below dW6; (try clear lXA); have lXA := XA.lt; replace XB := XB.below dW6; (try clear lXB); have lXB := XB.lt
  have XP : B2 W6 (w5.heap.size) (.int .i64 (p0)) (.int .i64 (p1)) := (by rw [hW]; unfold B2 Cel; simp [go_sem]); have lXP := XP.lt
  have XQ : B2 W6 (w5.heap.size + 1) (.int .i64 (q0)) (.int .i64 (q1)) := (by rw [hW]; unfold B2 Cel; simp [go_sem]); have lXQ := XQ.lt
  have i6 : Below w.heap.size w W6 := (by repeat (first | with_reducible exact Below.refl _ _ | with_reducible refine below_alloc ?_ _ | with_reducible refine Below.drew ?_ | with_reducible refine below_set ?_ (by (first | (simp; done) | (simp; omega))) _ | with_reducible refine below_step (by assumption) ?_))
  clear hW hb5 d5 dW6 i4 XT lXT z5
  generalize w1.heap.size = ga at *
  generalize w3.heap.size = gb at *
  generalize w5.heap.size = gp at *
  generalize gp + 1 = gq at *
  refine (HL1.out _ _ _ _ PA).mono ?_
  rintro e w7 ⟨r1, rfl, hr1, hb7⟩
  replace PA := PA.below hb7; replace PB := PB.below hb7; replace XA := XA.below hb7; replace XB := XB.below hb7; replace XP := XP.below hb7; replace XQ := XQ.below hb7
  have i7 := i6.trans (hb7.mono i6.size)
  clear hb7 i6 lXA lXB lXP lXQ lPA lPB
  have lXA := XA.lt; have lXB := XB.lt; have lXP := XP.lt; have lXQ := XQ.lt
  cases r1 with
  | false =>
    go_wp2_with fail
    refine (lives5_any _).mono ?_
    rintro e w8 ⟨rfl, hb8⟩
    go_wp2_with fail
    go_ret
    exact ⟨rfl, i7.trans (hb8.mono i7.size)⟩
  | true =>
    have LA := Lib.hid (hr1 rfl); clear hr1
    go_wp2_with fail
    refine (HL2.out _ _ _ _ PB).mono ?_
    rintro e w8 ⟨r2, rfl, hr2, hb8⟩
    replace PA := PA.below hb8; replace PB := PB.below hb8; replace XA := XA.below hb8; replace XB := XB.below hb8; replace XP := XP.below hb8; replace XQ := XQ.below hb8
    have i8 := i7.trans (hb8.mono i7.size)
    clear hb8 i7 lXA lXB lXP lXQ
    have lXA := XA.lt; have lXB := XB.lt; have lXP := XP.lt; have lXQ := XQ.lt
    cases r2 with
    | false =>
      go_wp2_with fail
      refine (lives5_any _).mono ?_
      rintro e w9 ⟨rfl, hb9⟩
      go_wp2_with fail
      go_ret
      exact ⟨rfl, i8.trans (hb9.mono i8.size)⟩
    | true =>
      have LB' := Lib.hid (hr2 rfl); clear hr2
      go_wp2_with fail
      refine (HBN.out _ _ _ _ PA).mono ?_
      rintro e w9 ⟨rfl, hb9⟩; have d9 : Below w8.heap.size w8 w9 := below_step hb9 (by repeat (first | with_reducible exact Below.refl _ _ | with_reducible refine below_alloc ?_ _ | with_reducible refine Below.drew ?_ | with_reducible refine below_set ?_ (by (first | (simp; done) | (simp; omega))) _ | with_reducible refine below_step (by assumption) ?_)); have z9 := hb9.size; (try simp at z9); replace PA := PA.below d9; (try clear lPA); have lPA := PA.lt; replace PB := PB.below d9; (try clear lPB); have lPB := PB.lt; replace XA := XA.below d9; (try clear lXA); have lXA := XA.lt; replace XB := XB.below d9; (try clear lXB); have lXB := XB.lt; replace XP := XP.below d9; (try clear lXP); have lXP := XP.lt; replace XQ := XQ.below d9; (try clear lXQ); have lXQ := XQ.lt
      have i9 := i8.trans (d9.mono i8.size)
      clear hb9 d9 z9 i8
      go_upto_region 7 with fail
      refine code_named ?_; intro Wa hW; have dWa : Below w9.heap.size w9 Wa := (by rw [hW]; exact (by repeat (first | with_reducible exact Below.refl _ _ | with_reducible refine below_alloc ?_ _ | with_reducible refine Below.drew ?_ | with_reducible refine below_set ?_ (by (first | (simp; done) | (simp; omega))) _ | with_reducible refine below_step (by assumption) ?_))); replace PA := PA.below dWa; (try clear lPA); have lPA := PA.lt; replace PB := PB.below dWa; (try clear lPB); have lPB := PB.lt; replace XA := XA.below dWa; (try clear lXA); have lXA := XA.lt; replace XB := XB.below dWa; (try clear lXB); have lXB := XB.lt; replace XP := XP.below dWa; (try clear lXP); have lXP := XP.lt; replace XQ := XQ.below dWa; (try clear lXQ); have lXQ := XQ.lt
      have XX : B4 Wa w9.heap.size (.int .i64 (b0 + p0)) (.int .i64 (b1 + p1)) (.int .i64 (b2 + p0)) (.int .i64 (b3 + p1)) := (by rw [hW]; unfold B4 Cel; simp [go_sem])
      have ia : Below w.heap.size w Wa := i9.trans (dWa.mono i9.size)
      have lXX := XX.lt
      clear hW dWa i9
      generalize w9.heap.size = gx at *
      go_cut [16] (fun s16 w' => ∃ (h : Nat) (c0 c1 : Int), s16 = .pointer (some ⟨h, 0, none⟩) ∧ Wa.heap.size ≤ h ∧ B2 w' h (.int .i64 c0) (.int .i64 c1) ∧ (-200000 ≤ c0 ∧ c0 ≤ 200000) ∧ (-200000 ≤ c1 ∧ c1 ≤ 200000) ∧ Below Wa.heap.size Wa w')
      case first =>
        have KS := Lib.hid (show ∀ w', Below Wa.heap.size Wa w' → (B4 w' gx (.int .i64 (b0 + p0)) (.int .i64 (b1 + p1)) (.int .i64 (b2 + p0)) (.int .i64 (b3 + p1)) ∧ Below Wa.heap.size Wa w') from fun w' hb => ⟨XX.below hb, hb⟩)
        clear HP HC HL1 HL2 HBN HK1 HK2 HME HA3 HAD HMD PA PB XA XB XP XQ lXA lXB lXP lXQ LA LB'
        have wr1 : IntKind.i64.wrap (b2 + p0 - (b0 + p0)) = b2 + p0 - (b0 + p0) := IntWalk.i64_in _ (by omega)
        have wr2 : IntKind.i64.wrap (b2 + p0 - (b0 + p0) + 1) = b2 + p0 - (b0 + p0) + 1 := IntWalk.i64_in _ (by omega)
        have wr3 : IntKind.i64.wrap (b3 + p1 - (b1 + p1)) = b3 + p1 - (b1 + p1) := IntWalk.i64_in _ (by omega)
        have wr4 : IntKind.i64.wrap (b3 + p1 - (b1 + p1) + 1) = b3 + p1 - (b1 + p1) + 1 := IntWalk.i64_in _ (by omega)
        have wr5 : IntKind.i64.wrap (b0 + p0 + e0) = b0 + p0 + e0 := IntWalk.i64_in _ (by omega)
        have wr6 : IntKind.i64.wrap (b1 + p1 + e1) = b1 + p1 + e1 := IntWalk.i64_in _ (by omega)
        go_region_held3 (fun w' => B4 w' gx (.int .i64 (b0 + p0)) (.int .i64 (b1 + p1)) (.int .i64 (b2 + p0)) (.int .i64 (b3 + p1)) ∧ Below Wa.heap.size Wa w') (refine KS.out _ (by repeat (first | with_reducible exact Below.refl _ _ | with_reducible refine below_alloc ?_ _ | with_reducible refine Below.drew ?_ | with_reducible refine below_set ?_ (by (first | (simp; done) | (simp; omega))) _ | with_reducible refine below_step (by assumption) ?_)))
          (first | (go_at_call 25; first | ((with_reducible refine (HA1.out _).mono ?_); rintro e w' ⟨rfl, rfl⟩) | ((with_reducible refine (HA2.out _).mono ?_); rintro e w' ⟨rfl, rfl⟩)))
        all_goals (rename _ ∧ Below Wa.heap.size Wa _ => hS; go_wp2_with fail; go_meet; exact ⟨_, b0 + p0 + e0, b1 + p1 + e1, rfl, by omega, by unfold B2 Cel; simp (maxDischargeDepth := 6) [go_sem, *], by omega, by omega, hS.2⟩)
      case rest =>
        rename World => wb
        obtain ⟨h, c0, c1, rfl, lh, XC, hc0, hc1, db⟩ := hcut
        have XPb := XP.below db; have XQb := XQ.below db
        have nP : h ≠ gp := by omega
        have nQ : h ≠ gq := by omega
        have lXPb := XPb.lt; have lXQb := XQb.lt; have lXC := XC.lt
        clear HBN HA1 HA2 XX lXX ab1 ab2 bo bd
        go_upto_if 69 with (go_at_call 25; refine (HA3.out _).mono ?_; rintro e w' ⟨rfl, rfl⟩)
        go_cut [16] (fun s16 w' => ∃ (c0 c1 : Int), s16 = .pointer (some ⟨h, 0, none⟩) ∧ B2 w' h (.int .i64 c0) (.int .i64 c1) ∧ (-200000 ≤ c0 ∧ c0 ≤ 200000) ∧ (-200000 ≤ c1 ∧ c1 ≤ 200000) ∧ Below Wa.heap.size Wa w')
        case first =>
          clear HP HC HL1 HL2 HK1 HK2 HME HA3 PA PB LA LB'
          by_cases h3 : e3 = 0
          · have h3' : (e3 == 0) = true := by simp [h3]
            go_wp2_with fail
            refine (HAD.out _).mono ?_
            rintro e wc ⟨rfl, hbc⟩; have dc : Below wb.heap.size wb wc := below_step hbc (by repeat (first | with_reducible exact Below.refl _ _ | with_reducible refine below_alloc ?_ _ | with_reducible refine Below.drew ?_ | with_reducible refine below_set ?_ (by (first | (simp; done) | (simp; omega))) _ | with_reducible refine below_step (by assumption) ?_)); have zc := hbc.size; (try simp at zc); replace XC := XC.below dc; (try clear lXC); have lXC := XC.lt
            have dc' : Below Wa.heap.size Wa wc := db.trans (dc.mono db.size)
            go_wp2_with fail
            refine (HMD.out _).mono ?_
            rintro e wd ⟨rfl, hbd⟩; have dd : Below wc.heap.size wc wd := below_step hbd (by repeat (first | with_reducible exact Below.refl _ _ | with_reducible refine below_alloc ?_ _ | with_reducible refine Below.drew ?_ | with_reducible refine below_set ?_ (by (first | (simp; done) | (simp; omega))) _ | with_reducible refine below_step (by assumption) ?_)); have zd := hbd.size; (try simp at zd); replace XC := XC.below dd; (try clear lXC); have lXC := XC.lt
            have dd' : Below Wa.heap.size Wa wd := dc'.trans (dd.mono dc'.size)
            go_wp2_with fail
            go_meet
            exact ⟨g0, g1, rfl, (XC.set0 _).set1 _, by omega, by omega, below_set (below_set dd' lh _) lh _⟩
          · have h3' : (e3 == 0) = false := by simp [h3]
            go_wp2_with fail
            go_meet
            exact ⟨c0, c1, rfl, XC, hc0, hc1, db⟩
        case rest =>
          rename World => we
          clear XPb XQb lXPb lXQb XC lXC hc0 hc1 db
          obtain ⟨c0, c1, rfl, XC, hc0, hc1, de⟩ := hcut
          replace PA := PA.below de; replace PB := PB.below de; replace XA := XA.below de; replace XB := XB.below de; replace XP := XP.below de; replace XQ := XQ.below de
          have ie : Below w.heap.size w we := ia.trans (de.mono ia.size)
          clear lXA lXB lXP lXQ de ia HAD HMD HA3
          have lXA := XA.lt; have lXB := XB.lt; have lXP := XP.lt; have lXQ := XQ.lt; have lXC := XC.lt
          go_wp2_with fail
          refine code_named ?_; intro Wf hW; have dWf : Below we.heap.size we Wf := (by rw [hW]; exact (by repeat (first | with_reducible exact Below.refl _ _ | with_reducible refine below_alloc ?_ _ | with_reducible refine Below.drew ?_ | with_reducible refine below_set ?_ (by (first | (simp; done) | (simp; omega))) _ | with_reducible refine below_step (by assumption) ?_))); replace PA := PA.below dWf; (try clear lPA); have lPA := PA.lt; replace PB := PB.below dWf; (try clear lPB); have lPB := PB.lt; replace XA := XA.below dWf; (try clear lXA); have lXA := XA.lt; replace XB := XB.below dWf; (try clear lXB); have lXB := XB.lt; replace XP := XP.below dWf; (try clear lXP); have lXP := XP.lt; replace XQ := XQ.below dWf; (try clear lXQ); have lXQ := XQ.lt; replace XC := XC.below dWf; (try clear lXC); have lXC := XC.lt
          have PR : Pol Wf (some ⟨we.heap.size, 0, none⟩) 5 5 armL := by
            refine ⟨rfl, by omega, by omega, fun h => by omega, fun _ => ⟨_, rfl, by rw [hW]; simp, fun i v hv => ?_⟩⟩
            rw [hW]
            rcases i with _ | _ | _ | _ | _ | i <;> simp [armL] at hv <;> subst hv <;> simp [go_sem]
          have i0 : Below w.heap.size w Wf := ie.trans (dWf.mono ie.size)
          clear hW dWf ie
          obtain ⟨k, hk, -, -, -, -, hkl, hcell⟩ := PR.at_ (by decide)
          have hk' : we.heap.size = k := by injection hk with hk; injection hk
          rw [hk'] at *
          clear hk hk' PR
          have HCL := Lib.hid hcell; clear hcell
          go_loopg [18] 5 (fun gk i wr => ∃ s : Nat, gk + s = 5 ∧ i = .int .i64 s ∧ (∀ (z : Nat) v, z < s → armL[z]? = some v → cov Ra va (c0 + v.1 - p0, c1 + v.2 - p1) = true ∧ cov Rb vb (c0 + v.1 - q0, c1 + v.2 - q1) = true) ∧ Below Wf.heap.size Wf wr)
          case atStart => exact ⟨0, by omega, rfl, fun z v hz => by omega, Below.refl _ _⟩
          case round =>
            obtain ⟨s, hs, rfl, hall, db⟩ := hrel
            have HALL := Lib.hid hall; clear hall
            replace PA := PA.below db; replace PB := PB.below db; replace XA := XA.below db; replace XB := XB.below db; replace XP := XP.below db; replace XQ := XQ.below db; replace XC := XC.below db
            have ir : Below w.heap.size w wr := i0.trans (db.mono i0.size)
            clear lPA lPB lXA lXB lXP lXQ lXC
            have lXA := XA.lt; have lXB := XB.lt; have lXP := XP.lt; have lXQ := XQ.lt; have lXC := XC.lt
            by_cases hlt : s < 5
            · obtain ⟨⟨ax, ay⟩, hv⟩ : ∃ v, armL[s]? = some v := ⟨armL[s]'(by show s < 5; omega), List.getElem?_eq_getElem (by show s < 5; omega)⟩
              obtain ⟨bax, bay⟩ := armL_bd _ (List.mem_of_getElem? hv)
              have kx := cell_regrown ((db.cell (p := ⟨k, s * 2, none⟩) hkl).trans (HCL.out s _ hv).1)
              have ky := cell_regrown ((db.cell (p := ⟨k, s * 2 + 1, none⟩) hkl).trans (HCL.out s _ hv).2)
              dsimp only at kx ky bax bay
              have hK1 := HK1.out (c0 + ax) (c1 + ay) (by omega) (by omega) A ja ca
              have hK2 := HK2.out (c0 + ax) (c1 + ay) (by omega) (by omega) B jb cb
              have hnx : cov Ra va (c0 + ax - p0, c1 + ay - p1) = true → cov Rb vb (c0 + ax - q0, c1 + ay - q1) = true → ∀ (z : Nat) v, z < s + 1 → armL[z]? = some v → cov Ra va (c0 + v.1 - p0, c1 + v.2 - p1) = true ∧ cov Rb vb (c0 + v.1 - q0, c1 + v.2 - q1) = true := by
                intro h1 h2 z v hz hzv
                by_cases hzs : z = s
                · subst hzs
                  rw [hv] at hzv
                  obtain rfl : (ax, ay) = v := by injection hzv
                  exact ⟨h1, h2⟩
                · exact HALL.out z v (by omega) hzv
              generalize cov Ra va (c0 + ax - p0, c1 + ay - p1) = r1 at *
              generalize cov Rb vb (c0 + ax - q0, c1 + ay - q1) = r2 at *
              have K1 := Lib.hid hK1; have K2 := Lib.hid hK2; clear hK1 hK2
              have HAd := Lib.hid (fun W => Add_any c0 c1 ax ay W (by omega) (by omega) (by omega) (by omega))
              have HNX := Lib.hid hnx; clear hnx hv
              have hPA := Lib.hid (fun (d : Nat) (os : Array Obj) => PA.re d os)
              have hPB := Lib.hid (fun (d : Nat) (os : Array Obj) => PB.re d os)
              have hk1 : (0 : Int) ≤ (s : Int) := by omega
              have hk2 : (s : Int) < 5 := by omega
              clear HC HL1 HL2 HK1 HK2 HME HALL HCL bax bay
              cases r1 with
              | false =>
                go_wp2_with fail
                have KXA := XA.re; have KXB := XB.re; have KXP := XP.re; have KXQ := XQ.re; have KXC := XC.re; refine wp_region_below (by kernel_rfl) (by kernel_rfl) ?_
                repeat (go_big_quiet_step (first
                  | (go_at_call 30; exact met_below (HAd.out _))
                  | (go_at_call 33; exact met_below (K1.out _ (hPA.out _ _)))))
                refine wpQuiet_nil ?_; intro wg dg
                go_wp2_with fail
                refine (lives5_any _).mono ?_
                rintro e w9 ⟨rfl, hb9⟩
                go_wp2_with fail
                go_ret
                have ig := ir.trans (dg.mono ir.size)
                exact ⟨rfl, ig.trans (hb9.mono ig.size)⟩
              | true =>
                cases r2 with
                | false =>
                  go_wp2_with fail
                  have KXA := XA.re; have KXB := XB.re; have KXP := XP.re; have KXQ := XQ.re; have KXC := XC.re; refine wp_region_below (by kernel_rfl) (by kernel_rfl) ?_
                  repeat (go_big_quiet_step (first
                    | (go_at_call 30; exact met_below (HAd.out _))
                    | (go_at_call 33; first | (with_reducible exact met_below (K1.out _ (hPA.out _ _))) | (with_reducible exact met_below (K2.out _ (hPB.out _ _))))))
                  refine wpQuiet_nil ?_; intro wg dg
                  go_wp2_with fail
                  refine (lives5_any _).mono ?_
                  rintro e w9 ⟨rfl, hb9⟩
                  go_wp2_with fail
                  go_ret
                  have ig := ir.trans (dg.mono ir.size)
                  exact ⟨rfl, ig.trans (hb9.mono ig.size)⟩
                | true =>
                  go_wp2_with fail
                  have KXA := XA.re; have KXB := XB.re; have KXP := XP.re; have KXQ := XQ.re; have KXC := XC.re; refine wp_region_below (by kernel_rfl) (by kernel_rfl) ?_
                  repeat (go_big_quiet_step (first
                    | (go_at_call 30; exact met_below (HAd.out _))
                    | (go_at_call 33; first | (with_reducible exact met_below (K1.out _ (hPA.out _ _))) | (with_reducible exact met_below (K2.out _ (hPB.out _ _))))))
                  refine wpQuiet_nil ?_; intro wg dg
                  go_wp2_with fail
                  go_roundg (gk - 1)
                  case measure => omega
                  case rel => exact ⟨s + 1, by omega, by go_num, HNX.out (by trivial) (by trivial), ‹Below Wf.heap.size Wf wr›.trans (dg.mono ‹Below Wf.heap.size Wf wr›.size)⟩
            · obtain rfl : s = 5 := by omega
              have hm : hh = true := HME.out c0 c1 LA.out LB'.out (cv5_of fun z v hz hv => (HALL.out z v hz hv).1) (cv5_of fun z v hz hv => (HALL.out z v hz hv).2)
              subst hm
              clear HME HALL HCL HL1 HL2 HK1 HK2 LA LB'
              go_wp2_with fail
              refine (HC.out _ _ _ _ _ _ _ PA PB).mono ?_
              rintro e w8 ⟨rfl, hb8⟩
              have i8 : Below w.heap.size w w8 := ir.trans (hb8.mono ir.size)
              go_wp2_with fail
              refine (lives5_any _).mono ?_
              rintro e w9 ⟨rfl, hb9⟩
              go_wp2_with fail
              go_ret
              exact ⟨rfl, i8.trans (((by repeat (first | with_reducible exact Below.refl _ _ | with_reducible refine below_alloc ?_ _ | with_reducible refine Below.drew ?_ | with_reducible refine below_set ?_ (by (first | (simp; done) | (simp; omega))) _ | with_reducible refine below_step (by assumption) ?_)) : Below w8.heap.size w8 _).mono i8.size)⟩

theorem own : ownKnob Try.prog.godebug = none := by kernel_rfl
theorem laidOut : laidOutB Try.prog = true := by kernel_rfl

set_option maxRecDepth 100000 in
theorem lifted (os : Os) (started : os.Started) (H : Type) (enc : TypeId × Value → H) :
    ReturnsInHanded {} Try.checked os 24 .any (Rows.collideMeetsSpec.pre6 enc Try.prog Try.f24 Rows.collideMeetsRow.domain false) (Rows.collideMeetsSpec.post enc Try.prog Try.f24 false true false false) := by
  refine returnsInHanded_of_change (C := Try.checked) own started (by kernel_rfl) Try.func24
    (ChangeSpec.witness6 (enc := enc) (C := Try.checked) false ⟨#[], #[.int .i64 0, .int .i64 0, .agg #[.int .i64 0, .int .i64 0, .int .i64 0, .int .i64 0], .int .i64 0, .int .i64 0], []⟩ 8 (by kernel_rfl) (by kernel_rfl) (by kernel_rfl) (by kernel_rfl)) ?_
  intro W base args ds gs before hval0 hW hcnd _
  have hval : ∀ (j : Nat) t v, Try.f24.params[j]? = some t → args[j]? = some v → Value.okWide Try.prog W .any base t v := hval0
  have hW' := hW
  obtain ⟨p, q, hA0, hV, rfl, hfz, hnd⟩ := hW
  have hA : DataW.TrodAll enc Try.prog W 0 (fun _ => true) true Try.f24.params.toList args.toList ds p := hA0
  rw [Try.params24] at hA hval
  obtain ⟨v0, vs0, d0, ds0, p0, q0, hargs, rfl, rfl, h0, r0⟩ := trodAll_cons hA
  obtain ⟨v1, vs1, d1, ds1, p1, q1, rfl, rfl, rfl, h1, r1⟩ := trodAll_cons r0
  obtain ⟨v2, vs2, d2, ds2, p2, q2, rfl, rfl, rfl, h2, r2⟩ := trodAll_cons r1
  obtain ⟨v3, vs3, d3, ds3, p3, q3, rfl, rfl, rfl, h3, r3⟩ := trodAll_cons r2
  obtain ⟨v4, vs4, d4, ds4, p4, q4, rfl, rfl, rfl, h4, r4⟩ := trodAll_cons r3
  obtain ⟨rfl, rfl, rfl⟩ := trodAll_nil r4
  obtain rfl : args = #[v0, v1, v2, v3, v4] := by cases args; simp_all
  obtain ⟨rfl, rfl⟩ := trodVars_none hV
  obtain ⟨a0, rfl, rfl, rfl, w0⟩ := open_int Try.underlying3 (hval 0 3 v0 rfl rfl) h0
  obtain ⟨a1, rfl, rfl, rfl, w1⟩ := open_int Try.underlying3 (hval 1 3 v1 rfl rfl) h1
  have k2 := h2
  have lt2 : ∀ x ∈ p2, x.block < W.heap.size := by obtain ⟨m, hm⟩ := k2; exact DataW.trod_lt m _ _ _ hm
  obtain ⟨zs2, rfl, hz2, hw2⟩ := open_arr Try.underlying51 Try.underlying3 (by kernel_rfl) (by kernel_rfl) (hval 2 51 v2 rfl rfl) h2
  obtain ⟨z2_0, z2_1, z2_2, z2_3, rfl⟩ := list4 hz2
  have bz2_0 := bounds_i64 (hw2 z2_0 (by simp))
  have bz2_1 := bounds_i64 (hw2 z2_1 (by simp))
  have bz2_2 := bounds_i64 (hw2 z2_2 (by simp))
  have bz2_3 := bounds_i64 (hw2 z2_3 (by simp))
  obtain ⟨a3, rfl, rfl, rfl, w3⟩ := open_int Try.underlying3 (hval 3 3 v3 rfl rfl) h3
  obtain ⟨a4, rfl, rfl, rfl, w4⟩ := open_int Try.underlying3 (hval 4 3 v4 rfl rfl) h4
  clear hA0 hval0
  refine (walk a0 (bounds_i64 w0).1 (bounds_i64 w0).2 a1 (bounds_i64 w1).1 (bounds_i64 w1).2 z2_0 bz2_0.1 bz2_0.2 z2_1 bz2_1.1 bz2_1.2 z2_2 bz2_2.1 bz2_2.2 z2_3 bz2_3.1 bz2_3.2 a3 (bounds_i64 w3).1 (bounds_i64 w3).2 a4 (bounds_i64 w4).1 (bounds_i64 w4).2 W).mono fun e W' ⟨he, bel⟩ => ?_
  subst he
  exact ⟨_, rfl, _, _, _, [], _, [], hW', trodAll_mk1 (shut_bool Try.underlying4 _), (trodAll_cons_mk (shut_int Try.underlying3 w0) (trodAll_cons_mk (shut_int Try.underlying3 w1) (trodAll_cons_mk (Below.trod laidOut (by kernel_rfl) (of_decide_eq_true (by kernel_rfl)) k2 bel lt2) (trodAll_cons_mk (shut_int Try.underlying3 w3) (trodAll_cons_mk (shut_int Try.underlying3 w4) trodAll_mk0))))), rfl, bel.frame _, fun h => by cases h⟩

theorem closed : joinedFacts Try.prog 24 Try.f24 Rows.collideMeetsSpec Rows.collideMeetsRow = true := by
  unfold joinedFacts
  repeat' (with_reducible refine both_of ?_ ?_)
  all_goals (first | with_reducible exact mayEnter_ok | (rw [liftsFinal_is]; as_aux_lemma => kernel_rfl) | (rw [make_is]; as_aux_lemma => kernel_rfl) | (as_aux_lemma => kernel_rfl))

theorem over : Rows.collideMeetsRow.holds Try.pinned (OpenSpec.ofChange Rows.collideMeetsSpec) :=
  OpenClaim.holds_of_wide 24 Try.f24 rfl rfl rfl rfl rfl rfl rfl ⟨rfl, rfl, rfl, rfl, rfl⟩ rfl rfl rfl rfl rfl (by kernel_rfl) Try.func24 closed
    (of_decide_eq_true (by kernel_rfl)) (by unfold Func.isWrapper; first | (rw [if_pos (by decide +kernel)]; kernel_rfl) | (rw [if_neg (by decide +kernel)]; exact ⟨rfl, rfl⟩))
    (fun os started H enc _ => lifted os started H enc)

theorem proved : Rows.CollideMeetsSaid := over
#print axioms proved

end Go.Proofs.Ytipcppbbpmdijaa.collideMeets
