/-
  What chapter 6's law helpers 'touch' and 'swept' return. Conditions: the numbers' bounds and the vertices in memory, as the theorems state.
-/
import Derived.Test.YtipcppbbpmdijaaTpl
namespace Go.Proofs.Ytipcppbbpmdijaa
open Go.RowKit Go.Sort
attribute [local go_sem ↓] Go.wp_at_zero Go.wp_at_succ

set_option maxRecDepth 100000 in
set_option maxHeartbeats 8000000 in
theorem touch_any (Ra Rb p0 p1 u0 u1 q0 q1 v0 v1 k : Int) (A B : Option Addr) (na ca nb cb : Nat) (va vb : List V2) (w : World)
    (hA : Pol w A na ca va) (hB : Pol w B nb cb vb) (hSa : SN Ra va) (hSb : SN Rb vb)
    (h1 : -33000000 ≤ p0 ∧ p0 ≤ 33000000) (h2 : -33000000 ≤ p1 ∧ p1 ≤ 33000000) (h3 : -33000000 ≤ q0 ∧ q0 ≤ 33000000) (h4 : -33000000 ≤ q1 ∧ q1 ≤ 33000000)
    (h5 : -16384 ≤ u0 ∧ u0 ≤ 16384) (h6 : -16384 ≤ u1 ∧ u1 ≤ 16384) (h7 : -16384 ≤ v0 ∧ v0 ≤ 16384) (h8 : -16384 ≤ v1 ∧ v1 ≤ 16384) (hk : 0 ≤ k ∧ k ≤ 8) :
    Calls Try.prog 59 #[.agg #[.int .i64 Ra, .slice A na ca, .int .i64 p0, .int .i64 p1, .int .i64 u0, .int .i64 u1], .agg #[.int .i64 Rb, .slice B nb cb, .int .i64 q0, .int .i64 q1, .int .i64 v0, .int .i64 v1], .int .i64 k] w fun e w' =>
      e = .returned (.bool (tch Ra va (p0, p1) (u0, u1) Rb vb (q0, q1) (v0, v1) k)) ∧ Below w.heap.size w w' := by
  have m1 := mul_bd (a := u0) (b := k) (A := 16384) (B := 8) h5 (by omega)
  have m2 := mul_bd (a := u1) (b := k) (A := 16384) (B := 8) h6 (by omega)
  have m3 := mul_bd (a := v0) (b := k) (A := 16384) (B := 8) h7 (by omega)
  have m4 := mul_bd (a := v1) (b := k) (A := 16384) (B := 8) h8 (by omega)
  have e1 := mdv8_bd h5 hk
  have e2 := mdv8_bd h6 hk
  have e3 := mdv8_bd h7 hk
  have e4 := mdv8_bd h8 hk
  have hM1 := fun W => vMulDiv_any u0 u1 k 8 W (by omega) (by omega) (by omega) (by omega)
  have hM2 := fun W => vMulDiv_any v0 v1 k 8 W (by omega) (by omega) (by omega) (by omega)
  unfold tch stp
  dsimp only
  have hC := fun W P Q => Collide_any Ra Rb (p0 + mdv u0 k 8) (p1 + mdv u1 k 8) (q0 + mdv v0 k 8) (q1 + mdv v1 k 8) A B na ca nb cb va vb W P Q hSa hSb (by omega) (by omega) (by omega) (by omega)
  generalize mdv u0 k 8 = x0 at *
  generalize mdv u1 k 8 = x1 at *
  generalize mdv v0 k 8 = y0 at *
  generalize mdv v1 k 8 = y1 at *
  generalize hit Ra va (p0 + x0, p1 + x1) Rb vb (q0 + y0, q1 + y1) = h at *
  generalize cnD Ra va (p0 + x0, p1 + x1) Rb vb (q0 + y0, q1 + y1) = d at *
  generalize cnN Ra va (p0 + x0, p1 + x1) Rb vb (q0 + y0, q1 + y1) = m at *
  have HA1 := Lib.hid (fun W => Add_any p0 p1 x0 x1 W (by omega) (by omega) (by omega) (by omega))
  have HA2 := Lib.hid (fun W => Add_any q0 q1 y0 y1 W (by omega) (by omega) (by omega) (by omega))
  have HM1 := Lib.hid hM1; clear hM1
  have HM2 := Lib.hid hM2; clear hM2
  have HC := Lib.hid hC; clear hC
  clear hSa hSb m1 m2 m3 m4 hk
  go_enter Try.func59, Try.ntmps59
  go_upto_region 1 with fail
  refine code_named ?_; intro W0 hW; have dW0 : Below w.heap.size w W0 := (by rw [hW]; exact (by repeat (first | with_reducible exact Below.refl _ _ | with_reducible refine below_alloc ?_ _ | with_reducible refine Below.drew ?_ | with_reducible refine below_set ?_ (by (first | (simp; done) | (simp; omega))) _ | with_reducible refine below_step (by assumption) ?_)))
  have XA : B6 W0 w.heap.size (.int .i64 Ra) (.slice A na ca) (.int .i64 p0) (.int .i64 p1) (.int .i64 u0) (.int .i64 u1) := (by rw [hW]; unfold B6 Cel; simp [go_sem])
  have XB : B6 W0 (w.heap.size + 1) (.int .i64 Rb) (.slice B nb cb) (.int .i64 q0) (.int .i64 q1) (.int .i64 v0) (.int .i64 v1) := (by rw [hW]; unfold B6 Cel; simp [go_sem])
  have lXA := XA.lt; have lXB := XB.lt
  clear hW
  have HCW := Lib.hid (fun W (hW : Below W0.heap.size W0 W) => HC.out W ((hA.below dW0).below hW) ((hB.below dW0).below hW)); clear HC
  have KS := Lib.hid (show ∀ w', Below W0.heap.size W0 w' → (B6 w' w.heap.size (.int .i64 Ra) (.slice A na ca) (.int .i64 p0) (.int .i64 p1) (.int .i64 u0) (.int .i64 u1) ∧ B6 w' (w.heap.size + 1) (.int .i64 Rb) (.slice B nb cb) (.int .i64 q0) (.int .i64 q1) (.int .i64 v0) (.int .i64 v1) ∧ Below W0.heap.size W0 w') from fun w' hb => ⟨XA.below hb, XB.below hb, hb⟩)
  clear hA hB
  go_cut [8] (fun s8 w' => s8 = .bool h ∧ Below W0.heap.size W0 w')
  case first =>
    go_region_held3 (fun w' => B6 w' w.heap.size (.int .i64 Ra) (.slice A na ca) (.int .i64 p0) (.int .i64 p1) (.int .i64 u0) (.int .i64 u1) ∧ B6 w' (w.heap.size + 1) (.int .i64 Rb) (.slice B nb cb) (.int .i64 q0) (.int .i64 q1) (.int .i64 v0) (.int .i64 v1) ∧ Below W0.heap.size W0 w') (refine KS.out _ (by repeat (first | with_reducible exact Below.refl _ _ | with_reducible refine below_alloc ?_ _ | with_reducible refine Below.drew ?_ | with_reducible refine below_set ?_ (by (first | (simp; done) | (simp; omega))) _ | with_reducible refine below_step (by assumption) ?_)))
      (first
        | (go_at_call 63; first | ((with_reducible refine (HM1.out _).mono ?_); rintro e w9 ⟨rfl, hb9⟩; obtain ⟨hc9, hf9, hx9, hy9, hn9, hz9⟩ := bcellA hb9; (try simp at hz9); (try have ltw9_0 : W0.heap.size < w9.heap.size := by omega); (try have lew9_0 : W0.heap.size ≤ w9.heap.size := by omega); (try have ltw9_1 : w8.heap.size < w9.heap.size := by omega); (try have lew9_1 : w8.heap.size ≤ w9.heap.size := by omega); (try have ltw9_2 : w7.heap.size < w9.heap.size := by omega); (try have lew9_2 : w7.heap.size ≤ w9.heap.size := by omega); (try have ltw9_3 : w5.heap.size < w9.heap.size := by omega); (try have lew9_3 : w5.heap.size ≤ w9.heap.size := by omega); (try have ltw9_4 : w6.heap.size < w9.heap.size := by omega); (try have lew9_4 : w6.heap.size ≤ w9.heap.size := by omega)) | ((with_reducible refine (HM2.out _).mono ?_); rintro e w8 ⟨rfl, hb8⟩; obtain ⟨hc8, hf8, hx8, hy8, hn8, hz8⟩ := bcellA hb8; (try simp at hz8); (try have ltw8_0 : W0.heap.size < w8.heap.size := by omega); (try have lew8_0 : W0.heap.size ≤ w8.heap.size := by omega); (try have ltw8_1 : w9.heap.size < w8.heap.size := by omega); (try have lew8_1 : w9.heap.size ≤ w8.heap.size := by omega); (try have ltw8_2 : w7.heap.size < w8.heap.size := by omega); (try have lew8_2 : w7.heap.size ≤ w8.heap.size := by omega); (try have ltw8_3 : w5.heap.size < w8.heap.size := by omega); (try have lew8_3 : w5.heap.size ≤ w8.heap.size := by omega); (try have ltw8_4 : w6.heap.size < w8.heap.size := by omega); (try have lew8_4 : w6.heap.size ≤ w8.heap.size := by omega)))
        | (go_at_call 30; first | ((with_reducible refine (HA1.out _).mono ?_); rintro e w7 ⟨rfl, hb7⟩; obtain ⟨hc7, hf7, hx7, hy7, hn7, hz7⟩ := bcellA hb7; (try simp at hz7); (try have ltw7_0 : W0.heap.size < w7.heap.size := by omega); (try have lew7_0 : W0.heap.size ≤ w7.heap.size := by omega); (try have ltw7_1 : w9.heap.size < w7.heap.size := by omega); (try have lew7_1 : w9.heap.size ≤ w7.heap.size := by omega); (try have ltw7_2 : w8.heap.size < w7.heap.size := by omega); (try have lew7_2 : w8.heap.size ≤ w7.heap.size := by omega); (try have ltw7_3 : w5.heap.size < w7.heap.size := by omega); (try have lew7_3 : w5.heap.size ≤ w7.heap.size := by omega); (try have ltw7_4 : w6.heap.size < w7.heap.size := by omega); (try have lew7_4 : w6.heap.size ≤ w7.heap.size := by omega)) | ((with_reducible refine (HA2.out _).mono ?_); rintro e w5 ⟨rfl, hb5⟩; obtain ⟨hc5, hf5, hx5, hy5, hn5, hz5⟩ := bcellA hb5; (try simp at hz5); (try have ltw5_0 : W0.heap.size < w5.heap.size := by omega); (try have lew5_0 : W0.heap.size ≤ w5.heap.size := by omega); (try have ltw5_1 : w9.heap.size < w5.heap.size := by omega); (try have lew5_1 : w9.heap.size ≤ w5.heap.size := by omega); (try have ltw5_2 : w8.heap.size < w5.heap.size := by omega); (try have lew5_2 : w8.heap.size ≤ w5.heap.size := by omega); (try have ltw5_3 : w7.heap.size < w5.heap.size := by omega); (try have lew5_3 : w7.heap.size ≤ w5.heap.size := by omega); (try have ltw5_4 : w6.heap.size < w5.heap.size := by omega); (try have lew5_4 : w6.heap.size ≤ w5.heap.size := by omega)))
        | (go_at_call 46; refine (HCW.out _ (‹_ ∧ _ ∧ Below W0.heap.size W0 _›).2.2).mono ?_; rintro e w6 ⟨rfl, hb6⟩; obtain ⟨hc6, hf6, hx6, hy6, hn6, hz6⟩ := bcellA hb6; (try simp at hz6); (try have ltw6_0 : W0.heap.size < w6.heap.size := by omega); (try have lew6_0 : W0.heap.size ≤ w6.heap.size := by omega); (try have ltw6_1 : w9.heap.size < w6.heap.size := by omega); (try have lew6_1 : w9.heap.size ≤ w6.heap.size := by omega); (try have ltw6_2 : w8.heap.size < w6.heap.size := by omega); (try have lew6_2 : w8.heap.size ≤ w6.heap.size := by omega); (try have ltw6_3 : w7.heap.size < w6.heap.size := by omega); (try have lew6_3 : w7.heap.size ≤ w6.heap.size := by omega); (try have ltw6_4 : w5.heap.size < w6.heap.size := by omega); (try have lew6_4 : w5.heap.size ≤ w6.heap.size := by omega)))
    all_goals (rename _ ∧ _ ∧ Below W0.heap.size W0 _ => hS; go_wp2_with fail; go_meet; exact ⟨rfl, hS.2.2⟩)
  case rest =>
    rename World => w2
    obtain ⟨rfl, d2⟩ := hcut
    have i2 : Below w.heap.size w w2 := dW0.trans (d2.mono dW0.size)
    go_wp2_with fail
    go_ret
    exact ⟨rfl, i2⟩

set_option maxRecDepth 100000 in
set_option maxHeartbeats 8000000 in
theorem swept_any (R p0 p1 v0 v1 : Int) (A : Option Addr) (n c : Nat) (vs : List V2) (w : World) (hP : Pol w A n c vs) (hS : SN R vs)
    (h1 : -33000000 ≤ p0 ∧ p0 ≤ 33000000) (h2 : -33000000 ≤ p1 ∧ p1 ≤ 33000000) (h3 : -16384 ≤ v0 ∧ v0 ≤ 16384) (h4 : -16384 ≤ v1 ∧ v1 ≤ 16384) :
    Calls Try.prog 61 #[.agg #[.int .i64 R, .slice A n c, .int .i64 p0, .int .i64 p1, .int .i64 v0, .int .i64 v1]] w fun e w' =>
      e = .returned (.agg #[.int .i64 (mnk (sx0 R vs (p0, p1) (v0, v1)) 8), .int .i64 (mnk (sy0 R vs (p0, p1) (v0, v1)) 8), .int .i64 (mxk (sx1 R vs (p0, p1) (v0, v1)) 8), .int .i64 (mxk (sy1 R vs (p0, p1) (v0, v1)) 8)]) ∧ Below w.heap.size w w' := by
  have hB0 := fun W hW => Bounds_any R p0 p1 A n c vs W (hP.below hW) hS (by omega) (by omega)
  have hBd := fun x0 x1 (hx : -131072 ≤ x0 ∧ x0 ≤ 131072) (hy : -131072 ≤ x1 ∧ x1 ≤ 131072) W hW => Bounds_any R (p0 + x0) (p1 + x1) A n c vs W (hP.below hW) hS (by omega) (by omega)
  have z : ∀ a : Int, mdv a 0 8 = 0 := fun k => by unfold mdv; simp
  have hz : mnk (sx0 R vs (p0, p1) (v0, v1)) 0 = bx0 R vs + p0 ∧ mnk (sy0 R vs (p0, p1) (v0, v1)) 0 = by0 R vs + p1 ∧ mxk (sx1 R vs (p0, p1) (v0, v1)) 0 = bx1 R vs + p0 ∧ mxk (sy1 R vs (p0, p1) (v0, v1)) 0 = by1 R vs + p1 := by
    unfold mnk mxk sx0 sy0 sx1 sy1 stp
    simp only [Int.natCast_zero, z]
    omega
  have hsp : ∀ j : Nat, sx0 R vs (p0, p1) (v0, v1) (j + 1) = bx0 R vs + (p0 + mdv v0 ((j : Int) + 1) 8) ∧ sy0 R vs (p0, p1) (v0, v1) (j + 1) = by0 R vs + (p1 + mdv v1 ((j : Int) + 1) 8) ∧
      sx1 R vs (p0, p1) (v0, v1) (j + 1) = bx1 R vs + (p0 + mdv v0 ((j : Int) + 1) 8) ∧ sy1 R vs (p0, p1) (v0, v1) (j + 1) = by1 R vs + (p1 + mdv v1 ((j : Int) + 1) 8) := fun j => ⟨rfl, rfl, rfl, rfl⟩
  generalize sx0 R vs (p0, p1) (v0, v1) = F0 at *
  generalize sy0 R vs (p0, p1) (v0, v1) = F1 at *
  generalize sx1 R vs (p0, p1) (v0, v1) = F2 at *
  generalize sy1 R vs (p0, p1) (v0, v1) = F3 at *
  generalize bx0 R vs = b0 at *
  generalize by0 R vs = b1 at *
  generalize bx1 R vs = b2 at *
  generalize by1 R vs = b3 at *
  have HB0 := Lib.hid hB0; clear hB0
  have HBD := Lib.hid hBd; clear hBd
  have HZ := Lib.hid hz; clear hz
  have HSP := Lib.hid hsp; clear hsp
  clear hP hS z
  go_enter Try.func61, Try.ntmps61
  go_wp2_with fail
  refine calls_at ?_; intro W0 hW; have dW0 : Below w.heap.size w W0 := (by rw [hW]; exact (by repeat (first | with_reducible exact Below.refl _ _ | with_reducible refine below_alloc ?_ _ | with_reducible refine Below.drew ?_ | with_reducible refine below_set ?_ (by (first | (simp; done) | (simp; omega))) _ | with_reducible refine below_step (by assumption) ?_)))
  have XA : B6 W0 w.heap.size (.int .i64 R) (.slice A n c) (.int .i64 p0) (.int .i64 p1) (.int .i64 v0) (.int .i64 v1) := (by rw [hW]; unfold B6 Cel; simp [go_sem])
  have XR : B4 W0 (w.heap.size + 1) (.int .i64 0) (.int .i64 0) (.int .i64 0) (.int .i64 0) := (by rw [hW]; unfold B4 Cel; simp [go_sem])
  have lXA := XA.lt; have lXR := XR.lt
  clear hW
  refine (HB0.out _ dW0).mono ?_
  rintro e w1 ⟨rfl, hb1⟩; have d1 : Below W0.heap.size W0 w1 := below_step hb1 (by repeat (first | with_reducible exact Below.refl _ _ | with_reducible refine below_alloc ?_ _ | with_reducible refine Below.drew ?_ | with_reducible refine below_set ?_ (by (first | (simp; done) | (simp; omega))) _ | with_reducible refine below_step (by assumption) ?_)); have z1 := hb1.size; (try simp at z1); replace XA := XA.below d1; (try clear lXA); have lXA := XA.lt; replace XR := XR.below d1; (try clear lXR); have lXR := XR.lt
  have i1 : Below w.heap.size w w1 := dW0.trans (d1.mono dW0.size)
  have lg : w.heap.size + 1 < w1.heap.size := XR.lt
  go_wp2_with fail
  refine code_named ?_; intro W2 hW; have dW2 : Below w1.heap.size w1 W2 := (by rw [hW]; exact (by repeat (first | with_reducible exact Below.refl _ _ | with_reducible refine below_alloc ?_ _ | with_reducible refine Below.drew ?_ | with_reducible refine below_set ?_ (by (first | (simp; done) | (simp; omega))) _ | with_reducible refine below_step (by assumption) ?_))); replace XA := XA.below dW2; (try clear lXA); have lXA := XA.lt; replace XR := XR.below dW2; (try clear lXR); have lXR := XR.lt
  have XG : B4 W2 w1.heap.size (.int .i64 (b0 + p0)) (.int .i64 (b1 + p1)) (.int .i64 (b2 + p0)) (.int .i64 (b3 + p1)) := (by rw [hW]; unfold B4 Cel; simp [go_sem])
  have i2 : Below w.heap.size w W2 := i1.trans (dW2.mono i1.size)
  clear hW
  generalize w1.heap.size = g at *
  go_loopg [4] 8 (fun gk i wr => ∃ j : Nat, gk + j = 8 ∧ i = .int .i64 ((j : Int) + 1) ∧ B4 wr g (.int .i64 (mnk F0 j)) (.int .i64 (mnk F1 j)) (.int .i64 (mxk F2 j)) (.int .i64 (mxk F3 j)) ∧
    B6 wr w.heap.size (.int .i64 R) (.slice A n c) (.int .i64 p0) (.int .i64 p1) (.int .i64 v0) (.int .i64 v1) ∧ B4 wr (w.heap.size + 1) (.int .i64 0) (.int .i64 0) (.int .i64 0) (.int .i64 0) ∧ Below w.heap.size w wr)
  case atStart => exact ⟨0, by omega, rfl, by rw [HZ.out.1, HZ.out.2.1, HZ.out.2.2.1, HZ.out.2.2.2]; exact XG, XA, XR, i2⟩
  case round =>
    clear XA XR XG i2 i1 dW2 d1 dW0 lXA lXR
    obtain ⟨j, hj, rfl, YG, YA, YR, ib⟩ := hrel
    have lYG := YG.lt; have lYA := YA.lt
    by_cases hlt : j < 8
    · have hk : 0 ≤ (j : Int) + 1 ∧ (j : Int) + 1 ≤ 8 := by omega
      have e1 := mdv8_bd h3 hk
      have e2 := mdv8_bd h4 hk
      have m1 := mul_bd (a := v0) (b := (j : Int) + 1) (A := 16384) (B := 8) h3 (by omega)
      have m2 := mul_bd (a := v1) (b := (j : Int) + 1) (A := 16384) (B := 8) h4 (by omega)
      have hM := fun W => vMulDiv_any v0 v1 ((j : Int) + 1) 8 W (by omega) (by omega) (by omega) (by omega)
      have sp := HSP.out j
      generalize mdv v0 ((j : Int) + 1) 8 = x0 at *
      generalize mdv v1 ((j : Int) + 1) 8 = x1 at *
      have HM := Lib.hid hM; clear hM
      have HAd := Lib.hid (fun W => Add_any p0 p1 x0 x1 W (by omega) (by omega) (by omega) (by omega))
      have HBW := Lib.hid (fun W (hW : Below wr.heap.size wr W) => HBD.out x0 x1 e1 e2 W (ib.trans (hW.mono ib.size)))
      have E0 : Hid (mnk F0 (j + 1) = min (mnk F0 j) (b0 + (p0 + x0)) ∧ mnk F1 (j + 1) = min (mnk F1 j) (b1 + (p1 + x1)) ∧ mxk F2 (j + 1) = max (mxk F2 j) (b2 + (p0 + x0)) ∧ mxk F3 (j + 1) = max (mxk F3 j) (b3 + (p1 + x1))) :=
        Lib.hid ⟨by rw [← sp.1]; rfl, by rw [← sp.2.1]; rfl, by rw [← sp.2.2.1]; rfl, by rw [← sp.2.2.2]; rfl⟩
      clear sp m1 m2
      generalize mnk F0 j = n0 at *
      generalize mnk F1 j = n1 at *
      generalize mxk F2 j = n2 at *
      generalize mxk F3 j = n3 at *
      generalize b0 + (p0 + x0) = c0 at *
      generalize b1 + (p1 + x1) = c1 at *
      generalize b2 + (p0 + x0) = c2 at *
      generalize b3 + (p1 + x1) = c3 at *
      have KS := Lib.hid (show ∀ w', Below wr.heap.size wr w' → (B6 w' w.heap.size (.int .i64 R) (.slice A n c) (.int .i64 p0) (.int .i64 p1) (.int .i64 v0) (.int .i64 v1) ∧ Below wr.heap.size wr w') from fun w' hb => ⟨YA.below hb, hb⟩)
      go_upto_region 5 with fail
      go_cut [5] (fun s5 w2 => ∃ h : Nat, s5 = .pointer (some ⟨h, 0, none⟩) ∧ g < h ∧ B4 w2 h (.int .i64 c0) (.int .i64 c1) (.int .i64 c2) (.int .i64 c3) ∧ Below wr.heap.size wr w2)
      case first =>
        go_region_held3 (fun w' => B6 w' w.heap.size (.int .i64 R) (.slice A n c) (.int .i64 p0) (.int .i64 p1) (.int .i64 v0) (.int .i64 v1) ∧ Below wr.heap.size wr w') (refine KS.out _ (by repeat (first | with_reducible exact Below.refl _ _ | with_reducible refine below_alloc ?_ _ | with_reducible refine Below.drew ?_ | with_reducible refine below_set ?_ (by (first | (simp; done) | (simp; omega))) _ | with_reducible refine below_step (by assumption) ?_)))
          (first
            | (go_at_call 63; refine (HM.out _).mono ?_; rintro e w9 ⟨rfl, hb9⟩; obtain ⟨hc9, hf9, hx9, hy9, hn9, hz9⟩ := bcellA hb9; (try simp at hz9); (try have ltw9_0 : wr.heap.size < w9.heap.size := by omega); (try have lew9_0 : wr.heap.size ≤ w9.heap.size := by omega); (try have ltw9_1 : g < w9.heap.size := by omega); (try have lew9_1 : g ≤ w9.heap.size := by omega))
            | (go_at_call 30; refine (HAd.out _).mono ?_; rintro e w8 ⟨rfl, hb8⟩; obtain ⟨hc8, hf8, hx8, hy8, hn8, hz8⟩ := bcellA hb8; (try simp at hz8); (try have ltw8_0 : wr.heap.size < w8.heap.size := by omega); (try have lew8_0 : wr.heap.size ≤ w8.heap.size := by omega); (try have ltw8_1 : g < w8.heap.size := by omega); (try have lew8_1 : g ≤ w8.heap.size := by omega))
            | (go_at_call 32; refine (HBW.out _ (‹_ ∧ Below wr.heap.size wr _›).2).mono ?_; rintro e w7 ⟨rfl, hb7⟩; obtain ⟨hc7, hf7, hx7, hy7, hn7, hz7⟩ := bcellA hb7; (try simp at hz7); (try have ltw7_0 : wr.heap.size < w7.heap.size := by omega); (try have lew7_0 : wr.heap.size ≤ w7.heap.size := by omega); (try have ltw7_1 : g < w7.heap.size := by omega); (try have lew7_1 : g ≤ w7.heap.size := by omega)))
        all_goals (rename _ ∧ Below wr.heap.size wr _ => hS; go_wp2_with fail; go_meet; exact ⟨_, rfl, by omega, by unfold B4 Cel; simp (maxDischargeDepth := 6) [go_sem, World.cell?_setCell_same', *], hS.2⟩)
      case rest =>
        rename World => w2
        obtain ⟨h, rfl, lh, XV, d2⟩ := hcut
        replace YG := YG.below d2; replace YA := YA.below d2; replace YR := YR.below d2
        have i2 : Below w.heap.size w w2 := ib.trans (d2.mono ib.size)
        clear KS
        go_wp2_with fail
        go_roundg (gk - 1)
        case measure => omega
        case rel =>
          refine ⟨j + 1, by omega, by go_num, ?_, (((YA.far (by omega) _).far (by omega) _).far (by omega) _).far (by omega) _, (((YR.far (by omega) _).far (by omega) _).far (by omega) _).far (by omega) _, (by repeat (first | with_reducible exact Below.refl _ _ | with_reducible refine below_alloc ?_ _ | with_reducible refine Below.drew ?_ | with_reducible refine below_set ?_ (by (first | (simp; done) | (simp; omega))) _ | with_reducible refine below_step (by assumption) ?_))⟩
          rw [E0.out.1, E0.out.2.1, E0.out.2.2.1, E0.out.2.2.2]
          exact (((YG.set0 _).set1 _).set2 _).set3 _
    · obtain rfl : j = 8 := by omega
      have ne : w.heap.size + 1 ≠ g := by omega
      have ne' := Ne.symm ne
      go_wp2_with fail
      exact bodyPost_ret (v := .agg #[.int .i64 (mnk F0 8), .int .i64 (mnk F1 8), .int .i64 (mxk F2 8), .int .i64 (mxk F3 8)]) (by simp [results, Try.results61, go_sem, *]) rfl ⟨rfl, (by repeat (first | with_reducible exact Below.refl _ _ | with_reducible refine below_alloc ?_ _ | with_reducible refine Below.drew ?_ | with_reducible refine below_set ?_ (by (first | (simp; done) | (simp; omega))) _ | with_reducible refine below_step (by assumption) ?_))⟩
end Go.Proofs.Ytipcppbbpmdijaa
