/-
  What Earliest of package toi returns, and chapter 6's 'touch' and 'earliest'. Conditions: the numbers' bounds and the vertices in memory, as the theorems state.
-/
import Derived.Test.YtipcppbbpmdijaaPla
namespace Go.Proofs.Ytipcppbbpmdijaa
open Go.RowKit Go.Sort
attribute [local go_sem ↓] Go.wp_at_zero Go.wp_at_succ

/-- The position after k of eight sub-steps. -/
def stp (p v : V2) (k : Int) : V2 := (p.1 + mdv v.1 k 8, p.2 + mdv v.2 k 8)
theorem mdv8_bd {v k : Int} (h1 : -16384 ≤ v ∧ v ≤ 16384) (h2 : 0 ≤ k ∧ k ≤ 8) : -131072 ≤ mdv v k 8 ∧ mdv v k 8 ≤ 131072 := by
  have p := mul_bd (a := v) (b := k) (A := 16384) (B := 8) h1 (by omega)
  exact mdv_bd (by decide) (by omega)
def tch (Ra : Int) (va : List V2) (p u : V2) (Rb : Int) (vb : List V2) (q v : V2) (k : Int) : Bool := hit Ra va (stp p u k) Rb vb (stp q v k)

set_option maxRecDepth 100000 in
set_option maxHeartbeats 8000000 in
theorem touch1_any (Ra Rb p0 p1 u0 u1 q0 q1 v0 v1 k : Int) (A B : Option Addr) (na ca nb cb : Nat) (va vb : List V2) (b1 b2 b3 b4 b5 b6 : Nat) (w : World)
    (X1 : B2 w b1 (.int .i64 Ra) (.slice A na ca)) (X2 : B2 w b2 (.int .i64 p0) (.int .i64 p1)) (X3 : B2 w b3 (.int .i64 u0) (.int .i64 u1)) (X4 : B2 w b4 (.int .i64 Rb) (.slice B nb cb)) (X5 : B2 w b5 (.int .i64 q0) (.int .i64 q1)) (X6 : B2 w b6 (.int .i64 v0) (.int .i64 v1))
    (hA : Pol w A na ca va) (hB : Pol w B nb cb vb) (hSa : SN Ra va) (hSb : SN Rb vb)
    (h1 : -33000000 ≤ p0 ∧ p0 ≤ 33000000) (h2 : -33000000 ≤ p1 ∧ p1 ≤ 33000000) (h3 : -33000000 ≤ q0 ∧ q0 ≤ 33000000) (h4 : -33000000 ≤ q1 ∧ q1 ≤ 33000000)
    (h5 : -16384 ≤ u0 ∧ u0 ≤ 16384) (h6 : -16384 ≤ u1 ∧ u1 ≤ 16384) (h7 : -16384 ≤ v0 ∧ v0 ≤ 16384) (h8 : -16384 ≤ v1 ∧ v1 ≤ 16384) (hk : 0 ≤ k ∧ k ≤ 8) :
    Calls Try.prog 84 #[.int .i64 k, .pointer (some ⟨b1, 0, none⟩), .pointer (some ⟨b2, 0, none⟩), .pointer (some ⟨b3, 0, none⟩), .pointer (some ⟨b4, 0, none⟩), .pointer (some ⟨b5, 0, none⟩), .pointer (some ⟨b6, 0, none⟩)] w fun e w' =>
      e = .returned (.bool (tch Ra va (p0, p1) (u0, u1) Rb vb (q0, q1) (v0, v1) k)) ∧ Below w.heap.size w w' := by
  have m1 := mul_bd (a := u0) (b := k) (A := 16384) (B := 8) h5 (by omega)
  have m2 := mul_bd (a := u1) (b := k) (A := 16384) (B := 8) h6 (by omega)
  have m3 := mul_bd (a := v0) (b := k) (A := 16384) (B := 8) h7 (by omega)
  have m4 := mul_bd (a := v1) (b := k) (A := 16384) (B := 8) h8 (by omega)
  have e1 := mdv8_bd h5 hk
  have e2 := mdv8_bd h6 hk
  have e3 := mdv8_bd h7 hk
  have e4 := mdv8_bd h8 hk
  have hM1 := fun W => vMulDiv_any u0 u1 k 8 W (by omega) (by omega) (by omega) (by omega)
  have hM2 := fun W => vMulDiv_any v0 v1 k 8 W (by omega) (by omega) (by omega) (by omega)
  unfold tch stp
  dsimp only
  have hC := fun W P Q => Collide_any Ra Rb (p0 + mdv u0 k 8) (p1 + mdv u1 k 8) (q0 + mdv v0 k 8) (q1 + mdv v1 k 8) A B na ca nb cb va vb W P Q hSa hSb (by omega) (by omega) (by omega) (by omega)
  generalize mdv u0 k 8 = x0 at *
  generalize mdv u1 k 8 = x1 at *
  generalize mdv v0 k 8 = y0 at *
  generalize mdv v1 k 8 = y1 at *
  generalize hit Ra va (p0 + x0, p1 + x1) Rb vb (q0 + y0, q1 + y1) = h at *
  generalize cnD Ra va (p0 + x0, p1 + x1) Rb vb (q0 + y0, q1 + y1) = d at *
  generalize cnN Ra va (p0 + x0, p1 + x1) Rb vb (q0 + y0, q1 + y1) = m at *
  have HA1 := Lib.hid (fun W => Add_any p0 p1 x0 x1 W (by omega) (by omega) (by omega) (by omega))
  have HA2 := Lib.hid (fun W => Add_any q0 q1 y0 y1 W (by omega) (by omega) (by omega) (by omega))
  have HM1 := Lib.hid hM1; clear hM1
  have HM2 := Lib.hid hM2; clear hM2
  have HCW := Lib.hid (fun W (hW : Below w.heap.size w W) => hC W (hA.below hW) (hB.below hW)); clear hC
  have KS := Lib.hid (show ∀ w', Below w.heap.size w w' → (B2 w' b1 (.int .i64 Ra) (.slice A na ca) ∧ B2 w' b2 (.int .i64 p0) (.int .i64 p1) ∧ B2 w' b3 (.int .i64 u0) (.int .i64 u1) ∧ B2 w' b4 (.int .i64 Rb) (.slice B nb cb) ∧ B2 w' b5 (.int .i64 q0) (.int .i64 q1) ∧ B2 w' b6 (.int .i64 v0) (.int .i64 v1) ∧ Below w.heap.size w w') from fun w' hb => ⟨X1.below hb, X2.below hb, X3.below hb, X4.below hb, X5.below hb, X6.below hb, hb⟩)
  clear hA hB hSa hSb m1 m2 m3 m4 hk
  go_enter Try.func84, Try.ntmps84
  go_upto_region 1 with fail
  go_cut [10] (fun s10 w' => s10 = .bool h ∧ Below w.heap.size w w')
  case first =>
    go_region_held3 (fun w' => B2 w' b1 (.int .i64 Ra) (.slice A na ca) ∧ B2 w' b2 (.int .i64 p0) (.int .i64 p1) ∧ B2 w' b3 (.int .i64 u0) (.int .i64 u1) ∧ B2 w' b4 (.int .i64 Rb) (.slice B nb cb) ∧ B2 w' b5 (.int .i64 q0) (.int .i64 q1) ∧ B2 w' b6 (.int .i64 v0) (.int .i64 v1) ∧ Below w.heap.size w w') (refine KS.out _ (by repeat (first | with_reducible exact Below.refl _ _ | with_reducible refine below_alloc ?_ _ | with_reducible refine Below.drew ?_ | with_reducible refine below_set ?_ (by (first | (simp; done) | (simp; omega))) _ | with_reducible refine below_step (by assumption) ?_)))
      (first
        | (go_at_call 63; first | ((with_reducible refine (HM1.out _).mono ?_); rintro e w9 ⟨rfl, hb9⟩; obtain ⟨hc9, hf9, hx9, hy9, hn9, hz9⟩ := bcellA hb9; (try simp at hz9); (try have ltw9_0 : w.heap.size < w9.heap.size := by omega); (try have lew9_0 : w.heap.size ≤ w9.heap.size := by omega); (try have ltw9_1 : w8.heap.size < w9.heap.size := by omega); (try have lew9_1 : w8.heap.size ≤ w9.heap.size := by omega); (try have ltw9_2 : w7.heap.size < w9.heap.size := by omega); (try have lew9_2 : w7.heap.size ≤ w9.heap.size := by omega); (try have ltw9_3 : w5.heap.size < w9.heap.size := by omega); (try have lew9_3 : w5.heap.size ≤ w9.heap.size := by omega); (try have ltw9_4 : w6.heap.size < w9.heap.size := by omega); (try have lew9_4 : w6.heap.size ≤ w9.heap.size := by omega)) | ((with_reducible refine (HM2.out _).mono ?_); rintro e w8 ⟨rfl, hb8⟩; obtain ⟨hc8, hf8, hx8, hy8, hn8, hz8⟩ := bcellA hb8; (try simp at hz8); (try have ltw8_0 : w.heap.size < w8.heap.size := by omega); (try have lew8_0 : w.heap.size ≤ w8.heap.size := by omega); (try have ltw8_1 : w9.heap.size < w8.heap.size := by omega); (try have lew8_1 : w9.heap.size ≤ w8.heap.size := by omega); (try have ltw8_2 : w7.heap.size < w8.heap.size := by omega); (try have lew8_2 : w7.heap.size ≤ w8.heap.size := by omega); (try have ltw8_3 : w5.heap.size < w8.heap.size := by omega); (try have lew8_3 : w5.heap.size ≤ w8.heap.size := by omega); (try have ltw8_4 : w6.heap.size < w8.heap.size := by omega); (try have lew8_4 : w6.heap.size ≤ w8.heap.size := by omega)))
        | (go_at_call 30; first | ((with_reducible refine (HA1.out _).mono ?_); rintro e w7 ⟨rfl, hb7⟩; obtain ⟨hc7, hf7, hx7, hy7, hn7, hz7⟩ := bcellA hb7; (try simp at hz7); (try have ltw7_0 : w.heap.size < w7.heap.size := by omega); (try have lew7_0 : w.heap.size ≤ w7.heap.size := by omega); (try have ltw7_1 : w9.heap.size < w7.heap.size := by omega); (try have lew7_1 : w9.heap.size ≤ w7.heap.size := by omega); (try have ltw7_2 : w8.heap.size < w7.heap.size := by omega); (try have lew7_2 : w8.heap.size ≤ w7.heap.size := by omega); (try have ltw7_3 : w5.heap.size < w7.heap.size := by omega); (try have lew7_3 : w5.heap.size ≤ w7.heap.size := by omega); (try have ltw7_4 : w6.heap.size < w7.heap.size := by omega); (try have lew7_4 : w6.heap.size ≤ w7.heap.size := by omega)) | ((with_reducible refine (HA2.out _).mono ?_); rintro e w5 ⟨rfl, hb5⟩; obtain ⟨hc5, hf5, hx5, hy5, hn5, hz5⟩ := bcellA hb5; (try simp at hz5); (try have ltw5_0 : w.heap.size < w5.heap.size := by omega); (try have lew5_0 : w.heap.size ≤ w5.heap.size := by omega); (try have ltw5_1 : w9.heap.size < w5.heap.size := by omega); (try have lew5_1 : w9.heap.size ≤ w5.heap.size := by omega); (try have ltw5_2 : w8.heap.size < w5.heap.size := by omega); (try have lew5_2 : w8.heap.size ≤ w5.heap.size := by omega); (try have ltw5_3 : w7.heap.size < w5.heap.size := by omega); (try have lew5_3 : w7.heap.size ≤ w5.heap.size := by omega); (try have ltw5_4 : w6.heap.size < w5.heap.size := by omega); (try have lew5_4 : w6.heap.size ≤ w5.heap.size := by omega)))
        | (go_at_call 46; refine (HCW.out _ (‹_ ∧ _ ∧ _ ∧ _ ∧ _ ∧ _ ∧ Below w.heap.size w _›).2.2.2.2.2.2).mono ?_; rintro e w6 ⟨rfl, hb6⟩; obtain ⟨hc6, hf6, hx6, hy6, hn6, hz6⟩ := bcellA hb6; (try simp at hz6); (try have ltw6_0 : w.heap.size < w6.heap.size := by omega); (try have lew6_0 : w.heap.size ≤ w6.heap.size := by omega); (try have ltw6_1 : w9.heap.size < w6.heap.size := by omega); (try have lew6_1 : w9.heap.size ≤ w6.heap.size := by omega); (try have ltw6_2 : w8.heap.size < w6.heap.size := by omega); (try have lew6_2 : w8.heap.size ≤ w6.heap.size := by omega); (try have ltw6_3 : w7.heap.size < w6.heap.size := by omega); (try have lew6_3 : w7.heap.size ≤ w6.heap.size := by omega); (try have ltw6_4 : w5.heap.size < w6.heap.size := by omega); (try have lew6_4 : w5.heap.size ≤ w6.heap.size := by omega)))
    all_goals (rename _ ∧ _ ∧ _ ∧ _ ∧ _ ∧ _ ∧ Below w.heap.size w _ => hS; go_wp2_with fail; go_meet; exact ⟨rfl, hS.2.2.2.2.2.2⟩)
  case rest =>
    rename World => w2
    obtain ⟨rfl, d2⟩ := hcut
    go_wp2_with fail
    go_ret
    exact ⟨rfl, d2⟩

def earF (t : Int → Bool) : Nat → Nat → Int
  | 0, _ => 1024
  | f + 1, k => if t ((k : Int) + 1) = true then (k : Int) * 128 else earF t f (k + 1)
def ear (t : Int → Bool) : Int := if t 0 = true then 1024 else earF t 8 0

set_option maxRecDepth 100000 in
set_option maxHeartbeats 4000000 in
theorem Earliest_any (Ra Rb p0 p1 u0 u1 q0 q1 v0 v1 : Int) (A B : Option Addr) (na ca nb cb : Nat) (va vb : List V2) (w : World)
    (hA : Pol w A na ca va) (hB : Pol w B nb cb vb) (hSa : SN Ra va) (hSb : SN Rb vb)
    (h1 : -33000000 ≤ p0 ∧ p0 ≤ 33000000) (h2 : -33000000 ≤ p1 ∧ p1 ≤ 33000000) (h3 : -33000000 ≤ q0 ∧ q0 ≤ 33000000) (h4 : -33000000 ≤ q1 ∧ q1 ≤ 33000000)
    (h5 : -16384 ≤ u0 ∧ u0 ≤ 16384) (h6 : -16384 ≤ u1 ∧ u1 ≤ 16384) (h7 : -16384 ≤ v0 ∧ v0 ≤ 16384) (h8 : -16384 ≤ v1 ∧ v1 ≤ 16384) :
    Calls Try.prog 60 #[.agg #[.int .i64 Ra, .slice A na ca], .agg #[.int .i64 p0, .int .i64 p1], .agg #[.int .i64 u0, .int .i64 u1], .agg #[.int .i64 Rb, .slice B nb cb], .agg #[.int .i64 q0, .int .i64 q1], .agg #[.int .i64 v0, .int .i64 v1]] w fun e w' =>
      e = .returned (.int .i64 (ear (tch Ra va (p0, p1) (u0, u1) Rb vb (q0, q1) (v0, v1)))) ∧ Below w.heap.size w w' := by
  have HT := Lib.hid (fun k b1 b2 b3 b4 b5 b6 W X1 X2 X3 X4 X5 X6 PA PB hk => touch1_any Ra Rb p0 p1 u0 u1 q0 q1 v0 v1 k A B na ca nb cb va vb b1 b2 b3 b4 b5 b6 W X1 X2 X3 X4 X5 X6 PA PB hSa hSb h1 h2 h3 h4 h5 h6 h7 h8 hk)
  generalize tch Ra va (p0, p1) (u0, u1) Rb vb (q0, q1) (v0, v1) = t at *
  have hear : ear t = if t 0 = true then 1024 else earF t 8 0 := rfl
  generalize ear t = E at *
  have HEAR := Lib.hid hear; clear hear
  clear hSa hSb h1 h2 h3 h4 h5 h6 h7 h8
  go_enter Try.func60, Try.ntmps60
  go_wp2_with fail
  refine calls_at ?_; intro W0 hW; have dW0 : Below w.heap.size w W0 := (by rw [hW]; exact (by repeat (first | with_reducible exact Below.refl _ _ | with_reducible refine below_alloc ?_ _ | with_reducible refine Below.drew ?_ | with_reducible refine below_set ?_ (by (first | (simp; done) | (simp; omega))) _ | with_reducible refine below_step (by assumption) ?_)))
  have X1 : B2 W0 w.heap.size (.int .i64 Ra) (.slice A na ca) := (by rw [hW]; unfold B2 Cel; simp [go_sem])
  have X2 : B2 W0 (w.heap.size + 1) (.int .i64 p0) (.int .i64 p1) := (by rw [hW]; unfold B2 Cel; simp [go_sem])
  have X3 : B2 W0 (w.heap.size + 1 + 1) (.int .i64 u0) (.int .i64 u1) := (by rw [hW]; unfold B2 Cel; simp [go_sem])
  have X4 : B2 W0 (w.heap.size + 1 + 1 + 1) (.int .i64 Rb) (.slice B nb cb) := (by rw [hW]; unfold B2 Cel; simp [go_sem])
  have X5 : B2 W0 (w.heap.size + 1 + 1 + 1 + 1) (.int .i64 q0) (.int .i64 q1) := (by rw [hW]; unfold B2 Cel; simp [go_sem])
  have X6 : B2 W0 (w.heap.size + 1 + 1 + 1 + 1 + 1) (.int .i64 v0) (.int .i64 v1) := (by rw [hW]; unfold B2 Cel; simp [go_sem])
  clear hW
  have hTW := fun (k : Int) (hk : 0 ≤ k ∧ k ≤ 8) W (hW : Below W0.heap.size W0 W) => HT.out k _ _ _ _ _ _ W (X1.below hW) (X2.below hW) (X3.below hW) (X4.below hW) (X5.below hW) (X6.below hW) ((hA.below dW0).below hW) ((hB.below dW0).below hW) hk
  have HTW := Lib.hid hTW; clear hTW
  clear X1 X2 X3 X4 X5 X6 hA hB HT
  refine (HTW.out 0 (by omega) _ (Below.refl _ _)).mono ?_
  rintro e w1 ⟨rfl, hb1⟩
  by_cases ht : t 0 = true
  · have HT0 := Lib.hid ht
    go_wp2_with fail
    go_ret
    exact ⟨ret_i (by rw [HEAR.out, if_pos HT0.out]), (by repeat (first | with_reducible exact Below.refl _ _ | with_reducible refine below_alloc ?_ _ | with_reducible refine Below.drew ?_ | with_reducible refine below_set ?_ (by (first | (simp; done) | (simp; omega))) _ | with_reducible refine below_step (by assumption) ?_))⟩
  · obtain ht' : t 0 = false := by simpa using ht
    have HT0 := Lib.hid ht'
    clear ht
    go_wp2_with fail
    go_loopg [18] 8 (fun gk i wr => ∃ k : Nat, gk + k = 8 ∧ i = .int .i64 k ∧ Hid (E = earF t gk k) ∧ Below W0.heap.size W0 wr)
    case atStart => exact ⟨0, by omega, rfl, Lib.hid (by rw [HEAR.out, if_neg (by rw [HT0.out]; simp)]), hb1⟩
    case round =>
      obtain ⟨k, hk, rfl, hE, ib⟩ := hrel
      by_cases hlt : k < 8
      · obtain ⟨g, hg⟩ : ∃ g, gk = g + 1 := ⟨gk - 1, by omega⟩
        have hE' := hE.out
        rw [hg] at hE'
        have HE := Lib.hid hE'; clear hE' hE
        have hg1 : g < gk := by omega
        have HG := Lib.hid hg; clear hg
        have hcall := HTW.out ((k : Int) + 1) (by omega) wr ib
        have hF : earF t (g + 1) k = if t ((k : Int) + 1) = true then (k : Int) * 128 else earF t g (k + 1) := rfl
        generalize htk : t ((k : Int) + 1) = tk at *
        have HF := Lib.hid hF; clear hF htk
        have HC := Lib.hid hcall; clear hcall
        cases tk with
        | true =>
          go_wp2_with fail
          refine HC.out.mono ?_
          rintro e w2 ⟨rfl, hb2⟩
          go_wp2_with fail
          go_ret
          exact ⟨ret_i (by rw [HE.out, HF.out]; simp only [if_true]; omega), (by repeat (first | with_reducible exact Below.refl _ _ | with_reducible refine below_alloc ?_ _ | with_reducible refine Below.drew ?_ | with_reducible refine below_set ?_ (by (first | (simp; done) | (simp; omega))) _ | with_reducible refine below_step (by assumption) ?_))⟩
        | false =>
          go_wp2_with fail
          refine HC.out.mono ?_
          rintro e w2 ⟨rfl, hb2⟩
          go_wp2_with fail
          go_roundg g
          case measure => omega
          case rel => exact ⟨k + 1, by have := HG.out; omega, by go_num, Lib.hid (by rw [HE.out, HF.out]; rfl), (by repeat (first | with_reducible exact Below.refl _ _ | with_reducible refine below_alloc ?_ _ | with_reducible refine Below.drew ?_ | with_reducible refine below_set ?_ (by (first | (simp; done) | (simp; omega))) _ | with_reducible refine below_step (by assumption) ?_))⟩
      · obtain rfl : k = 8 := by omega
        have hg : gk = 0 := by omega
        have hE' := hE.out
        rw [hg] at hE'
        have HE := Lib.hid hE'; clear hE' hE hg
        go_wp2_with fail
        go_ret
        exact ⟨ret_i (by rw [HE.out]; rfl), (by repeat (first | with_reducible exact Below.refl _ _ | with_reducible refine below_alloc ?_ _ | with_reducible refine Below.drew ?_ | with_reducible refine below_set ?_ (by (first | (simp; done) | (simp; omega))) _ | with_reducible refine below_step (by assumption) ?_))⟩
end Go.Proofs.Ytipcppbbpmdijaa
