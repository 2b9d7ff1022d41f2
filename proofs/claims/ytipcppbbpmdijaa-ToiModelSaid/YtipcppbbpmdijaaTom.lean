/-
  What chapter 6's reference returns: At, Touch, Earliest. Conditions: the numbers' bounds and the vertices in memory, as the theorems state.
-/
import Derived.Test.YtipcppbbpmdijaaRco
import Derived.Test.YtipcppbbpmdijaaTou
namespace Go.Proofs.Ytipcppbbpmdijaa
open Go.RowKit Go.Sort
attribute [local go_sem ↓] Go.wp_at_zero Go.wp_at_succ

theorem rAt_any (p0 p1 v0 v1 k : Int) (w : World) (h1 : -33000000 ≤ p0 ∧ p0 ≤ 33000000) (h2 : -33000000 ≤ p1 ∧ p1 ≤ 33000000) (h3 : -16384 ≤ v0 ∧ v0 ≤ 16384) (h4 : -16384 ≤ v1 ∧ v1 ≤ 16384) (hk : 0 ≤ k ∧ k ≤ 8) :
    Calls Try.prog 95 #[.agg #[.int .i64 p0, .int .i64 p1], .agg #[.int .i64 v0, .int .i64 v1], .int .i64 k] w fun e w' => e = .returned (.agg #[.int .i64 (p0 + mdv v0 k 8), .int .i64 (p1 + mdv v1 k 8)]) ∧ Below w.heap.size w w' := by
  have m1 := mul_bd (a := v0) (b := k) (A := 16384) (B := 8) h3 (by omega)
  have m2 := mul_bd (a := v1) (b := k) (A := 16384) (B := 8) h4 (by omega)
  have e1 := mdv8_bd h3 hk
  have e2 := mdv8_bd h4 hk
  have HM := Lib.hid (fun W => rvMulDiv_any v0 v1 k 8 W (by omega) (by omega) (by omega) (by omega))
  generalize mdv v0 k 8 = x0 at *
  generalize mdv v1 k 8 = x1 at *
  have HAd := Lib.hid (fun W => rAdd_any p0 p1 x0 x1 W (by omega) (by omega) (by omega) (by omega))
  go_enter Try.func95, Try.ntmps95
  go_wp2_with fail
  refine code_named ?_; intro W0 hW; have dW0 : Below w.heap.size w W0 := (by rw [hW]; exact (by repeat (first | with_reducible exact Below.refl _ _ | with_reducible refine below_alloc ?_ _ | with_reducible refine Below.drew ?_ | with_reducible refine below_set ?_ (by (first | (simp; done) | (simp; omega))) _ | with_reducible refine below_step (by assumption) ?_)))
  have XS : B2 W0 w.heap.size (.int .i64 p0) (.int .i64 p1) := (by rw [hW]; unfold B2 Cel; simp [go_sem])
  have XV : B2 W0 (w.heap.size + 1) (.int .i64 v0) (.int .i64 v1) := (by rw [hW]; unfold B2 Cel; simp [go_sem])
  have XR : B2 W0 (w.heap.size + 2) (.int .i64 0) (.int .i64 0) := (by rw [hW]; unfold B2 Cel; simp [go_sem])
  clear hW
  have KXS := XS.re; have KXV := XV.re; have KXR := XR.re; refine wp_region_last 5 (by kernel_rfl) (by kernel_rfl) ?_; simp only [List.take_succ_cons, List.take_zero, List.drop_succ_cons, List.drop_zero]
  repeat (go_big_quiet_step (first
    | (go_at_call 99; exact met_below (HM.out _))
    | (go_at_call 34; exact met_below (HAd.out _))))
  refine wpQuiet_nil ?_; intro w3 d3; clear KXS KXV KXR; replace XS := XS.below d3; (try clear lXS); have lXS := XS.lt; replace XV := XV.below d3; (try clear lXV); have lXV := XV.lt; replace XR := XR.below d3; (try clear lXR); have lXR := XR.lt
  go_wp2_with fail
  exact bodyPost_ret (v := .agg #[.int .i64 (p0 + x0), .int .i64 (p1 + x1)]) (by simp [results, Try.results95, go_sem, *]) rfl ⟨rfl, (by repeat (first | with_reducible exact Below.refl _ _ | with_reducible refine below_alloc ?_ _ | with_reducible refine Below.drew ?_ | with_reducible refine below_set ?_ (by (first | (simp; done) | (simp; omega))) _ | with_reducible refine below_step (by assumption) ?_))⟩

set_option maxRecDepth 100000 in
set_option maxHeartbeats 8000000 in
theorem rTouch_any (Ra Rb p0 p1 u0 u1 q0 q1 v0 v1 k : Int) (A B : Option Addr) (na ca nb cb : Nat) (va vb : List V2) (w : World)
    (hA : Pol w A na ca va) (hB : Pol w B nb cb vb) (hSa : SN Ra va) (hSb : SN Rb vb)
    (h1 : -33000000 ≤ p0 ∧ p0 ≤ 33000000) (h2 : -33000000 ≤ p1 ∧ p1 ≤ 33000000) (h3 : -33000000 ≤ q0 ∧ q0 ≤ 33000000) (h4 : -33000000 ≤ q1 ∧ q1 ≤ 33000000)
    (h5 : -16384 ≤ u0 ∧ u0 ≤ 16384) (h6 : -16384 ≤ u1 ∧ u1 ≤ 16384) (h7 : -16384 ≤ v0 ∧ v0 ≤ 16384) (h8 : -16384 ≤ v1 ∧ v1 ≤ 16384) (hk : 0 ≤ k ∧ k ≤ 8) :
    Calls Try.prog 83 #[.agg #[.int .i64 Ra, .slice A na ca], .agg #[.int .i64 p0, .int .i64 p1], .agg #[.int .i64 u0, .int .i64 u1], .agg #[.int .i64 Rb, .slice B nb cb], .agg #[.int .i64 q0, .int .i64 q1], .agg #[.int .i64 v0, .int .i64 v1], .int .i64 k] w fun e w' =>
      e = .returned (.bool (tch Ra va (p0, p1) (u0, u1) Rb vb (q0, q1) (v0, v1) k)) ∧ Below w.heap.size w w' := by
  have e1 := mdv8_bd h5 hk
  have e2 := mdv8_bd h6 hk
  have e3 := mdv8_bd h7 hk
  have e4 := mdv8_bd h8 hk
  have hT1 := fun W => rAt_any p0 p1 u0 u1 k W h1 h2 h5 h6 hk
  have hT2 := fun W => rAt_any q0 q1 v0 v1 k W h3 h4 h7 h8 hk
  unfold tch stp
  dsimp only
  have hC := fun W P Q => rCollide_any Ra Rb (p0 + mdv u0 k 8) (p1 + mdv u1 k 8) (q0 + mdv v0 k 8) (q1 + mdv v1 k 8) A B na ca nb cb va vb W P Q hSa hSb (by omega) (by omega) (by omega) (by omega)
  generalize mdv u0 k 8 = x0 at *
  generalize mdv u1 k 8 = x1 at *
  generalize mdv v0 k 8 = y0 at *
  generalize mdv v1 k 8 = y1 at *
  generalize hit Ra va (p0 + x0, p1 + x1) Rb vb (q0 + y0, q1 + y1) = h at *
  generalize cnD Ra va (p0 + x0, p1 + x1) Rb vb (q0 + y0, q1 + y1) = d at *
  generalize cnN Ra va (p0 + x0, p1 + x1) Rb vb (q0 + y0, q1 + y1) = m at *
  have HT1 := Lib.hid hT1; clear hT1
  have HT2 := Lib.hid hT2; clear hT2
  have HC := Lib.hid hC; clear hC
  clear hSa hSb e1 e2 e3 e4 hk h1 h2 h3 h4 h5 h6 h7 h8
  go_enter Try.func83, Try.ntmps83
  go_upto_region 1 with fail
  refine code_named ?_; intro W0 hW; have dW0 : Below w.heap.size w W0 := (by rw [hW]; exact (by repeat (first | with_reducible exact Below.refl _ _ | with_reducible refine below_alloc ?_ _ | with_reducible refine Below.drew ?_ | with_reducible refine below_set ?_ (by (first | (simp; done) | (simp; omega))) _ | with_reducible refine below_step (by assumption) ?_)))
  have X1 : B2 W0 w.heap.size (.int .i64 Ra) (.slice A na ca) := (by rw [hW]; unfold B2 Cel; simp [go_sem])
  have X2 : B2 W0 (w.heap.size + 1) (.int .i64 p0) (.int .i64 p1) := (by rw [hW]; unfold B2 Cel; simp [go_sem])
  have X3 : B2 W0 (w.heap.size + 2) (.int .i64 u0) (.int .i64 u1) := (by rw [hW]; unfold B2 Cel; simp [go_sem])
  have X4 : B2 W0 (w.heap.size + 3) (.int .i64 Rb) (.slice B nb cb) := (by rw [hW]; unfold B2 Cel; simp [go_sem])
  have X5 : B2 W0 (w.heap.size + 4) (.int .i64 q0) (.int .i64 q1) := (by rw [hW]; unfold B2 Cel; simp [go_sem])
  have X6 : B2 W0 (w.heap.size + 5) (.int .i64 v0) (.int .i64 v1) := (by rw [hW]; unfold B2 Cel; simp [go_sem])
  have l6 := X6.lt
  clear hW
  have HCW := Lib.hid (fun W (hW : Below W0.heap.size W0 W) => HC.out W ((hA.below dW0).below hW) ((hB.below dW0).below hW)); clear HC
  have KS := Lib.hid (show ∀ w', Below W0.heap.size W0 w' → (B2 w' w.heap.size (.int .i64 Ra) (.slice A na ca) ∧ B2 w' (w.heap.size + 1) (.int .i64 p0) (.int .i64 p1) ∧ B2 w' (w.heap.size + 2) (.int .i64 u0) (.int .i64 u1) ∧ B2 w' (w.heap.size + 3) (.int .i64 Rb) (.slice B nb cb) ∧ B2 w' (w.heap.size + 4) (.int .i64 q0) (.int .i64 q1) ∧ B2 w' (w.heap.size + 5) (.int .i64 v0) (.int .i64 v1) ∧ Below W0.heap.size W0 w') from fun w' hb => ⟨X1.below hb, X2.below hb, X3.below hb, X4.below hb, X5.below hb, X6.below hb, hb⟩)
  clear hA hB
  go_cut [16] (fun s16 w' => s16 = .bool h ∧ Below W0.heap.size W0 w')
  case first =>
    go_region_held3 (fun w' => B2 w' w.heap.size (.int .i64 Ra) (.slice A na ca) ∧ B2 w' (w.heap.size + 1) (.int .i64 p0) (.int .i64 p1) ∧ B2 w' (w.heap.size + 2) (.int .i64 u0) (.int .i64 u1) ∧ B2 w' (w.heap.size + 3) (.int .i64 Rb) (.slice B nb cb) ∧ B2 w' (w.heap.size + 4) (.int .i64 q0) (.int .i64 q1) ∧ B2 w' (w.heap.size + 5) (.int .i64 v0) (.int .i64 v1) ∧ Below W0.heap.size W0 w') (refine KS.out _ (by repeat (first | with_reducible exact Below.refl _ _ | with_reducible refine below_alloc ?_ _ | with_reducible refine Below.drew ?_ | with_reducible refine below_set ?_ (by (first | (simp; done) | (simp; omega))) _ | with_reducible refine below_step (by assumption) ?_)))
      (first
        | (go_at_call 95; first | ((with_reducible refine (HT1.out _).mono ?_); rintro e w9 ⟨rfl, hb9⟩; obtain ⟨hc9, hf9, hx9, hy9, hn9, hz9⟩ := bcellA hb9; (try simp at hz9); (try have ltw9_0 : W0.heap.size < w9.heap.size := by omega); (try have lew9_0 : W0.heap.size ≤ w9.heap.size := by omega); (try have ltw9_1 : w8.heap.size < w9.heap.size := by omega); (try have lew9_1 : w8.heap.size ≤ w9.heap.size := by omega); (try have ltw9_2 : w6.heap.size < w9.heap.size := by omega); (try have lew9_2 : w6.heap.size ≤ w9.heap.size := by omega)) | ((with_reducible refine (HT2.out _).mono ?_); rintro e w8 ⟨rfl, hb8⟩; obtain ⟨hc8, hf8, hx8, hy8, hn8, hz8⟩ := bcellA hb8; (try simp at hz8); (try have ltw8_0 : W0.heap.size < w8.heap.size := by omega); (try have lew8_0 : W0.heap.size ≤ w8.heap.size := by omega); (try have ltw8_1 : w9.heap.size < w8.heap.size := by omega); (try have lew8_1 : w9.heap.size ≤ w8.heap.size := by omega); (try have ltw8_2 : w6.heap.size < w8.heap.size := by omega); (try have lew8_2 : w6.heap.size ≤ w8.heap.size := by omega)))
        | (go_at_call 52; refine (HCW.out _ (‹_ ∧ _ ∧ _ ∧ _ ∧ _ ∧ _ ∧ Below W0.heap.size W0 _›).2.2.2.2.2.2).mono ?_; rintro e w6 ⟨rfl, hb6⟩; obtain ⟨hc6, hf6, hx6, hy6, hn6, hz6⟩ := bcellA hb6; (try simp at hz6); (try have ltw6_0 : W0.heap.size < w6.heap.size := by omega); (try have lew6_0 : W0.heap.size ≤ w6.heap.size := by omega); (try have ltw6_1 : w9.heap.size < w6.heap.size := by omega); (try have lew6_1 : w9.heap.size ≤ w6.heap.size := by omega); (try have ltw6_2 : w8.heap.size < w6.heap.size := by omega); (try have lew6_2 : w8.heap.size ≤ w6.heap.size := by omega)))
    all_goals (rename _ ∧ _ ∧ _ ∧ _ ∧ _ ∧ _ ∧ Below W0.heap.size W0 _ => hS; go_wp2_with fail; go_meet; exact ⟨rfl, hS.2.2.2.2.2.2⟩)
  case rest =>
    rename World => w2
    obtain ⟨rfl, d2⟩ := hcut
    have i2 : Below w.heap.size w w2 := dW0.trans (d2.mono dW0.size)
    go_wp2_with fail
    go_ret
    exact ⟨rfl, i2⟩

theorem ear_first {t : Int → Bool} {k : Nat} (hk : k ≤ 8) (hb : ∀ j : Nat, j < k → t (j : Int) = false) (ht : t (k : Int) = true) : ear t = if k = 0 then 1024 else ((k : Int) - 1) * 128 := by
  by_cases h0 : k = 0
  · subst h0; rw [if_pos rfl]; exact ear_start t ht
  · rw [if_neg h0]
    obtain ⟨m, h1, h2, h3, h4⟩ := ear_spec t (hb 0 (by omega))
    have hm : m < k := by
      refine Classical.byContradiction fun hc => ?_
      have := h3 k (by omega)
      rw [ht] at this; cases this
    have hm2 : k ≤ m + 1 := by
      refine Classical.byContradiction fun hc => ?_
      have e := hb (m + 1) (by omega)
      have := h4 (by omega)
      rw [show ((m + 1 : Nat) : Int) = (m : Int) + 1 by omega, this] at e
      cases e
    rw [h2]; omega

set_option maxRecDepth 100000 in
set_option maxHeartbeats 4000000 in
theorem rEarliest_any (Ra Rb p0 p1 u0 u1 q0 q1 v0 v1 : Int) (A B : Option Addr) (na ca nb cb : Nat) (va vb : List V2) (w : World)
    (hA : Pol w A na ca va) (hB : Pol w B nb cb vb) (hSa : SN Ra va) (hSb : SN Rb vb)
    (h1 : -33000000 ≤ p0 ∧ p0 ≤ 33000000) (h2 : -33000000 ≤ p1 ∧ p1 ≤ 33000000) (h3 : -33000000 ≤ q0 ∧ q0 ≤ 33000000) (h4 : -33000000 ≤ q1 ∧ q1 ≤ 33000000)
    (h5 : -16384 ≤ u0 ∧ u0 ≤ 16384) (h6 : -16384 ≤ u1 ∧ u1 ≤ 16384) (h7 : -16384 ≤ v0 ∧ v0 ≤ 16384) (h8 : -16384 ≤ v1 ∧ v1 ≤ 16384) :
    Calls Try.prog 57 #[.agg #[.int .i64 Ra, .slice A na ca], .agg #[.int .i64 p0, .int .i64 p1], .agg #[.int .i64 u0, .int .i64 u1], .agg #[.int .i64 Rb, .slice B nb cb], .agg #[.int .i64 q0, .int .i64 q1], .agg #[.int .i64 v0, .int .i64 v1]] w fun e w' =>
      e = .returned (.int .i64 (ear (tch Ra va (p0, p1) (u0, u1) Rb vb (q0, q1) (v0, v1)))) ∧ Below w.heap.size w w' := by
  have hT := fun k (hk : 0 ≤ k ∧ k ≤ 8) W P Q => rTouch_any Ra Rb p0 p1 u0 u1 q0 q1 v0 v1 k A B na ca nb cb va vb W P Q hSa hSb h1 h2 h3 h4 h5 h6 h7 h8 hk
  generalize tch Ra va (p0, p1) (u0, u1) Rb vb (q0, q1) (v0, v1) = t at *
  have hef := fun k => ear_first (t := t) (k := k)
  have hen := ear_never t
  generalize ear t = E at *
  have HEF := Lib.hid hef; clear hef
  have HEN := Lib.hid hen; clear hen
  have HT := Lib.hid hT; clear hT hSa hSb h1 h2 h3 h4 h5 h6 h7 h8
  go_enter Try.func57, Try.ntmps57
  go_wp2_with fail
  refine code_named ?_; intro W0 hW; have dW0 : Below w.heap.size w W0 := (by rw [hW]; exact (by repeat (first | with_reducible exact Below.refl _ _ | with_reducible refine below_alloc ?_ _ | with_reducible refine Below.drew ?_ | with_reducible refine below_set ?_ (by (first | (simp; done) | (simp; omega))) _ | with_reducible refine below_step (by assumption) ?_)))
  have X1 : B2 W0 w.heap.size (.int .i64 Ra) (.slice A na ca) := (by rw [hW]; unfold B2 Cel; simp [go_sem])
  have X2 : B2 W0 (w.heap.size + 1) (.int .i64 p0) (.int .i64 p1) := (by rw [hW]; unfold B2 Cel; simp [go_sem])
  have X3 : B2 W0 (w.heap.size + 2) (.int .i64 u0) (.int .i64 u1) := (by rw [hW]; unfold B2 Cel; simp [go_sem])
  have X4 : B2 W0 (w.heap.size + 3) (.int .i64 Rb) (.slice B nb cb) := (by rw [hW]; unfold B2 Cel; simp [go_sem])
  have X5 : B2 W0 (w.heap.size + 4) (.int .i64 q0) (.int .i64 q1) := (by rw [hW]; unfold B2 Cel; simp [go_sem])
  have X6 : B2 W0 (w.heap.size + 5) (.int .i64 v0) (.int .i64 v1) := (by rw [hW]; unfold B2 Cel; simp [go_sem])
  clear hW
  go_loopg [13] 9 (fun gk i wr => ∃ k : Nat, gk + k = 9 ∧ i = .int .i64 k ∧ (∀ j : Nat, j < k → t (j : Int) = false) ∧ Below W0.heap.size W0 wr)
  case atStart => exact ⟨0, by omega, rfl, fun j hj => by omega, Below.refl _ _⟩
  case round =>
    obtain ⟨k, hk, rfl, hall, ib⟩ := hrel
    have iw : Below w.heap.size w wr := dW0.trans (ib.mono dW0.size)
    have Y1 := X1.below ib; have Y2 := X2.below ib; have Y3 := X3.below ib; have Y4 := X4.below ib; have Y5 := X5.below ib; have Y6 := X6.below ib
    by_cases hlt : k ≤ 8
    · have hcall := HT.out (k : Int) (by omega) wr (hA.below iw) (hB.below iw)
      have hf := HEF.out k hlt hall
      have hnx : t (k : Int) = false → ∀ j : Nat, j < k + 1 → t (j : Int) = false := by
        intro h j hj
        by_cases e : j = k
        · subst e; exact h
        · exact hall j (by omega)
      generalize t (k : Int) = b at *
      have HCL := Lib.hid hcall; have HF := Lib.hid hf; have HNX := Lib.hid hnx
      clear hcall hf hnx hall HT HEF HEN
      cases b with
      | true =>
        have hE := HF.out (by trivial)
        by_cases h0 : k = 0
        · subst h0
          rw [if_pos rfl] at hE
          subst hE
          go_wp2_with fail
          refine HCL.out.mono ?_
          rintro e w2 ⟨rfl, hb2⟩
          go_wp2_with fail
          go_ret
          exact ⟨rfl, iw.trans (hb2.mono iw.size)⟩
        · rw [if_neg h0] at hE
          have h0' : ((k : Int) == 0) = false := by simp; omega
          subst hE
          go_wp2_with fail
          refine HCL.out.mono ?_
          rintro e w2 ⟨rfl, hb2⟩
          go_wp2_with fail
          go_ret
          exact ⟨rfl, iw.trans (hb2.mono iw.size)⟩
      | false =>
        have hn := HNX.out (by trivial)
        have HN := Lib.hid hn; clear hn
        go_wp2_with fail
        refine HCL.out.mono ?_
        rintro e w2 ⟨rfl, hb2⟩
        go_wp2_with fail
        go_roundg (gk - 1)
        case measure => omega
        case rel => exact ⟨k + 1, by omega, by go_num, HN.out, ib.trans (hb2.mono ib.size)⟩
    · obtain rfl : k = 9 := by omega
      have hE : E = 1024 := HEN.out (fun i hi => hall i (by omega))
      subst hE
      clear HEF HEN HT hall
      go_wp2_with fail
      go_ret
      exact ⟨rfl, iw⟩
end Go.Proofs.Ytipcppbbpmdijaa
