/-
  What Axes of chapter 5's reference returns: a new slice of the axes. Conditions: the numbers' bounds and the vertices in memory, as the theorem states.
-/
import Derived.Test.YtipcppbbpmdijaaRax
namespace Go.Proofs.Ytipcppbbpmdijaa
open Go.RowKit Go.Sort
attribute [local go_sem ↓] Go.wp_at_zero Go.wp_at_succ

/-- 'edges' of a polygon and of a circle, the row above a mark. -/
theorem redges_poly (B : Nat) (R : Int) (A : Option Addr) (n c : Nat) (vs : List V2) (w : World) (hP : Pol w A n c vs) (hS : SN R vs) (hv : vs ≠ []) (hB : B ≤ w.heap.size) :
    Calls Try.prog 75 #[.agg #[.int .i64 R, .slice A n c]] w fun e w' => ∃ g k, e = .returned (.slice (some ⟨g, 0, none⟩) n k) ∧ w'.ownsRow B 24 2 (.slice (some ⟨g, 0, none⟩) n k) n (flat (eaxs vs)) ∧ Below w.heap.size w w' := by
  refine (redges_any R A n c vs w hP hS).mono ?_
  rintro e w' ⟨v, rfl, ho, hb⟩
  have hl := List.length_pos_iff.2 hv
  rw [eaxs_len, hP.1] at ho
  rw [hP.1] at hl
  obtain ⟨g, k, rfl, -, -⟩ := ho.form hl
  exact ⟨g, k, rfl, own_base ho hB, hb⟩
theorem redges_none (R : Int) (w : World) :
    Calls Try.prog 75 #[.agg #[.int .i64 R, .slice none 0 0]] w fun e w' => e = .returned (.slice none 0 0) ∧ Below w.heap.size w w' := by
  go_enter Try.func75, Try.ntmps75
  go_wp2_with fail
  refine wp_loop_rounds 1 ?_
  rw [rounds_succ]
  go_wp2_with fail
  go_ret
  exact ⟨rfl, (by repeat (first | with_reducible exact Below.refl _ _ | with_reducible refine below_alloc ?_ _ | with_reducible refine Below.drew ?_ | with_reducible refine below_set ?_ (by (first | (simp; done) | (simp; omega))) _ | with_reducible refine below_step (by assumption) ?_))⟩

theorem row_fin {W : World} {B : Nat} {e : TypeId} {v : Value} {n : Nat} {X Y : List V2} {u0 u1 : Int} (h : W.ownsRow B e 2 v (n + 1) (flat X ++ flat Y ++ [.int .i64 u0, .int .i64 u1])) (hX : X.length + Y.length = n) : W.ownsRow B e 2 v (X ++ Y ++ [(u0, u1)]).length (flat (X ++ Y ++ [(u0, u1)])) := by
  rw [List.length_append, List.length_append, hX, flat_append, flat_append]
  exact h

set_option maxRecDepth 100000 in
set_option maxHeartbeats 8000000 in
theorem rAxes_any (Ra Rb p0 p1 q0 q1 : Int) (A B : Option Addr) (na ca nb cb : Nat) (va vb : List V2) (w : World) (hA : Pol w A na ca va) (hB : Pol w B nb cb vb) (hSa : SN Ra va) (hSb : SN Rb vb)
    (h1 : -33554432 ≤ p0 ∧ p0 ≤ 33554432) (h2 : -33554432 ≤ p1 ∧ p1 ≤ 33554432) (h3 : -33554432 ≤ q0 ∧ q0 ≤ 33554432) (h4 : -33554432 ≤ q1 ∧ q1 ≤ 33554432) :
    Calls Try.prog 51 #[.agg #[.int .i64 Ra, .slice A na ca], .agg #[.int .i64 p0, .int .i64 p1], .agg #[.int .i64 Rb, .slice B nb cb], .agg #[.int .i64 q0, .int .i64 q1]] w (RowRet w (axl va vb (p0, p1) (q0, q1))) := by
  obtain ⟨i0, hi0, hz0, hz1, hz2⟩ := info_parts vec_info
  have hna : na ≤ 8 := by have := hA.1; have := hSa.2.1; omega
  have hnb : nb ≤ 8 := by have := hB.1; have := hSb.2.1; omega
  have hE1 := fun W (hW : Pol W A na ca va) (hv : va ≠ []) B' hB => redges_poly B' Ra A na ca va W hW hSa hv hB
  have hE2 := fun W (hW : Pol W B nb cb vb) (hv : vb ≠ []) B' hB => redges_poly B' Rb B nb cb vb W hW hSb hv hB
  have la : (flat (eaxs va)).length = na * 2 := by rw [flat_len, eaxs_len, hA.1]
  have lb : (flat (eaxs vb)).length = nb * 2 := by rw [flat_len, eaxs_len, hB.1]
  have HE1 := Lib.hid hE1; clear hE1
  have HE2 := Lib.hid hE2; clear hE2
  go_enter Try.func51, Try.ntmps51
  go_wp2_with fail
  refine code_named ?_; intro W1 hW; have dW1 : Below w.heap.size w W1 := (by rw [hW]; exact (by repeat (first | with_reducible exact Below.refl _ _ | with_reducible refine below_alloc ?_ _ | with_reducible refine Below.drew ?_ | with_reducible refine below_set ?_ (by (first | (simp; done) | (simp; omega))) _ | with_reducible refine below_step (by assumption) ?_)))
  have XA : B2 W1 w.heap.size (.int .i64 Ra) (.slice A na ca) := (by rw [hW]; unfold B2 Cel; simp [go_sem])
  have XP : B2 W1 (w.heap.size + 1) (.int .i64 p0) (.int .i64 p1) := (by rw [hW]; unfold B2 Cel; simp [go_sem])
  have XB : B2 W1 (w.heap.size + 2) (.int .i64 Rb) (.slice B nb cb) := (by rw [hW]; unfold B2 Cel; simp [go_sem])
  have XQ : B2 W1 (w.heap.size + 3) (.int .i64 q0) (.int .i64 q1) := (by rw [hW]; unfold B2 Cel; simp [go_sem])
  replace hA := hA.below dW1; replace hB := hB.below dW1
  clear hW
  go_upto_region 1 with fail
  go_cut [9] (fun s9 w' => w'.ownsRow W1.heap.size 24 2 s9 (na + nb) (flat (eaxs va) ++ flat (eaxs vb)) ∧ Below W1.heap.size W1 w')
  case first =>
    have KS := Lib.hid (show ∀ w', Below W1.heap.size W1 w' → (B2 w' w.heap.size (.int .i64 Ra) (.slice A na ca) ∧ B2 w' (w.heap.size + 2) (.int .i64 Rb) (.slice B nb cb) ∧ Below W1.heap.size W1 w') from fun w' hb => ⟨XA.below hb, XB.below hb, hb⟩)
    by_cases hv : va = []
    · by_cases hu : vb = []
      · subst hv hu
        obtain ⟨rfl, rfl, rfl⟩ := hA.nil rfl
        obtain ⟨rfl, rfl, rfl⟩ := hB.nil rfl
        have HN1 := Lib.hid (fun W => redges_none Ra W)
        have HN2 := Lib.hid (fun W => redges_none Rb W)
        clear HE1 HE2 hA hB
        go_region_held3 (fun w' => B2 w' w.heap.size (.int .i64 Ra) (.slice none 0 0) ∧ B2 w' (w.heap.size + 2) (.int .i64 Rb) (.slice none 0 0) ∧ Below W1.heap.size W1 w') (refine KS.out _ (by repeat (first | with_reducible exact Below.refl _ _ | with_reducible refine below_alloc ?_ _ | with_reducible refine Below.drew ?_ | with_reducible refine below_set ?_ (by (first | (simp; done) | (simp; omega))) _ | with_reducible refine below_step (by assumption) ?_)))
          (first
            | (go_at_call 75; first | ((with_reducible refine (HN1.out _).mono ?_); rintro e w9 ⟨rfl, hb9⟩; obtain ⟨hc9, hf9, hx9, hy9, hn9, hz9⟩ := bcellA hb9; (try simp at hz9)) | ((with_reducible refine (HN2.out _).mono ?_); rintro e w8 ⟨rfl, hb8⟩; obtain ⟨hc8, hf8, hx8, hy8, hn8, hz8⟩ := bcellA hb8; (try simp at hz8))))
        all_goals (rename _ ∧ _ ∧ Below W1.heap.size W1 _ => hS; go_wp2_with fail; go_meet; exact ⟨World.ownsRow_nil _ _ _ _, hS.2.2⟩)
      · subst hv
        obtain ⟨rfl, rfl, rfl⟩ := hA.nil rfl
        have HN1 := Lib.hid (fun W => redges_none Ra W)
        have H2 := Lib.hid (fun W (hW : Below W1.heap.size W1 W) => HE2.out W (hB.below hW) hu W1.heap.size hW.size)
        have hnb0 : 0 < nb := by have := List.length_pos_iff.2 hu; have := hB.1; omega
        clear HE1 HE2 hA hB
        go_region_held3 (fun w' => B2 w' w.heap.size (.int .i64 Ra) (.slice none 0 0) ∧ B2 w' (w.heap.size + 2) (.int .i64 Rb) (.slice B nb cb) ∧ Below W1.heap.size W1 w') (first | refine KS.out _ ‹Below W1.heap.size W1 _› | refine KS.out _ (by repeat (first | with_reducible exact Below.refl _ _ | with_reducible refine below_alloc ?_ _ | with_reducible refine Below.drew ?_ | with_reducible refine below_set ?_ (by (first | (simp; done) | (simp; omega))) _ | with_reducible refine below_step (by assumption) ?_)))
          (first
            | (go_at_call 75; first
                | ((with_reducible refine (HN1.out _).mono ?_); rintro e w9 ⟨rfl, hb9⟩; obtain ⟨hc9, hf9, hx9, hy9, hn9, hz9⟩ := bcellA hb9; (try simp at hz9))
                | ((with_reducible refine (H2.out _ (‹_ ∧ _ ∧ Below W1.heap.size W1 _›).2.2).mono ?_); rintro e w8 ⟨g2, c2, rfl, o2, hb8⟩; obtain ⟨hc8, hf8, hx8, hy8, hn8, hz8⟩ := bcellA hb8; (try simp at hz8)))
            | (refine step_append_lies _ (by rfl) _ _ _ (by rfl) W1.heap.size 24 i0 _ 2 16 Try.underlying25 hi0 hz0 hz1 hz2 rfl (by omega) (.slice none 0 0) 0 [] (by rfl) (World.ownsRow_nil _ _ _ _) ⟨g2, 0, none⟩ nb c2 (flat (eaxs vb)) (by rfl) lb ((own_below o2 (by repeat (first | with_reducible exact Below.refl _ _ | with_reducible refine below_alloc ?_ _ | with_reducible refine Below.drew ?_ | with_reducible refine below_set ?_ (by (first | (simp; done) | (simp; omega))) _ | with_reducible refine below_step (by assumption) ?_))).cells rfl) (flat_one _) hnb0 (by unfold maxLen; omega) (by omega) (by have := (‹_ ∧ _ ∧ Below W1.heap.size W1 _›).2.2.size; simp; omega) _ rfl ?_; intro g cap w4 hown4 hg4 hat4 hlt4; have b4 : Below W1.heap.size W1 w4 := (show Below W1.heap.size W1 _ from (by repeat (first | with_reducible exact Below.refl _ _ | with_reducible refine below_alloc ?_ _ | with_reducible refine Below.drew ?_ | with_reducible refine below_set ?_ (by (first | (simp; done) | (simp; omega))) _ | with_reducible refine below_step (by assumption) ?_))).grown hg4 (by have := (‹_ ∧ _ ∧ Below W1.heap.size W1 _›).2.2.size; simp; omega) (fun k e => (ob_none k e).elim)))
        all_goals (rename World.ownsRow _ _ _ _ _ _ _ => hO; go_wp2_with fail; go_meet; exact ⟨(by rw [Nat.zero_add] at hO; rw [Nat.zero_add]; exact hO), ‹Below W1.heap.size W1 _›⟩)
    · by_cases hu : vb = []
      · subst hu
        obtain ⟨rfl, rfl, rfl⟩ := hB.nil rfl
        have H1 := Lib.hid (fun W (hW : Below W1.heap.size W1 W) => HE1.out W (hA.below hW) hv W1.heap.size hW.size)
        have HN2 := Lib.hid (fun W => redges_none Rb W)
        have hna0 : 0 < na := by have := List.length_pos_iff.2 hv; have := hA.1; omega
        clear HE1 HE2 hA hB
        go_region_held3 (fun w' => B2 w' w.heap.size (.int .i64 Ra) (.slice A na ca) ∧ B2 w' (w.heap.size + 2) (.int .i64 Rb) (.slice none 0 0) ∧ Below W1.heap.size W1 w') (refine KS.out _ (by repeat (first | with_reducible exact Below.refl _ _ | with_reducible refine below_alloc ?_ _ | with_reducible refine Below.drew ?_ | with_reducible refine below_set ?_ (by (first | (simp; done) | (simp; omega))) _ | with_reducible refine below_step (by assumption) ?_)))
          (first
            | (go_at_call 75; first
                | ((with_reducible refine (H1.out _ (‹_ ∧ _ ∧ Below W1.heap.size W1 _›).2.2).mono ?_); rintro e w9 ⟨g1, c1, rfl, o1, hb9⟩; have hcap := (own_pol o1 hna0 (by omega)).2.1; obtain ⟨hc9, hf9, hx9, hy9, hn9, hz9⟩ := bcellA hb9; (try simp at hz9))
                | ((with_reducible refine (HN2.out _).mono ?_); rintro e w8 ⟨rfl, hb8⟩; obtain ⟨hc8, hf8, hx8, hy8, hn8, hz8⟩ := bcellA hb8; (try simp at hz8))))
        all_goals (rename World.ownsRow _ _ _ _ _ _ _ => hO; rename _ ∧ _ ∧ Below W1.heap.size W1 _ => hS; go_wp2_with fail; go_meet; exact ⟨by rw [show flat (eaxs []) = [] from rfl, List.append_nil]; exact own_below hO (by repeat (first | with_reducible exact Below.refl _ _ | with_reducible refine below_alloc ?_ _ | with_reducible refine Below.drew ?_ | with_reducible refine below_set ?_ (by (first | (simp; done) | (simp; omega))) _ | with_reducible refine below_step (by assumption) ?_)), hS.2.2⟩)
      · have H1 := Lib.hid (fun W (hW : Below W1.heap.size W1 W) => HE1.out W (hA.below hW) hv W1.heap.size hW.size)
        have H2 := Lib.hid (fun W (hW : Below W1.heap.size W1 W) => HE2.out W (hB.below hW) hu W1.heap.size hW.size)
        have hnb0 : 0 < nb := by have := List.length_pos_iff.2 hu; have := hB.1; omega
        clear HE1 HE2 hA hB
        go_region_held3 (fun w' => B2 w' w.heap.size (.int .i64 Ra) (.slice A na ca) ∧ B2 w' (w.heap.size + 2) (.int .i64 Rb) (.slice B nb cb) ∧ Below W1.heap.size W1 w') (first | refine KS.out _ ‹Below W1.heap.size W1 _› | refine KS.out _ (by repeat (first | with_reducible exact Below.refl _ _ | with_reducible refine below_alloc ?_ _ | with_reducible refine Below.drew ?_ | with_reducible refine below_set ?_ (by (first | (simp; done) | (simp; omega))) _ | with_reducible refine below_step (by assumption) ?_)))
          (first
            | (go_at_call 75; first
                | ((with_reducible refine (H1.out _ (‹_ ∧ _ ∧ Below W1.heap.size W1 _›).2.2).mono ?_); rintro e w9 ⟨g1, c1, rfl, o1, hb9⟩; obtain ⟨hc9, hf9, hx9, hy9, hn9, hz9⟩ := bcellA hb9; (try simp at hz9))
                | ((with_reducible refine (H2.out _ (‹_ ∧ _ ∧ Below W1.heap.size W1 _›).2.2).mono ?_); rintro e w8 ⟨g2, c2, rfl, o2, hb8⟩; obtain ⟨hc8, hf8, hx8, hy8, hn8, hz8⟩ := bcellA hb8; (try simp at hz8)))
            | (refine step_append_lies _ (by rfl) _ _ _ (by rfl) W1.heap.size 24 i0 _ 2 16 Try.underlying25 hi0 hz0 hz1 hz2 rfl (by omega) (.slice (some ⟨g1, 0, none⟩) na c1) na (flat (eaxs va)) (by rfl) (own_below o1 (by repeat (first | with_reducible exact Below.refl _ _ | with_reducible refine below_alloc ?_ _ | with_reducible refine Below.drew ?_ | with_reducible refine below_set ?_ (by (first | (simp; done) | (simp; omega))) _ | with_reducible refine below_step (by assumption) ?_))) ⟨g2, 0, none⟩ nb c2 (flat (eaxs vb)) (by rfl) lb ((own_below o2 (by repeat (first | with_reducible exact Below.refl _ _ | with_reducible refine below_alloc ?_ _ | with_reducible refine Below.drew ?_ | with_reducible refine below_set ?_ (by (first | (simp; done) | (simp; omega))) _ | with_reducible refine below_step (by assumption) ?_))).cells rfl) (flat_one _) hnb0 (by unfold maxLen; omega) (by omega) (by have := (‹_ ∧ _ ∧ Below W1.heap.size W1 _›).2.2.size; simp; omega) _ rfl ?_; intro g cap w4 hown4 hg4 hat4 hlt4; have b4 : Below W1.heap.size W1 w4 := (show Below W1.heap.size W1 _ from (by repeat (first | with_reducible exact Below.refl _ _ | with_reducible refine below_alloc ?_ _ | with_reducible refine Below.drew ?_ | with_reducible refine below_set ?_ (by (first | (simp; done) | (simp; omega))) _ | with_reducible refine below_step (by assumption) ?_))).grown hg4 (by have := (‹_ ∧ _ ∧ Below W1.heap.size W1 _›).2.2.size; simp; omega) (fun k e => (o1.lt k e).1)))
        all_goals (go_wp2_with fail; go_meet; exact ⟨‹World.ownsRow _ _ _ _ _ (na + nb) _›, ‹Below W1.heap.size W1 _›⟩)
  case rest =>
    rename World => w2
    obtain ⟨ho, d2⟩ := hcut
    have HO := Lib.hid ho; clear ho
    have hb1 := dW1.size
    have hb2 := d2.size
    have KS := Lib.hid (show ∀ w', Below W1.heap.size W1 w' → (B2 w' w.heap.size (.int .i64 Ra) (.slice A na ca) ∧ B2 w' (w.heap.size + 1) (.int .i64 p0) (.int .i64 p1) ∧ B2 w' (w.heap.size + 2) (.int .i64 Rb) (.slice B nb cb) ∧ B2 w' (w.heap.size + 3) (.int .i64 q0) (.int .i64 q1) ∧ Below W1.heap.size W1 w') from fun w' hb => ⟨XA.below hb, XP.below hb, XB.below hb, XQ.below hb, hb⟩)
    have XA2 := XA.below d2; have XP2 := XP.below d2; have XB2 := XB.below d2; have XQ2 := XQ.below d2
    have lxa := XA2.lt; have lxp := XP2.lt; have lxb := XB2.lt; have lxq := XQ2.lt
    clear HE1 HE2 XA XP XB XQ
    by_cases hv : va = []
    · by_cases hu : vb = []
      · subst hv hu
        obtain ⟨rfl, rfl, rfl⟩ := hA.nil rfl
        obtain ⟨rfl, rfl, rfl⟩ := hB.nil rfl
        have hax : axl [] [] (p0, p1) (q0, q1) = eaxs [] ++ eaxs [] ++ [unt (q0 - p0, q1 - p1)] := rfl
        have HSU := Lib.hid (fun W => rSub_any q0 q1 p0 p1 W (by omega) (by omega) (by omega) (by omega))
        have HAX := Lib.hid (fun W => raxis_any (q0 - p0) (q1 - p1) W (by omega) (by omega) (by omega) (by omega))
        generalize unt (q0 - p0, q1 - p1) = u at *
        obtain ⟨u0, u1⟩ := u
        have HX := Lib.hid hax
        clear KS hA hB hax
        go_wp2_with fail
        refine (HSU.out _).mono ?_
        rintro e w3 ⟨rfl, hb3⟩
        go_wp2_with fail
        refine (HAX.out _).mono ?_
        rintro e w4 ⟨rfl, hb4⟩
        have d4 : Below w2.heap.size w2 w4 := (by repeat (first | with_reducible exact Below.refl _ _ | with_reducible refine below_alloc ?_ _ | with_reducible refine Below.drew ?_ | with_reducible refine below_set ?_ (by (first | (simp; done) | (simp; omega))) _ | with_reducible refine below_step (by assumption) ?_))
        have j4 : Below W1.heap.size W1 w4 := d2.trans (d4.mono hb2)
        have z4 := j4.size
        have HRA := Lib.hid ((own_below HO.out d4).alloc (.cells #[.int .i64 u0, .int .i64 u1] 24))
        have HNW := Lib.hid (cell_two_new w4 (.int .i64 u0) (.int .i64 u1) 24)
        go_wp2_with (at_builtin; refine stop_here ?_)
        unfold Stopped
        refine wpList_append_own_at _ rfl (.tmp 25) (.tmp 30) _ rfl W1.heap.size 24 i0 _ 2 16 Try.underlying25 hi0 hz0 hz1 hz2 rfl (by omega) _ (0 + 0) _ rfl HRA.out
            ⟨w4.heap.size, 0, none⟩ 1 1 [.int .i64 u0, .int .i64 u1] rfl rfl HNW.out (fun u hu => by simp at hu; rcases hu with rfl | rfl <;> rfl) (by unfold maxLen; omega) (by omega) (by simp; omega) ?_
        intro v5 w5 hown5 hg5 _ _
        have j5 : Below W1.heap.size W1 w5 := (j4.alloc j4.size _).grown hg5 (by simp; omega) (fun k e => (HRA.out.lt k e).1)
        have HO5 := Lib.hid hown5
        clear hown5 hg5 HRA HNW
        go_wp2_with fail
        go_ret
        exact ⟨_, rfl, (by rw [HX.out]; exact row_fin (own_base HO5.out hb1) rfl), dW1.trans (j5.mono hb1)⟩
      · subst hv
        obtain ⟨rfl, rfl, rfl⟩ := hA.nil rfl
        have hlb : (eaxs []).length + (eaxs vb).length = nb := by rw [eaxs_len, eaxs_len, hB.1]; exact Nat.zero_add _
        have ho' := HO.out
        rw [Nat.zero_add] at ho'
        replace HO := Lib.hid ho'
        clear ho'
        obtain ⟨b, rfl, hnb0, -, -, -, -, -⟩ := hB.at_ hu
        have hm := hSb.2.2 _ (nrs_mem (q0 - p0, q1 - p1) hu)
        have hNR := fun W (hW : Below W1.heap.size W1 W) => rnearest_any Rb q0 q1 p0 p1 b nb cb vb W (hB.below hW) hu hSb h3 h4 h1 h2
        have hax : axl [] vb (p0, p1) (q0, q1) = eaxs [] ++ eaxs vb ++ [unt (q0 - p0 + (nrs (q0 - p0, q1 - p1) vb).1, q1 - p1 + (nrs (q0 - p0, q1 - p1) vb).2)] := by
          unfold axl btw; rw [if_pos rfl, if_neg hu]; rfl
        generalize nrs (q0 - p0, q1 - p1) vb = mm at *
        obtain ⟨m0, m1⟩ := mm
        dsimp only at hm hNR hax
        have HNR := Lib.hid hNR; clear hNR
        have HSU := Lib.hid (fun W => rSub_any (q0 + m0) (q1 + m1) p0 p1 W (by omega) (by omega) (by omega) (by omega))
        have hAX := fun W => raxis_any (q0 + m0 - p0) (q1 + m1 - p1) W (by omega) (by omega) (by omega) (by omega)
        rw [show q0 - p0 + m0 = q0 + m0 - p0 by omega, show q1 - p1 + m1 = q1 + m1 - p1 by omega] at hax
        generalize unt (q0 + m0 - p0, q1 + m1 - p1) = u at *
        obtain ⟨u0, u1⟩ := u
        have HAX := Lib.hid hAX; have HX := Lib.hid hax; clear hAX hax hA hB
        have k2 : ((nb : Int) == 0) = false := by simp; omega
        go_upto_region 5 with fail
        go_region_held3 (fun w' => B2 w' w.heap.size (.int .i64 Ra) (.slice none 0 0) ∧ B2 w' (w.heap.size + 1) (.int .i64 p0) (.int .i64 p1) ∧ B2 w' (w.heap.size + 2) (.int .i64 Rb) (.slice (some ⟨b, 0, none⟩) nb cb) ∧ B2 w' (w.heap.size + 3) (.int .i64 q0) (.int .i64 q1) ∧ Below W1.heap.size W1 w') (first | refine KS.out _ ‹Below W1.heap.size W1 _› | refine KS.out _ (by repeat (first | with_reducible exact Below.refl _ _ | with_reducible refine below_alloc ?_ _ | with_reducible refine Below.drew ?_ | with_reducible refine below_set ?_ (by (first | (simp; done) | (simp; omega))) _ | with_reducible refine below_step (by assumption) ?_)))
          (first
            | (go_at_call 77; refine (HNR.out _ (‹_ ∧ _ ∧ _ ∧ _ ∧ Below W1.heap.size W1 _›).2.2.2.2).mono ?_; rintro e w9 ⟨rfl, hb9⟩; obtain ⟨hc9, hf9, hx9, hy9, hn9, hz9⟩ := bcellA hb9; (try simp at hz9))
            | (go_at_call 68; refine (HSU.out _).mono ?_; rintro e w8 ⟨rfl, hb8⟩; obtain ⟨hc8, hf8, hx8, hy8, hn8, hz8⟩ := bcellA hb8; (try simp at hz8))
            | (go_at_call 76; refine (HAX.out _).mono ?_; rintro e w7 ⟨rfl, hb7⟩; obtain ⟨hc7, hf7, hx7, hy7, hn7, hz7⟩ := bcellA hb7; (try simp at hz7))
            | (refine step_append_lies _ (by rfl) _ _ _ (by rfl) W1.heap.size 24 i0 _ 2 16 Try.underlying25 hi0 hz0 hz1 hz2 rfl (by omega) u9 nb (flat (eaxs []) ++ flat (eaxs vb)) (by rfl) (((own_below HO.out (show Below w2.heap.size w2 w7 from (by repeat (first | with_reducible exact Below.refl _ _ | with_reducible refine below_alloc ?_ _ | with_reducible refine Below.drew ?_ | with_reducible refine below_set ?_ (by (first | (simp; done) | (simp; omega))) _ | with_reducible refine below_step (by assumption) ?_)))).alloc _).drew) ⟨w7.heap.size, 0, none⟩ 1 1 [.int .i64 u0, .int .i64 u1] (by rfl) (by rfl) (World.news_of_block (cs := #[.int .i64 u0, .int .i64 u1]) (t := 24) (fr := (0, 0)) (heap_alloc_new w7 _)) (by simp [Value.oneCell']) (by omega) (by unfold maxLen; omega) (by omega) (by have := (‹_ ∧ _ ∧ _ ∧ _ ∧ Below W1.heap.size W1 _›).2.2.2.2.size; simp; omega) (w7.heap.size + 1) (by simp) ?_; intro g cap w4 hown4 hg4 hat4 hlt4; have b4 : Below W1.heap.size W1 w4 := (show Below W1.heap.size W1 _ from (by repeat (first | with_reducible exact Below.refl _ _ | with_reducible refine below_alloc ?_ _ | with_reducible refine Below.drew ?_ | with_reducible refine below_set ?_ (by (first | (simp; done) | (simp; omega))) _ | with_reducible refine below_step (by assumption) ?_))).grown hg4 (by have := (‹_ ∧ _ ∧ _ ∧ _ ∧ Below W1.heap.size W1 _›).2.2.2.2.size; simp; omega) (fun k e => (HO.out.lt k e).1)))
        all_goals (rename World.ownsRow _ _ _ _ _ _ _ => hO; have hB4 := ‹Below W1.heap.size W1 _›; go_wp2_with fail; go_ret; exact ⟨_, rfl, (by rw [HX.out]; exact row_fin (own_base hO hb1) (hlb)), dW1.trans (hB4.mono hb1)⟩)
    · by_cases hu : vb = []
      · subst hu
        obtain ⟨rfl, rfl, rfl⟩ := hB.nil rfl
        have hla : (eaxs va).length + (eaxs []).length = na + 0 := by rw [eaxs_len, eaxs_len, hA.1]; rfl
        obtain ⟨a, rfl, hna0, -, -, -, -, -⟩ := hA.at_ hv
        have hm := hSa.2.2 _ (nrs_mem (p0 - q0, p1 - q1) hv)
        have hNR := fun W (hW : Below W1.heap.size W1 W) => rnearest_any Ra p0 p1 q0 q1 a na ca va W (hA.below hW) hv hSa h1 h2 h3 h4
        have hax : axl va [] (p0, p1) (q0, q1) = eaxs va ++ eaxs [] ++ [unt (p0 - q0 + (nrs (p0 - q0, p1 - q1) va).1, p1 - q1 + (nrs (p0 - q0, p1 - q1) va).2)] := by
          unfold axl btw; rw [if_neg hv, if_pos rfl]; rfl
        generalize nrs (p0 - q0, p1 - q1) va = mm at *
        obtain ⟨m0, m1⟩ := mm
        dsimp only at hm hNR hax
        have HNR := Lib.hid hNR; clear hNR
        have HSU := Lib.hid (fun W => rSub_any (p0 + m0) (p1 + m1) q0 q1 W (by omega) (by omega) (by omega) (by omega))
        have hAX := fun W => raxis_any (p0 + m0 - q0) (p1 + m1 - q1) W (by omega) (by omega) (by omega) (by omega)
        rw [show p0 - q0 + m0 = p0 + m0 - q0 by omega, show p1 - q1 + m1 = p1 + m1 - q1 by omega] at hax
        generalize unt (p0 + m0 - q0, p1 + m1 - q1) = u at *
        obtain ⟨u0, u1⟩ := u
        have HAX := Lib.hid hAX; have HX := Lib.hid hax; clear hAX hax hA hB
        have k1 : ((na : Int) == 0) = false := by simp; omega
        go_upto_region 7 with fail
        go_region_held3 (fun w' => B2 w' w.heap.size (.int .i64 Ra) (.slice (some ⟨a, 0, none⟩) na ca) ∧ B2 w' (w.heap.size + 1) (.int .i64 p0) (.int .i64 p1) ∧ B2 w' (w.heap.size + 2) (.int .i64 Rb) (.slice none 0 0) ∧ B2 w' (w.heap.size + 3) (.int .i64 q0) (.int .i64 q1) ∧ Below W1.heap.size W1 w') (first | refine KS.out _ ‹Below W1.heap.size W1 _› | refine KS.out _ (by repeat (first | with_reducible exact Below.refl _ _ | with_reducible refine below_alloc ?_ _ | with_reducible refine Below.drew ?_ | with_reducible refine below_set ?_ (by (first | (simp; done) | (simp; omega))) _ | with_reducible refine below_step (by assumption) ?_)))
          (first
            | (go_at_call 77; refine (HNR.out _ (‹_ ∧ _ ∧ _ ∧ _ ∧ Below W1.heap.size W1 _›).2.2.2.2).mono ?_; rintro e w9 ⟨rfl, hb9⟩; obtain ⟨hc9, hf9, hx9, hy9, hn9, hz9⟩ := bcellA hb9; (try simp at hz9))
            | (go_at_call 68; refine (HSU.out _).mono ?_; rintro e w8 ⟨rfl, hb8⟩; obtain ⟨hc8, hf8, hx8, hy8, hn8, hz8⟩ := bcellA hb8; (try simp at hz8))
            | (go_at_call 76; refine (HAX.out _).mono ?_; rintro e w7 ⟨rfl, hb7⟩; obtain ⟨hc7, hf7, hx7, hy7, hn7, hz7⟩ := bcellA hb7; (try simp at hz7))
            | (refine step_append_lies _ (by rfl) _ _ _ (by rfl) W1.heap.size 24 i0 _ 2 16 Try.underlying25 hi0 hz0 hz1 hz2 rfl (by omega) u9 (na + 0) (flat (eaxs va) ++ flat (eaxs [])) (by rfl) (((own_below HO.out (show Below w2.heap.size w2 w7 from (by repeat (first | with_reducible exact Below.refl _ _ | with_reducible refine below_alloc ?_ _ | with_reducible refine Below.drew ?_ | with_reducible refine below_set ?_ (by (first | (simp; done) | (simp; omega))) _ | with_reducible refine below_step (by assumption) ?_)))).alloc _).drew) ⟨w7.heap.size, 0, none⟩ 1 1 [.int .i64 u0, .int .i64 u1] (by rfl) (by rfl) (World.news_of_block (cs := #[.int .i64 u0, .int .i64 u1]) (t := 24) (fr := (0, 0)) (heap_alloc_new w7 _)) (by simp [Value.oneCell']) (by omega) (by unfold maxLen; omega) (by omega) (by have := (‹_ ∧ _ ∧ _ ∧ _ ∧ Below W1.heap.size W1 _›).2.2.2.2.size; simp; omega) (w7.heap.size + 1) (by simp) ?_; intro g cap w4 hown4 hg4 hat4 hlt4; have b4 : Below W1.heap.size W1 w4 := (show Below W1.heap.size W1 _ from (by repeat (first | with_reducible exact Below.refl _ _ | with_reducible refine below_alloc ?_ _ | with_reducible refine Below.drew ?_ | with_reducible refine below_set ?_ (by (first | (simp; done) | (simp; omega))) _ | with_reducible refine below_step (by assumption) ?_))).grown hg4 (by have := (‹_ ∧ _ ∧ _ ∧ _ ∧ Below W1.heap.size W1 _›).2.2.2.2.size; simp; omega) (fun k e => (HO.out.lt k e).1)))
        all_goals (rename World.ownsRow _ _ _ _ _ _ _ => hO; have hB4 := ‹Below W1.heap.size W1 _›; go_wp2_with fail; go_ret; exact ⟨_, rfl, (by rw [HX.out]; exact row_fin (own_base hO hb1) (hla)), dW1.trans (hB4.mono hb1)⟩)
      · obtain ⟨a, rfl, hna0, -, -, -, -, -⟩ := hA.at_ hv
        obtain ⟨b, rfl, hnb0, -, -, -, -, -⟩ := hB.at_ hu
        have k1 : ((na : Int) == 0) = false := by simp; omega
        have k2 : ((nb : Int) == 0) = false := by simp; omega
        have hl1 : (eaxs va ++ eaxs vb).length = na + nb := by rw [List.length_append, eaxs_len, eaxs_len, hA.1, hB.1]
        have HAX := Lib.hid (axl_poly hv hu (p0, p1) (q0, q1))
        clear hA hB KS
        go_wp2_with fail
        go_ret
        exact ⟨_, rfl, (by rw [HAX.out, hl1, flat_append]; exact own_base HO.out hb1), dW1.trans (d2.mono hb1)⟩
end Go.Proofs.Ytipcppbbpmdijaa
