/-
  What chapter 5's generator of positions returns; the documented examples of chapter 5 hold. Conditions: the numbers' bounds and the vertices in memory, as the theorems state.
-/
import Derived.Test.YtipcppbbpmdijaaCld
namespace Go.Proofs.Ytipcppbbpmdijaa
open Go.RowKit Go.Sort
attribute [local go_sem ↓] Go.wp_at_zero Go.wp_at_succ

def plw (a0 a1 b0 b1 l0 : Int) : Int := if arnd l0 5 = 4 then 3 else a1 - a0 + b1 - b0
def plP (l0 l1 : Int) : V2 := (bnd l0 5000, bnd l1 5000)
def plQ (Ra : Int) (va : List V2) (Rb : Int) (vb : List V2) (l0 l1 l2 l3 : Int) : V2 :=
  (bnd l0 5000 + bnd l2 (plw (bx0 Ra va) (bx1 Ra va) (bx0 Rb vb) (bx1 Rb vb) l0 / 2 + 2), bnd l1 5000 + bnd l3 (plw (by0 Ra va) (by1 Ra va) (by0 Rb vb) (by1 Rb vb) l0 / 2 + 2))
theorem plP_bd (l0 l1 : Int) : LB (plP l0 l1) 5000 := by
  have a := bnd_bd l0 (most := 5000) (by decide)
  have b := bnd_bd l1 (most := 5000) (by decide)
  exact ⟨a, b⟩
theorem plw_bd {a0 a1 b0 b1 l0 : Int} (h1 : -32768 ≤ a0 ∧ a0 ≤ 32768) (h2 : -32768 ≤ a1 ∧ a1 ≤ 32768) (h3 : -32768 ≤ b0 ∧ b0 ≤ 32768) (h4 : -32768 ≤ b1 ∧ b1 ≤ 32768) (ha : a0 ≤ a1) (hb : b0 ≤ b1) : 0 ≤ plw a0 a1 b0 b1 l0 ∧ plw a0 a1 b0 b1 l0 ≤ 131072 := by
  unfold plw; split <;> omega
theorem plQ_bd {Ra : Int} {va : List V2} {Rb : Int} {vb : List V2} (hA : SN Ra va) (hB : SN Rb vb) (l0 l1 l2 l3 : Int) : LB (plQ Ra va Rb vb l0 l1 l2 l3) 80000 := by
  obtain ⟨a1, a2, a3, a4⟩ := bb_bd hA
  obtain ⟨b1, b2, b3, b4⟩ := bb_bd hB
  obtain ⟨o1, o2⟩ := bb_ord hA
  obtain ⟨o3, o4⟩ := bb_ord hB
  have w1 := plw_bd (l0 := l0) a1 a3 b1 b3 o1 o3
  have w2 := plw_bd (l0 := l0) a2 a4 b2 b4 o2 o4
  obtain ⟨c1, c2⟩ := plP_bd l0 l1
  unfold plP at c1 c2
  unfold plQ
  generalize plw (bx0 Ra va) (bx1 Ra va) (bx0 Rb vb) (bx1 Rb vb) l0 = p at *
  generalize plw (by0 Ra va) (by1 Ra va) (by0 Rb vb) (by1 Rb vb) l0 = q at *
  have d1 := bnd_bd l2 (most := p / 2 + 2) (by omega)
  have d2 := bnd_bd l3 (most := q / 2 + 2) (by omega)
  unfold LB
  dsimp only at *
  omega

set_option maxRecDepth 100000 in
set_option maxHeartbeats 4000000 in
theorem Place_any (Ra Rb l0 l1 l2 l3 : Int) (A B : Option Addr) (na ca nb cb : Nat) (va vb : List V2) (w : World) (hA : Pol w A na ca va) (hB : Pol w B nb cb vb) (hSa : SN Ra va) (hSb : SN Rb vb)
    (b0 : -9223372036854775808 ≤ l0 ∧ l0 ≤ 9223372036854775807) (b1 : -9223372036854775808 ≤ l1 ∧ l1 ≤ 9223372036854775807) (b2 : -9223372036854775808 ≤ l2 ∧ l2 ≤ 9223372036854775807) (b3 : -9223372036854775808 ≤ l3 ∧ l3 ≤ 9223372036854775807) :
    Calls Try.prog 45 #[.agg #[.int .i64 Ra, .slice A na ca], .agg #[.int .i64 Rb, .slice B nb cb], .agg #[.int .i64 l0, .int .i64 l1, .int .i64 l2, .int .i64 l3]] w fun e w' =>
      e = .returned (.tuple #[.agg #[.int .i64 (plP l0 l1).1, .int .i64 (plP l0 l1).2], .agg #[.int .i64 (plQ Ra va Rb vb l0 l1 l2 l3).1, .int .i64 (plQ Ra va Rb vb l0 l1 l2 l3).2]]) ∧ Below w.heap.size w w' := by
  obtain ⟨a1, a2, a3, a4⟩ := bb_bd hSa
  obtain ⟨c1, c2, c3, c4⟩ := bb_bd hSb
  obtain ⟨o1, o2⟩ := bb_ord hSa
  obtain ⟨o3, o4⟩ := bb_ord hSb
  have HX1 := Lib.hid (fun W P => rBounds_zero Ra A na ca va W P hSa)
  have HX2 := Lib.hid (fun W P => rBounds_zero Rb B nb cb vb W P hSb)
  have e1 := bnd_bd l0 (most := 5000) (by decide)
  have e2 := bnd_bd l1 (most := 5000) (by decide)
  have hB1 := fun W => Bound_any l0 5000 W (by omega) (by omega) b0.1 b0.2
  have hB2 := fun W => Bound_any l1 5000 W (by omega) (by omega) b1.1 b1.2
  have hAr := fun W => Around_any l0 5 W (by omega) b0.1 b0.2
  have w1 := plw_bd (l0 := l0) a1 a3 c1 c3 o1 o3
  have w2 := plw_bd (l0 := l0) a2 a4 c2 c4 o2 o4
  have hw1 : plw (bx0 Ra va) (bx1 Ra va) (bx0 Rb vb) (bx1 Rb vb) l0 = if arnd l0 5 = 4 then 3 else bx1 Ra va - bx0 Ra va + bx1 Rb vb - bx0 Rb vb := rfl
  have hw2 : plw (by0 Ra va) (by1 Ra va) (by0 Rb vb) (by1 Rb vb) l0 = if arnd l0 5 = 4 then 3 else by1 Ra va - by0 Ra va + by1 Rb vb - by0 Rb vb := rfl
  unfold plP plQ
  generalize plw (bx0 Ra va) (bx1 Ra va) (bx0 Rb vb) (bx1 Rb vb) l0 = p at *
  generalize plw (by0 Ra va) (by1 Ra va) (by0 Rb vb) (by1 Rb vb) l0 = q at *
  have f1 := bnd_bd l2 (most := p / 2 + 2) (by omega)
  have f2 := bnd_bd l3 (most := q / 2 + 2) (by omega)
  have hB3 := fun W => Bound_any l2 (p / 2 + 2) W (by omega) (by omega) b2.1 b2.2
  have hB4 := fun W => Bound_any l3 (q / 2 + 2) W (by omega) (by omega) b3.1 b3.2
  generalize bx0 Ra va = x0 at *
  generalize by0 Ra va = x1 at *
  generalize bx1 Ra va = x2 at *
  generalize by1 Ra va = x3 at *
  generalize bx0 Rb vb = y0 at *
  generalize by0 Rb vb = y1 at *
  generalize bx1 Rb vb = y2 at *
  generalize by1 Rb vb = y3 at *
  generalize bnd l0 5000 = r0 at *
  generalize bnd l1 5000 = r1 at *
  generalize bnd l2 (p / 2 + 2) = r2 at *
  generalize bnd l3 (q / 2 + 2) = r3 at *
  have hbr := arnd_bd l0 (most := 5) (by decide)
  generalize arnd l0 5 = t at *
  have HB1 := Lib.hid hB1; clear hB1
  have HB2 := Lib.hid hB2; clear hB2
  have HB3 := Lib.hid hB3; clear hB3
  have HB4 := Lib.hid hB4; clear hB4
  have HAR := Lib.hid hAr; clear hAr
  have HW1 := Lib.hid hw1; clear hw1
  have HW2 := Lib.hid hw2; clear hw2
  go_enter Try.func45, Try.ntmps45
  go_wp2_with fail
  refine calls_at ?_; intro W0 hW; have dW0 : Below w.heap.size w W0 := (by rw [hW]; exact (by repeat (first | with_reducible exact Below.refl _ _ | with_reducible refine below_alloc ?_ _ | with_reducible refine Below.drew ?_ | with_reducible refine below_set ?_ (by (first | (simp; done) | (simp; omega))) _ | with_reducible refine below_step (by assumption) ?_)))
  have XB : B2 W0 (w.heap.size + 1) (.int .i64 Rb) (.slice B nb cb) := (by rw [hW]; unfold B2 Cel; simp [go_sem])
  have XL : B4 W0 (w.heap.size + 1 + 1) (.int .i64 l0) (.int .i64 l1) (.int .i64 l2) (.int .i64 l3) := (by rw [hW]; unfold B4 Cel; simp [go_sem])
  have X6 : B2 W0 (w.heap.size + 1 + 1 + 1) (.int .i64 0) (.int .i64 0) := (by rw [hW]; unfold B2 Cel; simp [go_sem])
  have X7 : B2 W0 (w.heap.size + 1 + 1 + 1 + 1) (.int .i64 0) (.int .i64 0) := (by rw [hW]; unfold B2 Cel; simp [go_sem])
  clear hW
  have PB := hB.below dW0
  refine (HX1.out _ (hA.below dW0)).mono ?_
  rintro e w1 ⟨rfl, hb1⟩; have d1 : Below W0.heap.size W0 w1 := below_step hb1 (by repeat (first | with_reducible exact Below.refl _ _ | with_reducible refine below_alloc ?_ _ | with_reducible refine Below.drew ?_ | with_reducible refine below_set ?_ (by (first | (simp; done) | (simp; omega))) _ | with_reducible refine below_step (by assumption) ?_)); have z1 := hb1.size; (try simp at z1); replace PB := PB.below d1; (try clear lPB); have lPB := PB.lt; replace XB := XB.below d1; (try clear lXB); have lXB := XB.lt; replace XL := XL.below d1; (try clear lXL); have lXL := XL.lt; replace X6 := X6.below d1; (try clear lX6); have lX6 := X6.lt; replace X7 := X7.below d1; (try clear lX7); have lX7 := X7.lt
  go_wp2_with fail
  refine calls_at ?_; intro W2 hW; have dW2 : Below w1.heap.size w1 W2 := (by rw [hW]; exact (by repeat (first | with_reducible exact Below.refl _ _ | with_reducible refine below_alloc ?_ _ | with_reducible refine Below.drew ?_ | with_reducible refine below_set ?_ (by (first | (simp; done) | (simp; omega))) _ | with_reducible refine below_step (by assumption) ?_))); replace PB := PB.below dW2; (try clear lPB); have lPB := PB.lt; replace XB := XB.below dW2; (try clear lXB); have lXB := XB.lt; replace XL := XL.below dW2; (try clear lXL); have lXL := XL.lt; replace X6 := X6.below dW2; (try clear lX6); have lX6 := X6.lt; replace X7 := X7.below dW2; (try clear lX7); have lX7 := X7.lt
  have XX : B4 W2 (w1.heap.size) (.int .i64 (x0)) (.int .i64 (x1)) (.int .i64 (x2)) (.int .i64 (x3)) := (by rw [hW]; unfold B4 Cel; simp [go_sem]); have lXX := XX.lt
  have i2 : Below w.heap.size w W2 := (by repeat (first | with_reducible exact Below.refl _ _ | with_reducible refine below_alloc ?_ _ | with_reducible refine Below.drew ?_ | with_reducible refine below_set ?_ (by (first | (simp; done) | (simp; omega))) _ | with_reducible refine below_step (by assumption) ?_))
  clear hW
  refine (HX2.out _ PB).mono ?_
  rintro e w3 ⟨rfl, hb3⟩; have d3 : Below W2.heap.size W2 w3 := below_step hb3 (by repeat (first | with_reducible exact Below.refl _ _ | with_reducible refine below_alloc ?_ _ | with_reducible refine Below.drew ?_ | with_reducible refine below_set ?_ (by (first | (simp; done) | (simp; omega))) _ | with_reducible refine below_step (by assumption) ?_)); have z3 := hb3.size; (try simp at z3); replace XL := XL.below d3; (try clear lXL); have lXL := XL.lt; replace X6 := X6.below d3; (try clear lX6); have lX6 := X6.lt; replace X7 := X7.below d3; (try clear lX7); have lX7 := X7.lt; replace XX := XX.below d3; (try clear lXX); have lXX := XX.lt
  go_wp2_with fail
  refine code_named ?_; intro W4 hW; have dW4 : Below w3.heap.size w3 W4 := (by rw [hW]; exact (by repeat (first | with_reducible exact Below.refl _ _ | with_reducible refine below_alloc ?_ _ | with_reducible refine Below.drew ?_ | with_reducible refine below_set ?_ (by (first | (simp; done) | (simp; omega))) _ | with_reducible refine below_step (by assumption) ?_))); replace XL := XL.below dW4; (try clear lXL); have lXL := XL.lt; replace X6 := X6.below dW4; (try clear lX6); have lX6 := X6.lt; replace X7 := X7.below dW4; (try clear lX7); have lX7 := X7.lt; replace XX := XX.below dW4; (try clear lXX); have lXX := XX.lt
  have XY : B4 W4 (w3.heap.size) (.int .i64 (y0)) (.int .i64 (y1)) (.int .i64 (y2)) (.int .i64 (y3)) := (by rw [hW]; unfold B4 Cel; simp [go_sem]); have lXY := XY.lt
  have i4 : Below w.heap.size w W4 := (by repeat (first | with_reducible exact Below.refl _ _ | with_reducible refine below_alloc ?_ _ | with_reducible refine Below.drew ?_ | with_reducible refine below_set ?_ (by (first | (simp; done) | (simp; omega))) _ | with_reducible refine below_step (by assumption) ?_))
  clear hW hb1 hb3 d1 d3 dW0 dW2 dW4 z1 z3 i2 PB lPB XB lXB
  go_cut [10] (fun s10 w' => ∃ g : Nat, s10 = .pointer (some ⟨g, 0, none⟩) ∧ W4.heap.size ≤ g ∧ B2 w' g (.int .i64 r0) (.int .i64 r1) ∧ Below W4.heap.size W4 w')
  case first =>
    have KS := Lib.hid (show ∀ w', Below W4.heap.size W4 w' → (B4 w' (w.heap.size + 1 + 1) (.int .i64 l0) (.int .i64 l1) (.int .i64 l2) (.int .i64 l3) ∧ Below W4.heap.size W4 w') from fun w' hb => ⟨XL.below hb, hb⟩)
    go_region_held3 (fun w' => B4 w' (w.heap.size + 1 + 1) (.int .i64 l0) (.int .i64 l1) (.int .i64 l2) (.int .i64 l3) ∧ Below W4.heap.size W4 w') (refine KS.out _ (by repeat (first | with_reducible exact Below.refl _ _ | with_reducible refine below_alloc ?_ _ | with_reducible refine Below.drew ?_ | with_reducible refine below_set ?_ (by (first | (simp; done) | (simp; omega))) _ | with_reducible refine below_step (by assumption) ?_)))
      (first | (go_at_call 42; first | ((with_reducible refine (HB1.out _).mono ?_); rintro e w' ⟨rfl, rfl⟩) | ((with_reducible refine (HB2.out _).mono ?_); rintro e w' ⟨rfl, rfl⟩)))
    all_goals (rename _ ∧ Below W4.heap.size W4 _ => hS; go_wp2_with fail; go_meet; exact ⟨_, rfl, (by have := hS.2.size; first | exact Nat.le_refl _ | (simp at this ⊢; done) | (simp at this ⊢; omega)), (by unfold B2 Cel; simp (maxDischargeDepth := 6) [go_sem, *]), hS.2⟩)
  case rest =>
    rename World => w5
    obtain ⟨g, rfl, lg, XG, d5⟩ := hcut
    have g6 : g ≠ w.heap.size + 1 + 1 + 1 := by have := XY.lt; omega
    have g7 : g ≠ w.heap.size + 1 + 1 + 1 + 1 := by have := XY.lt; omega
    have g6' := Ne.symm g6
    have g7' := Ne.symm g7
    replace XL := XL.below d5; replace X6 := X6.below d5; replace X7 := X7.below d5; replace XX := XX.below d5; replace XY := XY.below d5
    have i5 := i4.trans (d5.mono i4.size)
    clear d5 i4 lXL lX6 lX7 lXX lXY
    go_upto_if 51 with (go_at_call 25; refine (HAR.out _).mono ?_; rintro e w' ⟨rfl, rfl⟩)
    go_cut [11, 12] (fun s11 s12 w' => s11 = .int .i64 p ∧ s12 = .int .i64 q ∧ w5 = w')
    case first =>
      by_cases h4 : t = 4
      · have h4' : (t == 4) = true := by simp [h4]
        go_wp2_with fail
        go_meet
        exact ⟨by rw [HW1.out, if_pos h4], by rw [HW2.out, if_pos h4], rfl⟩
      · have h4' : (t == 4) = false := by simp [h4]
        go_wp2_with fail
        go_meet
        exact ⟨by rw [HW1.out, if_neg h4], by rw [HW2.out, if_neg h4], rfl⟩
    case rest =>
      obtain ⟨rfl, rfl, rfl⟩ := hcut
      have q1 : IntKind.i64.wrap (p / 2 + 2) = p / 2 + 2 := IntWalk.i64_in _ (by omega)
      have q2 : IntKind.i64.wrap (q / 2 + 2) = q / 2 + 2 := IntWalk.i64_in _ (by omega)
      have q3 : IntKind.i64.wrap (r0 + r2) = r0 + r2 := IntWalk.i64_in _ (by omega)
      have q4 : IntKind.i64.wrap (r1 + r3) = r1 + r3 := IntWalk.i64_in _ (by omega)
      have q7 : p.tdiv 2 = p / 2 := Int.tdiv_eq_ediv_of_nonneg (by omega)
      have q8 : q.tdiv 2 = q / 2 := Int.tdiv_eq_ediv_of_nonneg (by omega)
      have q5 : IntKind.i64.wrap (p / 2) = p / 2 := IntWalk.i64_in _ (by omega)
      have q6 : IntKind.i64.wrap (q / 2) = q / 2 := IntWalk.i64_in _ (by omega)
      go_wp2_with fail
      have l6 := X6.lt
      have l7 := X7.lt
      have lG := XG.lt
      have lL := XL.lt
      have z1 : w.heap.size + 1 + 1 ≠ w.heap.size + 1 + 1 + 1 + 1 := by omega
      have z2 := Ne.symm z1
      have z3 : w.heap.size + 1 + 1 ≠ w.heap.size + 1 + 1 + 1 := by omega
      have z4 := Ne.symm z3
      have z5 : w.heap.size + 1 + 1 + 1 ≠ w.heap.size + 1 + 1 + 1 + 1 := by omega
      have z6 := Ne.symm z5
      have y6 : w.heap.size ≤ w.heap.size + 1 + 1 + 1 := by omega
      have y7 : w.heap.size ≤ w.heap.size + 1 + 1 + 1 + 1 := by omega
      clear hA hB
      generalize w.heap.size + 1 + 1 + 1 + 1 = b7 at *
      generalize w.heap.size + 1 + 1 + 1 = b6 at *
      generalize w.heap.size + 1 + 1 = bL at *
      have t2 := XL.2.2.1.1
      have t3 := XL.2.2.2.1
      have u0 := XG.1.1
      have u1 := XG.2.1
      go_region_held3 (fun w' => w'.cell? ⟨bL, 2, none⟩ = some (.int .i64 l2) ∧ w'.cell? ⟨bL, 3, none⟩ = some (.int .i64 l3) ∧ w'.cell? ⟨g, 0, none⟩ = some (.int .i64 r0) ∧ w'.cell? ⟨g, 1, none⟩ = some (.int .i64 r1)) (go_keep)
        (first | (go_at_call 42; first | ((with_reducible refine (HB3.out _).mono ?_); rintro e w' ⟨rfl, rfl⟩) | ((with_reducible refine (HB4.out _).mono ?_); rintro e w' ⟨rfl, rfl⟩)))
      all_goals (go_wp2_with fail; exact bodyPost_ret (v := .tuple #[.agg #[.int .i64 r0, .int .i64 r1], .agg #[.int .i64 (r0 + r2), .int .i64 (r1 + r3)]]) (by simp [results, Try.results45, go_sem, *]) rfl ⟨rfl, (by repeat (first | with_reducible exact i5 | with_reducible refine below_alloc ?_ _ | with_reducible refine Below.drew ?_ | with_reducible refine below_set ?_ (by assumption) _))⟩)

/-! ### The documented examples -/
theorem l5_axl : axl [] [] (0, 0) (3072, 0) = [(1024, 0)] := by
  have e : lnz 3072 0 = 3072 := isq_unique (by decide) (by decide) (by decide)
  unfold axl btw eaxs unt dif
  simp [e, mdv]
theorem l5_hit : hit 2048 [] (0, 0) 2048 [] (3072, 0) = true ∧ cnD 2048 [] (0, 0) 2048 [] (3072, 0) = 1024 ∧ cnN 2048 [] (0, 0) 2048 [] (3072, 0) = (1024, 0) := by
  have h : hit 2048 [] (0, 0) 2048 [] (3072, 0) = true := by unfold hit; rw [l5_axl]; decide +kernel
  refine ⟨h, ?_, ?_⟩
  · unfold cnD bst; rw [if_pos h, l5_axl]; decide +kernel
  · unfold cnN bst; rw [if_pos h, l5_axl]; decide +kernel
theorem l5_far : hit 2048 [] (0, 0) 2048 [] (4097, 0) = false := by
  have h : ovl 2048 [] (0, 0) 2048 [] (4097, 0) = false := by decide +kernel
  unfold hit; rw [h]; rfl
theorem c2048_sn : SN 2048 [] := ⟨by decide, by decide, by simp⟩

set_option maxRecDepth 100000 in
set_option maxHeartbeats 2000000 in
theorem lives5_any (w : World) : Calls Try.prog 44 #[] w fun e w' => e = .returned (.bool true) ∧ Below w.heap.size w w' := by
  have hC1 := fun W => Collide_any 2048 2048 0 0 3072 0 none none 0 0 0 0 [] [] W (Pol.empty _) (Pol.empty _) c2048_sn c2048_sn (by omega) (by omega) (by omega) (by omega)
  have hC2 := fun W => Collide_any 2048 2048 0 0 4097 0 none none 0 0 0 0 [] [] W (Pol.empty _) (Pol.empty _) c2048_sn c2048_sn (by omega) (by omega) (by omega) (by omega)
  rw [l5_hit.1, l5_hit.2.1, l5_hit.2.2] at hC1
  rw [l5_far] at hC2
  generalize (cnN 2048 [] (0, 0) 2048 [] (4097, 0)).1 = z0 at *
  generalize (cnN 2048 [] (0, 0) 2048 [] (4097, 0)).2 = z1 at *
  generalize cnD 2048 [] (0, 0) 2048 [] (4097, 0) = z2 at *
  have HC1 := Lib.hid hC1; clear hC1
  have HC2 := Lib.hid hC2; clear hC2
  go_enter Try.func44, Try.ntmps44
  go_wp2_with fail
  refine calls_at ?_; intro W0 hW; have dW0 : Below w.heap.size w W0 := (by rw [hW]; exact (by repeat (first | with_reducible exact Below.refl _ _ | with_reducible refine below_alloc ?_ _ | with_reducible refine Below.drew ?_ | with_reducible refine below_set ?_ (by (first | (simp; done) | (simp; omega))) _ | with_reducible refine below_step (by assumption) ?_)))
  have XS : B2 W0 w.heap.size (.int .i64 2048) (.slice none 0 0) := (by rw [hW]; unfold B2 Cel; simp [go_sem])
  clear hW
  refine (HC1.out _).mono ?_
  rintro e w1 ⟨rfl, hb1⟩; have d1 : Below W0.heap.size W0 w1 := below_step hb1 (by repeat (first | with_reducible exact Below.refl _ _ | with_reducible refine below_alloc ?_ _ | with_reducible refine Below.drew ?_ | with_reducible refine below_set ?_ (by (first | (simp; done) | (simp; omega))) _ | with_reducible refine below_step (by assumption) ?_)); have z1 := hb1.size; (try simp at z1); replace XS := XS.below d1; (try clear lXS); have lXS := XS.lt
  go_wp2_with fail
  refine calls_at ?_; intro W2 hW; have dW2 : Below w1.heap.size w1 W2 := (by rw [hW]; exact (by repeat (first | with_reducible exact Below.refl _ _ | with_reducible refine below_alloc ?_ _ | with_reducible refine Below.drew ?_ | with_reducible refine below_set ?_ (by (first | (simp; done) | (simp; omega))) _ | with_reducible refine below_step (by assumption) ?_))); replace XS := XS.below dW2; (try clear lXS); have lXS := XS.lt
  have XC : B3 W2 w1.heap.size (.int .i64 1024) (.int .i64 0) (.int .i64 1024) := (by rw [hW]; unfold B3 Cel; simp [go_sem])
  have i2 : Below w.heap.size w W2 := (by repeat (first | with_reducible exact Below.refl _ _ | with_reducible refine below_alloc ?_ _ | with_reducible refine Below.drew ?_ | with_reducible refine below_set ?_ (by (first | (simp; done) | (simp; omega))) _ | with_reducible refine below_step (by assumption) ?_))
  clear hW
  refine (HC2.out _).mono ?_
  rintro e w3 ⟨rfl, hb3⟩; have d3 : Below W2.heap.size W2 w3 := below_step hb3 (by repeat (first | with_reducible exact Below.refl _ _ | with_reducible refine below_alloc ?_ _ | with_reducible refine Below.drew ?_ | with_reducible refine below_set ?_ (by (first | (simp; done) | (simp; omega))) _ | with_reducible refine below_step (by assumption) ?_)); have z3 := hb3.size; (try simp at z3); replace XC := XC.below d3; (try clear lXC); have lXC := XC.lt
  have i3 : Below w.heap.size w w3 := (by repeat (first | with_reducible exact Below.refl _ _ | with_reducible refine below_alloc ?_ _ | with_reducible refine Below.drew ?_ | with_reducible refine below_set ?_ (by (first | (simp; done) | (simp; omega))) _ | with_reducible refine below_step (by assumption) ?_))
  go_wp2_with fail
  go_ret
  exact ⟨rfl, i3.trans (((by repeat (first | with_reducible exact Below.refl _ _ | with_reducible refine below_alloc ?_ _ | with_reducible refine Below.drew ?_ | with_reducible refine below_set ?_ (by (first | (simp; done) | (simp; omega))) _ | with_reducible refine below_step (by assumption) ?_)) : Below w3.heap.size w3 _).mono i3.size)⟩
end Go.Proofs.Ytipcppbbpmdijaa
