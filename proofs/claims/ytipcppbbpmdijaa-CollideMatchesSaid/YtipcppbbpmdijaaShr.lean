/-
  What the functions of chapter 3's reference return: bounds, projections, what a shape covers. Conditions: the numbers' bounds and the vertices in memory, as the theorems state.
-/
import Derived.Test.YtipcppbbpmdijaaShw
namespace Go.Proofs.Ytipcppbbpmdijaa
open Go.RowKit Go.Sort
attribute [local go_sem ↓] Go.wp_at_zero Go.wp_at_succ

/-! ### left -/
def lft (v u p : V2) : Int := (u.1 - v.1) * (p.2 - v.2) - (u.2 - v.2) * (p.1 - v.1)
/-- The bounds under which 'left' is asked. -/
def LB (v : V2) (B : Int) : Prop := (-B ≤ v.1 ∧ v.1 ≤ B) ∧ (-B ≤ v.2 ∧ v.2 ≤ B)
theorem lft_bd {v u p : V2} (h1 : LB v 32768) (h2 : LB u 32768) (h3 : LB p 268435456) :
    (-70368744177664 ≤ (u.1 - v.1) * (p.2 - v.2) ∧ (u.1 - v.1) * (p.2 - v.2) ≤ 70368744177664) ∧ (-70368744177664 ≤ (u.2 - v.2) * (p.1 - v.1) ∧ (u.2 - v.2) * (p.1 - v.1) ≤ 70368744177664) := by
  obtain ⟨a1, a2⟩ := h1
  obtain ⟨b1, b2⟩ := h2
  obtain ⟨c1, c2⟩ := h3
  have p1 := mul_bd (a := u.1 - v.1) (b := p.2 - v.2) (A := 65536) (B := 536870912) (by omega) (by omega)
  have p2 := mul_bd (a := u.2 - v.2) (b := p.1 - v.1) (A := 65536) (B := 536870912) (by omega) (by omega)
  omega
theorem rleft_any (vx vy ux uy px py : Int) (w : World) (h1 : LB (vx, vy) 32768) (h2 : LB (ux, uy) 32768) (h3 : LB (px, py) 268435456) :
    Calls Try.prog 69 #[.agg #[.int .i64 vx, .int .i64 vy], .agg #[.int .i64 ux, .int .i64 uy], .agg #[.int .i64 px, .int .i64 py]] w fun e w' => e = .returned (.int .i64 (lft (vx, vy) (ux, uy) (px, py))) ∧ Below w.heap.size w w' := by
  obtain ⟨p1, p2⟩ := lft_bd h1 h2 h3
  obtain ⟨a1, a2⟩ := h1
  obtain ⟨b1, b2⟩ := h2
  obtain ⟨c1, c2⟩ := h3
  dsimp only at p1 p2 a1 a2 b1 b2 c1 c2
  unfold lft
  go_enter Try.func69, Try.ntmps69
  go_wp2_with fail
  go_ret
  exact ⟨rfl, (by repeat (first | with_reducible exact Below.refl _ _ | with_reducible refine below_alloc ?_ _ | with_reducible refine Below.drew ?_ | with_reducible refine below_set ?_ (by (first | (simp; done) | (simp; omega))) _ | with_reducible refine below_step (by assumption) ?_))⟩

/-! ### Bounds -/
theorem rBounds_circle (R px py : Int) (w : World) (hR : 0 ≤ R ∧ R ≤ 32768) (h1 : -67108864 ≤ px ∧ px ≤ 67108864) (h2 : -67108864 ≤ py ∧ py ≤ 67108864) :
    Calls Try.prog 37 #[.agg #[.int .i64 R, .slice none 0 0], .agg #[.int .i64 px, .int .i64 py]] w fun e w' => e = .returned (.agg #[.int .i64 (px - R), .int .i64 (py - R), .int .i64 (px + R), .int .i64 (py + R)]) ∧ Below w.heap.size w w' := by
  go_enter Try.func37, Try.ntmps37
  go_wp2_with fail
  exact bodyPost_ret (v := .agg #[.int .i64 (px - R), .int .i64 (py - R), .int .i64 (px + R), .int .i64 (py + R)]) (by simp [results, Try.results37, go_sem, *]) rfl ⟨rfl, (by repeat (first | with_reducible exact Below.refl _ _ | with_reducible refine below_alloc ?_ _ | with_reducible refine Below.drew ?_ | with_reducible refine below_set ?_ (by (first | (simp; done) | (simp; omega))) _ | with_reducible refine below_step (by assumption) ?_))⟩

theorem mq_step (f : V2 → Int) {vs : List V2} {k : Nat} {v : V2} (h : vs[k]? = some v) : mnl f (vs.take (max (k + 1) 1)) = min (mnl f (vs.take (max k 1))) (f v) ∧ mxl f (vs.take (max (k + 1) 1)) = max (mxl f (vs.take (max k 1))) (f v) := by
  have hl : k < vs.length := (List.getElem?_eq_some_iff.1 h).1
  cases k with
  | zero =>
    cases vs with
    | nil => simp at hl
    | cons u t =>
      obtain rfl : u = v := by simpa using h
      show mnl f [u] = min (mnl f [u]) (f u) ∧ mxl f [u] = max (mxl f [u]) (f u)
      exact ⟨(Int.min_self _).symm, (Int.max_self _).symm⟩
  | succ k =>
    have e1 : max (k + 1 + 1) 1 = k + 1 + 1 := by omega
    have e2 : max (k + 1) 1 = k + 1 := by omega
    rw [e1, e2, take_snoc' vs (k + 1) h]
    have hne : vs.take (k + 1) ≠ [] := by intro h; have := congrArg List.length h; rw [List.length_take, List.length_nil] at this; omega
    exact ⟨mnl_snoc f hne v, mxl_snoc f hne v⟩
theorem mq_bd {R : Int} {vs : List V2} (hS : SN R vs) (hv : vs ≠ []) (k : Nat) : (-32768 ≤ mnl (·.1) (vs.take (max k 1)) ∧ mnl (·.1) (vs.take (max k 1)) ≤ 32768) ∧ (-32768 ≤ mnl (·.2) (vs.take (max k 1)) ∧ mnl (·.2) (vs.take (max k 1)) ≤ 32768) ∧
    (-32768 ≤ mxl (·.1) (vs.take (max k 1)) ∧ mxl (·.1) (vs.take (max k 1)) ≤ 32768) ∧ (-32768 ≤ mxl (·.2) (vs.take (max k 1)) ∧ mxl (·.2) (vs.take (max k 1)) ≤ 32768) := by
  have hne : vs.take (max k 1) ≠ [] := by
    intro h; have h1 := congrArg List.length h; rw [List.length_take, List.length_nil] at h1
    have := List.length_pos_iff.2 hv; omega
  have hS' : SN R (vs.take (max k 1)) := ⟨hS.1, by rw [List.length_take]; have := hS.2.1; omega, fun v hv => hS.2.2 v (List.mem_of_mem_take hv)⟩
  have := bb_bd hS'
  unfold bx0 by0 bx1 by1 at this
  simp only [if_neg hne] at this
  exact this

set_option maxRecDepth 100000 in
set_option maxHeartbeats 4000000 in
theorem rBounds_poly (R px py : Int) (A : Option Addr) (n c : Nat) (vs : List V2) (w : World) (hP : Pol w A n c vs) (hS : SN R vs) (hv : vs ≠ []) (h1 : -67108864 ≤ px ∧ px ≤ 67108864) (h2 : -67108864 ≤ py ∧ py ≤ 67108864) :
    Calls Try.prog 37 #[.agg #[.int .i64 R, .slice A n c], .agg #[.int .i64 px, .int .i64 py]] w fun e w' => e = .returned (.agg #[.int .i64 (px + mnl (·.1) vs), .int .i64 (py + mnl (·.2) vs), .int .i64 (px + mxl (·.1) vs), .int .i64 (py + mxl (·.2) vs)]) ∧ Below w.heap.size w w' := by
  obtain ⟨b, rfl, hn, hl, hnc, hc, hbl, hcell⟩ := hP.at_ hv
  obtain ⟨hR, hlen, hbd⟩ := id hS
  have HC := Lib.hid hcell; clear hcell
  have HB := Lib.hid hbd; clear hbd
  have hn0 : ((n : Int) == 0) = false := by simp; omega
  obtain ⟨⟨x0, y0⟩, hv0⟩ : ∃ v, vs[0]? = some v := ⟨vs[0]'(by omega), List.getElem?_eq_getElem (by omega)⟩
  have hx0 := (HC.out 0 _ hv0).1
  have hy0 := (HC.out 0 _ hv0).2
  obtain ⟨bx0', by0'⟩ := HB.out (x0, y0) (List.mem_of_getElem? hv0)
  dsimp only at hx0 hy0 bx0' by0'
  have HV0 := Lib.hid hv0; clear hv0
  have hn1 : (0 : Int) < (n : Int) := by omega
  have MQ := Lib.hid (fun k => mq_bd hS hv k)
  go_enter Try.func37, Try.ntmps37
  go_wp2_with fail
  refine code_named ?_; intro W0 hW; have dW0 : Below w.heap.size w W0 := (by rw [hW]; exact (by repeat (first | with_reducible exact Below.refl _ _ | with_reducible refine below_alloc ?_ _ | with_reducible refine Below.drew ?_ | with_reducible refine below_set ?_ (by (first | (simp; done) | (simp; omega))) _ | with_reducible refine below_step (by assumption) ?_)))
  have XS : B2 W0 w.heap.size (.int .i64 R) (.slice (some ⟨b, 0, none⟩) n c) := (by rw [hW]; unfold B2 Cel; simp [go_sem])
  have XP : B2 W0 (w.heap.size + 1) (.int .i64 px) (.int .i64 py) := (by rw [hW]; unfold B2 Cel; simp [go_sem])
  have XR : B4 W0 (w.heap.size + 1 + 1) (.int .i64 0) (.int .i64 0) (.int .i64 0) (.int .i64 0) := (by rw [hW]; unfold B4 Cel; simp [go_sem])
  have cx0 := (dW0.cell (p := ⟨b, 0 * 2, none⟩) hbl).trans hx0
  have cy0 := (dW0.cell (p := ⟨b, 0 * 2 + 1, none⟩) hbl).trans hy0
  simp only [Nat.zero_mul, Nat.zero_add] at cx0 cy0
  have lS := XS.lt
  have lP := XP.lt
  have lb : b < W0.heap.size := Nat.lt_of_lt_of_le hbl dW0.size
  clear hW hx0 hy0
  have KS := Lib.hid (show ∀ w', Below W0.heap.size W0 w' → (B2 w' w.heap.size (.int .i64 R) (.slice (some ⟨b, 0, none⟩) n c) ∧ B2 w' (w.heap.size + 1) (.int .i64 px) (.int .i64 py) ∧ w'.cell? ⟨b, 0, none⟩ = some (.int .i64 x0) ∧ w'.cell? ⟨b, 1, none⟩ = some (.int .i64 y0)) from fun w' hb => ⟨XS.below hb, XP.below hb, keep_cell hb cx0, keep_cell hb cy0⟩)
  go_upto_region 3 with fail
  go_cut [5] (fun s5 w1 => ∃ g : Nat, s5 = .pointer (some ⟨g, 0, none⟩) ∧ w.heap.size + 1 + 1 < g ∧ B4 w1 g (.int .i64 (px + x0)) (.int .i64 (py + y0)) (.int .i64 (px + x0)) (.int .i64 (py + y0)) ∧ B2 w1 w.heap.size (.int .i64 R) (.slice (some ⟨b, 0, none⟩) n c) ∧ B2 w1 (w.heap.size + 1) (.int .i64 px) (.int .i64 py) ∧ B4 w1 (w.heap.size + 1 + 1) (.int .i64 0) (.int .i64 0) (.int .i64 0) (.int .i64 0) ∧ Below w.heap.size w w1)
  case first =>
    go_region_held3 (fun w' => B2 w' w.heap.size (.int .i64 R) (.slice (some ⟨b, 0, none⟩) n c) ∧ B2 w' (w.heap.size + 1) (.int .i64 px) (.int .i64 py) ∧ w'.cell? ⟨b, 0, none⟩ = some (.int .i64 x0) ∧ w'.cell? ⟨b, 1, none⟩ = some (.int .i64 y0)) (refine KS.out _ (by repeat (first | with_reducible exact Below.refl _ _ | with_reducible refine below_alloc ?_ _ | with_reducible refine Below.drew ?_ | with_reducible refine below_set ?_ (by (first | (simp; done) | (simp; omega))) _ | with_reducible refine below_step (by assumption) ?_))) (fail)
    go_wp2_with fail
    go_meet
    have lR := XR.lt
    have r1 : IntKind.i64.wrap (px + x0) = px + x0 := IntWalk.i64_in _ (by omega)
    have r2 : IntKind.i64.wrap (py + y0) = py + y0 := IntWalk.i64_in _ (by omega)
    exact ⟨_, rfl, lR, by unfold B4 Cel; simp [go_sem, r1, r2], XS.below (by repeat (first | with_reducible exact Below.refl _ _ | with_reducible refine below_alloc ?_ _ | with_reducible refine Below.drew ?_ | with_reducible refine below_set ?_ (by (first | (simp; done) | (simp; omega))) _ | with_reducible refine below_step (by assumption) ?_)), XP.below (by repeat (first | with_reducible exact Below.refl _ _ | with_reducible refine below_alloc ?_ _ | with_reducible refine Below.drew ?_ | with_reducible refine below_set ?_ (by (first | (simp; done) | (simp; omega))) _ | with_reducible refine below_step (by assumption) ?_)), XR.below (by repeat (first | with_reducible exact Below.refl _ _ | with_reducible refine below_alloc ?_ _ | with_reducible refine Below.drew ?_ | with_reducible refine below_set ?_ (by (first | (simp; done) | (simp; omega))) _ | with_reducible refine below_step (by assumption) ?_)), (by repeat (first | with_reducible exact Below.refl _ _ | with_reducible refine below_alloc ?_ _ | with_reducible refine Below.drew ?_ | with_reducible refine below_set ?_ (by (first | (simp; done) | (simp; omega))) _ | with_reducible refine below_step (by assumption) ?_))⟩
  case rest =>
    rename World => w1
    clear XS XP XR KS cx0 cy0 lS lP lb dW0
    obtain ⟨g, rfl, lg, XB, XS, XP, XR, i1⟩ := hcut
    go_wp2_with fail
    go_loopg [6] n (fun gk i wr => ∃ k : Nat, gk + k = n ∧ i = .int .i64 k ∧ B4 wr g (.int .i64 (px + mnl (·.1) (vs.take (max k 1)))) (.int .i64 (py + mnl (·.2) (vs.take (max k 1)))) (.int .i64 (px + mxl (·.1) (vs.take (max k 1)))) (.int .i64 (py + mxl (·.2) (vs.take (max k 1)))) ∧ B2 wr w.heap.size (.int .i64 R) (.slice (some ⟨b, 0, none⟩) n c) ∧ B2 wr (w.heap.size + 1) (.int .i64 px) (.int .i64 py) ∧ B4 wr (w.heap.size + 1 + 1) (.int .i64 0) (.int .i64 0) (.int .i64 0) (.int .i64 0) ∧ Below w.heap.size w wr)
    case atStart =>
      refine ⟨0, by omega, rfl, ?_, XS, XP, XR, i1⟩
      have e : vs.take (max 0 1) = [(x0, y0)] := by
        have := take_snoc' vs 0 HV0.out
        simpa using this
      rw [e]; exact XB
    case round =>
      clear XB XS XP XR i1
      obtain ⟨k, hk, rfl, YB, YS, YP, YR, ib⟩ := hrel
      by_cases hlt : k < n
      · obtain ⟨⟨x, y⟩, hv'⟩ : ∃ v, vs[k]? = some v := ⟨vs[k], List.getElem?_eq_getElem (by omega)⟩
        have hx := (ib.cell (p := ⟨b, k * 2, none⟩) hbl).trans (HC.out k _ hv').1
        have hy := (ib.cell (p := ⟨b, k * 2 + 1, none⟩) hbl).trans (HC.out k _ hv').2
        obtain ⟨bx, by'⟩ := HB.out (x, y) (List.mem_of_getElem? hv')
        dsimp only at hx hy bx by'
        have E := Lib.hid (And.intro (mq_step (·.1) hv') (mq_step (·.2) hv'))
        have q := MQ.out k
        clear hv'
        generalize hm0 : mnl (·.1) (vs.take (max k 1)) = m0 at *
        generalize hm1 : mnl (·.2) (vs.take (max k 1)) = m1 at *
        generalize hm2 : mxl (·.1) (vs.take (max k 1)) = m2 at *
        generalize hm3 : mxl (·.2) (vs.take (max k 1)) = m3 at *
        clear hm0 hm1 hm2 hm3
        have hk1 : (0 : Int) ≤ (k : Int) := by omega
        have hk2 : (k : Int) < (n : Int) := by omega
        have KS := Lib.hid (show ∀ w', Below wr.heap.size wr w' → (B2 w' w.heap.size (.int .i64 R) (.slice (some ⟨b, 0, none⟩) n c) ∧ B2 w' (w.heap.size + 1) (.int .i64 px) (.int .i64 py) ∧ w'.cell? ⟨b, k * 2, none⟩ = some (.int .i64 x) ∧ w'.cell? ⟨b, k * 2 + 1, none⟩ = some (.int .i64 y) ∧ Below wr.heap.size wr w') from fun w' hb => ⟨YS.below hb, YP.below hb, keep_cell hb hx, keep_cell hb hy, hb⟩)
        go_upto_region 7 with fail
        go_cut [7] (fun s7 w2 => ∃ h : Nat, s7 = .pointer (some ⟨h, 0, none⟩) ∧ g < h ∧ B2 w2 h (.int .i64 (px + x)) (.int .i64 (py + y)) ∧ Below wr.heap.size wr w2)
        case first =>
          have lB := YB.lt
          go_region_held3 (fun w' => B2 w' w.heap.size (.int .i64 R) (.slice (some ⟨b, 0, none⟩) n c) ∧ B2 w' (w.heap.size + 1) (.int .i64 px) (.int .i64 py) ∧ w'.cell? ⟨b, k * 2, none⟩ = some (.int .i64 x) ∧ w'.cell? ⟨b, k * 2 + 1, none⟩ = some (.int .i64 y) ∧ Below wr.heap.size wr w') (refine KS.out _ (by repeat (first | with_reducible exact Below.refl _ _ | with_reducible refine below_alloc ?_ _ | with_reducible refine Below.drew ?_ | with_reducible refine below_set ?_ (by (first | (simp; done) | (simp; omega))) _ | with_reducible refine below_step (by assumption) ?_)))
            (first | (go_at_call 34; refine (rAdd_any _ _ _ _ _ (by omega) (by omega) (by omega) (by omega)).mono ?_; rintro e w9 ⟨rfl, hb9⟩; obtain ⟨hc9, hf9, hx9, hy9, hn9, hz9⟩ := bcellA hb9; (try simp at hz9); (try have ltw9_0 : wr.heap.size < w9.heap.size := by omega); (try have lew9_0 : wr.heap.size ≤ w9.heap.size := by omega); (try have ltw9_1 : g < w9.heap.size := by omega); (try have lew9_1 : g ≤ w9.heap.size := by omega)))
          all_goals (rename _ ∧ _ ∧ _ ∧ _ ∧ Below wr.heap.size wr _ => hS; go_wp2_with fail; go_meet; exact ⟨_, rfl, by omega, by unfold B2 Cel; simp (maxDischargeDepth := 6) [go_sem, World.cell?_setCell_same', *], hS.2.2.2.2⟩)
        case rest =>
          rename World => w2
          obtain ⟨h, rfl, lh, XV, d2⟩ := hcut
          replace YB := YB.below d2; replace YS := YS.below d2; replace YP := YP.below d2; replace YR := YR.below d2
          have lg' := YR.lt
          clear KS hx hy
          go_wp2_with fail
          go_roundg (n - (k + 1))
          case measure => omega
          case rel =>
            refine ⟨k + 1, by omega, by go_num, ?_, (((YS.far (by omega) _).far (by omega) _).far (by omega) _).far (by omega) _, (((YP.far (by omega) _).far (by omega) _).far (by omega) _).far (by omega) _, (((YR.far (by omega) _).far (by omega) _).far (by omega) _).far (by omega) _, (by repeat (first | with_reducible exact Below.refl _ _ | with_reducible refine below_alloc ?_ _ | with_reducible refine Below.drew ?_ | with_reducible refine below_set ?_ (by (first | (simp; done) | (simp; omega))) _ | with_reducible refine below_step (by assumption) ?_))⟩
            rw [E.out.1.1, E.out.1.2, E.out.2.1, E.out.2.2]
            have e0 : px + min m0 x = min (px + m0) (px + x) := by omega
            have e1 : py + min m1 y = min (py + m1) (py + y) := by omega
            have e2 : px + max m2 x = max (px + m2) (px + x) := by omega
            have e3 : py + max m3 y = max (py + m3) (py + y) := by omega
            rw [e0, e1, e2, e3]
            exact (((YB.set0 _).set1 _).set2 _).set3 _
      · have hkn : k = n := by omega
        subst hkn
        have ht : vs.take (max k 1) = vs := List.take_of_length_le (by omega)
        rw [ht] at YB
        have lB := YB.lt
        have ne : w.heap.size + 1 + 1 ≠ g := by omega
        have ne' := Ne.symm ne
        go_wp2_with fail
        exact bodyPost_ret (v := .agg #[.int .i64 (px + mnl (·.1) vs), .int .i64 (py + mnl (·.2) vs), .int .i64 (px + mxl (·.1) vs), .int .i64 (py + mxl (·.2) vs)]) (by simp [results, Try.results37, go_sem, *]) rfl ⟨rfl, (by repeat (first | with_reducible exact Below.refl _ _ | with_reducible refine below_alloc ?_ _ | with_reducible refine Below.drew ?_ | with_reducible refine below_set ?_ (by (first | (simp; done) | (simp; omega))) _ | with_reducible refine below_step (by assumption) ?_))⟩

theorem rBounds_any (R px py : Int) (A : Option Addr) (n c : Nat) (vs : List V2) (w : World) (hP : Pol w A n c vs) (hS : SN R vs) (h1 : -67108864 ≤ px ∧ px ≤ 67108864) (h2 : -67108864 ≤ py ∧ py ≤ 67108864) :
    Calls Try.prog 37 #[.agg #[.int .i64 R, .slice A n c], .agg #[.int .i64 px, .int .i64 py]] w fun e w' => e = .returned (.agg #[.int .i64 (bx0 R vs + px), .int .i64 (by0 R vs + py), .int .i64 (bx1 R vs + px), .int .i64 (by1 R vs + py)]) ∧ Below w.heap.size w w' := by
  by_cases hv : vs = []
  · obtain ⟨rfl, rfl, rfl⟩ := hP.nil hv
    subst hv
    have e1 : bx0 R [] + px = px - R := by show -R + px = _; omega
    have e2 : by0 R [] + py = py - R := by show -R + py = _; omega
    have e3 : bx1 R [] + px = px + R := by show R + px = _; omega
    have e4 : by1 R [] + py = py + R := by show R + py = _; omega
    rw [e1, e2, e3, e4]
    exact rBounds_circle R px py w hS.1 h1 h2
  · unfold bx0 by0 bx1 by1
    simp only [if_neg hv]
    rw [Int.add_comm _ px, Int.add_comm _ py, Int.add_comm _ px, Int.add_comm _ py]
    exact rBounds_poly R px py A n c vs w hP hS hv h1 h2

/-! ### Project -/
theorem rProject_circle (R px py ax ay : Int) (w : World) (hR : 0 ≤ R ∧ R ≤ 32768) (h1 : -67108864 ≤ px ∧ px ≤ 67108864) (h2 : -67108864 ≤ py ∧ py ≤ 67108864) (h3 : -8388608 ≤ ax ∧ ax ≤ 8388608) (h4 : -8388608 ≤ ay ∧ ay ≤ 8388608) :
    Calls Try.prog 36 #[.agg #[.int .i64 R, .slice none 0 0], .agg #[.int .i64 px, .int .i64 py], .agg #[.int .i64 ax, .int .i64 ay]] w fun e w' => e = .returned (.tuple #[.int .i64 (dotz px py ax ay - R), .int .i64 (dotz px py ax ay + R)]) ∧ Below w.heap.size w w' := by
  obtain ⟨-, -, p1, p2⟩ := pd_bd (x := 0) (y := 0) h1 h2 h3 h4 (by omega) (by omega)
  have q : -9000000000000000 ≤ dotz px py ax ay ∧ dotz px py ax ay ≤ 9000000000000000 := by unfold dotz; omega
  go_enter Try.func36, Try.ntmps36
  go_wp2_with fail
  refine (rDot_any _ _ _ _ _ (by omega) (by omega) (by omega) (by omega)).mono ?_
  rintro e w1 ⟨rfl, hb1⟩; have d1 : Below w.heap.size w w1 := below_step hb1 (by repeat (first | with_reducible exact Below.refl _ _ | with_reducible refine below_alloc ?_ _ | with_reducible refine Below.drew ?_ | with_reducible refine below_set ?_ (by (first | (simp; done) | (simp; omega))) _ | with_reducible refine below_step (by assumption) ?_)); have z1 := hb1.size; (try simp at z1)
  have XS : B2 w1 w.heap.size (.int .i64 R) (.slice none 0 0) := B2.below (by unfold B2 Cel; simp [go_sem]) hb1
  go_wp2_with fail
  refine wp_loop_rounds 1 ?_
  rw [rounds_succ]
  go_wp2_with fail
  go_ret2
  exact ⟨rfl, (by repeat (first | with_reducible exact Below.refl _ _ | with_reducible refine below_alloc ?_ _ | with_reducible refine Below.drew ?_ | with_reducible refine below_set ?_ (by (first | (simp; done) | (simp; omega))) _ | with_reducible refine below_step (by assumption) ?_))⟩

set_option maxRecDepth 100000 in
set_option maxHeartbeats 4000000 in
theorem rProject_poly (R px py ax ay : Int) (A : Option Addr) (n c : Nat) (vs : List V2) (w : World) (hP : Pol w A n c vs) (hS : SN R vs) (hv : vs ≠ []) (h1 : -67108864 ≤ px ∧ px ≤ 67108864) (h2 : -67108864 ≤ py ∧ py ≤ 67108864) (h3 : -8388608 ≤ ax ∧ ax ≤ 8388608) (h4 : -8388608 ≤ ay ∧ ay ≤ 8388608) :
    Calls Try.prog 36 #[.agg #[.int .i64 R, .slice A n c], .agg #[.int .i64 px, .int .i64 py], .agg #[.int .i64 ax, .int .i64 ay]] w fun e w' => e = .returned (.tuple #[.int .i64 (mnl (pdt px py ax ay) vs), .int .i64 (mxl (pdt px py ax ay) vs)]) ∧ Below w.heap.size w w' := by
  obtain ⟨b, rfl, hn, hl, hnc, hc, hbl, hcell⟩ := hP.at_ hv
  obtain ⟨hR, hlen, hbd⟩ := id hS
  have HC := Lib.hid hcell; clear hcell
  have HB := Lib.hid hbd; clear hbd
  have hn0 : ((n : Int) == 0) = false := by simp; omega
  obtain ⟨-, -, p1, p2⟩ := pd_bd (x := 0) (y := 0) h1 h2 h3 h4 (by omega) (by omega)
  have q0 : -9000000000000000 ≤ dotz px py ax ay ∧ dotz px py ax ay ≤ 9000000000000000 := by unfold dotz; omega
  go_enter Try.func36, Try.ntmps36
  go_wp2_with fail
  refine (rDot_any _ _ _ _ _ (by omega) (by omega) (by omega) (by omega)).mono ?_
  rintro e w1 ⟨rfl, hb1⟩; have d1 : Below w.heap.size w w1 := below_step hb1 (by repeat (first | with_reducible exact Below.refl _ _ | with_reducible refine below_alloc ?_ _ | with_reducible refine Below.drew ?_ | with_reducible refine below_set ?_ (by (first | (simp; done) | (simp; omega))) _ | with_reducible refine below_step (by assumption) ?_)); have z1 := hb1.size; (try simp at z1)
  have XS : B2 w1 w.heap.size (.int .i64 R) (.slice (some ⟨b, 0, none⟩) n c) := B2.below (by unfold B2 Cel; simp [go_sem]) hb1
  have XP : B2 w1 (w.heap.size + 1) (.int .i64 px) (.int .i64 py) := B2.below (by unfold B2 Cel; simp [go_sem]) hb1
  have XA : B2 w1 (w.heap.size + 1 + 1) (.int .i64 ax) (.int .i64 ay) := B2.below (by unfold B2 Cel; simp [go_sem]) hb1
  clear hb1
  go_wp2_with fail
  go_loopg [9, 10, 11] n (fun gk lo hi i wr => ∃ k : Nat, gk + k = n ∧ i = .int .i64 k ∧ (k = 0 ∨ lo = .int .i64 (mnl (pdt px py ax ay) (vs.take k)) ∧ hi = .int .i64 (mxl (pdt px py ax ay) (vs.take k))) ∧ (∃ lz hz, lo = .int .i64 lz ∧ hi = .int .i64 hz) ∧
      B2 wr w.heap.size (.int .i64 R) (.slice (some ⟨b, 0, none⟩) n c) ∧ B2 wr (w.heap.size + 1) (.int .i64 px) (.int .i64 py) ∧ B2 wr (w.heap.size + 1 + 1) (.int .i64 ax) (.int .i64 ay) ∧ Below w.heap.size w wr)
  case atStart => exact ⟨0, by omega, rfl, .inl rfl, ⟨_, _, rfl, rfl⟩, XS, XP, XA, d1⟩
  case round =>
    clear XS XP XA d1
    obtain ⟨k, hk, rfl, hlh, ⟨lz, hz, rfl, rfl⟩, YS, YP, YA, ib⟩ := hrel
    by_cases hlt : k < n
    · obtain ⟨⟨x, y⟩, hv'⟩ : ∃ v, vs[k]? = some v := ⟨vs[k], List.getElem?_eq_getElem (by omega)⟩
      have hx := (ib.cell (p := ⟨b, k * 2, none⟩) hbl).trans (HC.out k _ hv').1
      have hy := (ib.cell (p := ⟨b, k * 2 + 1, none⟩) hbl).trans (HC.out k _ hv').2
      obtain ⟨bx, by'⟩ := HB.out (x, y) (List.mem_of_getElem? hv')
      obtain ⟨q1, q2, -, -⟩ := pd_bd h1 h2 h3 h4 bx by'
      dsimp only at hx hy bx by'
      have hts := Lib.hid (take_snoc' vs k hv')
      have hd : pdt px py ax ay (x, y) = dotz (px + x) (py + y) ax ay := rfl
      have HD := Lib.hid hd; clear hd
      have kx := cell_regrown hx
      have ky := cell_regrown hy
      have hk1 : (0 : Int) ≤ (k : Int) := by omega
      have hk2 : (k : Int) < (n : Int) := by omega
      by_cases h0 : k = 0
      · have E := Lib.hid (mnl_one (pdt px py ax ay) (l := vs.take k) (v := (x, y)) (by subst h0; rfl))
        clear hv' hlh
        subst h0
        simp only [Nat.zero_mul, Nat.zero_add] at kx ky
        go_wp2_with fail
        have KYS := YS.re; have KYP := YP.re; have KYA := YA.re; refine wp_region_below (by kernel_rfl) (by kernel_rfl) ?_
        repeat (go_big_quiet_step (first
          | (go_at_call 34; exact met_below (rAdd_any _ _ _ _ _ (by omega) (by omega) (by omega) (by omega)))
          | (go_at_call 67; exact met_below (rDot_any _ _ _ _ _ (by omega) (by omega) (by omega) (by omega)))))
        refine wpQuiet_nil ?_; intro w2 d2; clear KYS KYP KYA; replace YS := YS.below d2; (try clear lYS); have lYS := YS.lt; replace YP := YP.below d2; (try clear lYP); have lYP := YP.lt; replace YA := YA.below d2; (try clear lYA); have lYA := YA.lt
        clear hx hy kx ky
        go_wp2_with fail
        go_roundg (n - 1)
        case measure => omega
        case rel => exact ⟨0 + 1, by omega, by go_num, .inr ⟨by rw [hts.out, E.out.1, HD.out], by rw [hts.out, E.out.2, HD.out]⟩, ⟨_, _, rfl, rfl⟩, YS, YP, YA, (by repeat (first | with_reducible exact Below.refl _ _ | with_reducible refine below_alloc ?_ _ | with_reducible refine Below.drew ?_ | with_reducible refine below_set ?_ (by (first | (simp; done) | (simp; omega))) _ | with_reducible refine below_step (by assumption) ?_))⟩
      · have hne : vs.take k ≠ [] := by intro h; have := congrArg List.length h; rw [List.length_take, List.length_nil] at this; omega
        have E := Lib.hid (And.intro (mnl_snoc (pdt px py ax ay) hne (x, y)) (mxl_snoc (pdt px py ax ay) hne (x, y)))
        have hk0 : ((k : Int) == 0) = false := by simp; omega
        have hlh' : lz = mnl (pdt px py ax ay) (vs.take k) ∧ hz = mxl (pdt px py ax ay) (vs.take k) := by
          rcases hlh with h | ⟨h, h'⟩
          · exact absurd h h0
          · exact ⟨by cases h; rfl, by cases h'; rfl⟩
        have HL := Lib.hid hlh'; clear hlh hlh' hv' hne h0
        go_wp2_with fail
        have KYS := YS.re; have KYP := YP.re; have KYA := YA.re; refine wp_region_below (by kernel_rfl) (by kernel_rfl) ?_
        repeat (go_big_quiet_step (first
          | (go_at_call 34; exact met_below (rAdd_any _ _ _ _ _ (by omega) (by omega) (by omega) (by omega)))
          | (go_at_call 67; exact met_below (rDot_any _ _ _ _ _ (by omega) (by omega) (by omega) (by omega)))))
        refine wpQuiet_nil ?_; intro w2 d2; clear KYS KYP KYA; replace YS := YS.below d2; (try clear lYS); have lYS := YS.lt; replace YP := YP.below d2; (try clear lYP); have lYP := YP.lt; replace YA := YA.below d2; (try clear lYA); have lYA := YA.lt
        clear hx hy kx ky
        go_wp2_with fail
        go_roundg (n - (k + 1))
        case measure => omega
        case rel => exact ⟨k + 1, by omega, by go_num, .inr ⟨by rw [hts.out, E.out.1, HD.out, HL.out.1], by rw [hts.out, E.out.2, HD.out, HL.out.2]⟩, ⟨_, _, rfl, rfl⟩, YS, YP, YA, (by repeat (first | with_reducible exact Below.refl _ _ | with_reducible refine below_alloc ?_ _ | with_reducible refine Below.drew ?_ | with_reducible refine below_set ?_ (by (first | (simp; done) | (simp; omega))) _ | with_reducible refine below_step (by assumption) ?_))⟩
    · have hkn : k = n := by omega
      subst hkn
      have ht : vs.take k = vs := List.take_of_length_le (by omega)
      have hlh' : lz = mnl (pdt px py ax ay) vs ∧ hz = mxl (pdt px py ax ay) vs := by
        rcases hlh with h | ⟨h, h'⟩
        · omega
        · rw [ht] at h h'; exact ⟨by cases h; rfl, by cases h'; rfl⟩
      have HL := Lib.hid hlh'; clear hlh hlh' ht
      go_wp2_with fail
      go_ret2
      exact ⟨by simp [HL.out.1, HL.out.2], ib⟩

theorem rProject_any (R px py ax ay : Int) (A : Option Addr) (n c : Nat) (vs : List V2) (w : World) (hP : Pol w A n c vs) (hS : SN R vs) (h1 : -67108864 ≤ px ∧ px ≤ 67108864) (h2 : -67108864 ≤ py ∧ py ≤ 67108864) (h3 : -8388608 ≤ ax ∧ ax ≤ 8388608) (h4 : -8388608 ≤ ay ∧ ay ≤ 8388608) :
    Calls Try.prog 36 #[.agg #[.int .i64 R, .slice A n c], .agg #[.int .i64 px, .int .i64 py], .agg #[.int .i64 ax, .int .i64 ay]] w fun e w' => e = .returned (.tuple #[.int .i64 (plo R vs px py ax ay), .int .i64 (phi R vs px py ax ay)]) ∧ Below w.heap.size w w' := by
  unfold plo phi
  by_cases hv : vs = []
  · obtain ⟨rfl, rfl, rfl⟩ := hP.nil hv
    rw [if_pos hv, if_pos hv]
    exact rProject_circle R px py ax ay w hS.1 h1 h2 h3 h4
  · rw [if_neg hv, if_neg hv]
    exact rProject_poly R px py ax ay A n c vs w hP hS hv h1 h2 h3 h4
end Go.Proofs.Ytipcppbbpmdijaa
