/-
  What chapter 5's reference returns: axes of vectors and of edges, the nearest vertex, overlaps. Conditions: the numbers' bounds and the vertices in memory, as the theorems state.
-/
import Derived.Test.YtipcppbbpmdijaaEqu
namespace Go.Proofs.Ytipcppbbpmdijaa
open Go.RowKit Go.Sort
attribute [local go_sem ↓] Go.wp_at_zero Go.wp_at_succ

theorem raxis_any (x y : Int) (w : World) (h1 : -1073741824 ≤ x) (h2 : x ≤ 1073741824) (h3 : -1073741824 ≤ y) (h4 : y ≤ 1073741824) :
    Calls Try.prog 76 #[.agg #[.int .i64 x, .int .i64 y]] w fun e w' => e = .returned (.agg #[.int .i64 (unt (x, y)).1, .int .i64 (unt (x, y)).2]) ∧ Below w.heap.size w w' := by
  have HN := Lib.hid (fun W => rNormalize_any x y W h1 h2 h3 h4)
  by_cases h0 : x = 0 ∧ y = 0
  · have e : unt (x, y) = (1024, 0) := by unfold unt; exact if_pos h0
    obtain ⟨rfl, rfl⟩ := h0
    have z : ∀ c, mdv 0 1024 c = 0 := fun c => by unfold mdv; simp
    have HN0 := Lib.hid (fun W => by have := HN.out W; rwa [z] at this)
    rw [e]
    clear HN h1 h2 h3 h4
    go_enter Try.func76, Try.ntmps76
    go_wp2_with fail
    refine calls_at ?_; intro W0 hW; have dW0 : Below w.heap.size w W0 := (by rw [hW]; exact (by repeat (first | with_reducible exact Below.refl _ _ | with_reducible refine below_alloc ?_ _ | with_reducible refine Below.drew ?_ | with_reducible refine below_set ?_ (by (first | (simp; done) | (simp; omega))) _ | with_reducible refine below_step (by assumption) ?_)))
    have XR : B2 W0 (w.heap.size + 1) (.int .i64 0) (.int .i64 0) := (by rw [hW]; unfold B2 Cel; simp [go_sem])
    clear hW
    refine (HN0.out _).mono ?_
    rintro e w1 ⟨rfl, hb1⟩; have d1 : Below W0.heap.size W0 w1 := below_step hb1 (by repeat (first | with_reducible exact Below.refl _ _ | with_reducible refine below_alloc ?_ _ | with_reducible refine Below.drew ?_ | with_reducible refine below_set ?_ (by (first | (simp; done) | (simp; omega))) _ | with_reducible refine below_step (by assumption) ?_)); have z1 := hb1.size; (try simp at z1); replace XR := XR.below d1; (try clear lXR); have lXR := XR.lt
    go_wp2_with fail
    exact bodyPost_ret (v := .agg #[.int .i64 1024, .int .i64 0]) (by simp [results, Try.results76, go_sem, *]) rfl ⟨rfl, (by repeat (first | with_reducible exact Below.refl _ _ | with_reducible refine below_alloc ?_ _ | with_reducible refine Below.drew ?_ | with_reducible refine below_set ?_ (by (first | (simp; done) | (simp; omega))) _ | with_reducible refine below_step (by assumption) ?_))⟩
  · have e : unt (x, y) = (mdv x 1024 (lnz x y), mdv y 1024 (lnz x y)) := by unfold unt; exact if_neg h0
    have hne := nrm_ne h0
    rw [e]
    dsimp only
    generalize mdv x 1024 (lnz x y) = a at *
    generalize mdv y 1024 (lnz x y) = b at *
    clear e h0 h1 h2 h3 h4
    by_cases ha : a = 0
    · subst ha
      have hb : (b == 0) = false := by simp; exact fun h => hne ⟨rfl, h⟩
      clear hne
      go_enter Try.func76, Try.ntmps76
      go_wp2_with fail
      refine calls_at ?_; intro W0 hW; have dW0 : Below w.heap.size w W0 := (by rw [hW]; exact (by repeat (first | with_reducible exact Below.refl _ _ | with_reducible refine below_alloc ?_ _ | with_reducible refine Below.drew ?_ | with_reducible refine below_set ?_ (by (first | (simp; done) | (simp; omega))) _ | with_reducible refine below_step (by assumption) ?_)))
      have XR : B2 W0 (w.heap.size + 1) (.int .i64 0) (.int .i64 0) := (by rw [hW]; unfold B2 Cel; simp [go_sem])
      clear hW
      refine (HN.out _).mono ?_
      rintro e w1 ⟨rfl, hb1⟩; have d1 : Below W0.heap.size W0 w1 := below_step hb1 (by repeat (first | with_reducible exact Below.refl _ _ | with_reducible refine below_alloc ?_ _ | with_reducible refine Below.drew ?_ | with_reducible refine below_set ?_ (by (first | (simp; done) | (simp; omega))) _ | with_reducible refine below_step (by assumption) ?_)); have z1 := hb1.size; (try simp at z1); replace XR := XR.below d1; (try clear lXR); have lXR := XR.lt
      go_wp2_with fail
      exact bodyPost_ret (v := .agg #[.int .i64 0, .int .i64 b]) (by simp [results, Try.results76, go_sem, *]) rfl ⟨rfl, (by repeat (first | with_reducible exact Below.refl _ _ | with_reducible refine below_alloc ?_ _ | with_reducible refine Below.drew ?_ | with_reducible refine below_set ?_ (by (first | (simp; done) | (simp; omega))) _ | with_reducible refine below_step (by assumption) ?_))⟩
    · have ha' : (a == 0) = false := by simp [ha]
      clear hne
      go_enter Try.func76, Try.ntmps76
      go_wp2_with fail
      refine calls_at ?_; intro W0 hW; have dW0 : Below w.heap.size w W0 := (by rw [hW]; exact (by repeat (first | with_reducible exact Below.refl _ _ | with_reducible refine below_alloc ?_ _ | with_reducible refine Below.drew ?_ | with_reducible refine below_set ?_ (by (first | (simp; done) | (simp; omega))) _ | with_reducible refine below_step (by assumption) ?_)))
      have XR : B2 W0 (w.heap.size + 1) (.int .i64 0) (.int .i64 0) := (by rw [hW]; unfold B2 Cel; simp [go_sem])
      clear hW
      refine (HN.out _).mono ?_
      rintro e w1 ⟨rfl, hb1⟩; have d1 : Below W0.heap.size W0 w1 := below_step hb1 (by repeat (first | with_reducible exact Below.refl _ _ | with_reducible refine below_alloc ?_ _ | with_reducible refine Below.drew ?_ | with_reducible refine below_set ?_ (by (first | (simp; done) | (simp; omega))) _ | with_reducible refine below_step (by assumption) ?_)); have z1 := hb1.size; (try simp at z1); replace XR := XR.below d1; (try clear lXR); have lXR := XR.lt
      go_wp2_with fail
      exact bodyPost_ret (v := .agg #[.int .i64 a, .int .i64 b]) (by simp [results, Try.results76, go_sem, *]) rfl ⟨rfl, (by repeat (first | with_reducible exact Below.refl _ _ | with_reducible refine below_alloc ?_ _ | with_reducible refine Below.drew ?_ | with_reducible refine below_set ?_ (by (first | (simp; done) | (simp; omega))) _ | with_reducible refine below_step (by assumption) ?_))⟩

/-- Overlap of the reference. -/
theorem rOverlap_any (a0 a1 a2 a3 b0 b1 b2 b3 : Int) (w : World) (ha : a0 ≤ a2 ∧ a1 ≤ a3) (hb : b0 ≤ b2 ∧ b1 ≤ b3) :
    Calls Try.prog 78 #[.agg #[.int .i64 a0, .int .i64 a1, .int .i64 a2, .int .i64 a3], .agg #[.int .i64 b0, .int .i64 b1, .int .i64 b2, .int .i64 b3]] w fun e w' => e = .returned (.bool (decide (a0 ≤ b2 ∧ b0 ≤ a2 ∧ a1 ≤ b3 ∧ b1 ≤ a3))) ∧ Below w.heap.size w w' := by
  by_cases k1 : max a0 b0 ≤ min a2 b2
  · by_cases k2 : max a1 b1 ≤ min a3 b3
    · rw [show decide (a0 ≤ b2 ∧ b0 ≤ a2 ∧ a1 ≤ b3 ∧ b1 ≤ a3) = true by rw [decide_eq_true_eq]; omega]
      go_enter Try.func78, Try.ntmps78
      go_wp2_with fail
      go_ret
      exact ⟨rfl, (by repeat (first | with_reducible exact Below.refl _ _ | with_reducible refine below_alloc ?_ _ | with_reducible refine Below.drew ?_ | with_reducible refine below_set ?_ (by (first | (simp; done) | (simp; omega))) _ | with_reducible refine below_step (by assumption) ?_))⟩
    · rw [show decide (a0 ≤ b2 ∧ b0 ≤ a2 ∧ a1 ≤ b3 ∧ b1 ≤ a3) = false by rw [decide_eq_false_iff_not]; omega]
      go_enter Try.func78, Try.ntmps78
      go_wp2_with fail
      go_ret
      exact ⟨rfl, (by repeat (first | with_reducible exact Below.refl _ _ | with_reducible refine below_alloc ?_ _ | with_reducible refine Below.drew ?_ | with_reducible refine below_set ?_ (by (first | (simp; done) | (simp; omega))) _ | with_reducible refine below_step (by assumption) ?_))⟩
  · rw [show decide (a0 ≤ b2 ∧ b0 ≤ a2 ∧ a1 ≤ b3 ∧ b1 ≤ a3) = false by rw [decide_eq_false_iff_not]; omega]
    go_enter Try.func78, Try.ntmps78
    go_wp2_with fail
    go_ret
    exact ⟨rfl, (by repeat (first | with_reducible exact Below.refl _ _ | with_reducible refine below_alloc ?_ _ | with_reducible refine Below.drew ?_ | with_reducible refine below_set ?_ (by (first | (simp; done) | (simp; omega))) _ | with_reducible refine below_step (by assumption) ?_))⟩

theorem ednx_at {vs : List V2} {k : Nat} (hk : k < vs.length) : (eaxs vs)[k]? = some (eax vs k) := by
  unfold eaxs; rw [List.getElem?_map, List.getElem?_range hk]; rfl
theorem eaxs_len (vs : List V2) : (eaxs vs).length = vs.length := by unfold eaxs; simp
def Stopped (p : Prop) : Prop := p
theorem stop_here {p : Prop} (h : Stopped p) : p := h
/-- What the reference's 'edges' returns. -/
def RowRet (w : World) (xs : List V2) (e : Ending) (w' : World) : Prop := ∃ v, e = .returned v ∧ w'.ownsRow w.heap.size 24 2 v xs.length (flat xs) ∧ Below w.heap.size w w'

set_option maxRecDepth 100000 in
set_option maxHeartbeats 8000000 in
theorem redges_any (R : Int) (A : Option Addr) (n c : Nat) (vs : List V2) (w : World) (hP : Pol w A n c vs) (hS : SN R vs) :
    Calls Try.prog 75 #[.agg #[.int .i64 R, .slice A n c]] w (RowRet w (eaxs vs)) := by
  by_cases hv : vs = []
  · obtain ⟨rfl, rfl, rfl⟩ := hP.nil hv
    subst hv
    go_enter Try.func75, Try.ntmps75
    go_wp2_with fail
    refine wp_loop_rounds 1 ?_
    rw [rounds_succ]
    go_wp2_with fail
    go_ret
    exact ⟨_, rfl, World.ownsRow_nil _ _ _ _, (by repeat (first | with_reducible exact Below.refl _ _ | with_reducible refine below_alloc ?_ _ | with_reducible refine Below.drew ?_ | with_reducible refine below_set ?_ (by (first | (simp; done) | (simp; omega))) _ | with_reducible refine below_step (by assumption) ?_))⟩
  obtain ⟨b, rfl, hn, hl, hnc, hc, hbl, hcell⟩ := hP.at_ hv
  obtain ⟨i0, hi0, hz0, hz1, hz2⟩ := info_parts vec_info
  have HC := Lib.hid hcell; clear hcell
  have HV := Lib.hid (fun k => vtx_bd hS k)
  have hn0 : ((n : Int) == 0) = false := by simp; omega
  have hn2 : n ≠ 0 := by omega
  have hn3 : (n : Int) ≠ 0 := by omega
  have hn8 : n ≤ 8 := by have := hS.2.1; omega
  have HTK := Lib.hid (fun k (hk : k < n) => take_snoc' (eaxs vs) k (ednx_at (by omega)))
  have hXl := eaxs_len vs
  rw [hl] at hXl
  generalize eaxs vs = X at *
  have HXL := Lib.hid hXl
  clear hS hP
  go_enter Try.func75, Try.ntmps75
  go_wp2_with fail
  refine code_named ?_; intro W1 hW; have dW1 : Below w.heap.size w W1 := (by rw [hW]; exact (by repeat (first | with_reducible exact Below.refl _ _ | with_reducible refine below_alloc ?_ _ | with_reducible refine Below.drew ?_ | with_reducible refine below_set ?_ (by (first | (simp; done) | (simp; omega))) _ | with_reducible refine below_step (by assumption) ?_)))
  have XS : B2 W1 w.heap.size (.int .i64 R) (.slice (some ⟨b, 0, none⟩) n c) := (by rw [hW]; unfold B2 Cel; simp [go_sem])
  have lXS := XS.lt
  clear hW
  go_loopg [3, 4] n (fun gk l i wr => ∃ k : Nat, gk + k = n ∧ i = .int .i64 k ∧ wr.ownsRow W1.heap.size 24 2 l k (flat (X.take k)) ∧ Below W1.heap.size W1 wr)
  case atStart => exact ⟨0, by omega, rfl, World.ownsRow_nil _ _ _ _, Below.refl _ _⟩
  case round =>
    obtain ⟨k, hk, rfl, hrw, jb⟩ := hrel
    have HR := Lib.hid hrw; clear hrw
    have YS := XS.below jb
    have lYS := YS.lt
    have ib : Below w.heap.size w wr := dW1.trans (jb.mono dW1.size)
    by_cases hlt : k < n
    · obtain ⟨m, hm, hm1, hm2, hm3⟩ := next_of hlt
      obtain ⟨⟨x, y⟩, hv'⟩ : ∃ v, vs[k]? = some v := ⟨vs[k], List.getElem?_eq_getElem (by omega)⟩
      obtain ⟨⟨x', y'⟩, hv2⟩ : ∃ v, vs[m]? = some v := ⟨vs[m], List.getElem?_eq_getElem (by omega)⟩
      have kx := (ib.cell (p := ⟨b, k * 2, none⟩) hbl).trans (HC.out k _ hv').1
      have ky := (ib.cell (p := ⟨b, k * 2 + 1, none⟩) hbl).trans (HC.out k _ hv').2
      have kx' := (ib.cell (p := ⟨b, m * 2, none⟩) hbl).trans (HC.out m _ hv2).1
      have ky' := (ib.cell (p := ⟨b, m * 2 + 1, none⟩) hbl).trans (HC.out m _ hv2).2
      have e1 : ednx vs k = (y' - y, x - x') := by unfold ednx; rw [hl, hm1, vtx_at hv', vtx_at hv2]
      have e2 : eax vs k = unt (y' - y, x - x') := by rw [← e1]; rfl
      have hts := HTK.out k hlt
      rw [e2] at hts
      have b1 := HV.out k; rw [vtx_at hv'] at b1
      have b2 := HV.out m; rw [vtx_at hv2] at b2
      unfold LB at b1 b2
      have hk1 : (0 : Int) ≤ (k : Int) := by omega
      have hk2 : (k : Int) < (n : Int) := by omega
      have hj1 : (0 : Int) ≤ (m : Int) := by omega
      have hj2 : (m : Int) < (n : Int) := by omega
      have hwr : IntKind.i64.wrap ((k : Int) + 1) = (k : Int) + 1 := IntWalk.i64_in _ (by omega)
      dsimp only at kx ky kx' ky' b1 b2
      have HAX := Lib.hid (fun W => raxis_any (y' - y) (x - x') W (by omega) (by omega) (by omega) (by omega))
      generalize unt (y' - y, x - x') = u at *
      obtain ⟨u0, u1⟩ := u
      have HTS := Lib.hid hts; clear hts e1 e2 hm1 hv' hv2
      go_upto_region 6 with fail
      refine code_named ?_; intro W2 hW; have dW2 : Below wr.heap.size wr W2 := (by rw [hW]; exact (by repeat (first | with_reducible exact Below.refl _ _ | with_reducible refine below_alloc ?_ _ | with_reducible refine Below.drew ?_ | with_reducible refine below_set ?_ (by (first | (simp; done) | (simp; omega))) _ | with_reducible refine below_step (by assumption) ?_))); replace YS := YS.below dW2; (try clear lYS); have lYS := YS.lt
      have XV : B2 W2 wr.heap.size (.int .i64 x) (.int .i64 y) := (by rw [hW]; unfold B2 Cel; simp [go_sem])
      have lXV := XV.lt
      clear hW
      replace kx' := (dW2.cell (p := ⟨b, m * 2, none⟩) (World.block_lt_of_cell? wr _ kx')).trans kx'
      replace ky' := (dW2.cell (p := ⟨b, m * 2 + 1, none⟩) (World.block_lt_of_cell? wr _ ky')).trans ky'
      have HR2 := Lib.hid (own_below HR.out dW2)
      have jb2 : Below W1.heap.size W1 W2 := jb.trans (dW2.mono jb.size)
      clear HR kx ky jb
      have KS := Lib.hid (show ∀ w', Below W2.heap.size W2 w' → (B2 w' w.heap.size (.int .i64 R) (.slice (some ⟨b, 0, none⟩) n c) ∧ w'.cell? ⟨b, m * 2, none⟩ = some (.int .i64 x') ∧ w'.cell? ⟨b, m * 2 + 1, none⟩ = some (.int .i64 y') ∧ Below W2.heap.size W2 w') from fun w' hb => ⟨YS.below hb, keep_cell hb kx', keep_cell hb ky', hb⟩)
      go_cut [6] (fun s6 w3 => ∃ h : Nat, s6 = .pointer (some ⟨h, 0, none⟩) ∧ B2 w3 h (.int .i64 x') (.int .i64 y') ∧ Below W2.heap.size W2 w3)
      case first =>
        go_region_held3 (fun w' => B2 w' w.heap.size (.int .i64 R) (.slice (some ⟨b, 0, none⟩) n c) ∧ w'.cell? ⟨b, m * 2, none⟩ = some (.int .i64 x') ∧ w'.cell? ⟨b, m * 2 + 1, none⟩ = some (.int .i64 y') ∧ Below W2.heap.size W2 w') (refine KS.out _ (by repeat (first | with_reducible exact Below.refl _ _ | with_reducible refine below_alloc ?_ _ | with_reducible refine Below.drew ?_ | with_reducible refine below_set ?_ (by (first | (simp; done) | (simp; omega))) _ | with_reducible refine below_step (by assumption) ?_))) (fail)
        all_goals (rename _ ∧ _ ∧ _ ∧ Below W2.heap.size W2 _ => hS; go_wp2_with fail; go_meet; exact ⟨_, rfl, by unfold B2 Cel; simp (maxDischargeDepth := 6) [go_sem, *], hS.2.2.2⟩)
      case rest =>
        rename World => w3
        obtain ⟨h, rfl, XW, d3⟩ := hcut
        replace XV := XV.below d3
        have HR3 := Lib.hid (own_below HR2.out d3)
        have jb3 : Below W1.heap.size W1 w3 := jb2.trans (d3.mono jb2.size)
        clear KS HR2 jb2 kx' ky' hm2 hm3 hwr d3 dW2 lXV lYS YS
        have lXV := XV.lt; have lXW := XW.lt
        go_wp2_with fail
        refine (HAX.out _).mono ?_
        rintro e w4 ⟨rfl, hb4⟩
        have HR4 := Lib.hid (own_below HR3.out hb4)
        have jb4 : Below W1.heap.size W1 w4 := jb3.trans (hb4.mono jb3.size)
        have z4 := jb4.size
        clear HR3 jb3 hb4 XV XW lXV lXW
        have HRA := Lib.hid (HR4.out.alloc (.cells #[.int .i64 u0, .int .i64 u1] 24))
        have HNW := Lib.hid (cell_two_new w4 (.int .i64 u0) (.int .i64 u1) 24)
        go_wp2_with (at_builtin; refine stop_here ?_)
        unfold Stopped
        refine wpList_append_own_at _ rfl (.tmp 29) (.tmp 42) _ rfl W1.heap.size 24 i0 _ 2 16 Try.underlying25 hi0 hz0 hz1 hz2 rfl (by omega) _ k _ rfl HRA.out
            ⟨w4.heap.size, 0, none⟩ 1 1 [.int .i64 u0, .int .i64 u1] rfl rfl HNW.out (fun u hu => by simp at hu; rcases hu with rfl | rfl <;> rfl) (by unfold maxLen; omega) (by omega) (by simp; omega) ?_
        intro v5 w5 hown5 hg5 _ _
        have jb5 : Below W1.heap.size W1 w5 := (jb4.alloc jb4.size _).grown hg5 (by simp; omega) (fun k e => (HRA.out.lt k e).1)
        have HO5 := Lib.hid hown5
        clear hown5 hg5 HRA HNW HR4 jb4
        go_wp2_with fail
        go_roundg (gk - 1)
        case measure => omega
        case rel => exact ⟨k + 1, by omega, by go_num, by rw [HTS.out, flat_snoc]; exact HO5.out, jb5⟩
    · have hkn : k = n := by omega
      subst hkn
      have ht : X.take k = X := List.take_of_length_le (by have := HXL.out; omega)
      have hrw := HR.out
      rw [ht] at hrw
      have HRX := Lib.hid hrw; clear hrw ht HR
      go_wp2_with fail
      go_ret
      exact ⟨_, rfl, by rw [HXL.out]; exact own_base HRX.out dW1.size, ib⟩

set_option maxRecDepth 100000 in
set_option maxHeartbeats 8000000 in
theorem rnearest_any (R p0 p1 c0 c1 : Int) (b n c : Nat) (vs : List V2) (w : World) (hP : Pol w (some ⟨b, 0, none⟩) n c vs) (hv : vs ≠ []) (hS : SN R vs) (h1 : -33554432 ≤ p0 ∧ p0 ≤ 33554432) (h2 : -33554432 ≤ p1 ∧ p1 ≤ 33554432) (h3 : -33554432 ≤ c0 ∧ c0 ≤ 33554432) (h4 : -33554432 ≤ c1 ∧ c1 ≤ 33554432) :
    Calls Try.prog 77 #[.agg #[.int .i64 R, .slice (some ⟨b, 0, none⟩) n c], .agg #[.int .i64 p0, .int .i64 p1], .agg #[.int .i64 c0, .int .i64 c1]] w fun e w' =>
      e = .returned (.agg #[.int .i64 (p0 + (nrs (p0 - c0, p1 - c1) vs).1), .int .i64 (p1 + (nrs (p0 - c0, p1 - c1) vs).2)]) ∧ Below w.heap.size w w' := by
  obtain ⟨b', hbb, hn, hl, hnc, hc, hbl, hcell⟩ := hP.at_ hv
  obtain rfl : b = b' := by injection hbb with hbb; injection hbb
  clear hbb
  have HC := Lib.hid hcell; clear hcell
  have HB := Lib.hid hS.2.2
  have HTK := Lib.hid (fun k v (h : vs[k]? = some v) => take_snoc' vs k h)
  have HNM := Lib.hid (fun l (h : l ≠ []) v => nrs_snoc (p0 - c0, p1 - c1) (l := l) h v)
  clear hS hP
  go_enter Try.func77, Try.ntmps77
  go_wp2_with fail
  refine code_named ?_; intro W0 hW; have dW0 : Below w.heap.size w W0 := (by rw [hW]; exact (by repeat (first | with_reducible exact Below.refl _ _ | with_reducible refine below_alloc ?_ _ | with_reducible refine Below.drew ?_ | with_reducible refine below_set ?_ (by (first | (simp; done) | (simp; omega))) _ | with_reducible refine below_step (by assumption) ?_)))
  have XS : B2 W0 w.heap.size (.int .i64 R) (.slice (some ⟨b, 0, none⟩) n c) := (by rw [hW]; unfold B2 Cel; simp [go_sem])
  have XP : B2 W0 (w.heap.size + 1) (.int .i64 p0) (.int .i64 p1) := (by rw [hW]; unfold B2 Cel; simp [go_sem])
  have XC : B2 W0 (w.heap.size + 2) (.int .i64 c0) (.int .i64 c1) := (by rw [hW]; unfold B2 Cel; simp [go_sem])
  have XR : B2 W0 (w.heap.size + 3) (.int .i64 0) (.int .i64 0) := (by rw [hW]; unfold B2 Cel; simp [go_sem])
  have XB : B2 W0 (w.heap.size + 4) (.int .i64 0) (.int .i64 0) := (by rw [hW]; unfold B2 Cel; simp [go_sem])
  clear hW
  go_loopg [8, 9] n (fun gk ls i wr => ∃ (k : Nat) (lz m0 m1 : Int), gk + k = n ∧ i = .int .i64 k ∧ ls = .int .i64 lz ∧ ((k = 0 ∧ lz = -1 ∧ m0 = 0 ∧ m1 = 0) ∨ (0 < k ∧ lz = sqn (p0 - c0, p1 - c1) (nrs (p0 - c0, p1 - c1) (vs.take k)) ∧ m0 = p0 + (nrs (p0 - c0, p1 - c1) (vs.take k)).1 ∧ m1 = p1 + (nrs (p0 - c0, p1 - c1) (vs.take k)).2)) ∧
      B2 wr w.heap.size (.int .i64 R) (.slice (some ⟨b, 0, none⟩) n c) ∧ B2 wr (w.heap.size + 1) (.int .i64 p0) (.int .i64 p1) ∧ B2 wr (w.heap.size + 2) (.int .i64 c0) (.int .i64 c1) ∧ B2 wr (w.heap.size + 3) (.int .i64 0) (.int .i64 0) ∧ B2 wr (w.heap.size + 4) (.int .i64 m0) (.int .i64 m1) ∧ Below w.heap.size w wr)
  case atStart => exact ⟨0, -1, 0, 0, by omega, rfl, rfl, .inl ⟨rfl, rfl, rfl, rfl⟩, XS, XP, XC, XR, XB, dW0⟩
  case round =>
    clear XS XP XC XR XB dW0
    obtain ⟨k, lz, m0, m1, hk, rfl, rfl, hst, YS, YP, YC, YR, YB, ib⟩ := hrel
    have HST := Lib.hid hst; clear hst
    have lYS := YS.lt; have lYP := YP.lt; have lYC := YC.lt; have lYR := YR.lt; have lYB := YB.lt
    by_cases hlt : k < n
    · obtain ⟨⟨x, y⟩, hv'⟩ : ∃ v, vs[k]? = some v := ⟨vs[k], List.getElem?_eq_getElem (by omega)⟩
      have hx := (ib.cell (p := ⟨b, k * 2, none⟩) hbl).trans (HC.out k _ hv').1
      have hy := (ib.cell (p := ⟨b, k * 2 + 1, none⟩) hbl).trans (HC.out k _ hv').2
      obtain ⟨bx, by'⟩ := HB.out (x, y) (List.mem_of_getElem? hv')
      have hts := HTK.out k _ hv'
      dsimp only at hx hy bx by'
      have hk1 : (0 : Int) ≤ (k : Int) := by omega
      have hk2 : (k : Int) < (n : Int) := by omega
      have s0 := mul_bd (a := p0 + x - c0) (b := p0 + x - c0) (A := 70000000) (B := 70000000) (by omega) (by omega)
      have s1 := mul_bd (a := p1 + y - c1) (b := p1 + y - c1) (A := 70000000) (B := 70000000) (by omega) (by omega)
      have n0 := sq_nonneg (p0 + x - c0)
      have n1 := sq_nonneg (p1 + y - c1)
      have hsq : sqn (p0 - c0, p1 - c1) (x, y) = (p0 + x - c0) * (p0 + x - c0) + (p1 + y - c1) * (p1 + y - c1) := by unfold sqn; dsimp only; rw [show p0 - c0 + x = p0 + x - c0 by omega, show p1 - c1 + y = p1 + y - c1 by omega]
      have hnx : ((lz < 0 ∨ (p0 + x - c0) * (p0 + x - c0) + (p1 + y - c1) * (p1 + y - c1) < lz) → nrs (p0 - c0, p1 - c1) (vs.take (k + 1)) = (x, y)) ∧ (¬ (lz < 0 ∨ (p0 + x - c0) * (p0 + x - c0) + (p1 + y - c1) * (p1 + y - c1) < lz) → 0 < k ∧ nrs (p0 - c0, p1 - c1) (vs.take (k + 1)) = nrs (p0 - c0, p1 - c1) (vs.take k)) := by
        rw [hts]
        rcases HST.out with ⟨h0, hz, -, -⟩ | ⟨h0, hz, -, -⟩
        · subst h0
          exact ⟨fun _ => nrs_one _ rfl, fun h => absurd (.inl (by omega)) h⟩
        · have hne : vs.take k ≠ [] := by intro h; have := congrArg List.length h; rw [List.length_take, List.length_nil] at this; omega
          rw [HNM.out _ hne, hsq, ← hz]
          have hzn : 0 ≤ lz := by
            rw [hz]; unfold sqn
            have := sq_nonneg ((p0 - c0, p1 - c1).1 + (nrs (p0 - c0, p1 - c1) (vs.take k)).1)
            have := sq_nonneg ((p0 - c0, p1 - c1).2 + (nrs (p0 - c0, p1 - c1) (vs.take k)).2)
            omega
          exact ⟨fun h => if_pos (by omega), fun h => ⟨h0, if_neg (by omega)⟩⟩
      have HNX := Lib.hid hnx; have HSQ := Lib.hid hsq; clear hnx hsq hts hv'
      have HAd := Lib.hid (fun W => rAdd_any p0 p1 x y W (by omega) (by omega) (by omega) (by omega))
      have HSb := Lib.hid (fun W => rSub_any (p0 + x) (p1 + y) c0 c1 W (by omega) (by omega) (by omega) (by omega))
      have KS := Lib.hid (show ∀ w', Below wr.heap.size wr w' → (B2 w' w.heap.size (.int .i64 R) (.slice (some ⟨b, 0, none⟩) n c) ∧ B2 w' (w.heap.size + 1) (.int .i64 p0) (.int .i64 p1) ∧ w'.cell? ⟨b, k * 2, none⟩ = some (.int .i64 x) ∧ w'.cell? ⟨b, k * 2 + 1, none⟩ = some (.int .i64 y) ∧ Below wr.heap.size wr w') from fun w' hb => ⟨YS.below hb, YP.below hb, keep_cell hb hx, keep_cell hb hy, hb⟩)
      go_upto_region 6 with fail
      go_cut [10] (fun s10 w2 => ∃ h : Nat, s10 = .pointer (some ⟨h, 0, none⟩) ∧ w.heap.size + 4 < h ∧ B2 w2 h (.int .i64 (p0 + x)) (.int .i64 (p1 + y)) ∧ Below wr.heap.size wr w2)
      case first =>
        go_region_held3 (fun w' => B2 w' w.heap.size (.int .i64 R) (.slice (some ⟨b, 0, none⟩) n c) ∧ B2 w' (w.heap.size + 1) (.int .i64 p0) (.int .i64 p1) ∧ w'.cell? ⟨b, k * 2, none⟩ = some (.int .i64 x) ∧ w'.cell? ⟨b, k * 2 + 1, none⟩ = some (.int .i64 y) ∧ Below wr.heap.size wr w') (refine KS.out _ (by repeat (first | with_reducible exact Below.refl _ _ | with_reducible refine below_alloc ?_ _ | with_reducible refine Below.drew ?_ | with_reducible refine below_set ?_ (by (first | (simp; done) | (simp; omega))) _ | with_reducible refine below_step (by assumption) ?_)))
          (first | (go_at_call 34; refine (HAd.out _).mono ?_; rintro e w9 ⟨rfl, hb9⟩; obtain ⟨hc9, hf9, hx9, hy9, hn9, hz9⟩ := bcellA hb9; (try simp at hz9); (try have ltw9_0 : wr.heap.size < w9.heap.size := by omega); (try have lew9_0 : wr.heap.size ≤ w9.heap.size := by omega); (try have ltw9_1 : w.heap.size + 4 < w9.heap.size := by omega); (try have lew9_1 : w.heap.size + 4 ≤ w9.heap.size := by omega)))
        all_goals (rename _ ∧ _ ∧ _ ∧ _ ∧ Below wr.heap.size wr _ => hS; go_wp2_with fail; go_meet; exact ⟨_, rfl, by omega, by unfold B2 Cel; simp (maxDischargeDepth := 6) [go_sem, *], hS.2.2.2.2⟩)
      case rest =>
        rename World => w2
        obtain ⟨h, rfl, lh, XV, d2⟩ := hcut
        replace YS := YS.below d2; replace YP := YP.below d2; replace YC := YC.below d2; replace YR := YR.below d2; replace YB := YB.below d2
        have i2 : Below w.heap.size w w2 := ib.trans (d2.mono ib.size)
        clear KS hx hy d2 ib lYS lYP lYC lYR lYB
        have lYS := YS.lt; have lYP := YP.lt; have lYC := YC.lt; have lYR := YR.lt; have lYB := YB.lt; have lXV := XV.lt
        go_wp2_with fail
        refine (HSb.out _).mono ?_
        rintro e w3 ⟨rfl, hb3⟩; have d3 : Below w2.heap.size w2 w3 := below_step hb3 (by repeat (first | with_reducible exact Below.refl _ _ | with_reducible refine below_alloc ?_ _ | with_reducible refine Below.drew ?_ | with_reducible refine below_set ?_ (by (first | (simp; done) | (simp; omega))) _ | with_reducible refine below_step (by assumption) ?_)); have z3 := hb3.size; (try simp at z3); replace YS := YS.below d3; (try clear lYS); have lYS := YS.lt; replace YP := YP.below d3; (try clear lYP); have lYP := YP.lt; replace YC := YC.below d3; (try clear lYC); have lYC := YC.lt; replace YR := YR.below d3; (try clear lYR); have lYR := YR.lt; replace YB := YB.below d3; (try clear lYB); have lYB := YB.lt; replace XV := XV.below d3; (try clear lXV); have lXV := XV.lt
        have i3 : Below w.heap.size w w3 := i2.trans (d3.mono i2.size)
        have ne3 : w.heap.size + 4 ≠ w3.heap.size := by omega
        have ne4 : w.heap.size + 4 ≠ h := by omega
        go_upto_region 8 with fail
        refine code_named ?_; intro W4 hW; have dW4 : Below w3.heap.size w3 W4 := (by rw [hW]; exact (by repeat (first | with_reducible exact Below.refl _ _ | with_reducible refine below_alloc ?_ _ | with_reducible refine Below.drew ?_ | with_reducible refine below_set ?_ (by (first | (simp; done) | (simp; omega))) _ | with_reducible refine below_step (by assumption) ?_))); replace YS := YS.below dW4; (try clear lYS); have lYS := YS.lt; replace YP := YP.below dW4; (try clear lYP); have lYP := YP.lt; replace YC := YC.below dW4; (try clear lYC); have lYC := YC.lt; replace YR := YR.below dW4; (try clear lYR); have lYR := YR.lt; replace YB := YB.below dW4; (try clear lYB); have lYB := YB.lt; replace XV := XV.below dW4; (try clear lXV); have lXV := XV.lt
        have XD : B2 W4 w3.heap.size (.int .i64 (p0 + x - c0)) (.int .i64 (p1 + y - c1)) := (by rw [hW]; unfold B2 Cel; simp [go_sem])
        have lXD := XD.lt
        have i4 : Below w.heap.size w W4 := i3.trans (dW4.mono i3.size)
        clear hW hb3 d3 dW4 i2 i3 z3 HAd HSb
        generalize p0 + x - c0 = dx at *
        generalize p1 + y - c1 = dy at *
        by_cases k1 : lz < 0
        · have hn := HNX.out.1 (.inl k1)
          have HN := Lib.hid hn; clear hn HNX HST
          go_wp2_with fail
          go_roundg (gk - 1)
          case measure => omega
          case rel =>
            exact ⟨k + 1, _, p0 + x, p1 + y, by omega, by go_num, rfl, .inr ⟨by omega, by rw [HN.out]; exact HSQ.out.symm, by rw [HN.out], by rw [HN.out]⟩, (YS.far (by omega) _).far (by omega) _, (YP.far (by omega) _).far (by omega) _, (YC.far (by omega) _).far (by omega) _, (YR.far (by omega) _).far (by omega) _, (YB.set0 _).set1 _, (by repeat (first | with_reducible exact Below.refl _ _ | with_reducible refine below_alloc ?_ _ | with_reducible refine Below.drew ?_ | with_reducible refine below_set ?_ (by (first | (simp; done) | (simp; omega))) _ | with_reducible refine below_step (by assumption) ?_))⟩
        · by_cases k2 : dx * dx + dy * dy < lz
          · have hn := HNX.out.1 (.inr k2)
            have HN := Lib.hid hn; clear hn HNX HST
            go_wp2_with fail
            go_roundg (gk - 1)
            case measure => omega
            case rel =>
              exact ⟨k + 1, _, p0 + x, p1 + y, by omega, by go_num, rfl, .inr ⟨by omega, by rw [HN.out]; exact HSQ.out.symm, by rw [HN.out], by rw [HN.out]⟩, (YS.far (by omega) _).far (by omega) _, (YP.far (by omega) _).far (by omega) _, (YC.far (by omega) _).far (by omega) _, (YR.far (by omega) _).far (by omega) _, (YB.set0 _).set1 _, (by repeat (first | with_reducible exact Below.refl _ _ | with_reducible refine below_alloc ?_ _ | with_reducible refine Below.drew ?_ | with_reducible refine below_set ?_ (by (first | (simp; done) | (simp; omega))) _ | with_reducible refine below_step (by assumption) ?_))⟩
          · obtain ⟨hk0, hn⟩ := HNX.out.2 (by omega)
            have HN := Lib.hid hn; clear hn HNX
            go_wp2_with fail
            go_roundg (gk - 1)
            case measure => omega
            case rel =>
              refine ⟨k + 1, lz, m0, m1, by omega, by go_num, rfl, .inr ?_, YS, YP, YC, YR, YB, i4⟩
              rw [HN.out]
              rcases HST.out with ⟨h0, _⟩ | ⟨_, h1, h2, h3⟩
              · omega
              · exact ⟨by omega, h1, h2, h3⟩
    · have hkn : k = n := by omega
      subst hkn
      have ht : vs.take k = vs := List.take_of_length_le (by omega)
      have hm : m0 = p0 + (nrs (p0 - c0, p1 - c1) vs).1 ∧ m1 = p1 + (nrs (p0 - c0, p1 - c1) vs).2 := by
        rcases HST.out with ⟨h0, _⟩ | ⟨_, _, h2, h3⟩
        · omega
        · rw [ht] at h2 h3; exact ⟨h2, h3⟩
      obtain ⟨rfl, rfl⟩ := hm
      clear HST ht HNM
      have ne : w.heap.size + 3 ≠ w.heap.size + 4 := by omega
      go_wp2_with fail
      exact bodyPost_ret (v := .agg #[.int .i64 (p0 + (nrs (p0 - c0, p1 - c1) vs).1), .int .i64 (p1 + (nrs (p0 - c0, p1 - c1) vs).2)]) (by simp [results, Try.results77, go_sem, *]) rfl ⟨rfl, (by repeat (first | with_reducible exact Below.refl _ _ | with_reducible refine below_alloc ?_ _ | with_reducible refine Below.drew ?_ | with_reducible refine below_set ?_ (by (first | (simp; done) | (simp; omega))) _ | with_reducible refine below_step (by assumption) ?_))⟩
end Go.Proofs.Ytipcppbbpmdijaa
