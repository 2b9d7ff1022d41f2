/-
  What chapter 5's law helper 'long' returns: true only if no edge is short. Conditions: the numbers' bounds and the vertices in memory, as the theorem states.
-/
import Derived.Test.YtipcppbbpmdijaaPla
import Derived.Test.YtipcppbbpmdijaaMee
namespace Go.Proofs.Ytipcppbbpmdijaa
open Go.RowKit Go.Sort
attribute [local go_sem ↓] Go.wp_at_zero Go.wp_at_succ

set_option maxRecDepth 100000 in
set_option maxHeartbeats 8000000 in
theorem long_any (R : Int) (A : Option Addr) (n c : Nat) (vs : List V2) (w : World) (hP : Pol w A n c vs) (hS : SN R vs) :
    Calls Try.prog 62 #[.agg #[.int .i64 R, .slice A n c]] w fun e w' => ∃ r : Bool, e = .returned (.bool r) ∧ (r = true → Lng vs) ∧ Below w.heap.size w w' := by
  by_cases hv : vs = []
  · obtain ⟨rfl, rfl, rfl⟩ := hP.nil hv
    subst hv
    go_enter Try.func62, Try.ntmps62
    go_wp2_with fail
    refine wp_loop_rounds 1 ?_
    rw [rounds_succ]
    go_wp2_with fail
    go_ret
    exact ⟨true, rfl, fun _ i hi => by simp at hi, (by repeat (first | with_reducible exact Below.refl _ _ | with_reducible refine below_alloc ?_ _ | with_reducible refine Below.drew ?_ | with_reducible refine below_set ?_ (by (first | (simp; done) | (simp; omega))) _ | with_reducible refine below_step (by assumption) ?_))⟩
  obtain ⟨b, rfl, hn, hl, hnc, hc, hbl, hcell⟩ := hP.at_ hv
  have HC := Lib.hid hcell; clear hcell
  have HV := Lib.hid (fun k => vtx_bd hS k)
  have hn0 : ((n : Int) == 0) = false := by simp; omega
  have hn2 : n ≠ 0 := by omega
  have hn3 : (n : Int) ≠ 0 := by omega
  clear hS hP
  go_enter Try.func62, Try.ntmps62
  go_wp2_with fail
  refine code_named ?_; intro W1 hW; have dW1 : Below w.heap.size w W1 := (by rw [hW]; exact (by repeat (first | with_reducible exact Below.refl _ _ | with_reducible refine below_alloc ?_ _ | with_reducible refine Below.drew ?_ | with_reducible refine below_set ?_ (by (first | (simp; done) | (simp; omega))) _ | with_reducible refine below_step (by assumption) ?_)))
  have XS : B2 W1 w.heap.size (.int .i64 R) (.slice (some ⟨b, 0, none⟩) n c) := (by rw [hW]; unfold B2 Cel; simp [go_sem])
  have lXS := XS.lt
  clear hW
  go_loopg [3] n (fun gk i wr => ∃ k : Nat, gk + k = n ∧ i = .int .i64 k ∧ (∀ j, j < k → 1024 ≤ (ednx vs j).1 ∨ (ednx vs j).1 ≤ -1024 ∨ 1024 ≤ (ednx vs j).2 ∨ (ednx vs j).2 ≤ -1024) ∧ B2 wr w.heap.size (.int .i64 R) (.slice (some ⟨b, 0, none⟩) n c) ∧ Below w.heap.size w wr)
  case atStart => exact ⟨0, by omega, rfl, fun j hj => by omega, XS, dW1⟩
  case round =>
    clear XS dW1 lXS
    obtain ⟨k, hk, rfl, hall, YS, ib⟩ := hrel
    have HA := Lib.hid hall; clear hall
    have lYS := YS.lt
    by_cases hlt : k < n
    · obtain ⟨m, hm, hm1, hm2, hm3⟩ := next_of hlt
      obtain ⟨⟨x, y⟩, hv'⟩ : ∃ v, vs[k]? = some v := ⟨vs[k], List.getElem?_eq_getElem (by omega)⟩
      obtain ⟨⟨x', y'⟩, hv2⟩ : ∃ v, vs[m]? = some v := ⟨vs[m], List.getElem?_eq_getElem (by omega)⟩
      have kx := (ib.cell (p := ⟨b, k * 2, none⟩) hbl).trans (HC.out k _ hv').1
      have ky := (ib.cell (p := ⟨b, k * 2 + 1, none⟩) hbl).trans (HC.out k _ hv').2
      have kx' := (ib.cell (p := ⟨b, m * 2, none⟩) hbl).trans (HC.out m _ hv2).1
      have ky' := (ib.cell (p := ⟨b, m * 2 + 1, none⟩) hbl).trans (HC.out m _ hv2).2
      have e1 : ednx vs k = (y' - y, x - x') := by unfold ednx; rw [hl, hm1, vtx_at hv', vtx_at hv2]
      have b1 := HV.out k; rw [vtx_at hv'] at b1
      have b2 := HV.out m; rw [vtx_at hv2] at b2
      have E1 := Lib.hid e1; clear e1 hm1 hv' hv2
      unfold LB at b1 b2
      have hk1 : (0 : Int) ≤ (k : Int) := by omega
      have hk2 : (k : Int) < (n : Int) := by omega
      have hj1 : (0 : Int) ≤ (m : Int) := by omega
      have hj2 : (m : Int) < (n : Int) := by omega
      have hwr : IntKind.i64.wrap ((k : Int) + 1) = (k : Int) + 1 := IntWalk.i64_in _ (by omega)
      dsimp only at kx ky kx' ky' b1 b2
      have HSB := Lib.hid (fun W => Sub_any x' y' x y W (by omega) (by omega) (by omega) (by omega))
      have KS := Lib.hid (show ∀ w', Below wr.heap.size wr w' → (B2 w' w.heap.size (.int .i64 R) (.slice (some ⟨b, 0, none⟩) n c) ∧ w'.cell? ⟨b, k * 2, none⟩ = some (.int .i64 x) ∧ w'.cell? ⟨b, k * 2 + 1, none⟩ = some (.int .i64 y) ∧ w'.cell? ⟨b, m * 2, none⟩ = some (.int .i64 x') ∧ w'.cell? ⟨b, m * 2 + 1, none⟩ = some (.int .i64 y') ∧ Below wr.heap.size wr w') from fun w' hb => ⟨YS.below hb, keep_cell hb kx, keep_cell hb ky, keep_cell hb kx', keep_cell hb ky', hb⟩)
      go_upto_region 4 with fail
      go_cut [4] (fun s4 w2 => ∃ h : Nat, s4 = .pointer (some ⟨h, 0, none⟩) ∧ w.heap.size < h ∧ B2 w2 h (.int .i64 (x' - x)) (.int .i64 (y' - y)) ∧ Below wr.heap.size wr w2)
      case first =>
        go_region_held3 (fun w' => B2 w' w.heap.size (.int .i64 R) (.slice (some ⟨b, 0, none⟩) n c) ∧ w'.cell? ⟨b, k * 2, none⟩ = some (.int .i64 x) ∧ w'.cell? ⟨b, k * 2 + 1, none⟩ = some (.int .i64 y) ∧ w'.cell? ⟨b, m * 2, none⟩ = some (.int .i64 x') ∧ w'.cell? ⟨b, m * 2 + 1, none⟩ = some (.int .i64 y') ∧ Below wr.heap.size wr w') (refine KS.out _ (by repeat (first | with_reducible exact Below.refl _ _ | with_reducible refine below_alloc ?_ _ | with_reducible refine Below.drew ?_ | with_reducible refine below_set ?_ (by (first | (simp; done) | (simp; omega))) _ | with_reducible refine below_step (by assumption) ?_)))
          (first | (go_at_call 48; refine (HSB.out _).mono ?_; rintro e w9 ⟨rfl, hb9⟩; obtain ⟨hc9, hf9, hx9, hy9, hn9, hz9⟩ := bcellA hb9; (try simp at hz9); (try have ltw9_0 : wr.heap.size < w9.heap.size := by omega); (try have lew9_0 : wr.heap.size ≤ w9.heap.size := by omega); (try have ltw9_1 : w.heap.size < w9.heap.size := by omega); (try have lew9_1 : w.heap.size ≤ w9.heap.size := by omega)))
        all_goals (rename _ ∧ _ ∧ _ ∧ _ ∧ _ ∧ Below wr.heap.size wr _ => hS; go_wp2_with fail; go_meet; exact ⟨_, rfl, by omega, by unfold B2 Cel; simp (maxDischargeDepth := 6) [go_sem, World.cell?_setCell_same', *], hS.2.2.2.2.2⟩)
      case rest =>
        rename World => w2
        obtain ⟨h, rfl, lh, XV, d2⟩ := hcut
        replace YS := YS.below d2
        have i2 : Below w.heap.size w w2 := ib.trans (d2.mono ib.size)
        clear KS HSB kx ky kx' ky' hm2 hm3 hwr lYS
        have lYS := YS.lt
        have ex : (ednx vs k).2 = -(x' - x) := by rw [E1.out]; dsimp only; omega
        have ey : (ednx vs k).1 = y' - y := by rw [E1.out]
        have bx : -65536 ≤ x' - x ∧ x' - x ≤ 65536 := by omega
        have bY : -65536 ≤ y' - y ∧ y' - y ≤ 65536 := by omega
        clear b1 b2 E1
        generalize x' - x = dx at *
        generalize y' - y = dy at *
        have EX := Lib.hid ex; have EY := Lib.hid ey; clear ex ey
        by_cases hsh : max (max dx (-dx)) (max dy (-dy)) < 1024
        · go_wp2_with fail
          go_ret
          exact ⟨false, rfl, (fun h => by cases h), i2⟩
        · go_wp2_with fail
          go_roundg (n - (k + 1))
          case measure => omega
          case rel =>
            refine ⟨k + 1, by omega, by go_num, fun j hj => ?_, YS, i2⟩
            rcases Nat.lt_or_ge j k with h | h
            · exact HA.out j h
            · obtain rfl : j = k := by omega
              rw [EX.out, EY.out]; omega
    · have hkn : k = n := by omega
      subst hkn
      go_wp2_with fail
      go_ret
      exact ⟨true, rfl, fun _ i hi => HA.out i (by omega), ib⟩
end Go.Proofs.Ytipcppbbpmdijaa
