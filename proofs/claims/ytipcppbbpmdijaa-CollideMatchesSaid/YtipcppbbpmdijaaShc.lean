/-
  What a shape covers: plain numbers, and what Contains of chapter 3's reference returns. Conditions: the numbers' bounds and the vertices in memory, as the theorems state.
-/
import Derived.Test.YtipcppbbpmdijaaShr
namespace Go.Proofs.Ytipcppbbpmdijaa
open Go.RowKit Go.Sort
attribute [local go_sem ↓] Go.wp_at_zero Go.wp_at_succ

/-- Vertex k; the side of edge k on which a point lies. -/
def vtx (vs : List V2) (k : Nat) : V2 := vs.getD k (0, 0)
def sid (vs : List V2) (d : V2) (k : Nat) : Int := lft (vtx vs k) (vtx vs ((k + 1) % vs.length)) d
/-- The shape covers the point d, relative to its position. -/
def cov (R : Int) (vs : List V2) (d : V2) : Bool := if vs = [] then decide (d.1 * d.1 + d.2 * d.2 ≤ R * R) else (List.range vs.length).all fun k => decide (0 ≤ sid vs d k)
theorem cov_poly {R : Int} {vs : List V2} {d : V2} (hv : vs ≠ []) : cov R vs d = true ↔ ∀ k, k < vs.length → 0 ≤ sid vs d k := by
  unfold cov
  rw [if_neg hv, List.all_eq_true]
  simp
theorem vtx_at {vs : List V2} {k : Nat} {v : V2} (h : vs[k]? = some v) : vtx vs k = v := by unfold vtx; rw [List.getD_eq_getElem?_getD, h]; rfl
theorem vtx_bd {R : Int} {vs : List V2} (hS : SN R vs) (k : Nat) : LB (vtx vs k) 32768 := by
  unfold vtx LB
  rw [List.getD_eq_getElem?_getD]
  cases h : vs[k]? with
  | none => simp
  | some v => exact hS.2.2 v (List.mem_of_getElem? h)
theorem next_of {k n : Nat} (hk : k < n) : ∃ m : Nat, m < n ∧ (k + 1) % n = m ∧ ((k : Int) + 1) % (n : Int) = (m : Int) ∧ ((k : Int) + 1).tmod (n : Int) = (m : Int) := by
  refine ⟨(k + 1) % n, Nat.mod_lt _ (by omega), rfl, ?_, ?_⟩
  · rw [← Int.natCast_one, ← Int.natCast_add, ← Int.natCast_emod]
  · rw [Int.tmod_eq_emod_of_nonneg (by omega), ← Int.natCast_one, ← Int.natCast_add, ← Int.natCast_emod]

theorem sq_bd {x : Int} (h : -268435456 ≤ x ∧ x ≤ 268435456) : 0 ≤ x * x ∧ x * x ≤ 72057594037927936 := by
  have := mul_bd (a := x) (b := x) (A := 268435456) (B := 268435456) h h
  have h0 : 0 ≤ x * x := by
    rcases Int.le_total 0 x with h | h
    · exact Int.mul_nonneg h h
    · exact Int.mul_nonneg_of_nonpos_of_nonpos h h
  omega

set_option maxHeartbeats 1000000 in
theorem rContains_circle (R px py qx qy : Int) (w : World) (hR : 0 ≤ R ∧ R ≤ 32768) (h1 : -67108864 ≤ px ∧ px ≤ 67108864) (h2 : -67108864 ≤ py ∧ py ≤ 67108864) (h3 : -134217728 ≤ qx ∧ qx ≤ 134217728) (h4 : -134217728 ≤ qy ∧ qy ≤ 134217728) :
    Calls Try.prog 39 #[.agg #[.int .i64 R, .slice none 0 0], .agg #[.int .i64 px, .int .i64 py], .agg #[.int .i64 qx, .int .i64 qy]] w fun e w' => e = .returned (.bool (decide ((qx - px) * (qx - px) + (qy - py) * (qy - py) ≤ R * R))) ∧ Below w.heap.size w w' := by
  have s1 := sq_bd (x := qx - px) (by omega)
  have s2 := sq_bd (x := qy - py) (by omega)
  have s3 := sq_bd (x := R) (by omega)
  go_enter Try.func39, Try.ntmps39
  go_wp2_with fail
  refine (rSub_any _ _ _ _ _ (by omega) (by omega) (by omega) (by omega)).mono ?_
  rintro e w1 ⟨rfl, hb1⟩; have d1 : Below w.heap.size w w1 := below_step hb1 (by repeat (first | with_reducible exact Below.refl _ _ | with_reducible refine below_alloc ?_ _ | with_reducible refine Below.drew ?_ | with_reducible refine below_set ?_ (by (first | (simp; done) | (simp; omega))) _ | with_reducible refine below_step (by assumption) ?_)); have z1 := hb1.size; (try simp at z1)
  have XS : B2 w1 w.heap.size (.int .i64 R) (.slice none 0 0) := B2.below (by unfold B2 Cel; simp [go_sem]) hb1
  have lS := XS.lt
  go_wp2_with fail
  go_ret
  exact ⟨rfl, (by repeat (first | with_reducible exact Below.refl _ _ | with_reducible refine below_alloc ?_ _ | with_reducible refine Below.drew ?_ | with_reducible refine below_set ?_ (by (first | (simp; done) | (simp; omega))) _ | with_reducible refine below_step (by assumption) ?_))⟩

set_option maxRecDepth 100000 in
set_option maxHeartbeats 4000000 in
theorem rContains_poly (R px py qx qy : Int) (A : Option Addr) (n c : Nat) (vs : List V2) (w : World) (hP : Pol w A n c vs) (hS : SN R vs) (hv : vs ≠ []) (h1 : -67108864 ≤ px ∧ px ≤ 67108864) (h2 : -67108864 ≤ py ∧ py ≤ 67108864) (h3 : -134217728 ≤ qx ∧ qx ≤ 134217728) (h4 : -134217728 ≤ qy ∧ qy ≤ 134217728) :
    Calls Try.prog 39 #[.agg #[.int .i64 R, .slice A n c], .agg #[.int .i64 px, .int .i64 py], .agg #[.int .i64 qx, .int .i64 qy]] w fun e w' => e = .returned (.bool (cov R vs (qx - px, qy - py))) ∧ Below w.heap.size w w' := by
  obtain ⟨b, rfl, hn, hl, hnc, hc, hbl, hcell⟩ := hP.at_ hv
  have HC := Lib.hid hcell; clear hcell
  have HV := Lib.hid (fun k => vtx_bd hS k)
  have hn0 : ((n : Int) == 0) = false := by simp; omega
  have CP := Lib.hid (cov_poly (R := R) (d := (qx - px, qy - py)) hv)
  have hd : LB (qx - px, qy - py) 268435456 := by unfold LB; dsimp only; omega
  go_enter Try.func39, Try.ntmps39
  go_wp2_with fail
  refine (rSub_any _ _ _ _ _ (by omega) (by omega) (by omega) (by omega)).mono ?_
  rintro e w1 ⟨rfl, hb1⟩; have d1 : Below w.heap.size w w1 := below_step hb1 (by repeat (first | with_reducible exact Below.refl _ _ | with_reducible refine below_alloc ?_ _ | with_reducible refine Below.drew ?_ | with_reducible refine below_set ?_ (by (first | (simp; done) | (simp; omega))) _ | with_reducible refine below_step (by assumption) ?_)); have z1 := hb1.size; (try simp at z1)
  have XS : B2 w1 w.heap.size (.int .i64 R) (.slice (some ⟨b, 0, none⟩) n c) := B2.below (by unfold B2 Cel; simp [go_sem]) hb1
  have lS := XS.lt
  clear hb1
  go_wp2_with fail
  refine code_named ?_; intro W1 hW; have dW1 : Below w1.heap.size w1 W1 := (by rw [hW]; exact (by repeat (first | with_reducible exact Below.refl _ _ | with_reducible refine below_alloc ?_ _ | with_reducible refine Below.drew ?_ | with_reducible refine below_set ?_ (by (first | (simp; done) | (simp; omega))) _ | with_reducible refine below_step (by assumption) ?_))); replace XS := XS.below dW1; (try clear lXS); have lXS := XS.lt
  have XD : B2 W1 (w1.heap.size) (.int .i64 (qx - px)) (.int .i64 (qy - py)) := (by rw [hW]; unfold B2 Cel; simp [go_sem]); have lXD := XD.lt
  have i1 : Below w.heap.size w W1 := (by repeat (first | with_reducible exact Below.refl _ _ | with_reducible refine below_alloc ?_ _ | with_reducible refine Below.drew ?_ | with_reducible refine below_set ?_ (by (first | (simp; done) | (simp; omega))) _ | with_reducible refine below_step (by assumption) ?_))
  clear hW dW1 d1 lS
  go_loopg [8] n (fun gk i wr => ∃ k : Nat, gk + k = n ∧ i = .int .i64 k ∧ (∀ j, j < k → 0 ≤ sid vs (qx - px, qy - py) j) ∧ B2 wr w.heap.size (.int .i64 R) (.slice (some ⟨b, 0, none⟩) n c) ∧ B2 wr w1.heap.size (.int .i64 (qx - px)) (.int .i64 (qy - py)) ∧ Below w.heap.size w wr)
  case atStart => exact ⟨0, by omega, rfl, fun j hj => by omega, XS, XD, i1⟩
  case round =>
    clear XS XD i1 lXS lXD
    obtain ⟨k, hk, rfl, hall, YS, YD, ib⟩ := hrel
    have HA := Lib.hid hall; clear hall
    by_cases hlt : k < n
    · obtain ⟨m, hm, hm1, hm2, hm3⟩ := next_of hlt
      obtain ⟨⟨x, y⟩, hv'⟩ : ∃ v, vs[k]? = some v := ⟨vs[k], List.getElem?_eq_getElem (by omega)⟩
      obtain ⟨⟨x', y'⟩, hv2⟩ : ∃ v, vs[m]? = some v := ⟨vs[m], List.getElem?_eq_getElem (by omega)⟩
      have kx := cell_regrown ((ib.cell (p := ⟨b, k * 2, none⟩) hbl).trans (HC.out k _ hv').1)
      have ky := cell_regrown ((ib.cell (p := ⟨b, k * 2 + 1, none⟩) hbl).trans (HC.out k _ hv').2)
      have kx' := cell_regrown ((ib.cell (p := ⟨b, m * 2, none⟩) hbl).trans (HC.out m _ hv2).1)
      have ky' := cell_regrown ((ib.cell (p := ⟨b, m * 2 + 1, none⟩) hbl).trans (HC.out m _ hv2).2)
      have e1 : sid vs (qx - px, qy - py) k = lft (x, y) (x', y') (qx - px, qy - py) := by unfold sid; rw [hl, hm1, vtx_at hv', vtx_at hv2]
      have b1 := HV.out k; rw [vtx_at hv'] at b1
      have b2 := HV.out m; rw [vtx_at hv2] at b2
      have E1 := Lib.hid e1; clear e1 hm1 hv' hv2
      have hk1 : (0 : Int) ≤ (k : Int) := by omega
      have hk2 : (k : Int) < (n : Int) := by omega
      have hj1 : (0 : Int) ≤ (m : Int) := by omega
      have hj2 : (m : Int) < (n : Int) := by omega
      have hwr : IntKind.i64.wrap ((k : Int) + 1) = (k : Int) + 1 := IntWalk.i64_in _ (by omega)
      dsimp only at kx ky kx' ky'
      by_cases hneg : lft (x, y) (x', y') (qx - px, qy - py) < 0
      · go_wp2_with fail
        have KYS := YS.re; have KYD := YD.re; refine wp_region_below (by kernel_rfl) (by kernel_rfl) ?_
        repeat (go_big_quiet_step ((go_at_call 69; exact met_below (rleft_any _ _ _ _ _ _ _ b1 b2 hd))))
        refine wpQuiet_nil ?_; intro w2 d2; clear KYS KYD; replace YS := YS.below d2; (try clear lYS); have lYS := YS.lt; replace YD := YD.below d2; (try clear lYD); have lYD := YD.lt
        clear kx ky kx' ky' hm2 hm3 hwr
        go_wp2_with fail
        go_ret
        have hf : cov R vs (qx - px, qy - py) = false := by
          cases h : cov R vs (qx - px, qy - py) with
          | false => rfl
          | true => have := CP.out.1 h k (by omega); rw [E1.out] at this; omega
        exact ⟨by rw [hf]; rfl, (by repeat (first | with_reducible exact Below.refl _ _ | with_reducible refine below_alloc ?_ _ | with_reducible refine Below.drew ?_ | with_reducible refine below_set ?_ (by (first | (simp; done) | (simp; omega))) _ | with_reducible refine below_step (by assumption) ?_))⟩
      · go_wp2_with fail
        have KYS := YS.re; have KYD := YD.re; refine wp_region_below (by kernel_rfl) (by kernel_rfl) ?_
        repeat (go_big_quiet_step ((go_at_call 69; exact met_below (rleft_any _ _ _ _ _ _ _ b1 b2 hd))))
        refine wpQuiet_nil ?_; intro w2 d2; clear KYS KYD; replace YS := YS.below d2; (try clear lYS); have lYS := YS.lt; replace YD := YD.below d2; (try clear lYD); have lYD := YD.lt
        clear kx ky kx' ky' hm2 hm3 hwr
        go_wp2_with fail
        go_roundg (n - (k + 1))
        case measure => omega
        case rel =>
          refine ⟨k + 1, by omega, by go_num, fun j hj => ?_, YS, YD, (by repeat (first | with_reducible exact Below.refl _ _ | with_reducible refine below_alloc ?_ _ | with_reducible refine Below.drew ?_ | with_reducible refine below_set ?_ (by (first | (simp; done) | (simp; omega))) _ | with_reducible refine below_step (by assumption) ?_))⟩
          rcases Nat.lt_or_ge j k with h | h
          · exact HA.out j h
          · obtain rfl : j = k := by omega
            rw [E1.out]; omega
    · have hkn : k = n := by omega
      subst hkn
      go_wp2_with fail
      go_ret
      exact ⟨by rw [CP.out.2 (fun j hj => HA.out j (by omega))]; rfl, ib⟩

theorem rContains_any (R px py qx qy : Int) (A : Option Addr) (n c : Nat) (vs : List V2) (w : World) (hP : Pol w A n c vs) (hS : SN R vs) (h1 : -67108864 ≤ px ∧ px ≤ 67108864) (h2 : -67108864 ≤ py ∧ py ≤ 67108864) (h3 : -134217728 ≤ qx ∧ qx ≤ 134217728) (h4 : -134217728 ≤ qy ∧ qy ≤ 134217728) :
    Calls Try.prog 39 #[.agg #[.int .i64 R, .slice A n c], .agg #[.int .i64 px, .int .i64 py], .agg #[.int .i64 qx, .int .i64 qy]] w fun e w' => e = .returned (.bool (cov R vs (qx - px, qy - py))) ∧ Below w.heap.size w w' := by
  by_cases hv : vs = []
  · obtain ⟨rfl, rfl, rfl⟩ := hP.nil hv
    subst hv
    exact rContains_circle R px py qx qy w hS.1 h1 h2 h3 h4
  · exact rContains_poly R px py qx qy A n c vs w hP hS hv h1 h2 h3 h4
end Go.Proofs.Ytipcppbbpmdijaa
