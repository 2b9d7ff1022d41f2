/-
  What the small functions of package collide return: unit vectors, the nearest vertex, the axis between two shapes, depths, overlaps. Conditions: the numbers' bounds and the vertices in memory, as the theorems state.
-/
import Derived.Test.YtipcppbbpmdijaaShs
import Derived.Test.YtipcppbbpmdijaaCol
namespace Go.Proofs.Ytipcppbbpmdijaa
open Go.RowKit Go.Sort
attribute [local go_sem ↓] Go.wp_at_zero Go.wp_at_succ

theorem isNaN_any (a : Int) (w : World) : Calls Try.prog 109 #[.int .i64 a] w fun e w' => e = .returned (.bool false) ∧ w = w' := by
  go_enter Try.func109, Try.ntmps109
  go_wp2_with fail
  go_ret
  exact ⟨by simp, rfl⟩
def cmpz (a b : Int) : Int := if a < b then -1 else if b < a then 1 else 0
theorem Compare_any (a b : Int) (w : World) : Calls Try.prog 107 #[.int .i64 a, .int .i64 b] w fun e w' => e = .returned (.int .i64 (cmpz a b)) ∧ w = w' := by
  by_cases h1 : a < b
  · have e : cmpz a b = -1 := by unfold cmpz; rw [if_pos h1]
    rw [e]
    go_enter Try.func107, Try.ntmps107
    go_wp2_with (go_at_call 109; refine (isNaN_any _ _).mono ?_; rintro e w' ⟨rfl, rfl⟩)
    go_ret
    exact ⟨rfl, rfl⟩
  · by_cases h2 : b < a
    · have e : cmpz a b = 1 := by unfold cmpz; rw [if_neg h1, if_pos h2]
      rw [e]
      go_enter Try.func107, Try.ntmps107
      go_wp2_with (go_at_call 109; refine (isNaN_any _ _).mono ?_; rintro e w' ⟨rfl, rfl⟩)
      go_ret
      exact ⟨rfl, rfl⟩
    · have e : cmpz a b = 0 := by unfold cmpz; rw [if_neg h1, if_neg h2]
      rw [e]
      go_enter Try.func107, Try.ntmps107
      go_wp2_with (go_at_call 109; refine (isNaN_any _ _).mono ?_; rintro e w' ⟨rfl, rfl⟩)
      go_ret
      exact ⟨rfl, rfl⟩
theorem cmpz_neg (a b : Int) : cmpz a b < 0 ↔ a < b := by unfold cmpz; split <;> (try split) <;> omega
theorem cmpz_bd (a b : Int) : -1 ≤ cmpz a b ∧ cmpz a b ≤ 1 := by unfold cmpz; split <;> (try split) <;> omega

theorem sqn_bd {d u : V2} (h1 : LB d 134217728) (h2 : LB u 32768) : (0 ≤ (d.1 + u.1) * (d.1 + u.1) ∧ (d.1 + u.1) * (d.1 + u.1) ≤ 72057594037927936) ∧ (0 ≤ (d.2 + u.2) * (d.2 + u.2) ∧ (d.2 + u.2) * (d.2 + u.2) ≤ 72057594037927936) := by
  unfold LB at *
  exact ⟨sq_bd (by omega), sq_bd (by omega)⟩
theorem key_any (d0 d1 u0 u1 : Int) (g : Nat) (w : World) (hg : B2 w g (.int .i64 d0) (.int .i64 d1)) (h1 : LB (d0, d1) 134217728) (h2 : LB (u0, u1) 32768) :
    Calls Try.prog 102 #[.agg #[.int .i64 u0, .int .i64 u1], .pointer (some ⟨g, 0, none⟩)] w fun e w' => e = .returned (.int .i64 (sqn (d0, d1) (u0, u1))) ∧ Below w.heap.size w w' := by
  obtain ⟨q1, q2⟩ := sqn_bd h1 h2
  unfold LB at h1 h2
  unfold sqn
  dsimp only at *
  have lg := hg.lt
  go_enter Try.func102, Try.ntmps102
  go_wp2_with fail
  refine (Add_any _ _ _ _ _ (by omega) (by omega) (by omega) (by omega)).mono ?_
  rintro e w1 ⟨rfl, hb1⟩; have d1 : Below w.heap.size w w1 := below_step hb1 (by repeat (first | with_reducible exact Below.refl _ _ | with_reducible refine below_alloc ?_ _ | with_reducible refine Below.drew ?_ | with_reducible refine below_set ?_ (by (first | (simp; done) | (simp; omega))) _ | with_reducible refine below_step (by assumption) ?_)); have z1 := hb1.size; (try simp at z1)
  go_wp2_with fail
  go_ret
  exact ⟨rfl, (by repeat (first | with_reducible exact Below.refl _ _ | with_reducible refine below_alloc ?_ _ | with_reducible refine Below.drew ?_ | with_reducible refine below_set ?_ (by (first | (simp; done) | (simp; omega))) _ | with_reducible refine below_step (by assumption) ?_))⟩

/-- The function value that 'toNearest' hands to 'least'. -/
abbrev keyF (g : Nat) : Value := .func (.func 102) #[] #[.pointer (some ⟨g, 0, none⟩)]
set_option maxRecDepth 100000 in
set_option maxHeartbeats 2000000 in
theorem cmpF_any (d0 d1 a0 a1 b0 b1 : Int) (g K : Nat) (w : World) (hg : B2 w g (.int .i64 d0) (.int .i64 d1)) (hK : B1 w K (keyF g)) (h1 : LB (d0, d1) 134217728) (h2 : LB (a0, a1) 32768) (h3 : LB (b0, b1) 32768) :
    Calls Try.prog 106 #[.agg #[.int .i64 a0, .int .i64 a1], .agg #[.int .i64 b0, .int .i64 b1], .pointer (some ⟨K, 0, none⟩)] w fun e w' => e = .returned (.int .i64 (cmpz (sqn (d0, d1) (a0, a1)) (sqn (d0, d1) (b0, b1)))) ∧ Below w.heap.size w w' := by
  have lg := hg.lt
  have lK := B1.lt hK
  have HK1 := Lib.hid (fun u0 u1 W hg h2 => key_any d0 d1 u0 u1 g W hg h1 h2)
  go_enter Try.func106, Try.ntmps106
  go_wp2_with fail
  refine code_named ?_; intro W0 hW; have dW0 : Below w.heap.size w W0 := (by rw [hW]; exact (by repeat (first | with_reducible exact Below.refl _ _ | with_reducible refine below_alloc ?_ _ | with_reducible refine Below.drew ?_ | with_reducible refine below_set ?_ (by (first | (simp; done) | (simp; omega))) _ | with_reducible refine below_step (by assumption) ?_)))
  have XK : B1 W0 K (keyF g) := B1.below hK dW0
  have XG := B2.below hg dW0
  have XA : B2 W0 (w.heap.size) (.int .i64 (a0)) (.int .i64 (a1)) := (by rw [hW]; unfold B2 Cel; simp [go_sem]); have lXA := XA.lt
  have XB : B2 W0 (w.heap.size + 1) (.int .i64 (b0)) (.int .i64 (b1)) := (by rw [hW]; unfold B2 Cel; simp [go_sem]); have lXB := XB.lt
  clear hW hK hg
  have hGC := Lib.hid (fun (d : Nat) (os : Array Obj) => XG.re d os)
  have KXK := XK.re; have KXA := XA.re; have KXB := XB.re; refine wp_region_below (by kernel_rfl) (by kernel_rfl) ?_
  repeat (go_big_quiet_step (first
    | (go_at_call 102; first | (with_reducible exact met_below (HK1.out a0 a1 _ (hGC.out _ _) h2)) | (with_reducible exact met_below (HK1.out b0 b1 _ (hGC.out _ _) h3)))
    | (go_at_call 107; exact met_same (Compare_any _ _ _))))
  refine wpQuiet_nil ?_; intro w1 d1
  go_wp2_with fail
  go_ret
  exact ⟨rfl, (by repeat (first | with_reducible exact Below.refl _ _ | with_reducible refine below_alloc ?_ _ | with_reducible refine Below.drew ?_ | with_reducible refine below_set ?_ (by (first | (simp; done) | (simp; omega))) _ | with_reducible refine below_step (by assumption) ?_))⟩

abbrev cmpF (K : Nat) : Value := .func (.func 106) #[] #[.pointer (some ⟨K, 0, none⟩)]
set_option maxRecDepth 100000 in
set_option maxHeartbeats 2000000 in
theorem MinFunc_any (d0 d1 : Int) (g K b n c : Nat) (vs : List V2) (w : World) (hP : Pol w (some ⟨b, 0, none⟩) n c vs) (hv : vs ≠ []) (hL : ∀ v ∈ vs, LB v 32768) (hg : B2 w g (.int .i64 d0) (.int .i64 d1)) (hK : B1 w K (keyF g)) (h1 : LB (d0, d1) 134217728) :
    Calls Try.prog 105 #[.slice (some ⟨b, 0, none⟩) n c, cmpF K] w fun e w' => e = .returned (.agg #[.int .i64 (nrs (d0, d1) vs).1, .int .i64 (nrs (d0, d1) vs).2]) ∧ Below w.heap.size w w' := by
  obtain ⟨b', hbb, hn, hl, hnc, hc, hbl, hcell⟩ := hP.at_ hv
  obtain rfl : b = b' := by simpa using hbb
  clear hbb hP
  have HC := Lib.hid hcell; clear hcell
  have HV := Lib.hid hv; clear hv
  have HLB := Lib.hid hL; clear hL
  have HLEN := Lib.hid hl; clear hl
  have HCF := Lib.hid (fun a0 a1 b0 b1 W hg hK h2 h3 => cmpF_any d0 d1 a0 a1 b0 b1 g K W hg hK h1 h2 h3)
  clear h1
  obtain ⟨⟨x0, y0⟩, hv0⟩ : ∃ v, vs[0]? = some v := ⟨_, List.getElem?_eq_getElem (by have := HLEN.out; omega)⟩
  obtain ⟨cx0, cy0⟩ := HC.out 0 _ hv0
  rw [Nat.zero_mul] at cx0 cy0
  rw [Nat.zero_add] at cy0
  dsimp only at cx0 cy0
  have HV0 := Lib.hid hv0; clear hv0
  have hn1 : (1 : Int) ≤ (n : Int) := by omega
  have hn2 : (0 : Int) < (n : Int) := by omega
  go_enter Try.func105, Try.ntmps105
  go_wp2_with fail
  refine code_named ?_; intro W0 hW; have dW0 : Below w.heap.size w W0 := (by rw [hW]; exact (by repeat (first | with_reducible exact Below.refl _ _ | with_reducible refine below_alloc ?_ _ | with_reducible refine Below.drew ?_ | with_reducible refine below_set ?_ (by (first | (simp; done) | (simp; omega))) _ | with_reducible refine below_step (by assumption) ?_)))
  have XR : B2 W0 w.heap.size (.int .i64 0) (.int .i64 0) := (by rw [hW]; unfold B2 Cel; simp [go_sem])
  have XM : B2 W0 (w.heap.size + 1) (.int .i64 x0) (.int .i64 y0) := (by rw [hW]; unfold B2 Cel; simp [go_sem])
  have hsz : W0.heap.size = w.heap.size + 2 := by rw [hW]; simp
  have HSZ := Lib.hid hsz; clear hsz
  clear hW cx0 cy0
  have HG := Lib.hid hg; clear hg
  have HK := Lib.hid hK; clear hK
  go_loopg [6] (n - 1) (fun gk i wr => ∃ k : Nat, gk + k = n ∧ 1 ≤ k ∧ i = .int .i64 k ∧ B2 wr (w.heap.size + 1) (.int .i64 (nrs (d0, d1) (vs.take k)).1) (.int .i64 (nrs (d0, d1) (vs.take k)).2) ∧ B2 wr w.heap.size (.int .i64 0) (.int .i64 0) ∧ Below w.heap.size w wr)
  case atStart =>
    refine ⟨1, by omega, by omega, rfl, ?_, XR, dW0⟩
    have e : vs.take (0 + 1) = [(x0, y0)] := by rw [take_snoc' vs 0 HV0.out]; rfl
    rw [show (1 : Nat) = 0 + 1 from rfl, e]
    exact XM
  case round =>
    clear XR XM dW0
    obtain ⟨k, hk, hk0, rfl, YM, YR, ib⟩ := hrel
    by_cases hlt : k < n
    · obtain ⟨⟨x, y⟩, hv'⟩ : ∃ v, vs[k]? = some v := ⟨_, List.getElem?_eq_getElem (by have := HLEN.out; omega)⟩
      have hx := (ib.cell (p := ⟨b, k * 2, none⟩) hbl).trans (HC.out k _ hv').1
      have hy := (ib.cell (p := ⟨b, k * 2 + 1, none⟩) hbl).trans (HC.out k _ hv').2
      have hne : vs.take k ≠ [] := by intro h; have := congrArg List.length h; rw [List.length_take, List.length_nil] at this; have := HLEN.out; omega
      have hm := HLB.out _ (List.mem_of_mem_take (nrs_mem (d0, d1) hne))
      have hE := nrs_snoc (d0, d1) hne (x, y)
      rw [← take_snoc' vs k hv'] at hE
      have hb' := HLB.out _ (List.mem_of_getElem? hv')
      generalize hmm : nrs (d0, d1) (vs.take k) = mm at *
      obtain ⟨m0, m1⟩ := mm
      have HE := Lib.hid hE; clear hE hmm hne hv'
      dsimp only at hx hy YM
      have hCC := Lib.hid (fun W hg hK => HCF.out x y m0 m1 W hg hK hb' hm)
      have hcz := cmpz_neg (sqn (d0, d1) (x, y)) (sqn (d0, d1) (m0, m1))
      generalize cmpz (sqn (d0, d1) (x, y)) (sqn (d0, d1) (m0, m1)) = z at *
      have kx := cell_regrown hx
      have ky := cell_regrown hy
      have lb : b < wr.heap.size := World.block_lt_of_cell? wr _ hx
      have hk1 : (0 : Int) ≤ (k : Int) := by omega
      have hk2 : (k : Int) < (n : Int) := by omega
      have hGC := Lib.hid (fun (d : Nat) (os : Array Obj) => (HG.out.below ib).re d os)
      have hKC := Lib.hid (fun (d : Nat) (os : Array Obj) => B1.re (B1.below HK.out ib) d os)
      by_cases hlt2 : sqn (d0, d1) (x, y) < sqn (d0, d1) (m0, m1)
      · have hz : z < 0 := hcz.2 hlt2
        have HLT := Lib.hid hlt2
        clear hcz hlt2
        go_wp2_with fail
        have KYM := YM.re; refine wp_region_below (by kernel_rfl) (by kernel_rfl) ?_
        repeat (go_big_quiet_step (first | (go_at_call 106; exact met_below (hCC.out _ (hGC.out _ _) (hKC.out _ _)))))
        refine wpQuiet_nil ?_
        intro w2 d2
        clear kx ky KYM
        have gx := keep_cell d2 hx
        have gy := keep_cell d2 hy
        replace YM := YM.below d2; replace YR := YR.below d2
        have lM := YM.lt
        have ib2 : Below w.heap.size w w2 := (by repeat (first | with_reducible exact Below.refl _ _ | with_reducible refine below_alloc ?_ _ | with_reducible refine Below.drew ?_ | with_reducible refine below_set ?_ (by (first | (simp; done) | (simp; omega))) _ | with_reducible refine below_step (by assumption) ?_))
        clear hx hy ib hGC hKC hCC
        go_wp2_with fail
        go_roundg (n - (k + 1))
        case measure => omega
        case rel =>
          refine ⟨k + 1, by omega, by omega, by go_num, ?_, (YR.far (by omega) _).far (by omega) _, (by repeat (first | with_reducible exact Below.refl _ _ | with_reducible refine below_alloc ?_ _ | with_reducible refine Below.drew ?_ | with_reducible refine below_set ?_ (by (first | (simp; done) | (simp; omega))) _ | with_reducible refine below_step (by assumption) ?_))⟩
          rw [HE.out, if_pos HLT.out]
          exact (YM.set0 _).set1 _
      · have hz : ¬ z < 0 := fun h => hlt2 (hcz.1 h)
        have HLT := Lib.hid hlt2
        clear hcz hlt2
        go_wp2_with fail
        have KYM := YM.re; refine wp_region_below (by kernel_rfl) (by kernel_rfl) ?_
        repeat (go_big_quiet_step (first | (go_at_call 106; exact met_below (hCC.out _ (hGC.out _ _) (hKC.out _ _)))))
        refine wpQuiet_nil ?_
        intro w2 d2
        clear kx ky KYM
        replace YM := YM.below d2; replace YR := YR.below d2
        have lM := YM.lt
        have ib2 : Below w.heap.size w w2 := (by repeat (first | with_reducible exact Below.refl _ _ | with_reducible refine below_alloc ?_ _ | with_reducible refine Below.drew ?_ | with_reducible refine below_set ?_ (by (first | (simp; done) | (simp; omega))) _ | with_reducible refine below_step (by assumption) ?_))
        clear hx hy ib hGC hKC hCC
        go_wp2_with fail
        go_roundg (n - (k + 1))
        case measure => omega
        case rel =>
          refine ⟨k + 1, by omega, by omega, by go_num, ?_, YR, (by repeat (first | with_reducible exact Below.refl _ _ | with_reducible refine below_alloc ?_ _ | with_reducible refine Below.drew ?_ | with_reducible refine below_set ?_ (by (first | (simp; done) | (simp; omega))) _ | with_reducible refine below_step (by assumption) ?_))⟩
          rw [HE.out, if_neg (Int.not_lt.2 HLT.out)]
          exact YM
    · obtain rfl : k = n := by omega
      have ht : vs.take k = vs := List.take_of_length_le (by have := HLEN.out; omega)
      rw [ht] at YM
      generalize hm : nrs (d0, d1) vs = m at YM
      have HM := Lib.hid hm
      clear ht hm
      have lM := YM.lt
      have lR := YR.lt
      go_wp2_with fail
      exact bodyPost_ret (v := .agg #[.int .i64 m.1, .int .i64 m.2]) (by simp [results, Try.results105, go_sem, YR.1.1, YR.2.1]) rfl ⟨by rw [HM.out], (by repeat (first | with_reducible exact Below.refl _ _ | with_reducible refine below_alloc ?_ _ | with_reducible refine Below.drew ?_ | with_reducible refine below_set ?_ (by (first | (simp; done) | (simp; omega))) _ | with_reducible refine below_step (by assumption) ?_))⟩

theorem least_any (d0 d1 : Int) (g b n c : Nat) (vs : List V2) (w : World) (hP : Pol w (some ⟨b, 0, none⟩) n c vs) (hv : vs ≠ []) (hL : ∀ v ∈ vs, LB v 32768) (hg : B2 w g (.int .i64 d0) (.int .i64 d1)) (h1 : LB (d0, d1) 134217728) :
    Calls Try.prog 101 #[.slice (some ⟨b, 0, none⟩) n c, keyF g] w fun e w' => e = .returned (.agg #[.int .i64 (nrs (d0, d1) vs).1, .int .i64 (nrs (d0, d1) vs).2]) ∧ Below w.heap.size w w' := by
  have HM := Lib.hid (fun K W P hg hK => MinFunc_any d0 d1 g K b n c vs W P hv hL hg hK h1)
  generalize nrs (d0, d1) vs = m at *
  clear hv hL h1
  go_enter Try.func101, Try.ntmps101
  go_wp2_with fail
  refine calls_at ?_; intro W0 hW; have dW0 : Below w.heap.size w W0 := (by rw [hW]; exact (by repeat (first | with_reducible exact Below.refl _ _ | with_reducible refine below_alloc ?_ _ | with_reducible refine Below.drew ?_ | with_reducible refine below_set ?_ (by (first | (simp; done) | (simp; omega))) _ | with_reducible refine below_step (by assumption) ?_)))
  have XK : B1 W0 w.heap.size (keyF g) := (by rw [hW]; unfold B1 Cel; simp [go_sem])
  have XR : B2 W0 (w.heap.size + 1) (.int .i64 0) (.int .i64 0) := (by rw [hW]; unfold B2 Cel; simp [go_sem])
  clear hW
  refine (HM.out _ _ (hP.below dW0) (hg.below dW0) XK).mono ?_
  rintro e w1 ⟨rfl, hb1⟩; have d1 : Below W0.heap.size W0 w1 := below_step hb1 (by repeat (first | with_reducible exact Below.refl _ _ | with_reducible refine below_alloc ?_ _ | with_reducible refine Below.drew ?_ | with_reducible refine below_set ?_ (by (first | (simp; done) | (simp; omega))) _ | with_reducible refine below_step (by assumption) ?_)); have z1 := hb1.size; (try simp at z1); replace XR := XR.below d1; (try clear lXR); have lXR := XR.lt
  go_wp2_with fail
  exact bodyPost_ret (v := .agg #[.int .i64 m.1, .int .i64 m.2]) (by simp [results, Try.results101, go_sem, XR.1.1, XR.2.1]) rfl ⟨rfl, (by repeat (first | with_reducible exact Below.refl _ _ | with_reducible refine below_alloc ?_ _ | with_reducible refine Below.drew ?_ | with_reducible refine below_set ?_ (by (first | (simp; done) | (simp; omega))) _ | with_reducible refine below_step (by assumption) ?_))⟩

set_option maxRecDepth 100000 in
set_option maxHeartbeats 2000000 in
theorem toNearest_any (R px py fx fy : Int) (b n c : Nat) (vs : List V2) (w : World) (hP : Pol w (some ⟨b, 0, none⟩) n c vs) (hv : vs ≠ []) (hS : SN R vs) (h1 : -67108864 ≤ px ∧ px ≤ 67108864) (h2 : -67108864 ≤ py ∧ py ≤ 67108864) (h3 : -67108864 ≤ fx ∧ fx ≤ 67108864) (h4 : -67108864 ≤ fy ∧ fy ≤ 67108864) :
    Calls Try.prog 98 #[.agg #[.int .i64 R, .slice (some ⟨b, 0, none⟩) n c], .agg #[.int .i64 px, .int .i64 py], .agg #[.int .i64 fx, .int .i64 fy]] w fun e w' =>
      e = .returned (.agg #[.int .i64 (px - fx + (nrs (px - fx, py - fy) vs).1), .int .i64 (py - fy + (nrs (px - fx, py - fy) vs).2)]) ∧ Below w.heap.size w w' := by
  have HM := Lib.hid (fun g W P hg => least_any (px - fx) (py - fy) g b n c vs W P hv hS.2.2 hg (by unfold LB; dsimp only; omega))
  have hm := hS.2.2 _ (nrs_mem (px - fx, py - fy) hv)
  generalize nrs (px - fx, py - fy) vs = m at *
  obtain ⟨m0, m1⟩ := m
  dsimp only at hm ⊢
  clear hv hS
  go_enter Try.func98, Try.ntmps98
  go_wp2_with fail
  refine calls_at ?_; intro W0 hW; have dW0 : Below w.heap.size w W0 := (by rw [hW]; exact (by repeat (first | with_reducible exact Below.refl _ _ | with_reducible refine below_alloc ?_ _ | with_reducible refine Below.drew ?_ | with_reducible refine below_set ?_ (by (first | (simp; done) | (simp; omega))) _ | with_reducible refine below_step (by assumption) ?_)))
  have XS : B2 W0 w.heap.size (.int .i64 R) (.slice (some ⟨b, 0, none⟩) n c) := (by rw [hW]; unfold B2 Cel; simp [go_sem])
  have XR : B2 W0 (w.heap.size + 1 + 1 + 1) (.int .i64 0) (.int .i64 0) := (by rw [hW]; unfold B2 Cel; simp [go_sem])
  have P := hP.below dW0
  clear hW hP
  refine (Sub_any _ _ _ _ _ (by omega) (by omega) (by omega) (by omega)).mono ?_
  rintro e w1 ⟨rfl, hb1⟩; have d1 : Below W0.heap.size W0 w1 := below_step hb1 (by repeat (first | with_reducible exact Below.refl _ _ | with_reducible refine below_alloc ?_ _ | with_reducible refine Below.drew ?_ | with_reducible refine below_set ?_ (by (first | (simp; done) | (simp; omega))) _ | with_reducible refine below_step (by assumption) ?_)); have z1 := hb1.size; (try simp at z1); replace P := P.below d1; (try clear lP); have lP := P.lt; replace XS := XS.below d1; (try clear lXS); have lXS := XS.lt; replace XR := XR.below d1; (try clear lXR); have lXR := XR.lt
  go_wp2_with fail
  refine code_named ?_; intro W2 hW; have dW2 : Below w1.heap.size w1 W2 := (by rw [hW]; exact (by repeat (first | with_reducible exact Below.refl _ _ | with_reducible refine below_alloc ?_ _ | with_reducible refine Below.drew ?_ | with_reducible refine below_set ?_ (by (first | (simp; done) | (simp; omega))) _ | with_reducible refine below_step (by assumption) ?_))); replace P := P.below dW2; (try clear lP); have lP := P.lt; replace XS := XS.below dW2; (try clear lXS); have lXS := XS.lt; replace XR := XR.below dW2; (try clear lXR); have lXR := XR.lt
  have XD : B2 W2 (w1.heap.size) (.int .i64 (px - fx)) (.int .i64 (py - fy)) := (by rw [hW]; unfold B2 Cel; simp [go_sem]); have lXD := XD.lt
  have i2 : Below w.heap.size w W2 := (by repeat (first | with_reducible exact Below.refl _ _ | with_reducible refine below_alloc ?_ _ | with_reducible refine Below.drew ?_ | with_reducible refine below_set ?_ (by (first | (simp; done) | (simp; omega))) _ | with_reducible refine below_step (by assumption) ?_))
  clear hW
  have hPC := Lib.hid (fun (d : Nat) (os : Array Obj) => P.re d os)
  have hDC := Lib.hid (fun (d : Nat) (os : Array Obj) => XD.re d os)
  have KXS := XS.re; have KXR := XR.re; have KXD := XD.re; refine wp_region_last 6 (by kernel_rfl) (by kernel_rfl) ?_; simp only [List.take_succ_cons, List.take_zero, List.drop_succ_cons, List.drop_zero]
  repeat (go_big_quiet_step (first
    | (go_at_call 101; exact met_below (HM.out _ _ (hPC.out _ _) (hDC.out _ _)))
    | (go_at_call 30; exact met_below (Add_any _ _ _ _ _ (by omega) (by omega) (by omega) (by omega)))))
  refine wpQuiet_nil ?_; intro w3 d3; clear KXR; replace XR := XR.below d3; (try clear lXR); have lXR := XR.lt
  clear KXS KXD hPC hDC XS XD
  go_wp2_with fail
  exact bodyPost_ret (v := .agg #[.int .i64 (px - fx + m0), .int .i64 (py - fy + m1)]) (by simp [results, Try.results98, go_sem, XR.1.1, XR.2.1]) rfl ⟨rfl, (by repeat (first | with_reducible exact Below.refl _ _ | with_reducible refine below_alloc ?_ _ | with_reducible refine Below.drew ?_ | with_reducible refine below_set ?_ (by (first | (simp; done) | (simp; omega))) _ | with_reducible refine below_step (by assumption) ?_))⟩

theorem unit_any (x y : Int) (w : World) (h1 : -1073741824 ≤ x) (h2 : x ≤ 1073741824) (h3 : -1073741824 ≤ y) (h4 : y ≤ 1073741824) :
    Calls Try.prog 91 #[.agg #[.int .i64 x, .int .i64 y]] w fun e w' => e = .returned (.agg #[.int .i64 (unt (x, y)).1, .int .i64 (unt (x, y)).2]) ∧ Below w.heap.size w w' := by
  by_cases h0 : x = 0 ∧ y = 0
  · have e : unt (x, y) = (1024, 0) := by unfold unt; exact if_pos h0
    obtain ⟨rfl, rfl⟩ := h0
    rw [e]
    go_enter Try.func91, Try.ntmps91
    go_wp2_with fail
    exact bodyPost_ret (v := .agg #[.int .i64 1024, .int .i64 0]) (by simp [results, Try.results91, go_sem]) rfl ⟨rfl, (by repeat (first | with_reducible exact Below.refl _ _ | with_reducible refine below_alloc ?_ _ | with_reducible refine Below.drew ?_ | with_reducible refine below_set ?_ (by (first | (simp; done) | (simp; omega))) _ | with_reducible refine below_step (by assumption) ?_))⟩
  · have e : unt (x, y) = (mdv x 1024 (lnz x y), mdv y 1024 (lnz x y)) := by unfold unt; exact if_neg h0
    rw [e]
    dsimp only
    have HN := Lib.hid (fun W => Normalize_any x y W h1 h2 h3 h4)
    generalize mdv x 1024 (lnz x y) = a at *
    generalize mdv y 1024 (lnz x y) = b at *
    clear e
    by_cases hx : x = 0
    · subst hx
      have hy : ¬ y = 0 := fun h => h0 ⟨rfl, h⟩
      clear h0
      go_enter Try.func91, Try.ntmps91
      go_wp2_with fail
      refine calls_at ?_; intro W0 hW; have dW0 : Below w.heap.size w W0 := (by rw [hW]; exact (by repeat (first | with_reducible exact Below.refl _ _ | with_reducible refine below_alloc ?_ _ | with_reducible refine Below.drew ?_ | with_reducible refine below_set ?_ (by (first | (simp; done) | (simp; omega))) _ | with_reducible refine below_step (by assumption) ?_)))
      have XR : B2 W0 (w.heap.size + 1) (.int .i64 0) (.int .i64 0) := (by rw [hW]; unfold B2 Cel; simp [go_sem])
      clear hW
      refine (HN.out _).mono ?_
      rintro e w1 ⟨rfl, hb1⟩; have d1 : Below W0.heap.size W0 w1 := below_step hb1 (by repeat (first | with_reducible exact Below.refl _ _ | with_reducible refine below_alloc ?_ _ | with_reducible refine Below.drew ?_ | with_reducible refine below_set ?_ (by (first | (simp; done) | (simp; omega))) _ | with_reducible refine below_step (by assumption) ?_)); have z1 := hb1.size; (try simp at z1); replace XR := XR.below d1; (try clear lXR); have lXR := XR.lt
      go_wp2_with fail
      exact bodyPost_ret (v := .agg #[.int .i64 a, .int .i64 b]) (by simp [results, Try.results91, go_sem, XR.1.1, XR.2.1]) rfl ⟨rfl, (by repeat (first | with_reducible exact Below.refl _ _ | with_reducible refine below_alloc ?_ _ | with_reducible refine Below.drew ?_ | with_reducible refine below_set ?_ (by (first | (simp; done) | (simp; omega))) _ | with_reducible refine below_step (by assumption) ?_))⟩
    · clear h0
      go_enter Try.func91, Try.ntmps91
      go_wp2_with fail
      refine calls_at ?_; intro W0 hW; have dW0 : Below w.heap.size w W0 := (by rw [hW]; exact (by repeat (first | with_reducible exact Below.refl _ _ | with_reducible refine below_alloc ?_ _ | with_reducible refine Below.drew ?_ | with_reducible refine below_set ?_ (by (first | (simp; done) | (simp; omega))) _ | with_reducible refine below_step (by assumption) ?_)))
      have XR : B2 W0 (w.heap.size + 1) (.int .i64 0) (.int .i64 0) := (by rw [hW]; unfold B2 Cel; simp [go_sem])
      clear hW
      refine (HN.out _).mono ?_
      rintro e w1 ⟨rfl, hb1⟩; have d1 : Below W0.heap.size W0 w1 := below_step hb1 (by repeat (first | with_reducible exact Below.refl _ _ | with_reducible refine below_alloc ?_ _ | with_reducible refine Below.drew ?_ | with_reducible refine below_set ?_ (by (first | (simp; done) | (simp; omega))) _ | with_reducible refine below_step (by assumption) ?_)); have z1 := hb1.size; (try simp at z1); replace XR := XR.below d1; (try clear lXR); have lXR := XR.lt
      go_wp2_with fail
      exact bodyPost_ret (v := .agg #[.int .i64 a, .int .i64 b]) (by simp [results, Try.results91, go_sem, XR.1.1, XR.2.1]) rfl ⟨rfl, (by repeat (first | with_reducible exact Below.refl _ _ | with_reducible refine below_alloc ?_ _ | with_reducible refine Below.drew ?_ | with_reducible refine below_set ?_ (by (first | (simp; done) | (simp; omega))) _ | with_reducible refine below_step (by assumption) ?_))⟩
end Go.Proofs.Ytipcppbbpmdijaa
