/-
  What the generators of chapter 3's reference return: the outlines, a polygon with another first vertex, the shape that a number stands for. Conditions: as the theorems state.
-/
import Derived.Test.YtipcppbbpmdijaaRow
import Derived.Test.YtipcppbbpmdijaaShl
namespace Go.Proofs.Ytipcppbbpmdijaa
open Go.RowKit Go.Sort
attribute [local go_sem ↓] Go.wp_at_zero Go.wp_at_succ

theorem vec_info : (Try.prog.info? 24).map (fun i => (i.zero, i.size, i.bytes)) = some (some (.agg #[.int .i64 0, .int .i64 0]), 2, 16) := by kernel_rfl

set_option maxRecDepth 100000 in
set_option maxHeartbeats 2000000 in
theorem outlines_raw (w : World) : Calls Try.prog 66 #[] w fun e w' => e = .returned (.slice (some ⟨w.heap.size + 6, 0, none⟩) 6 6) ∧ Below w.heap.size w w' ∧
    (∀ i, i < 6 → w'.cell? ⟨w.heap.size + 6, i, none⟩ = some (.slice (some ⟨w.heap.size + i, 0, none⟩) (outl i).length (outl i).length)) ∧
    (∀ i, i < 6 → ∀ j v, (outl i)[j]? = some v → w'.cell? ⟨w.heap.size + i, j * 2, none⟩ = some (.int .i64 v.1) ∧ w'.cell? ⟨w.heap.size + i, j * 2 + 1, none⟩ = some (.int .i64 v.2)) := by
  go_enter Try.func66, Try.ntmps66
  go_wp2_with fail
  go_ret
  refine ⟨rfl, (by repeat (first | with_reducible exact Below.refl _ _ | with_reducible refine below_alloc ?_ _ | with_reducible refine Below.drew ?_ | with_reducible refine below_set ?_ (by (first | (simp; done) | (simp; omega))) _ | with_reducible refine below_step (by assumption) ?_)), ?_, ?_⟩
  · intro i hi
    rcases i with _ | _ | _ | _ | _ | _ | i
    all_goals (first | omega | simp [go_sem, outl])
  · intro i hi j v hv
    rcases i with _ | _ | _ | _ | _ | _ | i
    all_goals (first | omega | (rcases j with _ | _ | _ | _ | _ | _ | j <;> simp [outl] at hv <;> subst hv <;> simp [go_sem]))

/-- A shape that lies in memory below which nothing has changed. -/
def ShapeRet (w : World) (R : Int) (vs : List V2) (e : Ending) (w' : World) : Prop := ∃ A n c, e = .returned (.agg #[.int .i64 R, .slice A n c]) ∧ Pol w' A n c vs ∧ Below w.heap.size w w' ∧ ∀ a, A = some a → w.heap.size ≤ a.block

set_option maxRecDepth 100000 in
set_option maxHeartbeats 2000000 in
theorem Turned_poly (R z : Int) (b n c : Nat) (vs : List V2) (w : World) (hP : Pol w (some ⟨b, 0, none⟩) n c vs) (hv : vs ≠ []) (h1 : -9223372036854775808 ≤ z) (h2 : z ≤ 9223372036854775807) :
    Calls Try.prog 43 #[.agg #[.int .i64 R, .slice (some ⟨b, 0, none⟩) n c], .int .i64 z] w (ShapeRet w 0 (rot (arnd z n).toNat vs)) := by
  obtain ⟨b', hbb, hn, hl, hnc, hc, hbl, hcell⟩ := hP.at_ hv
  obtain rfl : b = b' := by simpa using hbb
  clear hbb
  obtain ⟨i0, hi0, hz0, hz1, hz2⟩ := info_parts vec_info
  have bj := arnd_bd z (most := (n : Int)) (by omega)
  obtain ⟨j, hj⟩ : ∃ j : Nat, arnd z n = (j : Int) := ⟨(arnd z n).toNat, by omega⟩
  have hjn : j < n := by omega
  have cA : ∀ W : World, Calls Try.prog 25 #[.int .i64 z, .int .i64 n] W fun e w' => e = .returned (.int .i64 (j : Int)) ∧ W = w' := fun W => by have := Around_any z n W (by omega) h1 h2; rwa [hj] at this
  rw [hj]
  rw [Int.toNat_natCast]
  have hN1 : (flat ((vs.drop j).take (n - j))).length = (n - j) * 2 := by rw [flat_len, List.length_take, List.length_drop]; omega
  have hN2 : (flat ((vs.drop 0).take j)).length = j * 2 := by rw [flat_len, List.length_take, List.length_drop]; omega
  have e1 : (vs.drop j).take (n - j) = vs.drop j := List.take_of_length_le (by rw [List.length_drop]; omega)
  have E1 := Lib.hid e1; clear e1
  have HN1 := Lib.hid hN1; clear hN1
  have HN2 := Lib.hid hN2; clear hN2
  have HL := Lib.hid hl; clear hl
  have HC := Lib.hid hcell; clear hcell
  clear hj bj
  have hn0 : ((n : Int) == 0) = false := by simp; omega
  have hj1 : (0 : Int) ≤ (j : Int) := by omega
  have hj2 : (j : Int) ≤ (n : Int) := by omega
  have hj3 : (n : Int) ≤ (c : Int) := by omega
  have KEY := Lib.hid (show ∀ W' : World, Below w.heap.size w W' → ∀ i v, vs[i]? = some v → W'.cell? ⟨b, i * 2, none⟩ = some (.int .i64 v.1) ∧ W'.cell? ⟨b, i * 2 + 1, none⟩ = some (.int .i64 v.2) from
    fun W' hB i v h => ⟨(hB.cell (p := ⟨b, i * 2, none⟩) hbl).trans (HC.out i v h).1, (hB.cell (p := ⟨b, i * 2 + 1, none⟩) hbl).trans (HC.out i v h).2⟩)
  have CA := Lib.hid cA; clear cA
  go_enter Try.func43, Try.ntmps43
  go_wp2_with fail
  refine calls_at ?_; intro W0 hW; have dW0 : Below w.heap.size w W0 := (by rw [hW]; exact (by repeat (first | with_reducible exact Below.refl _ _ | with_reducible refine below_alloc ?_ _ | with_reducible refine Below.drew ?_ | with_reducible refine below_set ?_ (by (first | (simp; done) | (simp; omega))) _ | with_reducible refine below_step (by assumption) ?_)))
  have XS : B2 W0 w.heap.size (.int .i64 R) (.slice (some ⟨b, 0, none⟩) n c) := (by rw [hW]; unfold B2 Cel; simp [go_sem])
  have XR : B2 W0 (w.heap.size + 1) (.int .i64 0) (.slice none 0 0) := (by rw [hW]; unfold B2 Cel; simp [go_sem])
  have hz0' : W0.heap.size = w.heap.size + 2 := by rw [hW]; simp
  clear hW
  refine (CA.out _).mono ?_
  rintro e w' ⟨rfl, rfl⟩
  have HS := Lib.hid hz0'; clear hz0'
  have HL0 := Lib.hid (show w.heap.size ≤ W0.heap.size from dW0.size)
  go_wp2_with (first
    | (at_builtin
       refine wpList_append_own_at _ rfl (.tmp 17) (.tmp 21) _ rfl w.heap.size 24 i0 _ 2 16 Try.underlying25 hi0 hz0 hz1 hz2 rfl (by omega) (.slice none 0 0) 0 [] rfl (World.ownsRow_nil _ _ _ _)
         ⟨b, j * 2, none⟩ (n - j) (c - j) (flat ((vs.drop j).take (n - j))) rfl HN1.out (pol_news (KEY.out _ dW0) j (n - j)) (flat_one _) (by unfold maxLen; omega) (by omega) HL0.out ?_
       intro v1 w1 hown1 hg1 hnil1 hat1
       have d1 : Below W0.heap.size W0 w1 := (Below.refl _ _).grown hg1 (Nat.le_refl _) (fun k e => (ob_none k e).elim)
       replace XS := XS.below d1
       have b1 : Below w.heap.size w w1 := (by repeat (first | with_reducible exact Below.refl _ _ | with_reducible refine below_alloc ?_ _ | with_reducible refine Below.drew ?_ | with_reducible refine below_set ?_ (by (first | (simp; done) | (simp; omega))) _ | with_reducible refine below_step (by assumption) ?_))
       rw [Nat.zero_add, List.nil_append] at hown1
       obtain ⟨g1, cap1, rfl, hb1, hlt1⟩ := hown1.form (by omega)
       have HO1 := Lib.hid hown1
       have HA1 := Lib.hid hat1
       clear hown1 hat1 hnil1 hg1)
    | (at_builtin
       refine wpList_append_own_at _ rfl (.tmp 23) (.tmp 27) _ rfl w.heap.size 24 i0 _ 2 16 Try.underlying25 hi0 hz0 hz1 hz2 rfl (by omega) (.slice (some ⟨g1, 0, none⟩) (n - j) cap1) _ _ rfl HO1.out
         ⟨b, 0, none⟩ j c (flat ((vs.drop 0).take j)) rfl HN2.out (pol_news (KEY.out _ b1) 0 j) (flat_one _) (by unfold maxLen; omega) (by omega) b1.size ?_
       intro v2 w2 hown2 hg2 hnil2 hat2
       have d2 : Below W0.heap.size W0 w2 := d1.grown hg2 d1.size (fun k e => by rw [ob_some e]; rcases HA1.out with h | h; exact (ob_none _ h.symm).elim; have := ob_some h; dsimp only at this ⊢; omega)
       replace XR := XR.below d2
       have b2 : Below w.heap.size w w2 := (by repeat (first | with_reducible exact Below.refl _ _ | with_reducible refine below_alloc ?_ _ | with_reducible refine Below.drew ?_ | with_reducible refine below_set ?_ (by (first | (simp; done) | (simp; omega))) _ | with_reducible refine below_step (by assumption) ?_))
       rw [Nat.sub_add_cancel (show j ≤ n by omega)] at hown2
       obtain ⟨g2, cap2, rfl, hb2, hlt2⟩ := hown2.form (by omega)
       have HO2 := Lib.hid hown2
       have HA2 := Lib.hid hat2
       clear hown2 hat2 hnil2 hg2))
  have hg1 : g1 = W0.heap.size := by
    rcases HA1.out with h | h
    · simp [Value.ownBlock] at h
    · simpa [Value.ownBlock] using h
  have hg2 : w.heap.size + 1 ≠ g2 := by
    have hS := HS.out
    have hd := d1.size
    rcases HA2.out with h | h
    · have e : g2 = g1 := by simpa [Value.ownBlock] using h
      omega
    · have e : g2 = w1.heap.size := by simpa [Value.ownBlock] using h
      omega
  have hP2 : Pol w2 (some ⟨g2, 0, none⟩) n cap2 (rot j vs) := by
    have h := HO2.out
    rw [E1.out, List.drop_zero, ← flat_append] at h
    exact own_pol h hn (by omega)
  exact bodyPost_ret (v := .agg #[.int .i64 0, .slice (some ⟨g2, 0, none⟩) n cap2]) (by simp [results, Try.results43, go_sem, XR.1.1, XR.2.1]) rfl ⟨_, _, _, rfl, (hP2.far hg2 _).far hg2 _, (by repeat (first | with_reducible exact Below.refl _ _ | with_reducible refine below_alloc ?_ _ | with_reducible refine Below.drew ?_ | with_reducible refine below_set ?_ (by (first | (simp; done) | (simp; omega))) _ | with_reducible refine below_step (by assumption) ?_)), fun a e => by cases e; exact hb2⟩

theorem Turned_nil (R z : Int) (w : World) :
    Calls Try.prog 43 #[.agg #[.int .i64 R, .slice none 0 0], .int .i64 z] w (ShapeRet w R []) := by
  go_enter Try.func43, Try.ntmps43
  go_wp2_with fail
  exact bodyPost_ret (v := .agg #[.int .i64 R, .slice none 0 0]) (by simp [results, Try.results43, go_sem]) rfl ⟨_, _, _, rfl, Pol.empty _, (by repeat (first | with_reducible exact Below.refl _ _ | with_reducible refine below_alloc ?_ _ | with_reducible refine Below.drew ?_ | with_reducible refine below_set ?_ (by (first | (simp; done) | (simp; omega))) _ | with_reducible refine below_step (by assumption) ?_)), fun a e => by cases e⟩

set_option maxRecDepth 100000 in
set_option maxHeartbeats 2000000 in
theorem Shape_circle (n : Int) (w : World) (h1 : -9223372036854775808 ≤ n) (h2 : n ≤ 9223372036854775807) (h0 : shK n % 3 = 0) :
    Calls Try.prog 28 #[.int .i64 n] w (ShapeRet w (shR n) (shV n)) := by
  have hV : shV n = [] := by unfold shV; rw [if_pos h0]
  have hR : shR n = if shK n / 3 % 2 = 0 then 1 + shK n / 6 % 40 else 1 + shK n / 6 % 32768 := by unfold shR; rw [if_pos h0]
  have hk := shK_bd n
  have cA : ∀ W : World, Calls Try.prog 25 #[.int .i64 n, .int .i64 1000000000] W fun e w' => e = .returned (.int .i64 (shK n)) ∧ W = w' := fun W => Around_any n 1000000000 W (by omega) h1 h2
  have CA := Lib.hid cA; clear cA
  rw [hV, hR]
  generalize shK n = k at *
  clear hV hR h1 h2
  by_cases h3 : k / 3 % 2 = 0
  · rw [if_pos h3]
    go_enter Try.func28, Try.ntmps28
    go_wp2_with (go_at_call 25; refine (CA.out _).mono ?_; rintro e w' ⟨rfl, rfl⟩)
    exact bodyPost_ret (v := .agg #[.int .i64 (1 + k / 6 % 40), .slice none 0 0]) (by simp [results, Try.results28, go_sem]) rfl ⟨_, _, _, rfl, Pol.empty _, (by repeat (first | with_reducible exact Below.refl _ _ | with_reducible refine below_alloc ?_ _ | with_reducible refine Below.drew ?_ | with_reducible refine below_set ?_ (by (first | (simp; done) | (simp; omega))) _ | with_reducible refine below_step (by assumption) ?_)), fun a e => by cases e⟩
  · rw [if_neg h3]
    go_enter Try.func28, Try.ntmps28
    go_wp2_with (go_at_call 25; refine (CA.out _).mono ?_; rintro e w' ⟨rfl, rfl⟩)
    exact bodyPost_ret (v := .agg #[.int .i64 (1 + k / 6 % 32768), .slice none 0 0]) (by simp [results, Try.results28, go_sem]) rfl ⟨_, _, _, rfl, Pol.empty _, (by repeat (first | with_reducible exact Below.refl _ _ | with_reducible refine below_alloc ?_ _ | with_reducible refine Below.drew ?_ | with_reducible refine below_set ?_ (by (first | (simp; done) | (simp; omega))) _ | with_reducible refine below_step (by assumption) ?_)), fun a e => by cases e⟩

set_option maxRecDepth 100000 in
set_option maxHeartbeats 4000000 in
theorem Shape_poly (n : Int) (w : World) (h1 : -9223372036854775808 ≤ n) (h2 : n ≤ 9223372036854775807) (h0 : shK n % 3 ≠ 0) :
    Calls Try.prog 28 #[.int .i64 n] w (ShapeRet w (shR n) (shV n)) := by
  obtain ⟨i0, hi0, hz0, hz1, hz2⟩ := info_parts vec_info
  have hk := shK_bd n
  have cA : ∀ W : World, Calls Try.prog 25 #[.int .i64 n, .int .i64 1000000000] W fun e w' => e = .returned (.int .i64 (shK n)) ∧ W = w' := fun W => Around_any n 1000000000 W (by omega) h1 h2
  have CA := Lib.hid cA; clear cA
  have hO : shK n / 3 % 6 = (shO n : Int) := by unfold shO; omega
  have hOl := shO_lt n
  have hS := shS_bd n
  have hLn := outl_len _ hOl
  have hlen : ((outl (shO n)).map (scl (shS n))).length = (outl (shO n)).length := List.length_map _
  have hbd : ∀ v ∈ (outl (shO n)).map (scl (shS n)), (-30000 ≤ v.1 ∧ v.1 ≤ 30000) ∧ (-30000 ≤ v.2 ∧ v.2 ≤ 30000) := by
    intro v hv
    obtain ⟨u, hu, rfl⟩ := List.mem_map.1 hv
    exact scl_bd hS.1 hS.2 hOl hu
  have hat : ∀ j v, (outl (shO n))[j]? = some v → ((outl (shO n)).map (scl (shS n)))[j]? = some (scl (shS n) v) := fun j v h => by rw [List.getElem?_map, h]; rfl
  have hR : shR n = 0 := by unfold shR; rw [if_neg h0]
  have hJ : (arnd (shK n / 180000) ((outl (shO n)).length : Int)).toNat = shJ n := by unfold arnd shJ; rw [if_neg (by omega)]
  have hV : shV n = rot (arnd (shK n / 180000) ((outl (shO n)).length : Int)).toNat ((outl (shO n)).map (scl (shS n))) := by unfold shV; rw [if_neg h0, hJ]
  have hSc : shS n = if shK n % 3 = 1 then 1 + shK n / 18 % 12 else 1 + shK n / 18 % 10000 := rfl
  rw [hR, hV]
  have ho := outlines_raw
  obtain ⟨P, hPd⟩ : ∃ P, P = (outl (shO n)).map (scl (shS n)) := ⟨_, rfl⟩
  rw [← hPd] at hlen hbd hat ⊢
  obtain ⟨m, hm⟩ : ∃ m, m = (outl (shO n)).length := ⟨_, rfl⟩
  rw [← hm] at hlen hLn ⊢
  generalize shS n = s at *
  generalize shK n = k at *
  generalize hoo : shO n = o at *
  clear hR hV hJ hPd hoo h1 h2
  have h0' : (k % 3 == 0) = false := by simp [h0]
  have HSC := Lib.hid hSc; clear hSc
  have HM := Lib.hid hm; clear hm
  have HLEN := Lib.hid hlen; clear hlen
  have HBD := Lib.hid hbd; clear hbd
  have HAT := Lib.hid hat; clear hat
  have HO := Lib.hid ho; clear ho
  have hi1 : (0 : Int) ≤ (o : Int) := by omega
  have hi2 : (o : Int) < 6 := by omega
  go_enter Try.func28, Try.ntmps28
  go_wp2_with (go_at_call 25; refine (CA.out _).mono ?_; rintro e w' ⟨rfl, rfl⟩)
  refine calls_at ?_; intro W0 hW; have dW0 : Below w.heap.size w W0 := (by rw [hW]; exact (by repeat (first | with_reducible exact Below.refl _ _ | with_reducible refine below_alloc ?_ _ | with_reducible refine Below.drew ?_ | with_reducible refine below_set ?_ (by (first | (simp; done) | (simp; omega))) _ | with_reducible refine below_step (by assumption) ?_)))
  have XR : B2 W0 w.heap.size (.int .i64 0) (.slice none 0 0) := (by rw [hW]; unfold B2 Cel; simp [go_sem])
  clear hW
  refine (HO.out _).mono ?_
  rintro e w1 ⟨rfl, d1, hrow, hpol⟩
  have lR := XR.lt
  replace XR := XR.below d1
  have ib := (show Below w.heap.size w w1 from (by repeat (first | with_reducible exact Below.refl _ _ | with_reducible refine below_alloc ?_ _ | with_reducible refine Below.drew ?_ | with_reducible refine below_set ?_ (by (first | (simp; done) | (simp; omega))) _ | with_reducible refine below_step (by assumption) ?_)))
  have hb1 : W0.heap.size + 6 < w1.heap.size := World.block_lt_of_cell? w1 _ (hrow 0 (by omega))
  have hbO : W0.heap.size + o < w1.heap.size := by omega
  have hcell := hrow o hOl
  rw [← HM.out] at hcell
  have hv := hpol o hOl
  have HPOL := Lib.hid hv; clear hv hpol hrow d1
  go_upto_if 39 with fail
  go_cut [5] (fun s5 w2 => s5 = .int .i64 s ∧ w1 = w2)
  case first =>
    by_cases h3 : k % 3 = 1
    · go_wp2_with fail
      go_meet
      exact ⟨by rw [HSC.out, if_pos h3], rfl⟩
    · have h3' : (k % 3 == 1) = false := by simp [h3]
      go_wp2_with fail
      go_meet
      exact ⟨by rw [HSC.out, if_neg h3], rfl⟩
  case rest =>
    obtain ⟨rfl, rfl⟩ := hcut
    go_wp2_with fail
    go_loopg [6, 7] m (fun gk l i wr => ∃ j : Nat, gk + j = m ∧ i = .int .i64 j ∧ wr.ownsRow w1.heap.size 24 2 l j (flat (P.take j)) ∧ Below w1.heap.size w1 wr)
    case atStart => exact ⟨0, by omega, rfl, World.ownsRow_nil _ _ _ _, Below.refl _ _⟩
    case round =>
      obtain ⟨j, hj, rfl, hrw, jb⟩ := hrel
      have HR := Lib.hid hrw; clear hrw
      by_cases hlt : j < m
      · obtain ⟨⟨x, y⟩, hv'⟩ : ∃ v, (outl o)[j]? = some v := ⟨_, List.getElem?_eq_getElem (by have := HM.out; omega)⟩
        have hx := (jb.cell (p := ⟨W0.heap.size + o, j * 2, none⟩) hbO).trans (HPOL.out j _ hv').1
        have hy := (jb.cell (p := ⟨W0.heap.size + o, j * 2 + 1, none⟩) hbO).trans (HPOL.out j _ hv').2
        have hPj := HAT.out j _ hv'
        obtain ⟨bx, by'⟩ := HBD.out _ (List.mem_of_getElem? hPj)
        have hts := take_snoc' P j hPj
        unfold scl at bx by' hts
        dsimp only at hx hy bx by' hts
        have HTS := Lib.hid hts; clear hts hPj hv'
        have hw1 : IntKind.i64.wrap (s * x) = s * x := IntWalk.i64_in _ (by omega)
        have hw2 : IntKind.i64.wrap (s * y) = s * y := IntWalk.i64_in _ (by omega)
        have hj1 : (0 : Int) ≤ (j : Int) := by omega
        have hj2 : (j : Int) < (m : Int) := by omega
        have lb : W0.heap.size + o < wr.heap.size := World.block_lt_of_cell? wr _ hx
        have hne : some (W0.heap.size + o) ≠ u6.ownBlock := fun e => by have := (HR.out.lt _ e.symm).1; omega
        go_wp2_with fail
        go_region_held3 (fun w' => w'.cell? ⟨W0.heap.size + o, j * 2, none⟩ = some (.int .i64 x) ∧ w'.cell? ⟨W0.heap.size + o, j * 2 + 1, none⟩ = some (.int .i64 y))
          (first | (go_keep; done) | ((go_split_ands; refine ⟨?_, ?_⟩) <;> (rw [hg4.cell_far _ (by simp; omega) hne]; assumption)))
          ((refine step_append_lies _ (by rfl) _ _ _ (by rfl) w1.heap.size 24 i0 _ 2 16 Try.underlying25 hi0 hz0 hz1 hz2 rfl (by omega) u6 j _ (by rfl) ((HR.out.alloc _).drew) ⟨wr.heap.size, 0, none⟩ 1 1 [.int .i64 (s * x), .int .i64 (s * y)] (by rfl) (by rfl) (World.news_of_block (cs := #[.int .i64 (s * x), .int .i64 (s * y)]) (t := 24) (fr := (0, 0)) (heap_alloc_new wr _)) (by simp [Value.oneCell']) (by omega) (by unfold maxLen; omega) (by omega) (by have := jb.size; simp; omega) (wr.heap.size + 1) (by simp) ?_; intro g cap w4 hown4 hg4 hat4 hlt4))
        have i4 : Below w1.heap.size w1 w4 := ((jb.alloc jb.size _).drew).grown hg4 (by have := jb.size; simp; omega) (fun k e => (HR.out.lt k e).1)
        have HO4 := Lib.hid hown4
        clear hown4 hg4 hat4
        go_wp2_with fail
        go_roundg (m - (j + 1))
        case measure => omega
        case rel => exact ⟨j + 1, by omega, by go_num, by rw [HTS.out, flat_snoc]; exact HO4.out, i4⟩
      · obtain rfl : j = m := by omega
        have ht : P.take j = P := List.take_of_length_le (by have := HLEN.out; omega)
        have hrw := HR.out
        rw [ht] at hrw
        obtain ⟨g, cap, rfl, hg, hlt1⟩ := hrw.form (by omega)
        have hP := own_pol hrw (by omega) (by omega)
        have hne : P ≠ [] := by intro e; have := HLEN.out; rw [e] at this; simp at this; omega
        have HNE := Lib.hid hne; clear hrw ht hne
        replace XR := XR.below jb
        go_wp2_with fail
        refine (Turned_poly 0 (k / 180000) g j cap P _ hP HNE.out (by omega) (by omega)).mono ?_
        rintro e w5 ⟨A', n', c', rfl, hP5, hb5, hnew⟩
        obtain ⟨b', rfl, hn', hl', -, -, hlt', -⟩ := hP5.at_ (fun e => HNE.out (rot_nil.1 e))
        rw [rot_length] at hl'
        replace XR := XR.below hb5
        have hb' := hnew _ rfl
        dsimp only at hb'
        have hjb := jb.size
        have hib := ib.size
        have hne' : w.heap.size ≠ b' := by omega
        go_wp2_with fail
        exact bodyPost_ret (v := .agg #[.int .i64 0, .slice (some ⟨b', 0, none⟩) n' c']) (by simp [results, Try.results28, go_sem, XR.1.1, XR.2.1]) rfl ⟨_, _, _, rfl, (hP5.far hne' _).far hne' _, (by repeat (first | with_reducible exact Below.refl _ _ | with_reducible refine below_alloc ?_ _ | with_reducible refine Below.drew ?_ | with_reducible refine below_set ?_ (by (first | (simp; done) | (simp; omega))) _ | with_reducible refine below_step (by assumption) ?_)), fun a e => by cases e; dsimp only; omega⟩

theorem Shape_any (n : Int) (w : World) (h1 : -9223372036854775808 ≤ n) (h2 : n ≤ 9223372036854775807) :
    Calls Try.prog 28 #[.int .i64 n] w (ShapeRet w (shR n) (shV n)) := by
  by_cases h : shK n % 3 = 0
  · exact Shape_circle n w h1 h2 h
  · exact Shape_poly n w h1 h2 h
/-- Another first vertex. -/
def trn (z : Int) (vs : List V2) : List V2 := rot (arnd z vs.length).toNat vs
theorem Turned_any (R z : Int) (A : Option Addr) (n c : Nat) (vs : List V2) (w : World) (hP : Pol w A n c vs) (hG : GS R vs) (h1 : -9223372036854775808 ≤ z) (h2 : z ≤ 9223372036854775807) :
    Calls Try.prog 43 #[.agg #[.int .i64 R, .slice A n c], .int .i64 z] w (ShapeRet w R (trn z vs)) := by
  by_cases hv : vs = []
  · obtain ⟨rfl, rfl, rfl⟩ := hP.nil hv
    subst hv
    have e : trn z [] = [] := by unfold trn rot; simp
    rw [e]
    exact Turned_nil R z w
  · obtain ⟨b, rfl, hn, hl, -, -, -, -⟩ := hP.at_ hv
    rcases hG with ⟨h, _⟩ | ⟨rfl, _⟩
    · exact absurd h hv
    · unfold trn
      rw [hl]
      exact Turned_poly 0 z b n c vs w hP hv h1 h2
theorem trn_gs {R z : Int} {vs : List V2} (h : GS R vs) : GS R (trn z vs) := by
  rcases h with ⟨rfl, h⟩ | ⟨rfl, h⟩
  · exact .inl ⟨by unfold trn rot; simp, h⟩
  · refine .inr ⟨rfl, h.turn ?_⟩
    have := h.len
    have := arnd_bd z (most := (vs.length : Int)) (by omega)
    omega
end Go.Proofs.Ytipcppbbpmdijaa
