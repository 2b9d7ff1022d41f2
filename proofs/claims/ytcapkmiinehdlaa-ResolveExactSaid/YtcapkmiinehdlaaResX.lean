/-
  What Resolve of chapter 7's reference returns, for all motions of the domain. Conditions: the numbers' bounds, as the theorems state.
-/
import Derived.Test.YtcapkmiinehdlaaVecr
import Derived.Test.YtcapkmiinehdlaaResL
import Derived.Test.YtcapkmiinehdlaaBlk
import Derived.BigRegion
import Derived.BigQuiet
namespace Go.Proofs.Ytcapkmiinehdlaa
open Go.RowKit Go.Sort
attribute [local go_sem ↓] Go.wp_at_zero Go.wp_at_succ

theorem rclamp_any (px py vx vy m : Int) (w : World) :
    Calls Try.prog 88 #[.agg #[.int .i64 px, .int .i64 py, .int .i64 vx, .int .i64 vy, .int .i64 m]] w fun e w' => e = .returned (.agg #[.int .i64 (clp px (-1048576) 1048576), .int .i64 (clp py (-1048576) 1048576), .int .i64 (clp vx (-16384) 16384), .int .i64 (clp vy (-16384) 16384), .int .i64 m]) ∧ Below w.heap.size w w' := by
  go_enter Try.func88, Try.ntmps88
  go_wp2_with fail
  refine code_named ?_; intro W0 hW; have dW0 : Below w.heap.size w W0 := (by rw [hW]; exact (by repeat (first | with_reducible exact Below.refl _ _ | with_reducible refine below_alloc ?_ _ | with_reducible refine Below.drew ?_ | with_reducible refine below_set ?_ (by (first | (simp; done) | (simp; omega))) _ | with_reducible refine below_step (by assumption) ?_)))
  have XA : B5 W0 (w.heap.size) (.int .i64 (px)) (.int .i64 (py)) (.int .i64 (vx)) (.int .i64 (vy)) (.int .i64 (m)) := (by rw [hW]; unfold B5 Cel; simp [go_sem]); have lXA := XA.lt
  have XR : B5 W0 (w.heap.size + 1) (.int .i64 0) (.int .i64 0) (.int .i64 0) (.int .i64 0) (.int .i64 0) := (by rw [hW]; unfold B5 Cel; simp [go_sem])
  clear hW
  have KXA := XA.re; have KXR := XR.re; refine wp_region_last 21 (by kernel_rfl) (by kernel_rfl) ?_; simp only [List.take_succ_cons, List.take_zero, List.drop_succ_cons, List.drop_zero]
  repeat (go_big_quiet_step ((go_at_call 56; exact met_same (rClamp_any _ _ _ _ (by omega)))))
  refine wpQuiet_nil ?_; intro w1 d1; clear KXA KXR; replace XA := XA.below d1; (try clear lXA); have lXA := XA.lt; replace XR := XR.below d1; (try clear lXR); have lXR := XR.lt
  go_wp2_with fail
  exact bodyPost_ret (v := .agg #[.int .i64 (clp px (-1048576) 1048576), .int .i64 (clp py (-1048576) 1048576), .int .i64 (clp vx (-16384) 16384), .int .i64 (clp vy (-16384) 16384), .int .i64 m]) (by simp [results, Try.results88, go_sem, *]) rfl ⟨rfl, (by repeat (first | with_reducible exact Below.refl _ _ | with_reducible refine below_alloc ?_ _ | with_reducible refine Below.drew ?_ | with_reducible refine below_set ?_ (by (first | (simp; done) | (simp; omega))) _ | with_reducible refine below_step (by assumption) ?_))⟩

theorem rresolve_zero (apx apy avx avy am bpx bpy bvx bvy bm nx ny d e : Int) (w : World) (ha : am = 0) (hb : bm = 0) :
    Calls Try.prog 69 #[.agg #[.int .i64 apx, .int .i64 apy, .int .i64 avx, .int .i64 avy, .int .i64 am], .agg #[.int .i64 bpx, .int .i64 bpy, .int .i64 bvx, .int .i64 bvy, .int .i64 bm], .agg #[.int .i64 nx, .int .i64 ny, .int .i64 d], .int .i64 e] w
      fun r w' => r = .returned (.tuple #[.agg #[.int .i64 apx, .int .i64 apy, .int .i64 avx, .int .i64 avy, .int .i64 am], .agg #[.int .i64 bpx, .int .i64 bpy, .int .i64 bvx, .int .i64 bvy, .int .i64 bm]]) ∧ Below w.heap.size w w' := by
  subst ha hb
  go_enter Try.func69, Try.ntmps69
  go_wp2_with fail
  go_region
  go_wp2_with fail
  exact bodyPost_ret (v := .tuple #[.agg #[.int .i64 apx, .int .i64 apy, .int .i64 avx, .int .i64 avy, .int .i64 0], .agg #[.int .i64 bpx, .int .i64 bpy, .int .i64 bvx, .int .i64 bvy, .int .i64 0]]) (by simp [results, Try.results69, go_sem]) rfl ⟨rfl, (by repeat (first | with_reducible exact Below.refl _ _ | with_reducible refine below_alloc ?_ _ | with_reducible refine Below.drew ?_ | with_reducible refine below_set ?_ (by (first | (simp; done) | (simp; omega))) _ | with_reducible refine below_step (by assumption) ?_))⟩

set_option maxRecDepth 100000 in
set_option maxHeartbeats 8000000 in
theorem rresolve_some (apx apy avx avy am bpx bpy bvx bvy bm nx ny d e : Int) (w : World) (hA : RB apx apy avx avy am) (hB : RB bpx bpy bvx bvy bm) (hn : (-1024 ≤ nx ∧ nx ≤ 1024) ∧ (-1024 ≤ ny ∧ ny ≤ 1024)) (hd : 0 ≤ d ∧ d ≤ 1048576) (he : 0 ≤ e ∧ e ≤ 1024) (ht : 1 ≤ am + bm) :
    Calls Try.prog 69 #[.agg #[.int .i64 apx, .int .i64 apy, .int .i64 avx, .int .i64 avy, .int .i64 am], .agg #[.int .i64 bpx, .int .i64 bpy, .int .i64 bvx, .int .i64 bvy, .int .i64 bm], .agg #[.int .i64 nx, .int .i64 ny, .int .i64 d], .int .i64 e] w
      fun r w' => ∃ j, j = rj (dotz (bvx - avx) (bvy - avy) nx ny) e (am + bm) ∧ r = .returned (.tuple #[.agg #[.int .i64 (rpos apx nx d am (am + bm)), .int .i64 (rpos apy ny d am (am + bm)), .int .i64 (rvel avx nx j am), .int .i64 (rvel avy ny j am), .int .i64 am], .agg #[.int .i64 (rpos' bpx nx d bm (am + bm)), .int .i64 (rpos' bpy ny d bm (am + bm)), .int .i64 (rvel' bvx nx j bm), .int .i64 (rvel' bvy ny j bm), .int .i64 bm]]) ∧ Below w.heap.size w w' := by
  obtain ⟨a1, a2, a3, a4, a5⟩ := hA
  obtain ⟨b1, b2, b3, b4, b5⟩ := hB
  obtain ⟨n1, n2⟩ := hn
  obtain ⟨v1, v2, v3⟩ := vn_bd a3 a4 b3 b4 n1 n2
  have ht0 : (am + bm == 0) = false := by simp; omega
  obtain ⟨J, hJ⟩ : ∃ J, J = rj (dotz (bvx - avx) (bvy - avy) nx ny) e (am + bm) := ⟨_, rfl⟩
  have bJ := rj_bd (vn := dotz (bvx - avx) (bvy - avy) nx ny) (e := e) (t := am + bm) v3 he (by omega)
  rw [← hJ] at bJ
  have HJ := Lib.hid hJ; clear hJ
  have i1 := imp_bd bJ a5 n1
  have i2 := imp_bd bJ a5 n2
  have i3 := imp_bd bJ b5 n1
  have i4 := imp_bd bJ b5 n2
  go_enter Try.func69, Try.ntmps69
  go_wp2_with fail
  refine code_named ?_; intro W0 hW; have dW0 : Below w.heap.size w W0 := (by rw [hW]; exact (by repeat (first | with_reducible exact Below.refl _ _ | with_reducible refine below_alloc ?_ _ | with_reducible refine Below.drew ?_ | with_reducible refine below_set ?_ (by (first | (simp; done) | (simp; omega))) _ | with_reducible refine below_step (by assumption) ?_)))
  have XA : B5 W0 (w.heap.size) (.int .i64 (apx)) (.int .i64 (apy)) (.int .i64 (avx)) (.int .i64 (avy)) (.int .i64 (am)) := (by rw [hW]; unfold B5 Cel; simp [go_sem]); have lXA := XA.lt
  have XB : B5 W0 (w.heap.size + 1) (.int .i64 (bpx)) (.int .i64 (bpy)) (.int .i64 (bvx)) (.int .i64 (bvy)) (.int .i64 (bm)) := (by rw [hW]; unfold B5 Cel; simp [go_sem]); have lXB := XB.lt
  have XC : B3 W0 (w.heap.size + 2) (.int .i64 (nx)) (.int .i64 (ny)) (.int .i64 (d)) := (by rw [hW]; unfold B3 Cel; simp [go_sem]); have lXC := XC.lt
  have XR : B5 W0 (w.heap.size + 3) (.int .i64 (0)) (.int .i64 (0)) (.int .i64 (0)) (.int .i64 (0)) (.int .i64 (0)) := (by rw [hW]; unfold B5 Cel; simp [go_sem]); have lXR := XR.lt
  have XS : B5 W0 (w.heap.size + 4) (.int .i64 (0)) (.int .i64 (0)) (.int .i64 (0)) (.int .i64 (0)) (.int .i64 (0)) := (by rw [hW]; unfold B5 Cel; simp [go_sem]); have lXS := XS.lt
  clear hW
  have KXA := XA.re; have KXB := XB.re; have KXC := XC.re; have KXR := XR.re; have KXS := XS.re; refine wp_region_below (by kernel_rfl) (by kernel_rfl) ?_
  repeat (go_big_quiet_step (first
    | (go_at_call 61; exact met_below (rSub_any _ _ _ _ _ (by omega) (by omega) (by omega) (by omega)))
    | (go_at_call 41; exact met_below (rDot_any _ _ _ _ _ (by omega) (by omega) (by omega) (by omega)))))
  refine wpQuiet_nil ?_; intro w1 d1; clear KXA KXB KXC KXR KXS; replace XA := XA.below d1; (try clear lXA); have lXA := XA.lt; replace XB := XB.below d1; (try clear lXB); have lXB := XB.lt; replace XC := XC.below d1; (try clear lXC); have lXC := XC.lt; replace XR := XR.below d1; (try clear lXR); have lXR := XR.lt; replace XS := XS.below d1; (try clear lXS); have lXS := XS.lt
  have i0 : Below w.heap.size w w1 := (by repeat (first | with_reducible exact Below.refl _ _ | with_reducible refine below_alloc ?_ _ | with_reducible refine Below.drew ?_ | with_reducible refine below_set ?_ (by (first | (simp; done) | (simp; omega))) _ | with_reducible refine below_step (by assumption) ?_))
  clear d1 dW0
  go_upto_if 31 with fail
  go_cut [] (fun w2 => B5 w2 (w.heap.size) (.int .i64 (apx)) (.int .i64 (apy)) (.int .i64 (avx - mdv nx (mdv J am 1024) 1024)) (.int .i64 (avy - mdv ny (mdv J am 1024) 1024)) (.int .i64 (am)) ∧ B5 w2 (w.heap.size + 1) (.int .i64 (bpx)) (.int .i64 (bpy)) (.int .i64 (bvx + mdv nx (mdv J bm 1024) 1024)) (.int .i64 (bvy + mdv ny (mdv J bm 1024) 1024)) (.int .i64 (bm)) ∧ B3 w2 (w.heap.size + 2) (.int .i64 nx) (.int .i64 ny) (.int .i64 d) ∧ B5 w2 (w.heap.size + 3) (.int .i64 (0)) (.int .i64 (0)) (.int .i64 (0)) (.int .i64 (0)) (.int .i64 (0)) ∧ B5 w2 (w.heap.size + 4) (.int .i64 (0)) (.int .i64 (0)) (.int .i64 (0)) (.int .i64 (0)) (.int .i64 (0)) ∧ Below w.heap.size w w2)
  case first =>
    by_cases hv : dotz (bvx - avx) (bvy - avy) nx ny < 0
    · have pj := mul_bd (a := -dotz (bvx - avx) (bvy - avy) nx ny) (b := 1024 + e) (A := 65536) (B := 2048) (by omega) (by omega)
      go_wp2_with fail
      have hm := rMulDiv_any (-dotz (bvx - avx) (bvy - avy) nx ny) (1024 + e) (am + bm) w1 (by omega) (by omega)
      rw [← rj_app hv, ← HJ.out] at hm
      refine hm.mono ?_
      rintro r w' ⟨rfl, rfl⟩
      clear hm pj
      go_wp2_with fail
      have KXA := XA.re; have KXB := XB.re; have KXC := XC.re; have KXR := XR.re; have KXS := XS.re; refine wp_region_last 11 (by kernel_rfl) (by kernel_rfl) ?_; simp only [List.take_succ_cons, List.take_zero, List.drop_succ_cons, List.drop_zero]
      repeat (go_big_quiet_step (first
        | (go_at_call 26; exact met_same (rMul_any _ _ _ (by omega) (by omega)))
        | (go_at_call 64; exact met_below (rScale_any _ _ _ _ (by omega) (by omega) (by omega) (by omega)))
        | (go_at_call 61; exact met_below (rSub_any _ _ _ _ _ (by omega) (by omega) (by omega) (by omega)))))
      refine wpQuiet_nil ?_; intro w2 d2; clear KXA KXB KXC KXR KXS; replace XA := XA.below d2; (try clear lXA); have lXA := XA.lt; replace XB := XB.below d2; (try clear lXB); have lXB := XB.lt; replace XC := XC.below d2; (try clear lXC); have lXC := XC.lt; replace XR := XR.below d2; (try clear lXR); have lXR := XR.lt; replace XS := XS.below d2; (try clear lXS); have lXS := XS.lt
      go_wp2_with fail
      refine code_named ?_; intro W2 hW
      have i2' : Below w.heap.size w W2 := by rw [hW]; exact (by repeat (first | with_reducible exact Below.refl _ _ | with_reducible refine below_alloc ?_ _ | with_reducible refine Below.drew ?_ | with_reducible refine below_set ?_ (by (first | (simp; done) | (simp; omega))) _ | with_reducible refine below_step (by assumption) ?_))
      replace XA := (XA.set2 (.int .i64 (avx - mdv nx (mdv J am 1024) 1024))).set3 (.int .i64 (avy - mdv ny (mdv J am 1024) 1024))
      replace XB := (XB.far (c := w.heap.size) (j := 2) (by omega) (.int .i64 (avx - mdv nx (mdv J am 1024) 1024))).far (c := w.heap.size) (j := 3) (by omega) (.int .i64 (avy - mdv ny (mdv J am 1024) 1024))
      replace XC := (XC.far (c := w.heap.size) (j := 2) (by omega) (.int .i64 (avx - mdv nx (mdv J am 1024) 1024))).far (c := w.heap.size) (j := 3) (by omega) (.int .i64 (avy - mdv ny (mdv J am 1024) 1024))
      replace XR := (XR.far (c := w.heap.size) (j := 2) (by omega) (.int .i64 (avx - mdv nx (mdv J am 1024) 1024))).far (c := w.heap.size) (j := 3) (by omega) (.int .i64 (avy - mdv ny (mdv J am 1024) 1024))
      replace XS := (XS.far (c := w.heap.size) (j := 2) (by omega) (.int .i64 (avx - mdv nx (mdv J am 1024) 1024))).far (c := w.heap.size) (j := 3) (by omega) (.int .i64 (avy - mdv ny (mdv J am 1024) 1024))
      rw [← hW] at XA XB XC XR XS
      clear hW lXA lXB lXC lXR lXS d2 i0
      have KXA := XA.re; have KXB := XB.re; have KXC := XC.re; have KXR := XR.re; have KXS := XS.re; refine wp_region_last 11 (by kernel_rfl) (by kernel_rfl) ?_; simp only [List.take_succ_cons, List.take_zero, List.drop_succ_cons, List.drop_zero]
      repeat (go_big_quiet_step (first
        | (go_at_call 26; exact met_same (rMul_any _ _ _ (by omega) (by omega)))
        | (go_at_call 64; exact met_below (rScale_any _ _ _ _ (by omega) (by omega) (by omega) (by omega)))
        | (go_at_call 60; exact met_below (rAdd_any _ _ _ _ _ (by omega) (by omega) (by omega) (by omega)))))
      refine wpQuiet_nil ?_; intro w3 d3; clear KXA KXB KXC KXR KXS; replace XA := XA.below d3; (try clear lXA); have lXA := XA.lt; replace XB := XB.below d3; (try clear lXB); have lXB := XB.lt; replace XC := XC.below d3; (try clear lXC); have lXC := XC.lt; replace XR := XR.below d3; (try clear lXR); have lXR := XR.lt; replace XS := XS.below d3; (try clear lXS); have lXS := XS.lt
      go_wp2_with fail
      go_meet
      have ne0 : w.heap.size + 1 ≠ w.heap.size := by omega
      have ne2 : w.heap.size + 1 ≠ w.heap.size + 2 := by omega
      have ne3 : w.heap.size + 1 ≠ w.heap.size + 3 := by omega
      have ne4 : w.heap.size + 1 ≠ w.heap.size + 4 := by omega
      exact ⟨(XA.far ne0 _).far ne0 _, (XB.set2 _).set3 _, (XC.far ne2 _).far ne2 _, (XR.far ne3 _).far ne3 _, (XS.far ne4 _).far ne4 _, (by repeat (first | with_reducible exact Below.refl _ _ | with_reducible refine below_alloc ?_ _ | with_reducible refine Below.drew ?_ | with_reducible refine below_set ?_ (by (first | (simp; done) | (simp; omega))) _ | with_reducible refine below_step (by assumption) ?_))⟩
    · go_wp2_with fail
      go_meet
      have hj0 : J = 0 := HJ.out.trans (rj_sep (by omega))
      subst hj0
      simp only [zero_mdv, mdv_zero_mid, Int.sub_zero, Int.add_zero]
      exact ⟨XA, XB, XC, XR, XS, i0⟩
  case rest =>
    clear XA XB XC XR XS i0 lXA lXB lXC lXR lXS
    rename World => w2
    obtain ⟨XA, XB, XC, XR, XS, i2'⟩ := hcut
    have e1 := dep_bd hd a5 n1 (t := am + bm) (by omega)
    have e2 := dep_bd hd a5 n2 (t := am + bm) (by omega)
    have e3 := dep_bd hd b5 n1 (t := am + bm) (by omega)
    have e4 := dep_bd hd b5 n2 (t := am + bm) (by omega)
    clear i1 i2 i3 i4 v1 v2 v3 bJ
    generalize hux : avx - mdv nx (mdv J am 1024) 1024 = ux at *
    have Hux := Lib.hid hux; clear hux
    generalize huy : avy - mdv ny (mdv J am 1024) 1024 = uy at *
    have Huy := Lib.hid huy; clear huy
    generalize htx : bvx + mdv nx (mdv J bm 1024) 1024 = tx at *
    have Htx := Lib.hid htx; clear htx
    generalize hty : bvy + mdv ny (mdv J bm 1024) 1024 = ty at *
    have Hty := Lib.hid hty; clear hty
    go_wp2_with fail
    have KXA := XA.re; have KXB := XB.re; have KXC := XC.re; have KXR := XR.re; have KXS := XS.re; refine wp_region_last 13 (by kernel_rfl) (by kernel_rfl) ?_; simp only [List.take_succ_cons, List.take_zero, List.drop_succ_cons, List.drop_zero]
    repeat (go_big_quiet_step (first
      | (go_at_call 30; exact met_same (rMulDiv_any _ _ _ _ (by omega) (by omega)))
      | (go_at_call 64; exact met_below (rScale_any _ _ _ _ (by omega) (by omega) (by omega) (by omega)))
      | (go_at_call 61; exact met_below (rSub_any _ _ _ _ _ (by omega) (by omega) (by omega) (by omega)))))
    refine wpQuiet_nil ?_; intro w3 d3; clear KXA KXB KXC KXR KXS; replace XA := XA.below d3; (try clear lXA); have lXA := XA.lt; replace XB := XB.below d3; (try clear lXB); have lXB := XB.lt; replace XC := XC.below d3; (try clear lXC); have lXC := XC.lt; replace XR := XR.below d3; (try clear lXR); have lXR := XR.lt; replace XS := XS.below d3; (try clear lXS); have lXS := XS.lt
    go_wp2_with fail
    refine code_named ?_; intro W3 hW
    have i3' : Below w.heap.size w W3 := by rw [hW]; exact (by repeat (first | with_reducible exact Below.refl _ _ | with_reducible refine below_alloc ?_ _ | with_reducible refine Below.drew ?_ | with_reducible refine below_set ?_ (by (first | (simp; done) | (simp; omega))) _ | with_reducible refine below_step (by assumption) ?_))
    replace XA := (XA.set0 (.int .i64 (apx - mdv nx (mdv d am (am + bm)) 1024))).set1 (.int .i64 (apy - mdv ny (mdv d am (am + bm)) 1024))
    replace XB := (XB.far (c := w.heap.size) (j := 0) (by omega) (.int .i64 (apx - mdv nx (mdv d am (am + bm)) 1024))).far (c := w.heap.size) (j := 1) (by omega) (.int .i64 (apy - mdv ny (mdv d am (am + bm)) 1024))
    replace XC := (XC.far (c := w.heap.size) (j := 0) (by omega) (.int .i64 (apx - mdv nx (mdv d am (am + bm)) 1024))).far (c := w.heap.size) (j := 1) (by omega) (.int .i64 (apy - mdv ny (mdv d am (am + bm)) 1024))
    replace XR := (XR.far (c := w.heap.size) (j := 0) (by omega) (.int .i64 (apx - mdv nx (mdv d am (am + bm)) 1024))).far (c := w.heap.size) (j := 1) (by omega) (.int .i64 (apy - mdv ny (mdv d am (am + bm)) 1024))
    replace XS := (XS.far (c := w.heap.size) (j := 0) (by omega) (.int .i64 (apx - mdv nx (mdv d am (am + bm)) 1024))).far (c := w.heap.size) (j := 1) (by omega) (.int .i64 (apy - mdv ny (mdv d am (am + bm)) 1024))
    rw [← hW] at XA XB XC XR XS
    clear hW lXA lXB lXC lXR lXS d3 i2'
    have KXA := XA.re; have KXB := XB.re; have KXC := XC.re; have KXR := XR.re; have KXS := XS.re; refine wp_region_last 13 (by kernel_rfl) (by kernel_rfl) ?_; simp only [List.take_succ_cons, List.take_zero, List.drop_succ_cons, List.drop_zero]
    repeat (go_big_quiet_step (first
      | (go_at_call 30; exact met_same (rMulDiv_any _ _ _ _ (by omega) (by omega)))
      | (go_at_call 64; exact met_below (rScale_any _ _ _ _ (by omega) (by omega) (by omega) (by omega)))
      | (go_at_call 60; exact met_below (rAdd_any _ _ _ _ _ (by omega) (by omega) (by omega) (by omega)))))
    refine wpQuiet_nil ?_; intro w4 d4; clear KXA KXB KXC KXR KXS; replace XA := XA.below d4; (try clear lXA); have lXA := XA.lt; replace XB := XB.below d4; (try clear lXB); have lXB := XB.lt; replace XC := XC.below d4; (try clear lXC); have lXC := XC.lt; replace XR := XR.below d4; (try clear lXR); have lXR := XR.lt; replace XS := XS.below d4; (try clear lXS); have lXS := XS.lt
    go_wp2_with fail
    refine code_named ?_; intro W4 hW
    have i4' : Below w.heap.size w W4 := by rw [hW]; exact (by repeat (first | with_reducible exact Below.refl _ _ | with_reducible refine below_alloc ?_ _ | with_reducible refine Below.drew ?_ | with_reducible refine below_set ?_ (by (first | (simp; done) | (simp; omega))) _ | with_reducible refine below_step (by assumption) ?_))
    have ne0 : w.heap.size + 1 ≠ w.heap.size := by omega
    have ne3 : w.heap.size + 1 ≠ w.heap.size + 3 := by omega
    have ne4 : w.heap.size + 1 ≠ w.heap.size + 4 := by omega
    replace XA := (XA.far (j := 0) ne0 (.int .i64 (bpx + mdv nx (mdv d bm (am + bm)) 1024))).far (j := 1) ne0 (.int .i64 (bpy + mdv ny (mdv d bm (am + bm)) 1024))
    replace XB := (XB.set0 (.int .i64 (bpx + mdv nx (mdv d bm (am + bm)) 1024))).set1 (.int .i64 (bpy + mdv ny (mdv d bm (am + bm)) 1024))
    replace XR := (XR.far (j := 0) ne3 (.int .i64 (bpx + mdv nx (mdv d bm (am + bm)) 1024))).far (j := 1) ne3 (.int .i64 (bpy + mdv ny (mdv d bm (am + bm)) 1024))
    replace XS := (XS.far (j := 0) ne4 (.int .i64 (bpx + mdv nx (mdv d bm (am + bm)) 1024))).far (j := 1) ne4 (.int .i64 (bpy + mdv ny (mdv d bm (am + bm)) 1024))
    rw [← hW] at XA XB XR XS
    clear hW XC lXA lXB lXC lXR lXS d4 i3' ne0 ne3 ne4
    have KXA := XA.re; have KXB := XB.re; have KXR := XR.re; have KXS := XS.re; refine wp_region_last 4 (by kernel_rfl) (by kernel_rfl) ?_; simp only [List.take_succ_cons, List.take_zero, List.drop_succ_cons, List.drop_zero]
    repeat (go_big_quiet_step ((go_at_call 88; exact met_below (rclamp_any _ _ _ _ _ _))))
    refine wpQuiet_nil ?_; intro w5 d5; clear KXA KXB KXR KXS; replace XA := XA.below d5; (try clear lXA); have lXA := XA.lt; replace XB := XB.below d5; (try clear lXB); have lXB := XB.lt; replace XR := XR.below d5; (try clear lXR); have lXR := XR.lt; replace XS := XS.below d5; (try clear lXS); have lXS := XS.lt
    go_wp2_with fail
    have r1 : rvel avx nx J am = clp ux (-16384) 16384 := by unfold rvel; rw [Hux.out]
    have r2 : rvel avy ny J am = clp uy (-16384) 16384 := by unfold rvel; rw [Huy.out]
    have r3 : rvel' bvx nx J bm = clp tx (-16384) 16384 := by unfold rvel'; rw [Htx.out]
    have r4 : rvel' bvy ny J bm = clp ty (-16384) 16384 := by unfold rvel'; rw [Hty.out]
    have p1 : rpos apx nx d am (am + bm) = clp (apx - mdv nx (mdv d am (am + bm)) 1024) (-1048576) 1048576 := rfl
    have p2 : rpos apy ny d am (am + bm) = clp (apy - mdv ny (mdv d am (am + bm)) 1024) (-1048576) 1048576 := rfl
    have p3 : rpos' bpx nx d bm (am + bm) = clp (bpx + mdv nx (mdv d bm (am + bm)) 1024) (-1048576) 1048576 := rfl
    have p4 : rpos' bpy ny d bm (am + bm) = clp (bpy + mdv ny (mdv d bm (am + bm)) 1024) (-1048576) 1048576 := rfl
    have cR := XR
    have cS := XS
    refine bodyPost_ret (v := .tuple #[.agg #[.int .i64 (clp (apx - mdv nx (mdv d am (am + bm)) 1024) (-1048576) 1048576), .int .i64 (clp (apy - mdv ny (mdv d am (am + bm)) 1024) (-1048576) 1048576), .int .i64 (clp ux (-16384) 16384), .int .i64 (clp uy (-16384) 16384), .int .i64 am], .agg #[.int .i64 (clp (bpx + mdv nx (mdv d bm (am + bm)) 1024) (-1048576) 1048576), .int .i64 (clp (bpy + mdv ny (mdv d bm (am + bm)) 1024) (-1048576) 1048576), .int .i64 (clp tx (-16384) 16384), .int .i64 (clp ty (-16384) 16384), .int .i64 bm]]) (by simp [results, Try.results69, go_sem, cR, cS]) rfl ⟨J, HJ.out, by rw [r1, r2, r3, r4, p1, p2, p3, p4], ?_⟩
    exact (by repeat (first | with_reducible exact Below.refl _ _ | with_reducible refine below_alloc ?_ _ | with_reducible refine Below.drew ?_ | with_reducible refine below_set ?_ (by (first | (simp; done) | (simp; omega))) _ | with_reducible refine below_step (by assumption) ?_))

theorem rResolve_any (apx apy avx avy am bpx bpy bvx bvy bm nx ny d e : Int) (w : World) (hA : RB apx apy avx avy am) (hB : RB bpx bpy bvx bvy bm) (hn : (-1024 ≤ nx ∧ nx ≤ 1024) ∧ (-1024 ≤ ny ∧ ny ≤ 1024)) (hd : 0 ≤ d ∧ d ≤ 1048576) (he : 0 ≤ e ∧ e ≤ 1024) :
    Calls Try.prog 69 #[.agg #[.int .i64 apx, .int .i64 apy, .int .i64 avx, .int .i64 avy, .int .i64 am], .agg #[.int .i64 bpx, .int .i64 bpy, .int .i64 bvx, .int .i64 bvy, .int .i64 bm], .agg #[.int .i64 nx, .int .i64 ny, .int .i64 d], .int .i64 e] w
      fun r w' => r = .returned (.tuple #[.agg #[.int .i64 (rpos apx nx d am (am + bm)), .int .i64 (rpos apy ny d am (am + bm)), .int .i64 (rvel avx nx (imp avx avy am bvx bvy bm nx ny e) am), .int .i64 (rvel avy ny (imp avx avy am bvx bvy bm nx ny e) am), .int .i64 am], .agg #[.int .i64 (rpos' bpx nx d bm (am + bm)), .int .i64 (rpos' bpy ny d bm (am + bm)), .int .i64 (rvel' bvx nx (imp avx avy am bvx bvy bm nx ny e) bm), .int .i64 (rvel' bvy ny (imp avx avy am bvx bvy bm nx ny e) bm), .int .i64 bm]]) ∧ Below w.heap.size w w' := by
  by_cases ht : 1 ≤ am + bm
  · exact (rresolve_some apx apy avx avy am bpx bpy bvx bvy bm nx ny d e w hA hB hn hd he ht).mono fun r w' ⟨j, hj, hr, hb⟩ => ⟨by rw [hr, hj]; rfl, hb⟩
  · have ha : am = 0 := by have := hA.2.2.2.2; have := hB.2.2.2.2; omega
    have hb : bm = 0 := by have := hA.2.2.2.2; have := hB.2.2.2.2; omega
    refine (rresolve_zero apx apy avx avy am bpx bpy bvx bvy bm nx ny d e w ha hb).mono fun r w' ⟨hr, hbel⟩ => ⟨?_, hbel⟩
    subst ha hb
    have z : (0 : Int) + 0 = 0 := rfl
    unfold imp
    rw [hr, z, rj_zero, (rpos_zero nx d 0 hA.1).1, (rpos_zero ny d 0 hA.2.1).1, (rpos_zero nx d 0 hB.1).2, (rpos_zero ny d 0 hB.2.1).2, (rvel_zero nx 0 hA.2.2.1).1, (rvel_zero ny 0 hA.2.2.2.1).1, (rvel_zero nx 0 hB.2.2.1).2, (rvel_zero ny 0 hB.2.2.2.1).2]
end Go.Proofs.Ytcapkmiinehdlaa
