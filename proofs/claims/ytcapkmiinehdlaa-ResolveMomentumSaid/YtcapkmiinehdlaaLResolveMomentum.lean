/-
  ResolveMomentum: for two bodies of equal mass the sum of the velocities does not change; for a normal along an axis the sum of their squares does not grow. Conditions: none.
-/
import Derived.Test.YtcapkmiinehdlaaRows
import Derived.Test.YtcapkmiinehdlaaHead
import Derived.Test.YtcapkmiinehdlaaOpen
import Derived.Test.YtcapkmiinehdlaaResL
import Derived.Test.YtcapkmiinehdlaaBlk
namespace Go.Proofs.Ytcapkmiinehdlaa.resolveMomentum
open Go.ChangeShapes Go.WideShapes Go.ChangeAt Go.RowKit Go.Sort
attribute [local go_sem ↓] Go.wp_at_zero Go.wp_at_succ

theorem axx_one (n : Int) : (axx n = 1024 ∧ axy n = 0) ∨ (axx n = -1024 ∧ axy n = 0) ∨ (axx n = 0 ∧ axy n = 1024) ∨ (axx n = 0 ∧ axy n = -1024) := by
  have := arnd_bd n (most := 4) (by decide)
  unfold axx axy; omega
/-- The impulse's part for one of two equal bodies. -/
theorem push_bd {vn e m : Int} (he : 0 ≤ e ∧ e ≤ 1024) (hm : 0 ≤ m) : 0 ≤ mdv (rj vn e (m + m)) m 1024 ∧ (vn < 0 → mdv (rj vn e (m + m)) m 1024 ≤ -vn) ∧ (0 ≤ vn → mdv (rj vn e (m + m)) m 1024 = 0) := by
  by_cases hv : vn < 0
  · by_cases h0 : m = 0
    · subst h0
      rw [mdv_zero_mid]
      exact ⟨by omega, fun _ => by omega, fun _ => rfl⟩
    · rw [rj_app hv]
      have e1 : mdv (-vn) (1024 + e) (m + m) = -vn * (1024 + e) / (m + m) := by unfold mdv; exact Int.fdiv_eq_ediv_of_nonneg _ (by omega)
      have h1 : 0 ≤ -vn * (1024 + e) := Int.mul_nonneg (by omega) (by omega)
      have h2 : -vn * (1024 + e) ≤ -vn * 2048 := Int.mul_le_mul_of_nonneg_left (by omega) (by omega)
      have h3 : 0 ≤ -vn * (1024 + e) / (m + m) := Int.ediv_nonneg h1 (by omega)
      have h4 := Int.ediv_mul_le (-vn * (1024 + e)) (show m + m ≠ 0 by omega)
      rw [e1, mdv_one]
      generalize -vn * (1024 + e) / (m + m) = J at *
      have h5 : J * (m + m) = J * m + J * m := Int.mul_add _ _ _
      have h6 : 0 ≤ J * m := Int.mul_nonneg h3 (by omega)
      exact ⟨by omega, fun _ => by omega, fun _ => by omega⟩
  · rw [rj_sep hv, zero_mdv]
    exact ⟨by omega, fun _ => by omega, fun _ => rfl⟩
theorem sum_vel {ax ay bx b_y nx ny e m : Int} (hx : -2000 ≤ ax ∧ ax ≤ 2000) (hy : -2000 ≤ ay ∧ ay ≤ 2000) (hbx : -2000 ≤ bx ∧ bx ≤ 2000) (hby : -2000 ≤ b_y ∧ b_y ≤ 2000) (h1 : -512 ≤ nx ∧ nx ≤ 512) (h2 : -512 ≤ ny ∧ ny ≤ 512) (he : 0 ≤ e ∧ e ≤ 1024) (hm : 0 ≤ m) :
    (rvel ax nx (imp ax ay m bx b_y m nx ny e) m + rvel' bx nx (imp ax ay m bx b_y m nx ny e) m = ax + bx ∧ rvel ay ny (imp ax ay m bx b_y m nx ny e) m + rvel' b_y ny (imp ax ay m bx b_y m nx ny e) m = ay + b_y) ∧
    (-4000 ≤ rvel ax nx (imp ax ay m bx b_y m nx ny e) m ∧ rvel ax nx (imp ax ay m bx b_y m nx ny e) m ≤ 4000) ∧ (-4000 ≤ rvel ay ny (imp ax ay m bx b_y m nx ny e) m ∧ rvel ay ny (imp ax ay m bx b_y m nx ny e) m ≤ 4000) := by
  unfold imp
  have p1 := mul_bd (a := bx - ax) (b := nx) (A := 4000) (B := 512) (by omega) h1
  have p2 := mul_bd (a := b_y - ay) (b := ny) (A := 4000) (B := 512) (by omega) h2
  have hv : -4000 ≤ dotz (bx - ax) (b_y - ay) nx ny ∧ dotz (bx - ax) (b_y - ay) nx ny ≤ 4000 := by unfold dotz; omega
  have k := push_bd (vn := dotz (bx - ax) (b_y - ay) nx ny) he hm
  unfold rvel rvel'
  generalize dotz (bx - ax) (b_y - ay) nx ny = vn at *
  generalize mdv (rj vn e (m + m)) m 1024 = K at *
  have hK : -4000 ≤ K ∧ K ≤ 4000 := by by_cases h : vn < 0 <;> omega
  have q1 := mul_bd (a := nx) (b := K) (A := 512) (B := 4000) h1 hK
  have q2 := mul_bd (a := ny) (b := K) (A := 512) (B := 4000) h2 hK
  rw [mdv_one, mdv_one, clp_in (by omega) (by omega), clp_in (by omega) (by omega), clp_in (by omega) (by omega), clp_in (by omega) (by omega)]
  omega
theorem sq_drop {a b K : Int} (h : K * (K + (b - a)) ≤ 0) : (a - K) * (a - K) + (b + K) * (b + K) ≤ a * a + b * b := by
  have e : (a - K) * (a - K) + (b + K) * (b + K) = a * a + b * b + 2 * (K * (K + (b - a))) := by grind
  omega
theorem sq_rise {a b K : Int} (h : K * (K + (a - b)) ≤ 0) : (a + K) * (a + K) + (b - K) * (b - K) ≤ a * a + b * b := by
  have := sq_drop h
  omega
theorem sum_sq {ax ay bx b_y nx ny e m : Int} (hx : -2000 ≤ ax ∧ ax ≤ 2000) (hy : -2000 ≤ ay ∧ ay ≤ 2000) (hbx : -2000 ≤ bx ∧ bx ≤ 2000) (hby : -2000 ≤ b_y ∧ b_y ≤ 2000) (hn : (nx = 1024 ∧ ny = 0) ∨ (nx = -1024 ∧ ny = 0) ∨ (nx = 0 ∧ ny = 1024) ∨ (nx = 0 ∧ ny = -1024)) (he : 0 ≤ e ∧ e ≤ 1024) (hm : 0 ≤ m) :
    ∃ a3 a4 b3 b4, rvel ax nx (imp ax ay m bx b_y m nx ny e) m = a3 ∧ rvel ay ny (imp ax ay m bx b_y m nx ny e) m = a4 ∧ rvel' bx nx (imp ax ay m bx b_y m nx ny e) m = b3 ∧ rvel' b_y ny (imp ax ay m bx b_y m nx ny e) m = b4 ∧
      a3 * a3 + a4 * a4 + (b3 * b3 + b4 * b4) ≤ ax * ax + ay * ay + (bx * bx + b_y * b_y) ∧ (-6000 ≤ a3 ∧ a3 ≤ 6000) ∧ (-6000 ≤ a4 ∧ a4 ≤ 6000) ∧ (-6000 ≤ b3 ∧ b3 ≤ 6000) ∧ (-6000 ≤ b4 ∧ b4 ≤ 6000) := by
  refine ⟨_, _, _, _, rfl, rfl, rfl, rfl, ?_⟩
  unfold imp
  have k := push_bd (vn := dotz (bx - ax) (b_y - ay) nx ny) he hm
  unfold rvel rvel'
  rcases hn with ⟨rfl, rfl⟩ | ⟨rfl, rfl⟩ | ⟨rfl, rfl⟩ | ⟨rfl, rfl⟩
  · have hv : dotz (bx - ax) (b_y - ay) 1024 0 = bx - ax := by unfold dotz; omega
    rw [hv] at k ⊢
    generalize mdv (rj (bx - ax) e (m + m)) m 1024 = K at *
    have hK : K * (K + (bx - ax)) ≤ 0 := by
      by_cases h : bx - ax < 0
      · exact Int.mul_nonpos_of_nonneg_of_nonpos k.1 (by have := k.2.1 h; omega)
      · have := k.2.2 (by omega); subst this; simp
    have hb : K ≤ 4000 := by by_cases h : bx - ax < 0 <;> omega
    have s := sq_drop hK
    rw [mdv_one, mdv_one, clp_in (by omega) (by omega), clp_in (by omega) (by omega), clp_in (by omega) (by omega), clp_in (by omega) (by omega)]
    have e1 : 1024 * K / 1024 = K := by omega
    have e2 : 0 * K / 1024 = 0 := by omega
    rw [e1, e2, Int.sub_zero, Int.add_zero]
    refine ⟨by omega, by omega, by omega, by omega, by omega⟩
  · have hv : dotz (bx - ax) (b_y - ay) (-1024) 0 = -(bx - ax) := by unfold dotz; omega
    rw [hv] at k ⊢
    generalize mdv (rj (-(bx - ax)) e (m + m)) m 1024 = K at *
    have hK : K * (K + (ax - bx)) ≤ 0 := by
      by_cases h : -(bx - ax) < 0
      · exact Int.mul_nonpos_of_nonneg_of_nonpos k.1 (by have := k.2.1 h; omega)
      · have := k.2.2 (by omega); subst this; simp
    have hb : K ≤ 4000 := by by_cases h : -(bx - ax) < 0 <;> omega
    have s := sq_rise hK
    rw [mdv_one, mdv_one, clp_in (by omega) (by omega), clp_in (by omega) (by omega), clp_in (by omega) (by omega), clp_in (by omega) (by omega)]
    have e1 : ax - -1024 * K / 1024 = ax + K := by omega
    have e3 : bx + -1024 * K / 1024 = bx - K := by omega
    have e2 : 0 * K / 1024 = 0 := by omega
    rw [e1, e3, e2, Int.sub_zero, Int.add_zero]
    refine ⟨by omega, by omega, by omega, by omega, by omega⟩
  · have hv : dotz (bx - ax) (b_y - ay) 0 1024 = b_y - ay := by unfold dotz; omega
    rw [hv] at k ⊢
    generalize mdv (rj (b_y - ay) e (m + m)) m 1024 = K at *
    have hK : K * (K + (b_y - ay)) ≤ 0 := by
      by_cases h : b_y - ay < 0
      · exact Int.mul_nonpos_of_nonneg_of_nonpos k.1 (by have := k.2.1 h; omega)
      · have := k.2.2 (by omega); subst this; simp
    have hb : K ≤ 4000 := by by_cases h : b_y - ay < 0 <;> omega
    have s := sq_drop hK
    rw [mdv_one, mdv_one, clp_in (by omega) (by omega), clp_in (by omega) (by omega), clp_in (by omega) (by omega), clp_in (by omega) (by omega)]
    have e1 : 1024 * K / 1024 = K := by omega
    have e2 : 0 * K / 1024 = 0 := by omega
    rw [e1, e2, Int.sub_zero, Int.add_zero]
    refine ⟨by omega, by omega, by omega, by omega, by omega⟩
  · have hv : dotz (bx - ax) (b_y - ay) 0 (-1024) = -(b_y - ay) := by unfold dotz; omega
    rw [hv] at k ⊢
    generalize mdv (rj (-(b_y - ay)) e (m + m)) m 1024 = K at *
    have hK : K * (K + (ay - b_y)) ≤ 0 := by
      by_cases h : -(b_y - ay) < 0
      · exact Int.mul_nonpos_of_nonneg_of_nonpos k.1 (by have := k.2.1 h; omega)
      · have := k.2.2 (by omega); subst this; simp
    have hb : K ≤ 4000 := by by_cases h : -(b_y - ay) < 0 <;> omega
    have s := sq_rise hK
    rw [mdv_one, mdv_one, clp_in (by omega) (by omega), clp_in (by omega) (by omega), clp_in (by omega) (by omega), clp_in (by omega) (by omega)]
    have e1 : ay - -1024 * K / 1024 = ay + K := by omega
    have e3 : b_y + -1024 * K / 1024 = b_y - K := by omega
    have e2 : 0 * K / 1024 = 0 := by omega
    rw [e1, e3, e2, Int.sub_zero, Int.add_zero]
    refine ⟨by omega, by omega, by omega, by omega, by omega⟩

/-- Resolve where it is asked: what the two calls return. -/
def Res (apx apy avx avy am bpx bpy bvx bvy bm nx ny d e : Int) (p q r s t p' q' r' s' t' : Int) : Prop :=
  ∀ w, Calls Try.prog 68 #[.agg #[.int .i64 apx, .int .i64 apy, .int .i64 avx, .int .i64 avy, .int .i64 am], .agg #[.int .i64 bpx, .int .i64 bpy, .int .i64 bvx, .int .i64 bvy, .int .i64 bm], .agg #[.int .i64 nx, .int .i64 ny, .int .i64 d], .int .i64 e] w
      fun r0 w' => r0 = .returned (.tuple #[.agg #[.int .i64 p, .int .i64 q, .int .i64 r, .int .i64 s, .int .i64 t], .agg #[.int .i64 p', .int .i64 q', .int .i64 r', .int .i64 s', .int .i64 t']]) ∧ Below w.heap.size w w'
theorem two (apx apy avx avy am bpx bpy bvx bvy nx ny kx ky d e : Int) (hA : SB apx apy avx avy am) (hB : SB bpx bpy bvx bvy am) (h1 : (-512 ≤ nx ∧ nx ≤ 512) ∧ (-512 ≤ ny ∧ ny ≤ 512)) (hn : (kx = 1024 ∧ ky = 0) ∨ (kx = -1024 ∧ ky = 0) ∨ (kx = 0 ∧ ky = 1024) ∨ (kx = 0 ∧ ky = -1024)) (hd : 0 ≤ d ∧ d ≤ 1048576) (he : 0 ≤ e ∧ e ≤ 1024) :
    (∃ a1 a2 a3 a4 b1 b2 b3 b4, ((a3 + b3 = avx + bvx ∧ a4 + b4 = avy + bvy) ∧ (-4000 ≤ a3 ∧ a3 ≤ 4000) ∧ (-4000 ≤ a4 ∧ a4 ≤ 4000)) ∧ Res apx apy avx avy am bpx bpy bvx bvy am nx ny d e a1 a2 a3 a4 am b1 b2 b3 b4 am) ∧
    (∃ a1 a2 a3 a4 b1 b2 b3 b4, (a3 * a3 + a4 * a4 + (b3 * b3 + b4 * b4) ≤ avx * avx + avy * avy + (bvx * bvx + bvy * bvy) ∧ (-6000 ≤ a3 ∧ a3 ≤ 6000) ∧ (-6000 ≤ a4 ∧ a4 ≤ 6000) ∧ (-6000 ≤ b3 ∧ b3 ≤ 6000) ∧ (-6000 ≤ b4 ∧ b4 ≤ 6000)) ∧
      Res apx apy avx avy am bpx bpy bvx bvy am kx ky 0 e a1 a2 a3 a4 am b1 b2 b3 b4 am) := by
  obtain ⟨a1, a2, a3, a4, a5⟩ := hA
  obtain ⟨b1, b2, b3, b4, b5⟩ := hB
  have g1 := fun w => Resolve_any apx apy avx avy am bpx bpy bvx bvy am nx ny d e w (by unfold RB; omega) (by unfold RB; omega) (by omega) hd he
  have g2 := fun w => Resolve_any apx apy avx avy am bpx bpy bvx bvy am kx ky 0 e w (by unfold RB; omega) (by unfold RB; omega) (by omega) (by omega) he
  obtain ⟨c3, c4, d3, d4, e1, e2, e3, e4, hs⟩ := sum_sq a3 a4 b3 b4 hn he a5.1
  simp only [e1, e2, e3, e4] at g2
  exact ⟨⟨_, _, _, _, _, _, _, _, sum_vel a3 a4 b3 b4 h1.1 h1.2 he a5.1, g1⟩, ⟨_, _, _, _, _, _, _, _, hs, g2⟩⟩

theorem squares_any (x y : Int) (w : World) (h1 : -100000 ≤ x ∧ x ≤ 100000) (h2 : -100000 ≤ y ∧ y ≤ 100000) :
    Calls Try.prog 73 #[.agg #[.int .i64 x, .int .i64 y]] w fun e w' => e = .returned (.int .i64 (x * x + y * y)) ∧ Below w.heap.size w w' := by
  have p1 := mul_bd (a := x) (b := x) (A := 100000) (B := 100000) h1 h1
  have p2 := mul_bd (a := y) (b := y) (A := 100000) (B := 100000) h2 h2
  go_enter Try.func73, Try.ntmps73
  go_wp2_with fail
  go_ret
  exact ⟨rfl, (by repeat (first | with_reducible exact Below.refl _ _ | with_reducible refine below_alloc ?_ _ | with_reducible refine Below.drew ?_ | with_reducible refine below_set ?_ (by (first | (simp; done) | (simp; omega))) _ | with_reducible refine below_step (by assumption) ?_))⟩

set_option maxRecDepth 100000 in
set_option maxHeartbeats 4000000 in
theorem walk (w : World) (A : Option Addr) (lA cA : Nat) (zA : List Int) (hA : IsRow .i64 w A lA cA zA) (B : Option Addr) (lB cB : Nat) (zB : List Int) (hB : IsRow .i64 w B lB cB zB) (C : Option Addr) (lC cC : Nat) (zC : List Int) (hC : IsRow .i64 w C lC cC zC)
    (x : Int) (lx : -9223372036854775808 ≤ x) (ux : x ≤ 9223372036854775807) (r : Int) (lr : -9223372036854775808 ≤ r) (ur : r ≤ 9223372036854775807) :
    Calls Try.prog 20 #[.slice A lA cA, .slice B lB cB, .slice C lC cC, .int .i64 x, .int .i64 r] w fun e w' => e = .returned (.bool true) ∧ Below w.heap.size w w' := by
  have CA := fun W h => Slow_any A lA cA zA W h
  have CB := fun W h => Slow_any B lB cB zB W h
  have CC := fun W h => Contact_any C lC cC zC W h
  have CD := fun W => Axis_any x W lx ux
  have CE := fun W => Around_any r 1025 W (by omega) lr ur
  have mA := slow_bd zA lA
  have mB := slow_bd zB lB
  obtain ⟨mn, md⟩ := contact_bd zC lC
  have mk := axx_one x
  have me := arnd_bd r (most := 1025) (by decide)
  have HA := Lib.hid hA; clear hA
  have HB := Lib.hid hB; clear hB
  have HC := Lib.hid hC; clear hC
  generalize spx zA lA = apx at *
  generalize spy zA lA = apy at *
  generalize svx zA lA = avx at *
  generalize svy zA lA = avy at *
  generalize mms zA lA = am at *
  generalize spx zB lB = bpx at *
  generalize spy zB lB = bpy at *
  generalize svx zB lB = bvx at *
  generalize svy zB lB = bvy at *
  generalize mms zB lB = bm at *
  generalize cnx zC lC = cx at *
  generalize cny zC lC = cy at *
  generalize cdp zC lC = d at *
  generalize axx x = kx at *
  generalize axy x = ky at *
  generalize arnd r 1025 = E at *
  have nb : (-512 ≤ cx.tdiv 2 ∧ cx.tdiv 2 ≤ 512) ∧ (-512 ≤ cy.tdiv 2 ∧ cy.tdiv 2 ≤ 512) := by
    have e1 := Int.mul_tdiv_add_tmod cx 2
    have e2 := Int.mul_tdiv_add_tmod cy 2
    have t1 := tmod_bd cx (c := 2) (by decide)
    have t2 := tmod_bd cy (c := 2) (by decide)
    omega
  have mB' : SB bpx bpy bvx bvy am := ⟨mB.1, mB.2.1, mB.2.2.1, mB.2.2.2.1, mA.2.2.2.2⟩
  obtain ⟨⟨a1, a2, a3, a4, b1, b2, b3, b4, ⟨⟨t1, t2⟩, hb⟩, F1⟩, ⟨c1, c2, c3, c4, f1, f2, f3, f4, ⟨hq, hc⟩, F2⟩⟩ := two apx apy avx avy am bpx bpy bvx bvy (cx.tdiv 2) (cy.tdiv 2) kx ky d E mA mB' nb mk md (by omega)
  have T1 : (a3 + b3 = avx + bvx) = True := eq_true t1
  have T2 : (a4 + b4 = avy + bvy) = True := eq_true t2
  have k1 : -10000 ≤ b3 ∧ b3 ≤ 10000 := by have := mA.2.2.1; have := mB.2.2.1; omega
  have k2 : -10000 ≤ b4 ∧ b4 ≤ 10000 := by have := mA.2.2.2.1; have := mB.2.2.2.1; omega
  clear t1 t2
  have HF1 := Lib.hid F1; clear F1
  have HF2 := Lib.hid F2; clear F2
  have HCA := Lib.hid CA; clear CA
  have HCB := Lib.hid CB; clear CB
  have HCC := Lib.hid CC; clear CC
  have HCD := Lib.hid CD; clear CD
  have HCE := Lib.hid CE; clear CE
  have q1 := mA.2.2.1
  have q2 := mA.2.2.2.1
  have q3 := mB.2.2.1
  have q4 := mB.2.2.2.1
  have HQ := Lib.hid hq
  obtain ⟨nb1, nb2⟩ := nb
  clear mA mB mB' mn mk me hq
  go_enter Try.func20, Try.ntmps20
  go_wp2_with fail
  refine (HCA.out _ (HA.out.below (by repeat (first | with_reducible exact Below.refl _ _ | with_reducible refine below_alloc ?_ _ | with_reducible refine Below.drew ?_ | with_reducible refine below_set ?_ (by (first | (simp; done) | (simp; omega))) _ | with_reducible refine below_step (by assumption) ?_)))).mono ?_
  rintro e w1 ⟨rfl, hb1⟩; have d1 : Below w.heap.size w w1 := below_step hb1 (by repeat (first | with_reducible exact Below.refl _ _ | with_reducible refine below_alloc ?_ _ | with_reducible refine Below.drew ?_ | with_reducible refine below_set ?_ (by (first | (simp; done) | (simp; omega))) _ | with_reducible refine below_step (by assumption) ?_)); have z1 := hb1.size; (try simp at z1)
  go_wp2_with fail
  refine (HCB.out _ (HB.out.below (by repeat (first | with_reducible exact Below.refl _ _ | with_reducible refine below_alloc ?_ _ | with_reducible refine Below.drew ?_ | with_reducible refine below_set ?_ (by (first | (simp; done) | (simp; omega))) _ | with_reducible refine below_step (by assumption) ?_)))).mono ?_
  rintro e w2 ⟨rfl, hb2⟩; have d2 : Below w1.heap.size w1 w2 := below_step hb2 (by repeat (first | with_reducible exact Below.refl _ _ | with_reducible refine below_alloc ?_ _ | with_reducible refine Below.drew ?_ | with_reducible refine below_set ?_ (by (first | (simp; done) | (simp; omega))) _ | with_reducible refine below_step (by assumption) ?_)); have z2 := hb2.size; (try simp at z2)
  have XA : B5 w2 (w1.heap.size) (.int .i64 (apx)) (.int .i64 (apy)) (.int .i64 (avx)) (.int .i64 (avy)) (.int .i64 (am)) := B5.below (by unfold B5 Cel; simp [go_sem]) hb2; have lXA := XA.lt
  go_wp2_with fail
  refine (HCC.out _ (HC.out.below (by repeat (first | with_reducible exact Below.refl _ _ | with_reducible refine below_alloc ?_ _ | with_reducible refine Below.drew ?_ | with_reducible refine below_set ?_ (by (first | (simp; done) | (simp; omega))) _ | with_reducible refine below_step (by assumption) ?_)))).mono ?_
  rintro e w3 ⟨rfl, hb3⟩; have d3 : Below w2.heap.size w2 w3 := below_step hb3 (by repeat (first | with_reducible exact Below.refl _ _ | with_reducible refine below_alloc ?_ _ | with_reducible refine Below.drew ?_ | with_reducible refine below_set ?_ (by (first | (simp; done) | (simp; omega))) _ | with_reducible refine below_step (by assumption) ?_)); have z3 := hb3.size; (try simp at z3); replace XA := XA.below d3; (try clear lXA); have lXA := XA.lt
  have XB : B5 w3 (w2.heap.size) (.int .i64 (bpx)) (.int .i64 (bpy)) (.int .i64 (bvx)) (.int .i64 (bvy)) (.int .i64 (am)) := B5.below (by unfold B5 Cel; simp [go_sem]) hb3; have lXB := XB.lt
  go_wp2_with fail
  refine (HCE.out _).mono ?_
  rintro e w' ⟨rfl, rfl⟩
  go_wp2_with fail
  refine (HF1.out _).mono ?_
  rintro e w4 ⟨rfl, hb4⟩; have d4 : Below w3.heap.size w3 w4 := below_step hb4 (by repeat (first | with_reducible exact Below.refl _ _ | with_reducible refine below_alloc ?_ _ | with_reducible refine Below.drew ?_ | with_reducible refine below_set ?_ (by (first | (simp; done) | (simp; omega))) _ | with_reducible refine below_step (by assumption) ?_)); have z4 := hb4.size; (try simp at z4); replace XA := XA.below d4; (try clear lXA); have lXA := XA.lt; replace XB := XB.below d4; (try clear lXB); have lXB := XB.lt
  go_wp2_with fail
  have YA := XA
  have YB := XB
  refine code_named ?_; intro W4 hW; have dW4 : Below w4.heap.size w4 W4 := (by rw [hW]; exact (by repeat (first | with_reducible exact Below.refl _ _ | with_reducible refine below_alloc ?_ _ | with_reducible refine Below.drew ?_ | with_reducible refine below_set ?_ (by (first | (simp; done) | (simp; omega))) _ | with_reducible refine below_step (by assumption) ?_))); replace XA := XA.below dW4; (try clear lXA); have lXA := XA.lt; replace XB := XB.below dW4; (try clear lXB); have lXB := XB.lt
  have XV : B5 W4 (w4.heap.size) (.int .i64 (a1)) (.int .i64 (a2)) (.int .i64 (a3)) (.int .i64 (a4)) (.int .i64 (am)) := (by rw [hW]; unfold B5 Cel; simp [go_sem]); have lXV := XV.lt
  have XW : B5 W4 (w4.heap.size + 1) (.int .i64 (b1)) (.int .i64 (b2)) (.int .i64 (b3)) (.int .i64 (b4)) (.int .i64 (am)) := (by rw [hW]; unfold B5 Cel; simp [go_sem]); have lXW := XW.lt
  clear hW
  have KXA := XA.re; have KXB := XB.re; have KXV := XV.re; have KXW := XW.re; refine wp_region_below (by kernel_rfl) (by kernel_rfl) ?_
  repeat (go_big_quiet_step (first
    | (go_at_call 50; exact met_below (Add_any _ _ _ _ _ (by omega) (by omega) (by omega) (by omega)))))
  refine wpQuiet_nil ?_; intro w5 d5; clear KXA KXB KXV KXW; replace XA := XA.below d5; (try clear lXA); have lXA := XA.lt; replace XB := XB.below d5; (try clear lXB); have lXB := XB.lt; replace XV := XV.below d5; (try clear lXV); have lXV := XV.lt; replace XW := XW.below d5; (try clear lXW); have lXW := XW.lt
  go_wp2_with fail
  have KS := Lib.hid (show ∀ w', Below w4.heap.size w4 w' → (B5 w' w1.heap.size (.int .i64 apx) (.int .i64 apy) (.int .i64 avx) (.int .i64 avy) (.int .i64 am) ∧ B5 w' w2.heap.size (.int .i64 bpx) (.int .i64 bpy) (.int .i64 bvx) (.int .i64 bvy) (.int .i64 am) ∧ Below w4.heap.size w4 w') from fun w' hb => ⟨YA.below hb, YB.below hb, hb⟩)
  have n0 : w4.heap.size ≠ w1.heap.size := (by omega); have n0' := Ne.symm n0; have n1 : w4.heap.size ≠ w2.heap.size := (by omega); have n1' := Ne.symm n1; have n2 : w4.heap.size ≠ w4.heap.size + 1 := (by omega); have n2' := Ne.symm n2
  have m0 : w4.heap.size + 1 ≠ w1.heap.size := (by omega); have m0' := Ne.symm m0; have m1 : w4.heap.size + 1 ≠ w2.heap.size := (by omega); have m1' := Ne.symm m1
  clear YA YB
  go_region_held3 (fun w' => B5 w' w1.heap.size (.int .i64 apx) (.int .i64 apy) (.int .i64 avx) (.int .i64 avy) (.int .i64 am) ∧ B5 w' w2.heap.size (.int .i64 bpx) (.int .i64 bpy) (.int .i64 bvx) (.int .i64 bvy) (.int .i64 am) ∧ Below w4.heap.size w4 w') (refine KS.out _ (by repeat (first | with_reducible exact Below.refl _ _ | with_reducible refine below_alloc ?_ _ | with_reducible refine Below.drew ?_ | with_reducible refine below_set ?_ (by (first | (simp; done) | (simp; omega))) _ | with_reducible refine below_step (by assumption) ?_)))
    (first
      | (go_at_call 72; refine (HCD.out _).mono ?_; rintro e w9 ⟨rfl, hb9⟩)
      | (go_at_call 68; refine (HF2.out _).mono ?_; rintro e w8 ⟨rfl, hb8⟩; have XV8 := XV.below (show Below w5.heap.size w5 w8 from (by repeat (first | with_reducible exact Below.refl _ _ | with_reducible refine below_alloc ?_ _ | with_reducible refine Below.drew ?_ | with_reducible refine below_set ?_ (by (first | (simp; done) | (simp; omega))) _ | with_reducible refine below_step (by assumption) ?_))); have XW8 := XW.below (show Below w5.heap.size w5 w8 from (by repeat (first | with_reducible exact Below.refl _ _ | with_reducible refine below_alloc ?_ _ | with_reducible refine Below.drew ?_ | with_reducible refine below_set ?_ (by (first | (simp; done) | (simp; omega))) _ | with_reducible refine below_step (by assumption) ?_)))))
  rename _ ∧ _ ∧ Below w4.heap.size w4 _ => hS
  go_wp2_with fail
  refine code_named ?_
  intro W6 hW
  obtain ⟨XA', XB', hS⟩ := hS
  have XV' : B5 W6 w4.heap.size (.int .i64 c1) (.int .i64 c2) (.int .i64 c3) (.int .i64 c4) (.int .i64 am) := by
    rw [hW]; exact (((((((((XV8.set0 _).set1 _).set2 _).set3 _).set4 _).far n2' _).far n2' _).far n2' _).far n2' _).far n2' _
  have XW' : B5 W6 (w4.heap.size + 1) (.int .i64 f1) (.int .i64 f2) (.int .i64 f3) (.int .i64 f4) (.int .i64 am) := by
    rw [hW]; exact (((((((((XW8.far n2 _).far n2 _).far n2 _).far n2 _).far n2 _).set0 _).set1 _).set2 _).set3 _).set4 _
  rw [← hW] at XA' XB' hS
  have i6 : Below w.heap.size w W6 := by rw [hW]; exact (by repeat (first | with_reducible exact Below.refl _ _ | with_reducible refine below_alloc ?_ _ | with_reducible refine Below.drew ?_ | with_reducible refine below_set ?_ (by (first | (simp; done) | (simp; omega))) _ | with_reducible refine below_step (by assumption) ?_))
  clear hW XA XB XV XW XV8 XW8 KS
  have hq := HQ.out
  have s1 := mul_bd (a := avx) (b := avx) (A := 6000) (B := 6000) (by omega) (by omega)
  have s2 := mul_bd (a := avy) (b := avy) (A := 6000) (B := 6000) (by omega) (by omega)
  have s3 := mul_bd (a := bvx) (b := bvx) (A := 6000) (B := 6000) (by omega) (by omega)
  have s4 := mul_bd (a := bvy) (b := bvy) (A := 6000) (B := 6000) (by omega) (by omega)
  have s5 := mul_bd (a := c3) (b := c3) (A := 6000) (B := 6000) (by omega) (by omega)
  have s6 := mul_bd (a := c4) (b := c4) (A := 6000) (B := 6000) (by omega) (by omega)
  have s7 := mul_bd (a := f3) (b := f3) (A := 6000) (B := 6000) (by omega) (by omega)
  have s8 := mul_bd (a := f4) (b := f4) (A := 6000) (B := 6000) (by omega) (by omega)
  have hd : decide (c3 * c3 + c4 * c4 + (f3 * f3 + f4 * f4) ≤ avx * avx + avy * avy + (bvx * bvx + bvy * bvy)) = true := decide_eq_true hq
  have r1 : IntKind.i64.wrap (c3 * c3 + c4 * c4 + (f3 * f3 + f4 * f4)) = c3 * c3 + c4 * c4 + (f3 * f3 + f4 * f4) := IntWalk.i64_in _ (by omega)
  have r2 : IntKind.i64.wrap (avx * avx + avy * avy + (bvx * bvx + bvy * bvy)) = avx * avx + avy * avy + (bvx * bvx + bvy * bvy) := IntWalk.i64_in _ (by omega)
  clear hq
  have KXA' := XA'.re; have KXB' := XB'.re; have KXV' := XV'.re; have KXW' := XW'.re; refine wp_region_below (by kernel_rfl) (by kernel_rfl) ?_
  repeat (go_big_quiet_step (first
    | (go_at_call 73; exact met_below (squares_any _ _ _ (by omega) (by omega)))
    | (go_at_call 70; exact met_below (lives7_any _))))
  refine wpQuiet_nil ?_; intro w7 d7
  go_wp2_with fail
  go_ret
  exact ⟨rfl, (by repeat (first | with_reducible exact Below.refl _ _ | with_reducible refine below_alloc ?_ _ | with_reducible refine Below.drew ?_ | with_reducible refine below_set ?_ (by (first | (simp; done) | (simp; omega))) _ | with_reducible refine below_step (by assumption) ?_))⟩

theorem own : ownKnob Try.prog.godebug = none := by kernel_rfl
theorem laidOut : laidOutB Try.prog = true := by kernel_rfl

set_option maxRecDepth 100000 in
theorem lifted (os : Os) (started : os.Started) (H : Type) (enc : TypeId × Value → H) :
    ReturnsInHanded {} Try.checked os 20 .any (Rows.resolveMomentumSpec.pre6 enc Try.prog Try.f20 Rows.resolveMomentumRow.domain false) (Rows.resolveMomentumSpec.post enc Try.prog Try.f20 false true false false) := by
  refine returnsInHanded_of_change (C := Try.checked) own started (by kernel_rfl) Try.func20
    (ChangeSpec.witness6 (enc := enc) (C := Try.checked) false ⟨#[], #[.slice none 0 0, .slice none 0 0, .slice none 0 0, .int .i64 0, .int .i64 0], []⟩ 8 (by kernel_rfl) (by kernel_rfl) (by kernel_rfl) (by kernel_rfl)) ?_
  intro W base args ds gs before hval0 hW hcnd _
  have hval : ∀ (j : Nat) t v, Try.f20.params[j]? = some t → args[j]? = some v → Value.okWide Try.prog W .any base t v := hval0
  have hW' := hW
  obtain ⟨p, q, hA0, hV, rfl, hfz, hnd⟩ := hW
  have hA : DataW.TrodAll enc Try.prog W 0 (fun _ => true) true Try.f20.params.toList args.toList ds p := hA0
  rw [Try.params20] at hA hval
  obtain ⟨v0, vs0, d0, ds0, p0, q0, hargs, rfl, rfl, h0, r0⟩ := trodAll_cons hA
  obtain ⟨v1, vs1, d1, ds1, p1, q1, rfl, rfl, rfl, h1, r1⟩ := trodAll_cons r0
  obtain ⟨v2, vs2, d2, ds2, p2, q2, rfl, rfl, rfl, h2, r2⟩ := trodAll_cons r1
  obtain ⟨v3, vs3, d3, ds3, p3, q3, rfl, rfl, rfl, h3, r3⟩ := trodAll_cons r2
  obtain ⟨v4, vs4, d4, ds4, p4, q4, rfl, rfl, rfl, h4, r4⟩ := trodAll_cons r3
  obtain ⟨rfl, rfl, rfl⟩ := trodAll_nil r4
  obtain rfl : args = #[v0, v1, v2, v3, v4] := by cases args; simp_all
  obtain ⟨rfl, rfl⟩ := trodVars_none hV
  obtain ⟨a0, len0, cap0, rfl⟩ := okWide_slice Try.underlying44 (hval 0 44 v0 rfl rfl)
  have k0 := h0
  have lt0 : ∀ x ∈ p0, x.block < W.heap.size := by obtain ⟨m, hm⟩ := k0; exact DataW.trod_lt m _ _ _ hm
  obtain ⟨z0, w0⟩ : ∃ zs, IsRow .i64 W a0 len0 cap0 zs := by
    obtain ⟨fuel, hf⟩ := h0
    rcases open_ints Try.underlying44 Try.underlying3 (by kernel_rfl) hf with ⟨hcs, _⟩ | ⟨x, l, c, zs, hcs, _, hl, hm, hz, _, hcell, hwz⟩
    · simp [Value.cells] at hcs
      obtain ⟨rfl, rfl, rfl⟩ := hcs
      exact ⟨[], .inl ⟨rfl, rfl, rfl, rfl⟩⟩
    · simp [Value.cells] at hcs
      obtain ⟨rfl, rfl, rfl⟩ := hcs
      exact ⟨zs, .inr ⟨_, rfl, hl, hm, by simpa using hz, hcell, hwz⟩⟩
  obtain ⟨a1, len1, cap1, rfl⟩ := okWide_slice Try.underlying44 (hval 1 44 v1 rfl rfl)
  have k1 := h1
  have lt1 : ∀ x ∈ p1, x.block < W.heap.size := by obtain ⟨m, hm⟩ := k1; exact DataW.trod_lt m _ _ _ hm
  obtain ⟨z1, w1⟩ : ∃ zs, IsRow .i64 W a1 len1 cap1 zs := by
    obtain ⟨fuel, hf⟩ := h1
    rcases open_ints Try.underlying44 Try.underlying3 (by kernel_rfl) hf with ⟨hcs, _⟩ | ⟨x, l, c, zs, hcs, _, hl, hm, hz, _, hcell, hwz⟩
    · simp [Value.cells] at hcs
      obtain ⟨rfl, rfl, rfl⟩ := hcs
      exact ⟨[], .inl ⟨rfl, rfl, rfl, rfl⟩⟩
    · simp [Value.cells] at hcs
      obtain ⟨rfl, rfl, rfl⟩ := hcs
      exact ⟨zs, .inr ⟨_, rfl, hl, hm, by simpa using hz, hcell, hwz⟩⟩
  obtain ⟨a2, len2, cap2, rfl⟩ := okWide_slice Try.underlying44 (hval 2 44 v2 rfl rfl)
  have k2 := h2
  have lt2 : ∀ x ∈ p2, x.block < W.heap.size := by obtain ⟨m, hm⟩ := k2; exact DataW.trod_lt m _ _ _ hm
  obtain ⟨z2, w2⟩ : ∃ zs, IsRow .i64 W a2 len2 cap2 zs := by
    obtain ⟨fuel, hf⟩ := h2
    rcases open_ints Try.underlying44 Try.underlying3 (by kernel_rfl) hf with ⟨hcs, _⟩ | ⟨x, l, c, zs, hcs, _, hl, hm, hz, _, hcell, hwz⟩
    · simp [Value.cells] at hcs
      obtain ⟨rfl, rfl, rfl⟩ := hcs
      exact ⟨[], .inl ⟨rfl, rfl, rfl, rfl⟩⟩
    · simp [Value.cells] at hcs
      obtain ⟨rfl, rfl, rfl⟩ := hcs
      exact ⟨zs, .inr ⟨_, rfl, hl, hm, by simpa using hz, hcell, hwz⟩⟩
  obtain ⟨a3, rfl, rfl, rfl, w3⟩ := open_int Try.underlying3 (hval 3 3 v3 rfl rfl) h3
  obtain ⟨a4, rfl, rfl, rfl, w4⟩ := open_int Try.underlying3 (hval 4 3 v4 rfl rfl) h4
  clear hA0 hval0
  refine (walk W a0 len0 cap0 z0 w0 a1 len1 cap1 z1 w1 a2 len2 cap2 z2 w2 a3 (bounds_i64 w3).1 (bounds_i64 w3).2 a4 (bounds_i64 w4).1 (bounds_i64 w4).2).mono fun e W' ⟨he, bel⟩ => ?_
  subst he
  exact ⟨_, rfl, _, _, _, [], _, [], hW', trodAll_mk1 (shut_bool Try.underlying4 _), (trodAll_cons_mk (Below.trod laidOut (by kernel_rfl) (of_decide_eq_true (by kernel_rfl)) k0 bel lt0) (trodAll_cons_mk (Below.trod laidOut (by kernel_rfl) (of_decide_eq_true (by kernel_rfl)) k1 bel lt1) (trodAll_cons_mk (Below.trod laidOut (by kernel_rfl) (of_decide_eq_true (by kernel_rfl)) k2 bel lt2) (trodAll_cons_mk (shut_int Try.underlying3 w3) (trodAll_cons_mk (shut_int Try.underlying3 w4) trodAll_mk0))))), rfl, bel.frame _, fun h => by cases h⟩

theorem closed : joinedFacts Try.prog 20 Try.f20 Rows.resolveMomentumSpec Rows.resolveMomentumRow = true := by
  unfold joinedFacts
  repeat' (with_reducible refine both_of ?_ ?_)
  all_goals (first | with_reducible exact mayEnter_ok | (rw [liftsFinal_is]; as_aux_lemma => kernel_rfl) | (rw [make_is]; as_aux_lemma => kernel_rfl) | (as_aux_lemma => kernel_rfl))

theorem over : Rows.resolveMomentumRow.holds Try.pinned (OpenSpec.ofChange Rows.resolveMomentumSpec) :=
  OpenClaim.holds_of_wide 20 Try.f20 rfl rfl rfl rfl rfl rfl rfl ⟨rfl, rfl, rfl, rfl, rfl⟩ rfl rfl rfl rfl rfl (by kernel_rfl) Try.func20 closed
    (of_decide_eq_true (by kernel_rfl)) (by unfold Func.isWrapper; first | (rw [if_pos (by decide +kernel)]; kernel_rfl) | (rw [if_neg (by decide +kernel)]; exact ⟨rfl, rfl⟩))
    (fun os started H enc _ => lifted os started H enc)

theorem proved : Rows.ResolveMomentumSaid := over
#print axioms proved

end Go.Proofs.Ytcapkmiinehdlaa.resolveMomentum
