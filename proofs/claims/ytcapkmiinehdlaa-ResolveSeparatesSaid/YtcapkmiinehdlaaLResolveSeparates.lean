/-
  ResolveSeparates: for a normal along an axis and two bodies of equal mass other than 0, the distance along the normal grows by the depth, or by one less if the depth is odd. Conditions: none.
-/
import Derived.Test.YtcapkmiinehdlaaRows
import Derived.Test.YtcapkmiinehdlaaHead
import Derived.Test.YtcapkmiinehdlaaOpen
import Derived.Test.YtcapkmiinehdlaaResL
import Derived.Test.YtcapkmiinehdlaaBlk
import Derived.Outline
namespace Go.Proofs.Ytcapkmiinehdlaa.resolveSeparates
open Go.ChangeShapes Go.WideShapes Go.ChangeAt Go.RowKit Go.Sort
attribute [local go_sem ↓] Go.wp_at_zero Go.wp_at_succ

theorem axx_one (n : Int) : (axx n = 1024 ∧ axy n = 0) ∨ (axx n = -1024 ∧ axy n = 0) ∨ (axx n = 0 ∧ axy n = 1024) ∨ (axx n = 0 ∧ axy n = -1024) := by
  have := arnd_bd n (most := 4) (by decide)
  unfold axx axy; omega
theorem half {d m : Int} (hm : 1 ≤ m) : mdv d m (m + m) = d / 2 := by
  have e : mdv d m (m + m) = d * m / (m + m) := by unfold mdv; exact Int.fdiv_eq_ediv_of_nonneg _ (by omega)
  have e2 : m + m = 2 * m := by omega
  rw [e, e2]; exact Int.mul_ediv_mul_of_pos_left _ _ (by omega)
theorem part {p n d m : Int} (hp : -262144 ≤ p ∧ p ≤ 262144) (hd : 0 ≤ d ∧ d ≤ 131072) (hm : 1 ≤ m) (hn : n = 1024 ∨ n = -1024 ∨ n = 0) :
    rpos p n d m (m + m) = p - n * (d / 2) / 1024 ∧ rpos' p n d m (m + m) = p + n * (d / 2) / 1024 := by
  unfold rpos rpos'
  rw [half hm, mdv_one]
  rcases hn with rfl | rfl | rfl <;> rw [clp_in (by omega) (by omega), clp_in (by omega) (by omega)] <;> exact ⟨rfl, rfl⟩
theorem grows {ax ay bx b_y nx ny d m : Int} (hx : -262144 ≤ ax ∧ ax ≤ 262144) (hy : -262144 ≤ ay ∧ ay ≤ 262144) (hbx : -262144 ≤ bx ∧ bx ≤ 262144) (hby : -262144 ≤ b_y ∧ b_y ≤ 262144) (hd : 0 ≤ d ∧ d ≤ 131072) (hm : 1 ≤ m)
    (hn : (nx = 1024 ∧ ny = 0) ∨ (nx = -1024 ∧ ny = 0) ∨ (nx = 0 ∧ ny = 1024) ∨ (nx = 0 ∧ ny = -1024)) :
    dotz (rpos' bx nx d m (m + m) - rpos ax nx d m (m + m)) (rpos' b_y ny d m (m + m) - rpos ay ny d m (m + m)) nx ny = dotz (bx - ax) (b_y - ay) nx ny + d - d % 2 ∧
    (-1048576 ≤ rpos ax nx d m (m + m) ∧ rpos ax nx d m (m + m) ≤ 1048576) ∧ (-1048576 ≤ rpos ay ny d m (m + m) ∧ rpos ay ny d m (m + m) ≤ 1048576) ∧ (-1048576 ≤ rpos' bx nx d m (m + m) ∧ rpos' bx nx d m (m + m) ≤ 1048576) ∧ (-1048576 ≤ rpos' b_y ny d m (m + m) ∧ rpos' b_y ny d m (m + m) ≤ 1048576) := by
  have g1 : nx = 1024 ∨ nx = -1024 ∨ nx = 0 := by omega
  have g2 : ny = 1024 ∨ ny = -1024 ∨ ny = 0 := by omega
  rw [(part hx hd hm g1).1, (part hy hd hm g2).1, (part hbx hd hm g1).2, (part hby hd hm g2).2]
  unfold dotz
  rcases hn with ⟨rfl, rfl⟩ | ⟨rfl, rfl⟩ | ⟨rfl, rfl⟩ | ⟨rfl, rfl⟩ <;> omega

/-- Resolve where it is asked: what the two calls return. -/
def Res (apx apy avx avy am bpx bpy bvx bvy bm nx ny d e : Int) (p q r s t p' q' r' s' t' : Int) : Prop :=
  ∀ w, Calls Try.prog 68 #[.agg #[.int .i64 apx, .int .i64 apy, .int .i64 avx, .int .i64 avy, .int .i64 am], .agg #[.int .i64 bpx, .int .i64 bpy, .int .i64 bvx, .int .i64 bvy, .int .i64 bm], .agg #[.int .i64 nx, .int .i64 ny, .int .i64 d], .int .i64 e] w
      fun r0 w' => r0 = .returned (.tuple #[.agg #[.int .i64 p, .int .i64 q, .int .i64 r, .int .i64 s, .int .i64 t], .agg #[.int .i64 p', .int .i64 q', .int .i64 r', .int .i64 s', .int .i64 t']]) ∧ Below w.heap.size w w'
theorem two (apx apy avx avy am bpx bpy bvx bvy nx ny d : Int) (hA : SB apx apy avx avy am) (hB : SB bpx bpy bvx bvy am) (hm : 1 ≤ am) (hn : (nx = 1024 ∧ ny = 0) ∨ (nx = -1024 ∧ ny = 0) ∨ (nx = 0 ∧ ny = 1024) ∨ (nx = 0 ∧ ny = -1024)) (hd : 0 ≤ d ∧ d ≤ 131072) :
    ∃ a1 a2 a3 a4 b1 b2 b3 b4, (dotz (b1 - a1) (b2 - a2) nx ny = dotz (bpx - apx) (bpy - apy) nx ny + d - d % 2 ∧ (-1048576 ≤ a1 ∧ a1 ≤ 1048576) ∧ (-1048576 ≤ a2 ∧ a2 ≤ 1048576) ∧ (-1048576 ≤ b1 ∧ b1 ≤ 1048576) ∧ (-1048576 ≤ b2 ∧ b2 ≤ 1048576)) ∧
      Res apx apy avx avy am bpx bpy bvx bvy am nx ny d 0 a1 a2 a3 a4 am b1 b2 b3 b4 am := by
  obtain ⟨a1, a2, a3, a4, a5⟩ := hA
  obtain ⟨b1, b2, b3, b4, b5⟩ := hB
  have g1 := fun w => Resolve_any apx apy avx avy am bpx bpy bvx bvy am nx ny d 0 w (by unfold RB; omega) (by unfold RB; omega) (by omega) (by omega) (by omega)
  exact ⟨_, _, _, _, _, _, _, _, grows a1 a2 b1 b2 hd hm hn, g1⟩

set_option maxRecDepth 100000 in
set_option maxHeartbeats 4000000 in
theorem walk (w : World) (A : Option Addr) (lA cA : Nat) (zA : List Int) (hA : IsRow .i64 w A lA cA zA) (B : Option Addr) (lB cB : Nat) (zB : List Int) (hB : IsRow .i64 w B lB cB zB)
    (x : Int) (lx : -9223372036854775808 ≤ x) (ux : x ≤ 9223372036854775807) (y : Int) (ly : -9223372036854775808 ≤ y) (uy : y ≤ 9223372036854775807) :
    Calls Try.prog 22 #[.slice A lA cA, .slice B lB cB, .int .i64 x, .int .i64 y] w fun e w' => e = .returned (.bool true) ∧ Below w.heap.size w w' := by
  have CA := fun W h => Slow_any A lA cA zA W h
  have CB := fun W h => Slow_any B lB cB zB W h
  have CC := fun W => Axis_any x W lx ux
  have CD := fun W => Around_any y 131073 W (by omega) ly uy
  have mA := slow_bd zA lA
  have mB := slow_bd zB lB
  have mn := axx_one x
  have md := arnd_bd y (most := 131073) (by decide)
  have HA := Lib.hid hA; clear hA
  have HB := Lib.hid hB; clear hB
  generalize spx zA lA = apx at *
  generalize spy zA lA = apy at *
  generalize svx zA lA = avx at *
  generalize svy zA lA = avy at *
  generalize mms zA lA = am at *
  generalize spx zB lB = bpx at *
  generalize spy zB lB = bpy at *
  generalize svx zB lB = bvx at *
  generalize svy zB lB = bvy at *
  generalize mms zB lB = bm at *
  generalize axx x = nx at *
  generalize axy x = ny at *
  generalize arnd y 131073 = d at *
  by_cases h1 : 1 ≤ am
  · have h2 := mA.2.2.2.2
    have mA' : SB apx apy avx avy am := ⟨mA.1, mA.2.1, mA.2.2.1, mA.2.2.2.1, by omega⟩
    have mB' : SB bpx bpy bvx bvy am := ⟨mB.1, mB.2.1, mB.2.2.1, mB.2.2.2.1, by omega⟩
    obtain ⟨a1, a2, a3, a4, b1, b2, b3, b4, ⟨ht, hb⟩, F1⟩ := two apx apy avx avy am bpx bpy bvx bvy nx ny d mA' mB' (by omega) mn (by omega)
    have HF1 := Lib.hid F1; clear F1
    have HT := Lib.hid ht; clear ht
    have HCA := Lib.hid CA; clear CA
    have HCB := Lib.hid CB; clear CB
    have HCC := Lib.hid CC; clear CC
    have HCD := Lib.hid CD; clear CD
    have q1 := mA.1
    have q2 := mA.2.1
    have q3 := mB.1
    have q4 := mB.2.1
    have q6 : -1024 ≤ nx ∧ nx ≤ 1024 := by omega
    have q7 : -1024 ≤ ny ∧ ny ≤ 1024 := by omega
    have p1 := mul_bd (a := bpx - apx) (b := nx) (A := 524288) (B := 1024) (by omega) q6
    have p2 := mul_bd (a := bpy - apy) (b := ny) (A := 524288) (B := 1024) (by omega) q7
    have p3 := mul_bd (a := b1 - a1) (b := nx) (A := 2097152) (B := 1024) (by omega) q6
    have p4 := mul_bd (a := b2 - a2) (b := ny) (A := 2097152) (B := 1024) (by omega) q7
    have p5 : -1048576 ≤ dotz (bpx - apx) (bpy - apy) nx ny ∧ dotz (bpx - apx) (bpy - apy) nx ny ≤ 1048576 := by unfold dotz; omega
    clear mA mB mn mA' mB'
    go_enter Try.func22, Try.ntmps22
    go_wp2_with fail
    refine (HCA.out _ (HA.out.below (by repeat (first | with_reducible exact Below.refl _ _ | with_reducible refine below_alloc ?_ _ | with_reducible refine Below.drew ?_ | with_reducible refine below_set ?_ (by (first | (simp; done) | (simp; omega))) _ | with_reducible refine below_step (by assumption) ?_)))).mono ?_
    rintro e w1 ⟨rfl, hb1⟩; have d1 : Below w.heap.size w w1 := below_step hb1 (by repeat (first | with_reducible exact Below.refl _ _ | with_reducible refine below_alloc ?_ _ | with_reducible refine Below.drew ?_ | with_reducible refine below_set ?_ (by (first | (simp; done) | (simp; omega))) _ | with_reducible refine below_step (by assumption) ?_)); have z1 := hb1.size; (try simp at z1)
    go_wp2_with fail
    refine (HCB.out _ (HB.out.below (by repeat (first | with_reducible exact Below.refl _ _ | with_reducible refine below_alloc ?_ _ | with_reducible refine Below.drew ?_ | with_reducible refine below_set ?_ (by (first | (simp; done) | (simp; omega))) _ | with_reducible refine below_step (by assumption) ?_)))).mono ?_
    rintro e w2 ⟨rfl, hb2⟩; have d2 : Below w1.heap.size w1 w2 := below_step hb2 (by repeat (first | with_reducible exact Below.refl _ _ | with_reducible refine below_alloc ?_ _ | with_reducible refine Below.drew ?_ | with_reducible refine below_set ?_ (by (first | (simp; done) | (simp; omega))) _ | with_reducible refine below_step (by assumption) ?_)); have z2 := hb2.size; (try simp at z2)
    have XA : B5 w2 (w1.heap.size) (.int .i64 (apx)) (.int .i64 (apy)) (.int .i64 (avx)) (.int .i64 (avy)) (.int .i64 (am)) := B5.below (by unfold B5 Cel; simp [go_sem]) hb2; have lXA := XA.lt
    have n0 : w1.heap.size ≠ w2.heap.size := (by omega); have n0' := Ne.symm n0
    go_wp2_with fail
    refine (HCC.out _).mono ?_
    rintro e w3 ⟨rfl, hb3⟩
    have i3 : Below w.heap.size w w3 := (by repeat (first | with_reducible exact Below.refl _ _ | with_reducible refine below_alloc ?_ _ | with_reducible refine Below.drew ?_ | with_reducible refine below_set ?_ (by (first | (simp; done) | (simp; omega))) _ | with_reducible refine below_step (by assumption) ?_))
    have z3 : w2.heap.size + 1 ≤ w3.heap.size := by have := hb3.size; simpa [World.setCell] using this
    replace XA := B5.below ((XA.set4 (.int .i64 am)).below (below_alloc (Below.refl _ _) _)) hb3
    have XB : B5 w3 w2.heap.size (.int .i64 bpx) (.int .i64 bpy) (.int .i64 bvx) (.int .i64 bvy) (.int .i64 am) := B5.below (by unfold B5 Cel; simp [go_sem]) hb3
    clear lXA
    have lXA := XA.lt
    have lXB := XB.lt
    go_wp2_with fail
    refine (HCD.out _).mono ?_
    rintro e w' ⟨rfl, rfl⟩
    go_wp2_with fail
    refine (HF1.out _).mono ?_
    rintro e w4 ⟨rfl, hb4⟩; have d4 : Below w3.heap.size w3 w4 := below_step hb4 (by repeat (first | with_reducible exact Below.refl _ _ | with_reducible refine below_alloc ?_ _ | with_reducible refine Below.drew ?_ | with_reducible refine below_set ?_ (by (first | (simp; done) | (simp; omega))) _ | with_reducible refine below_step (by assumption) ?_)); have z4 := hb4.size; (try simp at z4); replace XA := XA.below d4; (try clear lXA); have lXA := XA.lt; replace XB := XB.below d4; (try clear lXB); have lXB := XB.lt
    have XN : B2 w4 (w3.heap.size) (.int .i64 (nx)) (.int .i64 (ny)) := B2.below (by unfold B2 Cel; simp [go_sem]) hb4; have lXN := XN.lt
    go_wp2_with fail
    refine code_named ?_; intro W4 hW; have dW4 : Below w4.heap.size w4 W4 := (by rw [hW]; exact (by repeat (first | with_reducible exact Below.refl _ _ | with_reducible refine below_alloc ?_ _ | with_reducible refine Below.drew ?_ | with_reducible refine below_set ?_ (by (first | (simp; done) | (simp; omega))) _ | with_reducible refine below_step (by assumption) ?_))); replace XA := XA.below dW4; (try clear lXA); have lXA := XA.lt; replace XB := XB.below dW4; (try clear lXB); have lXB := XB.lt; replace XN := XN.below dW4; (try clear lXN); have lXN := XN.lt
    have XV : B5 W4 (w4.heap.size) (.int .i64 (a1)) (.int .i64 (a2)) (.int .i64 (a3)) (.int .i64 (a4)) (.int .i64 (am)) := (by rw [hW]; unfold B5 Cel; simp [go_sem]); have lXV := XV.lt
    have XW : B5 W4 (w4.heap.size + 1) (.int .i64 (b1)) (.int .i64 (b2)) (.int .i64 (b3)) (.int .i64 (b4)) (.int .i64 (am)) := (by rw [hW]; unfold B5 Cel; simp [go_sem]); have lXW := XW.lt
    clear hW
    have KXA := XA.re; have KXB := XB.re; have KXN := XN.re; have KXV := XV.re; have KXW := XW.re; refine wp_region_below (by kernel_rfl) (by kernel_rfl) ?_
    repeat (go_big_quiet_step (first
      | (go_at_call 51; exact met_below (Sub_any _ _ _ _ _ (by omega) (by omega) (by omega) (by omega)))
      | (go_at_call 40; exact met_below (Dot_any _ _ _ _ _ (by omega) (by omega) (by omega) (by omega)))))
    refine wpQuiet_nil ?_; intro w5 d5; clear KXA KXB KXN KXV KXW; replace XA := XA.below d5; (try clear lXA); have lXA := XA.lt; replace XB := XB.below d5; (try clear lXB); have lXB := XB.lt; replace XN := XN.below d5; (try clear lXN); have lXN := XN.lt; replace XV := XV.below d5; (try clear lXV); have lXV := XV.lt; replace XW := XW.below d5; (try clear lXW); have lXW := XW.lt
    go_wp2_with fail
    have KXN := XN.re; have KXV := XV.re; have KXW := XW.re; refine wp_region_below (by kernel_rfl) (by kernel_rfl) ?_
    repeat (go_big_quiet_step (first
      | (go_at_call 51; exact met_below (Sub_any _ _ _ _ _ (by omega) (by omega) (by omega) (by omega)))
      | (go_at_call 40; exact met_below (Dot_any _ _ _ _ _ (by omega) (by omega) (by omega) (by omega)))))
    refine wpQuiet_nil ?_; intro w6 d6; clear KXN KXV KXW; replace XN := XN.below d6; (try clear lXN); have lXN := XN.lt; replace XV := XV.below d6; (try clear lXV); have lXV := XV.lt; replace XW := XW.below d6; (try clear lXW); have lXW := XW.lt
    have ht := HT.out
    generalize dotz (b1 - a1) (b2 - a2) nx ny = after at *
    generalize dotz (bpx - apx) (bpy - apy) nx ny = before at *
    clear HT
    subst ht
    go_wp2_with fail
    refine (lives7_any _).mono ?_
    rintro e w7 ⟨rfl, hb7⟩
    go_wp2_with fail
    go_ret
    exact ⟨rfl, (by repeat (first | with_reducible exact Below.refl _ _ | with_reducible refine below_alloc ?_ _ | with_reducible refine Below.drew ?_ | with_reducible refine below_set ?_ (by (first | (simp; done) | (simp; omega))) _ | with_reducible refine below_step (by assumption) ?_))⟩
  · obtain rfl : am = 0 := by have := mA.2.2.2.2; omega
    clear h1
    have mA' : SB apx apy avx avy 1 := ⟨mA.1, mA.2.1, mA.2.2.1, mA.2.2.2.1, by omega⟩
    have mB' : SB bpx bpy bvx bvy 1 := ⟨mB.1, mB.2.1, mB.2.2.1, mB.2.2.2.1, by omega⟩
    obtain ⟨a1, a2, a3, a4, b1, b2, b3, b4, ⟨ht, hb⟩, F1⟩ := two apx apy avx avy 1 bpx bpy bvx bvy nx ny d mA' mB' (by omega) mn (by omega)
    have HF1 := Lib.hid F1; clear F1
    have HT := Lib.hid ht; clear ht
    have HCA := Lib.hid CA; clear CA
    have HCB := Lib.hid CB; clear CB
    have HCC := Lib.hid CC; clear CC
    have HCD := Lib.hid CD; clear CD
    have q1 := mA.1
    have q2 := mA.2.1
    have q3 := mB.1
    have q4 := mB.2.1
    have q6 : -1024 ≤ nx ∧ nx ≤ 1024 := by omega
    have q7 : -1024 ≤ ny ∧ ny ≤ 1024 := by omega
    have p1 := mul_bd (a := bpx - apx) (b := nx) (A := 524288) (B := 1024) (by omega) q6
    have p2 := mul_bd (a := bpy - apy) (b := ny) (A := 524288) (B := 1024) (by omega) q7
    have p3 := mul_bd (a := b1 - a1) (b := nx) (A := 2097152) (B := 1024) (by omega) q6
    have p4 := mul_bd (a := b2 - a2) (b := ny) (A := 2097152) (B := 1024) (by omega) q7
    have p5 : -1048576 ≤ dotz (bpx - apx) (bpy - apy) nx ny ∧ dotz (bpx - apx) (bpy - apy) nx ny ≤ 1048576 := by unfold dotz; omega
    clear mA mB mn mA' mB'
    go_enter Try.func22, Try.ntmps22
    go_wp2_with fail
    refine (HCA.out _ (HA.out.below (by repeat (first | with_reducible exact Below.refl _ _ | with_reducible refine below_alloc ?_ _ | with_reducible refine Below.drew ?_ | with_reducible refine below_set ?_ (by (first | (simp; done) | (simp; omega))) _ | with_reducible refine below_step (by assumption) ?_)))).mono ?_
    rintro e w1 ⟨rfl, hb1⟩; have d1 : Below w.heap.size w w1 := below_step hb1 (by repeat (first | with_reducible exact Below.refl _ _ | with_reducible refine below_alloc ?_ _ | with_reducible refine Below.drew ?_ | with_reducible refine below_set ?_ (by (first | (simp; done) | (simp; omega))) _ | with_reducible refine below_step (by assumption) ?_)); have z1 := hb1.size; (try simp at z1)
    go_wp2_with fail
    refine (HCB.out _ (HB.out.below (by repeat (first | with_reducible exact Below.refl _ _ | with_reducible refine below_alloc ?_ _ | with_reducible refine Below.drew ?_ | with_reducible refine below_set ?_ (by (first | (simp; done) | (simp; omega))) _ | with_reducible refine below_step (by assumption) ?_)))).mono ?_
    rintro e w2 ⟨rfl, hb2⟩; have d2 : Below w1.heap.size w1 w2 := below_step hb2 (by repeat (first | with_reducible exact Below.refl _ _ | with_reducible refine below_alloc ?_ _ | with_reducible refine Below.drew ?_ | with_reducible refine below_set ?_ (by (first | (simp; done) | (simp; omega))) _ | with_reducible refine below_step (by assumption) ?_)); have z2 := hb2.size; (try simp at z2)
    have XA : B5 w2 (w1.heap.size) (.int .i64 (apx)) (.int .i64 (apy)) (.int .i64 (avx)) (.int .i64 (avy)) (.int .i64 (0)) := B5.below (by unfold B5 Cel; simp [go_sem]) hb2; have lXA := XA.lt
    have n0 : w1.heap.size ≠ w2.heap.size := (by omega); have n0' := Ne.symm n0
    go_wp2_with fail
    refine (HCC.out _).mono ?_
    rintro e w3 ⟨rfl, hb3⟩
    have i3 : Below w.heap.size w w3 := (by repeat (first | with_reducible exact Below.refl _ _ | with_reducible refine below_alloc ?_ _ | with_reducible refine Below.drew ?_ | with_reducible refine below_set ?_ (by (first | (simp; done) | (simp; omega))) _ | with_reducible refine below_step (by assumption) ?_))
    have z3 : w2.heap.size + 1 ≤ w3.heap.size := by have := hb3.size; simpa [World.setCell] using this
    replace XA := B5.below ((XA.set4 (.int .i64 1)).below (below_alloc (Below.refl _ _) _)) hb3
    have XB : B5 w3 w2.heap.size (.int .i64 bpx) (.int .i64 bpy) (.int .i64 bvx) (.int .i64 bvy) (.int .i64 1) := B5.below (by unfold B5 Cel; simp [go_sem]) hb3
    clear lXA
    have lXA := XA.lt
    have lXB := XB.lt
    go_wp2_with fail
    refine (HCD.out _).mono ?_
    rintro e w' ⟨rfl, rfl⟩
    go_wp2_with fail
    refine (HF1.out _).mono ?_
    rintro e w4 ⟨rfl, hb4⟩; have d4 : Below w3.heap.size w3 w4 := below_step hb4 (by repeat (first | with_reducible exact Below.refl _ _ | with_reducible refine below_alloc ?_ _ | with_reducible refine Below.drew ?_ | with_reducible refine below_set ?_ (by (first | (simp; done) | (simp; omega))) _ | with_reducible refine below_step (by assumption) ?_)); have z4 := hb4.size; (try simp at z4); replace XA := XA.below d4; (try clear lXA); have lXA := XA.lt; replace XB := XB.below d4; (try clear lXB); have lXB := XB.lt
    have XN : B2 w4 (w3.heap.size) (.int .i64 (nx)) (.int .i64 (ny)) := B2.below (by unfold B2 Cel; simp [go_sem]) hb4; have lXN := XN.lt
    go_wp2_with fail
    refine code_named ?_; intro W4 hW; have dW4 : Below w4.heap.size w4 W4 := (by rw [hW]; exact (by repeat (first | with_reducible exact Below.refl _ _ | with_reducible refine below_alloc ?_ _ | with_reducible refine Below.drew ?_ | with_reducible refine below_set ?_ (by (first | (simp; done) | (simp; omega))) _ | with_reducible refine below_step (by assumption) ?_))); replace XA := XA.below dW4; (try clear lXA); have lXA := XA.lt; replace XB := XB.below dW4; (try clear lXB); have lXB := XB.lt; replace XN := XN.below dW4; (try clear lXN); have lXN := XN.lt
    have XV : B5 W4 (w4.heap.size) (.int .i64 (a1)) (.int .i64 (a2)) (.int .i64 (a3)) (.int .i64 (a4)) (.int .i64 (1)) := (by rw [hW]; unfold B5 Cel; simp [go_sem]); have lXV := XV.lt
    have XW : B5 W4 (w4.heap.size + 1) (.int .i64 (b1)) (.int .i64 (b2)) (.int .i64 (b3)) (.int .i64 (b4)) (.int .i64 (1)) := (by rw [hW]; unfold B5 Cel; simp [go_sem]); have lXW := XW.lt
    clear hW
    have KXA := XA.re; have KXB := XB.re; have KXN := XN.re; have KXV := XV.re; have KXW := XW.re; refine wp_region_below (by kernel_rfl) (by kernel_rfl) ?_
    repeat (go_big_quiet_step (first
      | (go_at_call 51; exact met_below (Sub_any _ _ _ _ _ (by omega) (by omega) (by omega) (by omega)))
      | (go_at_call 40; exact met_below (Dot_any _ _ _ _ _ (by omega) (by omega) (by omega) (by omega)))))
    refine wpQuiet_nil ?_; intro w5 d5; clear KXA KXB KXN KXV KXW; replace XA := XA.below d5; (try clear lXA); have lXA := XA.lt; replace XB := XB.below d5; (try clear lXB); have lXB := XB.lt; replace XN := XN.below d5; (try clear lXN); have lXN := XN.lt; replace XV := XV.below d5; (try clear lXV); have lXV := XV.lt; replace XW := XW.below d5; (try clear lXW); have lXW := XW.lt
    go_wp2_with fail
    have KXN := XN.re; have KXV := XV.re; have KXW := XW.re; refine wp_region_below (by kernel_rfl) (by kernel_rfl) ?_
    repeat (go_big_quiet_step (first
      | (go_at_call 51; exact met_below (Sub_any _ _ _ _ _ (by omega) (by omega) (by omega) (by omega)))
      | (go_at_call 40; exact met_below (Dot_any _ _ _ _ _ (by omega) (by omega) (by omega) (by omega)))))
    refine wpQuiet_nil ?_; intro w6 d6; clear KXN KXV KXW; replace XN := XN.below d6; (try clear lXN); have lXN := XN.lt; replace XV := XV.below d6; (try clear lXV); have lXV := XV.lt; replace XW := XW.below d6; (try clear lXW); have lXW := XW.lt
    have ht := HT.out
    generalize dotz (b1 - a1) (b2 - a2) nx ny = after at *
    generalize dotz (bpx - apx) (bpy - apy) nx ny = before at *
    clear HT
    subst ht
    go_wp2_with fail
    refine (lives7_any _).mono ?_
    rintro e w7 ⟨rfl, hb7⟩
    go_wp2_with fail
    go_ret
    exact ⟨rfl, (by repeat (first | with_reducible exact Below.refl _ _ | with_reducible refine below_alloc ?_ _ | with_reducible refine Below.drew ?_ | with_reducible refine below_set ?_ (by (first | (simp; done) | (simp; omega))) _ | with_reducible refine below_step (by assumption) ?_))⟩

theorem own : ownKnob Try.prog.godebug = none := by kernel_rfl
theorem laidOut : laidOutB Try.prog = true := by kernel_rfl

set_option maxRecDepth 100000 in
theorem lifted (os : Os) (started : os.Started) (H : Type) (enc : TypeId × Value → H) :
    ReturnsInHanded {} Try.checked os 22 .any (Rows.resolveSeparatesSpec.pre6 enc Try.prog Try.f22 Rows.resolveSeparatesRow.domain false) (Rows.resolveSeparatesSpec.post enc Try.prog Try.f22 false true false false) := by
  refine returnsInHanded_of_change (C := Try.checked) own started (by kernel_rfl) Try.func22
    (ChangeSpec.witness6 (enc := enc) (C := Try.checked) false ⟨#[], #[.slice none 0 0, .slice none 0 0, .int .i64 0, .int .i64 0], []⟩ 8 (by kernel_rfl) (by kernel_rfl) (by kernel_rfl) (by kernel_rfl)) ?_
  intro W base args ds gs before hval0 hW hcnd _
  have hval : ∀ (j : Nat) t v, Try.f22.params[j]? = some t → args[j]? = some v → Value.okWide Try.prog W .any base t v := hval0
  have hW' := hW
  obtain ⟨p, q, hA0, hV, rfl, hfz, hnd⟩ := hW
  have hA : DataW.TrodAll enc Try.prog W 0 (fun _ => true) true Try.f22.params.toList args.toList ds p := hA0
  rw [Try.params22] at hA hval
  obtain ⟨v0, vs0, d0, ds0, p0, q0, hargs, rfl, rfl, h0, r0⟩ := trodAll_cons hA
  obtain ⟨v1, vs1, d1, ds1, p1, q1, rfl, rfl, rfl, h1, r1⟩ := trodAll_cons r0
  obtain ⟨v2, vs2, d2, ds2, p2, q2, rfl, rfl, rfl, h2, r2⟩ := trodAll_cons r1
  obtain ⟨v3, vs3, d3, ds3, p3, q3, rfl, rfl, rfl, h3, r3⟩ := trodAll_cons r2
  obtain ⟨rfl, rfl, rfl⟩ := trodAll_nil r3
  obtain rfl : args = #[v0, v1, v2, v3] := by cases args; simp_all
  obtain ⟨rfl, rfl⟩ := trodVars_none hV
  obtain ⟨a0, len0, cap0, rfl⟩ := okWide_slice Try.underlying44 (hval 0 44 v0 rfl rfl)
  have k0 := h0
  have lt0 : ∀ x ∈ p0, x.block < W.heap.size := by obtain ⟨m, hm⟩ := k0; exact DataW.trod_lt m _ _ _ hm
  obtain ⟨z0, w0⟩ : ∃ zs, IsRow .i64 W a0 len0 cap0 zs := by
    obtain ⟨fuel, hf⟩ := h0
    rcases open_ints Try.underlying44 Try.underlying3 (by kernel_rfl) hf with ⟨hcs, _⟩ | ⟨x, l, c, zs, hcs, _, hl, hm, hz, _, hcell, hwz⟩
    · simp [Value.cells] at hcs
      obtain ⟨rfl, rfl, rfl⟩ := hcs
      exact ⟨[], .inl ⟨rfl, rfl, rfl, rfl⟩⟩
    · simp [Value.cells] at hcs
      obtain ⟨rfl, rfl, rfl⟩ := hcs
      exact ⟨zs, .inr ⟨_, rfl, hl, hm, by simpa using hz, hcell, hwz⟩⟩
  obtain ⟨a1, len1, cap1, rfl⟩ := okWide_slice Try.underlying44 (hval 1 44 v1 rfl rfl)
  have k1 := h1
  have lt1 : ∀ x ∈ p1, x.block < W.heap.size := by obtain ⟨m, hm⟩ := k1; exact DataW.trod_lt m _ _ _ hm
  obtain ⟨z1, w1⟩ : ∃ zs, IsRow .i64 W a1 len1 cap1 zs := by
    obtain ⟨fuel, hf⟩ := h1
    rcases open_ints Try.underlying44 Try.underlying3 (by kernel_rfl) hf with ⟨hcs, _⟩ | ⟨x, l, c, zs, hcs, _, hl, hm, hz, _, hcell, hwz⟩
    · simp [Value.cells] at hcs
      obtain ⟨rfl, rfl, rfl⟩ := hcs
      exact ⟨[], .inl ⟨rfl, rfl, rfl, rfl⟩⟩
    · simp [Value.cells] at hcs
      obtain ⟨rfl, rfl, rfl⟩ := hcs
      exact ⟨zs, .inr ⟨_, rfl, hl, hm, by simpa using hz, hcell, hwz⟩⟩
  obtain ⟨a2, rfl, rfl, rfl, w2⟩ := open_int Try.underlying3 (hval 2 3 v2 rfl rfl) h2
  obtain ⟨a3, rfl, rfl, rfl, w3⟩ := open_int Try.underlying3 (hval 3 3 v3 rfl rfl) h3
  clear hA0 hval0
  refine (walk W a0 len0 cap0 z0 w0 a1 len1 cap1 z1 w1 a2 (bounds_i64 w2).1 (bounds_i64 w2).2 a3 (bounds_i64 w3).1 (bounds_i64 w3).2).mono fun e W' ⟨he, bel⟩ => ?_
  subst he
  exact ⟨_, rfl, _, _, _, [], _, [], hW', trodAll_mk1 (shut_bool Try.underlying4 _), (trodAll_cons_mk (Below.trod laidOut (by kernel_rfl) (of_decide_eq_true (by kernel_rfl)) k0 bel lt0) (trodAll_cons_mk (Below.trod laidOut (by kernel_rfl) (of_decide_eq_true (by kernel_rfl)) k1 bel lt1) (trodAll_cons_mk (shut_int Try.underlying3 w2) (trodAll_cons_mk (shut_int Try.underlying3 w3) trodAll_mk0)))), rfl, bel.frame _, fun h => by cases h⟩

theorem closed : joinedFacts Try.prog 22 Try.f22 Rows.resolveSeparatesSpec Rows.resolveSeparatesRow = true := by
  unfold joinedFacts
  repeat' (with_reducible refine both_of ?_ ?_)
  all_goals (first | with_reducible exact mayEnter_ok | (rw [liftsFinal_is]; as_aux_lemma => kernel_rfl) | (rw [make_is]; as_aux_lemma => kernel_rfl) | (as_aux_lemma => kernel_rfl))

theorem over : Rows.resolveSeparatesRow.holds Try.pinned (OpenSpec.ofChange Rows.resolveSeparatesSpec) :=
  OpenClaim.holds_of_wide 22 Try.f22 rfl rfl rfl rfl rfl rfl rfl ⟨rfl, rfl, rfl, rfl, rfl⟩ rfl rfl rfl rfl rfl (by kernel_rfl) Try.func22 closed
    (of_decide_eq_true (by kernel_rfl)) (by unfold Func.isWrapper; first | (rw [if_pos (by decide +kernel)]; kernel_rfl) | (rw [if_neg (by decide +kernel)]; exact ⟨rfl, rfl⟩))
    (fun os started H enc _ => lifted os started H enc)

theorem proved : Rows.ResolveSeparatesSaid := over
#print axioms proved

end Go.Proofs.Ytcapkmiinehdlaa.resolveSeparates
