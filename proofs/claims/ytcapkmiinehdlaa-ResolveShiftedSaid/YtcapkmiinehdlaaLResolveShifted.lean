/-
  ResolveShifted: moving both bodies by the same vector moves the results by that vector and does not change the velocities. Conditions: none.
-/
import Derived.Test.YtcapkmiinehdlaaRows
import Derived.Test.YtcapkmiinehdlaaHead
import Derived.Test.YtcapkmiinehdlaaOpen
import Derived.Test.YtcapkmiinehdlaaResL
import Derived.Test.YtcapkmiinehdlaaBlk
namespace Go.Proofs.Ytcapkmiinehdlaa.resolveShifted
open Go.ChangeShapes Go.WideShapes Go.ChangeAt Go.RowKit Go.Sort
attribute [local go_sem ↓] Go.wp_at_zero Go.wp_at_succ

theorem dep_small {d m t n : Int} (hd : 0 ≤ d ∧ d ≤ 131072) (hm : 0 ≤ m) (ht : m ≤ t) (hn : -1024 ≤ n ∧ n ≤ 1024) : -131072 ≤ mdv n (mdv d m t) 1024 ∧ mdv n (mdv d m t) 1024 ≤ 131072 := by
  have hk : 0 ≤ mdv d m t ∧ mdv d m t ≤ 131072 := by
    by_cases h0 : t = 0
    · subst h0; rw [mdv_zero]; omega
    · have e : mdv d m t = d * m / t := by unfold mdv; exact Int.fdiv_eq_ediv_of_nonneg _ (by omega)
      have h1 : 0 ≤ d * m := Int.mul_nonneg hd.1 hm
      have h2 : d * m ≤ d * t := Int.mul_le_mul_of_nonneg_left ht hd.1
      rw [e]
      refine ⟨Int.ediv_nonneg h1 (by omega), Int.le_trans (Int.ediv_le_ediv (by omega) h2) ?_⟩
      rw [Int.mul_ediv_cancel _ (by omega)]; exact hd.2
  have p := mul_bd (a := n) (b := mdv d m t) (A := 1024) (B := 131072) hn (by omega)
  rw [mdv_one]
  omega
theorem shift_pos {p s n d m t : Int} (hp : -262144 ≤ p ∧ p ≤ 262144) (hs : -262144 ≤ s ∧ s ≤ 262144) (hd : 0 ≤ d ∧ d ≤ 131072) (hm : 0 ≤ m) (ht : m ≤ t) (hn : -1024 ≤ n ∧ n ≤ 1024) :
    rpos (p + s) n d m t = rpos p n d m t + s ∧ rpos' (p + s) n d m t = rpos' p n d m t + s ∧ (-1048576 ≤ rpos p n d m t ∧ rpos p n d m t ≤ 1048576) ∧ (-1048576 ≤ rpos' p n d m t ∧ rpos' p n d m t ≤ 1048576) := by
  have b := dep_small hd hm ht hn
  unfold rpos rpos'
  rw [clp_in (by omega) (by omega), clp_in (n := p - mdv n (mdv d m t) 1024) (by omega) (by omega), clp_in (n := p + s + mdv n (mdv d m t) 1024) (by omega) (by omega), clp_in (n := p + mdv n (mdv d m t) 1024) (by omega) (by omega)]
  omega

/-- Resolve where it is asked: what the two calls return. -/
def Res (apx apy avx avy am bpx bpy bvx bvy bm nx ny d e : Int) (p q r s t p' q' r' s' t' : Int) : Prop :=
  ∀ w, Calls Try.prog 68 #[.agg #[.int .i64 apx, .int .i64 apy, .int .i64 avx, .int .i64 avy, .int .i64 am], .agg #[.int .i64 bpx, .int .i64 bpy, .int .i64 bvx, .int .i64 bvy, .int .i64 bm], .agg #[.int .i64 nx, .int .i64 ny, .int .i64 d], .int .i64 e] w
      fun r0 w' => r0 = .returned (.tuple #[.agg #[.int .i64 p, .int .i64 q, .int .i64 r, .int .i64 s, .int .i64 t], .agg #[.int .i64 p', .int .i64 q', .int .i64 r', .int .i64 s', .int .i64 t']]) ∧ Below w.heap.size w w'
theorem two (apx apy avx avy am bpx bpy bvx bvy bm nx ny d e s1 s2 : Int) (hA : SB apx apy avx avy am) (hB : SB bpx bpy bvx bvy bm) (hn : (-1024 ≤ nx ∧ nx ≤ 1024) ∧ (-1024 ≤ ny ∧ ny ≤ 1024)) (hd : 0 ≤ d ∧ d ≤ 131072) (he : 0 ≤ e ∧ e ≤ 1024)
    (h1 : -262144 ≤ s1 ∧ s1 ≤ 262144) (h2 : -262144 ≤ s2 ∧ s2 ≤ 262144) :
    ∃ a1 a2 a3 a4 b1 b2 b3 b4, ((-1048576 ≤ a1 ∧ a1 ≤ 1048576) ∧ (-1048576 ≤ a2 ∧ a2 ≤ 1048576) ∧ (-1048576 ≤ b1 ∧ b1 ≤ 1048576) ∧ (-1048576 ≤ b2 ∧ b2 ≤ 1048576)) ∧
      Res apx apy avx avy am bpx bpy bvx bvy bm nx ny d e a1 a2 a3 a4 am b1 b2 b3 b4 bm ∧ Res (apx + s1) (apy + s2) avx avy am (bpx + s1) (bpy + s2) bvx bvy bm nx ny d e (a1 + s1) (a2 + s2) a3 a4 am (b1 + s1) (b2 + s2) b3 b4 bm := by
  obtain ⟨a1, a2, a3, a4, a5⟩ := hA
  obtain ⟨b1, b2, b3, b4, b5⟩ := hB
  have g1 := fun w => Resolve_any apx apy avx avy am bpx bpy bvx bvy bm nx ny d e w (by unfold RB; omega) (by unfold RB; omega) hn (by omega) he
  have g2 := fun w => Resolve_any (apx + s1) (apy + s2) avx avy am (bpx + s1) (bpy + s2) bvx bvy bm nx ny d e w (by unfold RB; omega) (by unfold RB; omega) hn (by omega) he
  have p1 := shift_pos (t := am + bm) a1 h1 hd a5.1 (by omega) hn.1
  have p2 := shift_pos (t := am + bm) a2 h2 hd a5.1 (by omega) hn.2
  have p3 := shift_pos (t := am + bm) b1 h1 hd b5.1 (by omega) hn.1
  have p4 := shift_pos (t := am + bm) b2 h2 hd b5.1 (by omega) hn.2
  simp only [p1.1, p2.1, p3.2.1, p4.2.1] at g2
  exact ⟨_, _, _, _, _, _, _, _, ⟨p1.2.2.1, p2.2.2.1, p3.2.2.2, p4.2.2.2⟩, g1, g2⟩

set_option maxRecDepth 100000 in
set_option maxHeartbeats 4000000 in
theorem walk (w : World) (A : Option Addr) (lA cA : Nat) (zA : List Int) (hA : IsRow .i64 w A lA cA zA) (B : Option Addr) (lB cB : Nat) (zB : List Int) (hB : IsRow .i64 w B lB cB zB) (C : Option Addr) (lC cC : Nat) (zC : List Int) (hC : IsRow .i64 w C lC cC zC)
    (x : Int) (lx : -9223372036854775808 ≤ x) (ux : x ≤ 9223372036854775807) (y : Int) (ly : -9223372036854775808 ≤ y) (uy : y ≤ 9223372036854775807) (r : Int) (lr : -9223372036854775808 ≤ r) (ur : r ≤ 9223372036854775807) :
    Calls Try.prog 21 #[.slice A lA cA, .slice B lB cB, .slice C lC cC, .int .i64 x, .int .i64 y, .int .i64 r] w fun e w' => e = .returned (.bool true) ∧ Below w.heap.size w w' := by
  have CA := fun W h => Slow_any A lA cA zA W h
  have CB := fun W h => Slow_any B lB cB zB W h
  have CC := fun W h => Contact_any C lC cC zC W h
  have CD := fun W => Bound_any x 262144 W (by omega) (by omega) lx ux
  have CD2 := fun W => Bound_any y 262144 W (by omega) (by omega) ly uy
  have CE := fun W => Around_any r 1025 W (by omega) lr ur
  have mA := slow_bd zA lA
  have mB := slow_bd zB lB
  obtain ⟨mn, md⟩ := contact_bd zC lC
  have m1 := bnd_bd x (most := 262144) (by decide)
  have m2 := bnd_bd y (most := 262144) (by decide)
  have me := arnd_bd r (most := 1025) (by decide)
  have HA := Lib.hid hA; clear hA
  have HB := Lib.hid hB; clear hB
  have HC := Lib.hid hC; clear hC
  generalize spx zA lA = apx at *
  generalize spy zA lA = apy at *
  generalize svx zA lA = avx at *
  generalize svy zA lA = avy at *
  generalize mms zA lA = am at *
  generalize spx zB lB = bpx at *
  generalize spy zB lB = bpy at *
  generalize svx zB lB = bvx at *
  generalize svy zB lB = bvy at *
  generalize mms zB lB = bm at *
  generalize cnx zC lC = nx at *
  generalize cny zC lC = ny at *
  generalize cdp zC lC = d0 at *
  generalize bnd x 262144 = s1 at *
  generalize bnd y 262144 = s2 at *
  generalize arnd r 1025 = E at *
  have dd : 0 ≤ d0 % 131073 ∧ d0 % 131073 ≤ 131072 := by omega
  obtain ⟨a1, a2, a3, a4, b1, b2, b3, b4, hb, F1, F2⟩ := two apx apy avx avy am bpx bpy bvx bvy bm nx ny (d0 % 131073) E s1 s2 mA mB mn dd (by omega) m1 m2
  have HF1 := Lib.hid F1; clear F1
  have HF2 := Lib.hid F2; clear F2
  have HCA := Lib.hid CA; clear CA
  have HCB := Lib.hid CB; clear CB
  have HCC := Lib.hid CC; clear CC
  have HCD := Lib.hid CD; clear CD
  have HCD2 := Lib.hid CD2; clear CD2
  have HCE := Lib.hid CE; clear CE
  have q1 := mA.1
  have q2 := mA.2.1
  have q3 := mB.1
  have q4 := mB.2.1
  clear mA mB mn me dd
  go_enter Try.func21, Try.ntmps21
  go_wp2_with fail
  refine (HCA.out _ (HA.out.below (by repeat (first | with_reducible exact Below.refl _ _ | with_reducible refine below_alloc ?_ _ | with_reducible refine Below.drew ?_ | with_reducible refine below_set ?_ (by (first | (simp; done) | (simp; omega))) _ | with_reducible refine below_step (by assumption) ?_)))).mono ?_
  rintro e w1 ⟨rfl, hb1⟩; have d1 : Below w.heap.size w w1 := below_step hb1 (by repeat (first | with_reducible exact Below.refl _ _ | with_reducible refine below_alloc ?_ _ | with_reducible refine Below.drew ?_ | with_reducible refine below_set ?_ (by (first | (simp; done) | (simp; omega))) _ | with_reducible refine below_step (by assumption) ?_)); have z1 := hb1.size; (try simp at z1)
  go_wp2_with fail
  refine (HCB.out _ (HB.out.below (by repeat (first | with_reducible exact Below.refl _ _ | with_reducible refine below_alloc ?_ _ | with_reducible refine Below.drew ?_ | with_reducible refine below_set ?_ (by (first | (simp; done) | (simp; omega))) _ | with_reducible refine below_step (by assumption) ?_)))).mono ?_
  rintro e w2 ⟨rfl, hb2⟩; have d2 : Below w1.heap.size w1 w2 := below_step hb2 (by repeat (first | with_reducible exact Below.refl _ _ | with_reducible refine below_alloc ?_ _ | with_reducible refine Below.drew ?_ | with_reducible refine below_set ?_ (by (first | (simp; done) | (simp; omega))) _ | with_reducible refine below_step (by assumption) ?_)); have z2 := hb2.size; (try simp at z2)
  have XA : B5 w2 (w1.heap.size) (.int .i64 (apx)) (.int .i64 (apy)) (.int .i64 (avx)) (.int .i64 (avy)) (.int .i64 (am)) := B5.below (by unfold B5 Cel; simp [go_sem]) hb2; have lXA := XA.lt
  go_wp2_with fail
  refine (HCC.out _ (HC.out.below (by repeat (first | with_reducible exact Below.refl _ _ | with_reducible refine below_alloc ?_ _ | with_reducible refine Below.drew ?_ | with_reducible refine below_set ?_ (by (first | (simp; done) | (simp; omega))) _ | with_reducible refine below_step (by assumption) ?_)))).mono ?_
  rintro e w3 ⟨rfl, hb3⟩; have d3 : Below w2.heap.size w2 w3 := below_step hb3 (by repeat (first | with_reducible exact Below.refl _ _ | with_reducible refine below_alloc ?_ _ | with_reducible refine Below.drew ?_ | with_reducible refine below_set ?_ (by (first | (simp; done) | (simp; omega))) _ | with_reducible refine below_step (by assumption) ?_)); have z3 := hb3.size; (try simp at z3); replace XA := XA.below d3; (try clear lXA); have lXA := XA.lt
  have XB : B5 w3 (w2.heap.size) (.int .i64 (bpx)) (.int .i64 (bpy)) (.int .i64 (bvx)) (.int .i64 (bvy)) (.int .i64 (bm)) := B5.below (by unfold B5 Cel; simp [go_sem]) hb3; have lXB := XB.lt
  go_wp2_with fail
  refine (HCE.out _).mono ?_
  rintro e w' ⟨rfl, rfl⟩
  go_wp2_with fail
  refine (HCD.out _).mono ?_
  rintro e w' ⟨rfl, rfl⟩
  go_wp2_with fail
  refine (HCD2.out _).mono ?_
  rintro e w' ⟨rfl, rfl⟩
  go_wp2_with fail
  refine (HF1.out _).mono ?_
  rintro e w4 ⟨rfl, hb4⟩; have d4 : Below w3.heap.size w3 w4 := below_step hb4 (by repeat (first | with_reducible exact Below.refl _ _ | with_reducible refine below_alloc ?_ _ | with_reducible refine Below.drew ?_ | with_reducible refine below_set ?_ (by (first | (simp; done) | (simp; omega))) _ | with_reducible refine below_step (by assumption) ?_)); have z4 := hb4.size; (try simp at z4); replace XA := XA.below d4; (try clear lXA); have lXA := XA.lt; replace XB := XB.below d4; (try clear lXB); have lXB := XB.lt
  have XC : B3 w4 (w3.heap.size) (.int .i64 (nx)) (.int .i64 (ny)) (.int .i64 (d0 % 131073)) := B3.below (by unfold B3 Cel; simp [go_sem]) hb4; have lXC := XC.lt
  have XS : B2 w4 (w3.heap.size + 1) (.int .i64 (s1)) (.int .i64 (s2)) := B2.below (by unfold B2 Cel; simp [go_sem]) hb4; have lXS := XS.lt
  go_wp2_with fail
  refine (Add_any _ _ _ _ _ (by omega) (by omega) (by omega) (by omega)).mono ?_
  rintro e w5 ⟨rfl, hb5⟩; have d5 : Below w4.heap.size w4 w5 := below_step hb5 (by repeat (first | with_reducible exact Below.refl _ _ | with_reducible refine below_alloc ?_ _ | with_reducible refine Below.drew ?_ | with_reducible refine below_set ?_ (by (first | (simp; done) | (simp; omega))) _ | with_reducible refine below_step (by assumption) ?_)); have z5 := hb5.size; (try simp at z5); replace XA := XA.below d5; (try clear lXA); have lXA := XA.lt; replace XB := XB.below d5; (try clear lXB); have lXB := XB.lt; replace XC := XC.below d5; (try clear lXC); have lXC := XC.lt; replace XS := XS.below d5; (try clear lXS); have lXS := XS.lt
  have XV : B5 w5 (w4.heap.size) (.int .i64 (a1)) (.int .i64 (a2)) (.int .i64 (a3)) (.int .i64 (a4)) (.int .i64 (am)) := B5.below (by unfold B5 Cel; simp [go_sem]) hb5; have lXV := XV.lt
  have XW : B5 w5 (w4.heap.size + 1) (.int .i64 (b1)) (.int .i64 (b2)) (.int .i64 (b3)) (.int .i64 (b4)) (.int .i64 (bm)) := B5.below (by unfold B5 Cel; simp [go_sem]) hb5; have lXW := XW.lt
  have n0 : w1.heap.size ≠ w2.heap.size := (by omega); have n0' := Ne.symm n0; have n1 : w1.heap.size ≠ w3.heap.size := (by omega); have n1' := Ne.symm n1; have n2 : w1.heap.size ≠ w3.heap.size + 1 := (by omega); have n2' := Ne.symm n2; have n3 : w1.heap.size ≠ w4.heap.size := (by omega); have n3' := Ne.symm n3; have n4 : w1.heap.size ≠ w4.heap.size + 1 := (by omega); have n4' := Ne.symm n4
  go_wp2_with fail
  refine (Add_any _ _ _ _ _ (by omega) (by omega) (by omega) (by omega)).mono ?_
  rintro e w6 ⟨rfl, hb6⟩
  have i6 : Below w.heap.size w w6 := (by repeat (first | with_reducible exact Below.refl _ _ | with_reducible refine below_alloc ?_ _ | with_reducible refine Below.drew ?_ | with_reducible refine below_set ?_ (by (first | (simp; done) | (simp; omega))) _ | with_reducible refine below_step (by assumption) ?_))
  replace XA := ((XA.set0 (.int .i64 (apx + s1))).set1 (.int .i64 (apy + s2))).below hb6
  replace XB := ((XB.far n0 _).far n0 _).below hb6
  replace XC := ((XC.far n1 _).far n1 _).below hb6
  replace XS := ((XS.far n2 _).far n2 _).below hb6
  replace XV := ((XV.far n3 _).far n3 _).below hb6
  replace XW := ((XW.far n4 _).far n4 _).below hb6
  have z6 : w5.heap.size ≤ w6.heap.size := by have := hb6.size; simpa [World.setCell] using this
  clear n0 n1 n2 n3 n4 n0' n1' n2' n3' n4' lXA lXB lXC lXS lXV lXW
  have n0 : w2.heap.size ≠ w1.heap.size := (by omega); have n0' := Ne.symm n0; have n1 : w2.heap.size ≠ w3.heap.size := (by omega); have n1' := Ne.symm n1; have n2 : w2.heap.size ≠ w3.heap.size + 1 := (by omega); have n2' := Ne.symm n2; have n3 : w2.heap.size ≠ w4.heap.size := (by omega); have n3' := Ne.symm n3; have n4 : w2.heap.size ≠ w4.heap.size + 1 := (by omega); have n4' := Ne.symm n4
  go_wp2_with fail
  refine (HF2.out _).mono ?_
  rintro e w7 ⟨rfl, hb7⟩
  have i7 : Below w.heap.size w w7 := (by repeat (first | with_reducible exact Below.refl _ _ | with_reducible refine below_alloc ?_ _ | with_reducible refine Below.drew ?_ | with_reducible refine below_set ?_ (by (first | (simp; done) | (simp; omega))) _ | with_reducible refine below_step (by assumption) ?_))
  replace XS := ((XS.far n2 _).far n2 _).below hb7
  replace XV := ((XV.far n3 _).far n3 _).below hb7
  replace XW := ((XW.far n4 _).far n4 _).below hb7
  clear XA XB XC n0 n1 n2 n3 n4 n0' n1' n2' n3' n4'
  have lXS := XS.lt
  have lXV := XV.lt
  have lXW := XW.lt
  go_wp2_with fail
  refine code_named ?_; intro W7 hW; have dW7 : Below w7.heap.size w7 W7 := (by rw [hW]; exact (by repeat (first | with_reducible exact Below.refl _ _ | with_reducible refine below_alloc ?_ _ | with_reducible refine Below.drew ?_ | with_reducible refine below_set ?_ (by (first | (simp; done) | (simp; omega))) _ | with_reducible refine below_step (by assumption) ?_))); replace XS := XS.below dW7; (try clear lXS); have lXS := XS.lt; replace XV := XV.below dW7; (try clear lXV); have lXV := XV.lt; replace XW := XW.below dW7; (try clear lXW); have lXW := XW.lt
  have XP : B5 W7 (w7.heap.size) (.int .i64 (a1 + s1)) (.int .i64 (a2 + s2)) (.int .i64 (a3)) (.int .i64 (a4)) (.int .i64 (am)) := (by rw [hW]; unfold B5 Cel; simp [go_sem]); have lXP := XP.lt
  have XQ : B5 W7 (w7.heap.size + 1) (.int .i64 (b1 + s1)) (.int .i64 (b2 + s2)) (.int .i64 (b3)) (.int .i64 (b4)) (.int .i64 (bm)) := (by rw [hW]; unfold B5 Cel; simp [go_sem]); have lXQ := XQ.lt
  clear hW
  have KXS := XS.re; have KXV := XV.re; have KXW := XW.re; have KXP := XP.re; have KXQ := XQ.re; refine wp_region_below (by kernel_rfl) (by kernel_rfl) ?_
  repeat (go_big_quiet_step (first
    | (go_at_call 50; exact met_below (Add_any _ _ _ _ _ (by omega) (by omega) (by omega) (by omega)))
    | (go_at_call 70; exact met_below (lives7_any _))))
  refine wpQuiet_nil ?_; intro w8 d8; clear KXS KXV KXW KXP KXQ; replace XS := XS.below d8; (try clear lXS); have lXS := XS.lt; replace XV := XV.below d8; (try clear lXV); have lXV := XV.lt; replace XW := XW.below d8; (try clear lXW); have lXW := XW.lt; replace XP := XP.below d8; (try clear lXP); have lXP := XP.lt; replace XQ := XQ.below d8; (try clear lXQ); have lXQ := XQ.lt
  go_wp2_with fail
  go_ret
  exact ⟨rfl, (by repeat (first | with_reducible exact Below.refl _ _ | with_reducible refine below_alloc ?_ _ | with_reducible refine Below.drew ?_ | with_reducible refine below_set ?_ (by (first | (simp; done) | (simp; omega))) _ | with_reducible refine below_step (by assumption) ?_))⟩

theorem own : ownKnob Try.prog.godebug = none := by kernel_rfl
theorem laidOut : laidOutB Try.prog = true := by kernel_rfl

set_option maxRecDepth 100000 in
theorem lifted (os : Os) (started : os.Started) (H : Type) (enc : TypeId × Value → H) :
    ReturnsInHanded {} Try.checked os 21 .any (Rows.resolveShiftedSpec.pre6 enc Try.prog Try.f21 Rows.resolveShiftedRow.domain false) (Rows.resolveShiftedSpec.post enc Try.prog Try.f21 false true false false) := by
  refine returnsInHanded_of_change (C := Try.checked) own started (by kernel_rfl) Try.func21
    (ChangeSpec.witness6 (enc := enc) (C := Try.checked) false ⟨#[], #[.slice none 0 0, .slice none 0 0, .slice none 0 0, .int .i64 0, .int .i64 0, .int .i64 0], []⟩ 8 (by kernel_rfl) (by kernel_rfl) (by kernel_rfl) (by kernel_rfl)) ?_
  intro W base args ds gs before hval0 hW hcnd _
  have hval : ∀ (j : Nat) t v, Try.f21.params[j]? = some t → args[j]? = some v → Value.okWide Try.prog W .any base t v := hval0
  have hW' := hW
  obtain ⟨p, q, hA0, hV, rfl, hfz, hnd⟩ := hW
  have hA : DataW.TrodAll enc Try.prog W 0 (fun _ => true) true Try.f21.params.toList args.toList ds p := hA0
  rw [Try.params21] at hA hval
  obtain ⟨v0, vs0, d0, ds0, p0, q0, hargs, rfl, rfl, h0, r0⟩ := trodAll_cons hA
  obtain ⟨v1, vs1, d1, ds1, p1, q1, rfl, rfl, rfl, h1, r1⟩ := trodAll_cons r0
  obtain ⟨v2, vs2, d2, ds2, p2, q2, rfl, rfl, rfl, h2, r2⟩ := trodAll_cons r1
  obtain ⟨v3, vs3, d3, ds3, p3, q3, rfl, rfl, rfl, h3, r3⟩ := trodAll_cons r2
  obtain ⟨v4, vs4, d4, ds4, p4, q4, rfl, rfl, rfl, h4, r4⟩ := trodAll_cons r3
  obtain ⟨v5, vs5, d5, ds5, p5, q5, rfl, rfl, rfl, h5, r5⟩ := trodAll_cons r4
  obtain ⟨rfl, rfl, rfl⟩ := trodAll_nil r5
  obtain rfl : args = #[v0, v1, v2, v3, v4, v5] := by cases args; simp_all
  obtain ⟨rfl, rfl⟩ := trodVars_none hV
  obtain ⟨a0, len0, cap0, rfl⟩ := okWide_slice Try.underlying44 (hval 0 44 v0 rfl rfl)
  have k0 := h0
  have lt0 : ∀ x ∈ p0, x.block < W.heap.size := by obtain ⟨m, hm⟩ := k0; exact DataW.trod_lt m _ _ _ hm
  obtain ⟨z0, w0⟩ : ∃ zs, IsRow .i64 W a0 len0 cap0 zs := by
    obtain ⟨fuel, hf⟩ := h0
    rcases open_ints Try.underlying44 Try.underlying3 (by kernel_rfl) hf with ⟨hcs, _⟩ | ⟨x, l, c, zs, hcs, _, hl, hm, hz, _, hcell, hwz⟩
    · simp [Value.cells] at hcs
      obtain ⟨rfl, rfl, rfl⟩ := hcs
      exact ⟨[], .inl ⟨rfl, rfl, rfl, rfl⟩⟩
    · simp [Value.cells] at hcs
      obtain ⟨rfl, rfl, rfl⟩ := hcs
      exact ⟨zs, .inr ⟨_, rfl, hl, hm, by simpa using hz, hcell, hwz⟩⟩
  obtain ⟨a1, len1, cap1, rfl⟩ := okWide_slice Try.underlying44 (hval 1 44 v1 rfl rfl)
  have k1 := h1
  have lt1 : ∀ x ∈ p1, x.block < W.heap.size := by obtain ⟨m, hm⟩ := k1; exact DataW.trod_lt m _ _ _ hm
  obtain ⟨z1, w1⟩ : ∃ zs, IsRow .i64 W a1 len1 cap1 zs := by
    obtain ⟨fuel, hf⟩ := h1
    rcases open_ints Try.underlying44 Try.underlying3 (by kernel_rfl) hf with ⟨hcs, _⟩ | ⟨x, l, c, zs, hcs, _, hl, hm, hz, _, hcell, hwz⟩
    · simp [Value.cells] at hcs
      obtain ⟨rfl, rfl, rfl⟩ := hcs
      exact ⟨[], .inl ⟨rfl, rfl, rfl, rfl⟩⟩
    · simp [Value.cells] at hcs
      obtain ⟨rfl, rfl, rfl⟩ := hcs
      exact ⟨zs, .inr ⟨_, rfl, hl, hm, by simpa using hz, hcell, hwz⟩⟩
  obtain ⟨a2, len2, cap2, rfl⟩ := okWide_slice Try.underlying44 (hval 2 44 v2 rfl rfl)
  have k2 := h2
  have lt2 : ∀ x ∈ p2, x.block < W.heap.size := by obtain ⟨m, hm⟩ := k2; exact DataW.trod_lt m _ _ _ hm
  obtain ⟨z2, w2⟩ : ∃ zs, IsRow .i64 W a2 len2 cap2 zs := by
    obtain ⟨fuel, hf⟩ := h2
    rcases open_ints Try.underlying44 Try.underlying3 (by kernel_rfl) hf with ⟨hcs, _⟩ | ⟨x, l, c, zs, hcs, _, hl, hm, hz, _, hcell, hwz⟩
    · simp [Value.cells] at hcs
      obtain ⟨rfl, rfl, rfl⟩ := hcs
      exact ⟨[], .inl ⟨rfl, rfl, rfl, rfl⟩⟩
    · simp [Value.cells] at hcs
      obtain ⟨rfl, rfl, rfl⟩ := hcs
      exact ⟨zs, .inr ⟨_, rfl, hl, hm, by simpa using hz, hcell, hwz⟩⟩
  obtain ⟨a3, rfl, rfl, rfl, w3⟩ := open_int Try.underlying3 (hval 3 3 v3 rfl rfl) h3
  obtain ⟨a4, rfl, rfl, rfl, w4⟩ := open_int Try.underlying3 (hval 4 3 v4 rfl rfl) h4
  obtain ⟨a5, rfl, rfl, rfl, w5⟩ := open_int Try.underlying3 (hval 5 3 v5 rfl rfl) h5
  clear hA0 hval0
  refine (walk W a0 len0 cap0 z0 w0 a1 len1 cap1 z1 w1 a2 len2 cap2 z2 w2 a3 (bounds_i64 w3).1 (bounds_i64 w3).2 a4 (bounds_i64 w4).1 (bounds_i64 w4).2 a5 (bounds_i64 w5).1 (bounds_i64 w5).2).mono fun e W' ⟨he, bel⟩ => ?_
  subst he
  exact ⟨_, rfl, _, _, _, [], _, [], hW', trodAll_mk1 (shut_bool Try.underlying4 _), (trodAll_cons_mk (Below.trod laidOut (by kernel_rfl) (of_decide_eq_true (by kernel_rfl)) k0 bel lt0) (trodAll_cons_mk (Below.trod laidOut (by kernel_rfl) (of_decide_eq_true (by kernel_rfl)) k1 bel lt1) (trodAll_cons_mk (Below.trod laidOut (by kernel_rfl) (of_decide_eq_true (by kernel_rfl)) k2 bel lt2) (trodAll_cons_mk (shut_int Try.underlying3 w3) (trodAll_cons_mk (shut_int Try.underlying3 w4) (trodAll_cons_mk (shut_int Try.underlying3 w5) trodAll_mk0)))))), rfl, bel.frame _, fun h => by cases h⟩

theorem closed : joinedFacts Try.prog 21 Try.f21 Rows.resolveShiftedSpec Rows.resolveShiftedRow = true := by
  unfold joinedFacts
  repeat' (with_reducible refine both_of ?_ ?_)
  all_goals (first | with_reducible exact mayEnter_ok | (rw [liftsFinal_is]; as_aux_lemma => kernel_rfl) | (rw [make_is]; as_aux_lemma => kernel_rfl) | (as_aux_lemma => kernel_rfl))

theorem over : Rows.resolveShiftedRow.holds Try.pinned (OpenSpec.ofChange Rows.resolveShiftedSpec) :=
  OpenClaim.holds_of_wide 21 Try.f21 rfl rfl rfl rfl rfl rfl rfl ⟨rfl, rfl, rfl, rfl, rfl⟩ rfl rfl rfl rfl rfl (by kernel_rfl) Try.func21 closed
    (of_decide_eq_true (by kernel_rfl)) (by unfold Func.isWrapper; first | (rw [if_pos (by decide +kernel)]; kernel_rfl) | (rw [if_neg (by decide +kernel)]; exact ⟨rfl, rfl⟩))
    (fun os started H enc _ => lifted os started H enc)

theorem proved : Rows.ResolveShiftedSaid := over
#print axioms proved

end Go.Proofs.Ytcapkmiinehdlaa.resolveShifted
