/-
  CollideCircles: two circles collide, up to a small error, just if their distance is less than the sum of the radii, and Depth is at most the difference. Conditions: none.
-/
import Derived.Test.YtipcppbbpmdijaaRows
import Derived.Test.YtipcppbbpmdijaaHead
import Derived.Test.YtipcppbbpmdijaaOpen
import Derived.Test.YtipcppbbpmdijaaPla
import Derived.Test.YtipcppbbpmdijaaMee
namespace Go.Proofs.Ytipcppbbpmdijaa.collideCircles
open Go.ChangeShapes Go.WideShapes Go.ChangeAt Go.RowKit Go.Sort
attribute [local go_sem ↓] Go.wp_at_zero Go.wp_at_succ

theorem circ_sn {R : Int} (h : 0 ≤ R ∧ R ≤ 32768) : SN R [] := ⟨h, by simp, by simp⟩

set_option maxRecDepth 100000 in
set_option maxHeartbeats 4000000 in
theorem walk (x : Int) (lx : -9223372036854775808 ≤ x) (ux : x ≤ 9223372036854775807) (y : Int) (ly : -9223372036854775808 ≤ y) (uy : y ≤ 9223372036854775807) (t0 : Int) (lt0 : -9223372036854775808 ≤ t0) (ut0 : t0 ≤ 9223372036854775807) (t1 : Int) (lt1 : -9223372036854775808 ≤ t1) (ut1 : t1 ≤ 9223372036854775807) (t2 : Int) (lt2 : -9223372036854775808 ≤ t2) (ut2 : t2 ≤ 9223372036854775807) (t3 : Int) (lt3 : -9223372036854775808 ≤ t3) (ut3 : t3 ≤ 9223372036854775807) (w : World) :
    Calls Try.prog 12 #[.int .i64 x, .int .i64 y, .agg #[.int .i64 t0, .int .i64 t1, .int .i64 t2, .int .i64 t3]] w fun e w' => e = .returned (.bool true) ∧ Below w.heap.size w w' := by
  have hA1 := fun W => Around_any x 30000 W (by omega) lx ux
  have hA2 := fun W => Around_any y 30000 W (by omega) ly uy
  have c1 := arnd_bd x (most := 30000) (by decide)
  have c2 := arnd_bd y (most := 30000) (by decide)
  generalize arnd x 30000 = a at *
  generalize arnd y 30000 = b at *
  have hSr : SN (1024 + a) [] := circ_sn (by omega)
  have hSt : SN (1024 + b) [] := circ_sn (by omega)
  have hP := fun W => Place_any (1024 + a) (1024 + b) t0 t1 t2 t3 none none 0 0 0 0 [] [] W (Pol.empty _) (Pol.empty _) hSr hSt ⟨lt0, ut0⟩ ⟨lt1, ut1⟩ ⟨lt2, ut2⟩ ⟨lt3, ut3⟩
  have pb := plP_bd t0 t1
  have qb := plQ_bd hSr hSt t0 t1 t2 t3
  generalize plP t0 t1 = p at *
  generalize plQ (1024 + a) [] (1024 + b) [] t0 t1 t2 t3 = q at *
  obtain ⟨p0, p1⟩ := p
  obtain ⟨q0, q1⟩ := q
  unfold LB at pb qb
  dsimp only at pb qb hP
  have hC := fun W => Collide_any (1024 + a) (1024 + b) p0 p1 q0 q1 none none 0 0 0 0 [] [] W (Pol.empty _) (Pol.empty _) hSr hSt (by omega) (by omega) (by omega) (by omega)
  have sq0 := mul_bd (a := q0 - p0) (b := q0 - p0) (A := 85000) (B := 85000) (by omega) (by omega)
  have sq1 := mul_bd (a := q1 - p1) (b := q1 - p1) (A := 85000) (B := 85000) (by omega) (by omega)
  have hL := fun W => Len_any (q0 - p0) (q1 - p1) W (by omega) (by omega) (by omega) (by omega)
  have hSb := fun W => Sub_any q0 q1 p0 p1 W (by omega) (by omega) (by omega) (by omega)
  have lb := lnz_le (ax := q0 - p0) (ay := q1 - p1) (M := 85000) (by omega) (by omega)
  have l0 := lnz_nonneg (q0 - p0) (q1 - p1)
  have hci := fun h => circles (R := 1024 + a) (T := 1024 + b) (p := (p0, p1)) (q := (q0, q1)) (D := lnz (q0 - p0) (q1 - p1)) (by omega) (by omega) rfl h
  generalize lnz (q0 - p0) (q1 - p1) = D at *
  generalize hit (1024 + a) [] (p0, p1) (1024 + b) [] (q0, q1) = h1 at *
  generalize cnD (1024 + a) [] (p0, p1) (1024 + b) [] (q0, q1) = d1 at *
  generalize cnN (1024 + a) [] (p0, p1) (1024 + b) [] (q0, q1) = m1 at *
  have HA1 := Lib.hid hA1; clear hA1
  have HA2 := Lib.hid hA2; clear hA2
  have HP := Lib.hid hP; clear hP
  have HC := Lib.hid hC; clear hC
  have HL := Lib.hid hL; clear hL
  have HSB := Lib.hid hSb; clear hSb
  have HCI := Lib.hid hci; clear hci
  clear sq0 sq1 hSr hSt
  go_enter Try.func12, Try.ntmps12
  go_wp2_with fail
  refine calls_at ?_; intro W0 hW; have dW0 : Below w.heap.size w W0 := (by rw [hW]; exact (by repeat (first | with_reducible exact Below.refl _ _ | with_reducible refine below_alloc ?_ _ | with_reducible refine Below.drew ?_ | with_reducible refine below_set ?_ (by (first | (simp; done) | (simp; omega))) _ | with_reducible refine below_step (by assumption) ?_)))
  have XT : B4 W0 (w.heap.size) (.int .i64 (t0)) (.int .i64 (t1)) (.int .i64 (t2)) (.int .i64 (t3)) := (by rw [hW]; unfold B4 Cel; simp [go_sem]); have lXT := XT.lt
  clear hW
  refine (HA1.out _).mono ?_
  rintro e w' ⟨rfl, rfl⟩
  go_wp2_with fail
  refine calls_at ?_; intro W1 hW; have dW1 : Below W0.heap.size W0 W1 := (by rw [hW]; exact (by repeat (first | with_reducible exact Below.refl _ _ | with_reducible refine below_alloc ?_ _ | with_reducible refine Below.drew ?_ | with_reducible refine below_set ?_ (by (first | (simp; done) | (simp; omega))) _ | with_reducible refine below_step (by assumption) ?_))); replace XT := XT.below dW1; (try clear lXT); have lXT := XT.lt
  have XA : B2 W1 (W0.heap.size) (.int .i64 (1024 + a)) (.slice none 0 0) := (by rw [hW]; unfold B2 Cel; simp [go_sem]); have lXA := XA.lt
  clear hW
  refine (HA2.out _).mono ?_
  rintro e w' ⟨rfl, rfl⟩
  go_wp2_with fail
  refine calls_at ?_; intro W2 hW; have dW2 : Below W1.heap.size W1 W2 := (by rw [hW]; exact (by repeat (first | with_reducible exact Below.refl _ _ | with_reducible refine below_alloc ?_ _ | with_reducible refine Below.drew ?_ | with_reducible refine below_set ?_ (by (first | (simp; done) | (simp; omega))) _ | with_reducible refine below_step (by assumption) ?_))); replace XT := XT.below dW2; (try clear lXT); have lXT := XT.lt; replace XA := XA.below dW2; (try clear lXA); have lXA := XA.lt
  have XB : B2 W2 (W1.heap.size) (.int .i64 (1024 + b)) (.slice none 0 0) := (by rw [hW]; unfold B2 Cel; simp [go_sem]); have lXB := XB.lt
  have i2 : Below w.heap.size w W2 := (by repeat (first | with_reducible exact Below.refl _ _ | with_reducible refine below_alloc ?_ _ | with_reducible refine Below.drew ?_ | with_reducible refine below_set ?_ (by (first | (simp; done) | (simp; omega))) _ | with_reducible refine below_step (by assumption) ?_))
  clear hW
  refine (HP.out _).mono ?_
  rintro e w3 ⟨rfl, hb3⟩; have d3 : Below W2.heap.size W2 w3 := below_step hb3 (by repeat (first | with_reducible exact Below.refl _ _ | with_reducible refine below_alloc ?_ _ | with_reducible refine Below.drew ?_ | with_reducible refine below_set ?_ (by (first | (simp; done) | (simp; omega))) _ | with_reducible refine below_step (by assumption) ?_)); have z3 := hb3.size; (try simp at z3); replace XT := XT.below d3; (try clear lXT); have lXT := XT.lt; replace XA := XA.below d3; (try clear lXA); have lXA := XA.lt; replace XB := XB.below d3; (try clear lXB); have lXB := XB.lt
  go_wp2_with fail
  refine calls_at ?_; intro W4 hW; have dW4 : Below w3.heap.size w3 W4 := (by rw [hW]; exact (by repeat (first | with_reducible exact Below.refl _ _ | with_reducible refine below_alloc ?_ _ | with_reducible refine Below.drew ?_ | with_reducible refine below_set ?_ (by (first | (simp; done) | (simp; omega))) _ | with_reducible refine below_step (by assumption) ?_))); replace XA := XA.below dW4; (try clear lXA); have lXA := XA.lt; replace XB := XB.below dW4; (try clear lXB); have lXB := XB.lt
  have XP : B2 W4 (w3.heap.size) (.int .i64 (p0)) (.int .i64 (p1)) := (by rw [hW]; unfold B2 Cel; simp [go_sem]); have lXP := XP.lt
  have XQ : B2 W4 (w3.heap.size + 1) (.int .i64 (q0)) (.int .i64 (q1)) := (by rw [hW]; unfold B2 Cel; simp [go_sem]); have lXQ := XQ.lt
  have i4 : Below w.heap.size w W4 := (by repeat (first | with_reducible exact Below.refl _ _ | with_reducible refine below_alloc ?_ _ | with_reducible refine Below.drew ?_ | with_reducible refine below_set ?_ (by (first | (simp; done) | (simp; omega))) _ | with_reducible refine below_step (by assumption) ?_))
  clear hW
  refine (HSB.out _).mono ?_
  rintro e w5 ⟨rfl, hb5⟩; have d5 : Below W4.heap.size W4 w5 := below_step hb5 (by repeat (first | with_reducible exact Below.refl _ _ | with_reducible refine below_alloc ?_ _ | with_reducible refine Below.drew ?_ | with_reducible refine below_set ?_ (by (first | (simp; done) | (simp; omega))) _ | with_reducible refine below_step (by assumption) ?_)); have z5 := hb5.size; (try simp at z5); replace XA := XA.below d5; (try clear lXA); have lXA := XA.lt; replace XB := XB.below d5; (try clear lXB); have lXB := XB.lt; replace XP := XP.below d5; (try clear lXP); have lXP := XP.lt; replace XQ := XQ.below d5; (try clear lXQ); have lXQ := XQ.lt
  go_wp2_with fail
  refine (HL.out _).mono ?_
  rintro e w6 ⟨rfl, hb6⟩; have d6 : Below w5.heap.size w5 w6 := below_step hb6 (by repeat (first | with_reducible exact Below.refl _ _ | with_reducible refine below_alloc ?_ _ | with_reducible refine Below.drew ?_ | with_reducible refine below_set ?_ (by (first | (simp; done) | (simp; omega))) _ | with_reducible refine below_step (by assumption) ?_)); have z6 := hb6.size; (try simp at z6); replace XA := XA.below d6; (try clear lXA); have lXA := XA.lt; replace XB := XB.below d6; (try clear lXB); have lXB := XB.lt; replace XP := XP.below d6; (try clear lXP); have lXP := XP.lt; replace XQ := XQ.below d6; (try clear lXQ); have lXQ := XQ.lt
  have i6 : Below w.heap.size w w6 := (by repeat (first | with_reducible exact Below.refl _ _ | with_reducible refine below_alloc ?_ _ | with_reducible refine Below.drew ?_ | with_reducible refine below_set ?_ (by (first | (simp; done) | (simp; omega))) _ | with_reducible refine below_step (by assumption) ?_))
  clear hb3 hb5 hb6 d3 d5 d6 dW0 dW1 dW2 dW4 z3 z5 z6 i2 i4 XT lXT
  by_cases hD : D < 1024
  · go_wp2_with fail
    refine (lives5_any _).mono ?_
    rintro e w7 ⟨rfl, hb7⟩
    go_wp2_with fail
    go_ret
    exact ⟨rfl, i6.trans (((by repeat (first | with_reducible exact Below.refl _ _ | with_reducible refine below_alloc ?_ _ | with_reducible refine Below.drew ?_ | with_reducible refine below_set ?_ (by (first | (simp; done) | (simp; omega))) _ | with_reducible refine below_step (by assumption) ?_)) : Below w6.heap.size w6 _).mono i6.size)⟩
  · have hq : Int.tdiv D 256 = D / 256 := Int.tdiv_eq_ediv_of_nonneg l0
    have hs := HCI.out (by omega)
    have hS : 0 ≤ D / 256 ∧ D / 256 ≤ 1000 := by omega
    generalize D / 256 = S at *
    clear HCI
    have HS := Lib.hid hs; clear hs
    go_wp2_with fail
    refine (HC.out _).mono ?_
    rintro e w7 ⟨rfl, hb7⟩; have d7 : Below w6.heap.size w6 w7 := below_step hb7 (by repeat (first | with_reducible exact Below.refl _ _ | with_reducible refine below_alloc ?_ _ | with_reducible refine Below.drew ?_ | with_reducible refine below_set ?_ (by (first | (simp; done) | (simp; omega))) _ | with_reducible refine below_step (by assumption) ?_)); have z7 := hb7.size; (try simp at z7)
    have i7 : Below w.heap.size w w7 := (by repeat (first | with_reducible exact Below.refl _ _ | with_reducible refine below_alloc ?_ _ | with_reducible refine Below.drew ?_ | with_reducible refine below_set ?_ (by (first | (simp; done) | (simp; omega))) _ | with_reducible refine below_step (by assumption) ?_))
    cases h1 with
    | true =>
      obtain ⟨k1, k2⟩ := HS.out.1 rfl
      clear HS
      go_wp2_with fail
      refine (lives5_any _).mono ?_
      rintro e w8 ⟨rfl, hb8⟩
      go_wp2_with fail
      go_ret
      exact ⟨rfl, i7.trans (((by repeat (first | with_reducible exact Below.refl _ _ | with_reducible refine below_alloc ?_ _ | with_reducible refine Below.drew ?_ | with_reducible refine below_set ?_ (by (first | (simp; done) | (simp; omega))) _ | with_reducible refine below_step (by assumption) ?_)) : Below w7.heap.size w7 _).mono i7.size)⟩
    | false =>
      have k1 := HS.out.2 rfl
      clear HS
      go_wp2_with fail
      refine (lives5_any _).mono ?_
      rintro e w8 ⟨rfl, hb8⟩
      go_wp2_with fail
      go_ret
      exact ⟨rfl, i7.trans (((by repeat (first | with_reducible exact Below.refl _ _ | with_reducible refine below_alloc ?_ _ | with_reducible refine Below.drew ?_ | with_reducible refine below_set ?_ (by (first | (simp; done) | (simp; omega))) _ | with_reducible refine below_step (by assumption) ?_)) : Below w7.heap.size w7 _).mono i7.size)⟩

theorem own : ownKnob Try.prog.godebug = none := by kernel_rfl
theorem laidOut : laidOutB Try.prog = true := by kernel_rfl

set_option maxRecDepth 100000 in
theorem lifted (os : Os) (started : os.Started) (H : Type) (enc : TypeId × Value → H) :
    ReturnsInHanded {} Try.checked os 12 .any (Rows.collideCirclesSpec.pre6 enc Try.prog Try.f12 Rows.collideCirclesRow.domain false) (Rows.collideCirclesSpec.post enc Try.prog Try.f12 false true false false) := by
  refine returnsInHanded_of_change (C := Try.checked) own started (by kernel_rfl) Try.func12
    (ChangeSpec.witness6 (enc := enc) (C := Try.checked) false ⟨#[], #[.int .i64 0, .int .i64 0, .agg #[.int .i64 0, .int .i64 0, .int .i64 0, .int .i64 0]], []⟩ 8 (by kernel_rfl) (by kernel_rfl) (by kernel_rfl) (by kernel_rfl)) ?_
  intro W base args ds gs before hval0 hW hcnd _
  have hval : ∀ (j : Nat) t v, Try.f12.params[j]? = some t → args[j]? = some v → Value.okWide Try.prog W .any base t v := hval0
  have hW' := hW
  obtain ⟨p, q, hA0, hV, rfl, hfz, hnd⟩ := hW
  have hA : DataW.TrodAll enc Try.prog W 0 (fun _ => true) true Try.f12.params.toList args.toList ds p := hA0
  rw [Try.params12] at hA hval
  obtain ⟨v0, vs0, d0, ds0, p0, q0, hargs, rfl, rfl, h0, r0⟩ := trodAll_cons hA
  obtain ⟨v1, vs1, d1, ds1, p1, q1, rfl, rfl, rfl, h1, r1⟩ := trodAll_cons r0
  obtain ⟨v2, vs2, d2, ds2, p2, q2, rfl, rfl, rfl, h2, r2⟩ := trodAll_cons r1
  obtain ⟨rfl, rfl, rfl⟩ := trodAll_nil r2
  obtain rfl : args = #[v0, v1, v2] := by cases args; simp_all
  obtain ⟨rfl, rfl⟩ := trodVars_none hV
  obtain ⟨a0, rfl, rfl, rfl, w0⟩ := open_int Try.underlying3 (hval 0 3 v0 rfl rfl) h0
  obtain ⟨a1, rfl, rfl, rfl, w1⟩ := open_int Try.underlying3 (hval 1 3 v1 rfl rfl) h1
  have k2 := h2
  have lt2 : ∀ x ∈ p2, x.block < W.heap.size := by obtain ⟨m, hm⟩ := k2; exact DataW.trod_lt m _ _ _ hm
  obtain ⟨zs2, rfl, hz2, hw2⟩ := open_arr Try.underlying51 Try.underlying3 (by kernel_rfl) (by kernel_rfl) (hval 2 51 v2 rfl rfl) h2
  obtain ⟨z2_0, z2_1, z2_2, z2_3, rfl⟩ := list4 hz2
  have bz2_0 := bounds_i64 (hw2 z2_0 (by simp))
  have bz2_1 := bounds_i64 (hw2 z2_1 (by simp))
  have bz2_2 := bounds_i64 (hw2 z2_2 (by simp))
  have bz2_3 := bounds_i64 (hw2 z2_3 (by simp))
  clear hA0 hval0
  refine (walk a0 (bounds_i64 w0).1 (bounds_i64 w0).2 a1 (bounds_i64 w1).1 (bounds_i64 w1).2 z2_0 bz2_0.1 bz2_0.2 z2_1 bz2_1.1 bz2_1.2 z2_2 bz2_2.1 bz2_2.2 z2_3 bz2_3.1 bz2_3.2 W).mono fun e W' ⟨he, bel⟩ => ?_
  subst he
  exact ⟨_, rfl, _, _, _, [], _, [], hW', trodAll_mk1 (shut_bool Try.underlying4 _), (trodAll_cons_mk (shut_int Try.underlying3 w0) (trodAll_cons_mk (shut_int Try.underlying3 w1) (trodAll_cons_mk (Below.trod laidOut (by kernel_rfl) (of_decide_eq_true (by kernel_rfl)) k2 bel lt2) trodAll_mk0))), rfl, bel.frame _, fun h => by cases h⟩

theorem closed : joinedFacts Try.prog 12 Try.f12 Rows.collideCirclesSpec Rows.collideCirclesRow = true := by
  unfold joinedFacts
  repeat' (with_reducible refine both_of ?_ ?_)
  all_goals (first | with_reducible exact mayEnter_ok | (rw [liftsFinal_is]; as_aux_lemma => kernel_rfl) | (rw [make_is]; as_aux_lemma => kernel_rfl) | (as_aux_lemma => kernel_rfl))

theorem over : Rows.collideCirclesRow.holds Try.pinned (OpenSpec.ofChange Rows.collideCirclesSpec) :=
  OpenClaim.holds_of_wide 12 Try.f12 rfl rfl rfl rfl rfl rfl rfl ⟨rfl, rfl, rfl, rfl, rfl⟩ rfl rfl rfl rfl rfl (by kernel_rfl) Try.func12 closed
    (of_decide_eq_true (by kernel_rfl)) (by unfold Func.isWrapper; first | (rw [if_pos (by decide +kernel)]; kernel_rfl) | (rw [if_neg (by decide +kernel)]; exact ⟨rfl, rfl⟩))
    (fun os started H enc _ => lifted os started H enc)

theorem proved : Rows.CollideCirclesSaid := over
#print axioms proved

end Go.Proofs.Ytipcppbbpmdijaa.collideCircles
