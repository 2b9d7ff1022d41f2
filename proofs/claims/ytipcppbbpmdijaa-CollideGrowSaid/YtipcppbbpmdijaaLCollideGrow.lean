/-
  CollideGrow: a circle that collides still does with a larger radius. Conditions: none.
-/
import Derived.Test.YtipcppbbpmdijaaRows
import Derived.Test.YtipcppbbpmdijaaHead
import Derived.Test.YtipcppbbpmdijaaOpen
import Derived.Test.YtipcppbbpmdijaaPla
namespace Go.Proofs.Ytipcppbbpmdijaa.collideGrow
open Go.ChangeShapes Go.WideShapes Go.ChangeAt Go.RowKit Go.Sort
attribute [local go_sem ↓] Go.wp_at_zero Go.wp_at_succ

def grR (rad : Int) : Int := if arnd rad 3 = 0 then 1 + arnd (rad.tdiv 3) 60 else 1 + arnd rad 30000
theorem grR_bd (rad : Int) : 1 ≤ grR rad ∧ grR rad ≤ 30000 := by
  have a := arnd_bd (rad.tdiv 3) (most := 60) (by decide)
  have b := arnd_bd rad (most := 30000) (by decide)
  unfold grR; split <;> omega
theorem circ_sn {R : Int} (h : 0 ≤ R ∧ R ≤ 32768) : SN R [] := ⟨h, by simp, by simp⟩

set_option maxRecDepth 100000 in
set_option maxHeartbeats 4000000 in
theorem walk (rad : Int) (lrad : -9223372036854775808 ≤ rad) (urad : rad ≤ 9223372036854775807) (mor : Int) (lmor : -9223372036854775808 ≤ mor) (umor : mor ≤ 9223372036854775807) (m : Int) (lm : -9223372036854775808 ≤ m) (um : m ≤ 9223372036854775807) (t0 : Int) (lt0 : -9223372036854775808 ≤ t0) (ut0 : t0 ≤ 9223372036854775807) (t1 : Int) (lt1 : -9223372036854775808 ≤ t1) (ut1 : t1 ≤ 9223372036854775807) (t2 : Int) (lt2 : -9223372036854775808 ≤ t2) (ut2 : t2 ≤ 9223372036854775807) (t3 : Int) (lt3 : -9223372036854775808 ≤ t3) (ut3 : t3 ≤ 9223372036854775807) (w : World) :
    Calls Try.prog 11 #[.int .i64 rad, .int .i64 mor, .int .i64 m, .agg #[.int .i64 t0, .int .i64 t1, .int .i64 t2, .int .i64 t3]] w fun e w' => e = .returned (.bool true) ∧ Below w.heap.size w w' := by
  have hG := shape_gs m
  have hS := hG.sn
  have hSh := fun W => Shape_any m W lm um
  have td : -9223372036854775808 ≤ rad.tdiv 3 ∧ rad.tdiv 3 ≤ 9223372036854775807 := by
    have q := Int.mul_tdiv_add_tmod rad 3
    have tb := tmod_bd rad (c := 3) (by decide)
    omega
  have hR := grR_bd rad
  have hA1 := fun W => Around_any rad 30000 W (by omega) lrad urad
  have hA2 := fun W => Around_any rad 3 W (by omega) lrad urad
  have hA3 := fun W => Around_any (rad.tdiv 3) 60 W (by omega) td.1 td.2
  have hA4 := fun W => Around_any mor 2769 W (by omega) lmor umor
  have c1 := arnd_bd rad (most := 30000) (by decide)
  have c2 := arnd_bd rad (most := 3) (by decide)
  have c3 := arnd_bd (rad.tdiv 3) (most := 60) (by decide)
  have c4 := arnd_bd mor (most := 2769) (by decide)
  have hgr : grR rad = if arnd rad 3 = 0 then 1 + arnd (rad.tdiv 3) 60 else 1 + arnd rad 30000 := rfl
  generalize shR m = Rb at *
  generalize shV m = vb at *
  generalize grR rad = r at *
  generalize arnd mor 2769 = g at *
  generalize arnd rad 3 = e3 at *
  generalize arnd (rad.tdiv 3) 60 = e4 at *
  generalize arnd rad 30000 = e5 at *
  have hSr : SN r [] := circ_sn (by omega)
  have hSg : SN (r + g) [] := circ_sn (by omega)
  have hP := fun A n c B k d W P Q => Place_any r Rb t0 t1 t2 t3 A B n c k d [] vb W P Q hSr hS ⟨lt0, ut0⟩ ⟨lt1, ut1⟩ ⟨lt2, ut2⟩ ⟨lt3, ut3⟩
  have pb := plP_bd t0 t1
  have qb := plQ_bd hSr hS t0 t1 t2 t3
  generalize plP t0 t1 = p at *
  generalize plQ r [] Rb vb t0 t1 t2 t3 = q at *
  obtain ⟨p0, p1⟩ := p
  obtain ⟨q0, q1⟩ := q
  unfold LB at pb qb
  dsimp only at pb qb hP
  have hC1 := fun B k d W Q => Collide_any r Rb p0 p1 q0 q1 none B 0 0 k d [] vb W (Pol.empty _) Q hSr hS (by omega) (by omega) (by omega) (by omega)
  have hC2 := fun B k d W Q => Collide_any (r + g) Rb p0 p1 q0 q1 none B 0 0 k d [] vb W (Pol.empty _) Q hSg hS (by omega) (by omega) (by omega) (by omega)
  have hgw := hit_grow (R := r) (S := r + g) (p := (p0, p1)) (Rb := Rb) (vb := vb) (q := (q0, q1)) (by omega)
  generalize hit r [] (p0, p1) Rb vb (q0, q1) = h1 at *
  generalize hit (r + g) [] (p0, p1) Rb vb (q0, q1) = h2 at *
  generalize cnD r [] (p0, p1) Rb vb (q0, q1) = d1 at *
  generalize cnD (r + g) [] (p0, p1) Rb vb (q0, q1) = d2 at *
  generalize cnN r [] (p0, p1) Rb vb (q0, q1) = m1 at *
  generalize cnN (r + g) [] (p0, p1) Rb vb (q0, q1) = m2 at *
  have HA1 := Lib.hid hA1; clear hA1
  have HA2 := Lib.hid hA2; clear hA2
  have HA3 := Lib.hid hA3; clear hA3
  have HA4 := Lib.hid hA4; clear hA4
  have HP := Lib.hid hP; clear hP
  have HC1 := Lib.hid hC1; clear hC1
  have HC2 := Lib.hid hC2; clear hC2
  have HGW := Lib.hid hgw; clear hgw
  have HSH := Lib.hid hSh; clear hSh
  have HGR := Lib.hid hgr; clear hgr
  clear hG td
  go_enter Try.func11, Try.ntmps11
  go_upto_if 24 with (first
    | (go_at_call 25; first | ((with_reducible refine (HA1.out _).mono ?_); rintro e w' ⟨rfl, rfl⟩) | ((with_reducible refine (HA2.out _).mono ?_); rintro e w' ⟨rfl, rfl⟩)))
  refine code_named ?_; intro W0 hW; have dW0 : Below w.heap.size w W0 := (by rw [hW]; exact (by repeat (first | with_reducible exact Below.refl _ _ | with_reducible refine below_alloc ?_ _ | with_reducible refine Below.drew ?_ | with_reducible refine below_set ?_ (by (first | (simp; done) | (simp; omega))) _ | with_reducible refine below_step (by assumption) ?_)))
  have XT : B4 W0 (w.heap.size) (.int .i64 (t0)) (.int .i64 (t1)) (.int .i64 (t2)) (.int .i64 (t3)) := (by rw [hW]; unfold B4 Cel; simp [go_sem]); have lXT := XT.lt
  clear hW
  go_cut [9] (fun s9 w' => s9 = .int .i64 r ∧ W0 = w')
  case first =>
    by_cases h3 : e3 = 0
    · have h3' : (e3 == 0) = true := by simp [h3]
      go_wp2_with (first
        | (go_at_call 25; (with_reducible refine (HA3.out _).mono ?_); rintro e w' ⟨rfl, rfl⟩))
      go_meet
      exact ⟨by rw [HGR.out, if_pos h3], rfl⟩
    · have h3' : (e3 == 0) = false := by simp [h3]
      go_wp2_with fail
      go_meet
      exact ⟨by rw [HGR.out, if_neg h3], rfl⟩
  case rest =>
    obtain ⟨rfl, rfl⟩ := hcut
    go_wp2_with fail
    refine calls_at ?_; intro W1 hW; have dW1 : Below W0.heap.size W0 W1 := (by rw [hW]; exact (by repeat (first | with_reducible exact Below.refl _ _ | with_reducible refine below_alloc ?_ _ | with_reducible refine Below.drew ?_ | with_reducible refine below_set ?_ (by (first | (simp; done) | (simp; omega))) _ | with_reducible refine below_step (by assumption) ?_))); replace XT := XT.below dW1; (try clear lXT); have lXT := XT.lt
    have XA : B2 W1 (W0.heap.size) (.int .i64 (r)) (.slice none 0 0) := (by rw [hW]; unfold B2 Cel; simp [go_sem]); have lXA := XA.lt
    clear hW
    refine (HA4.out _).mono ?_
    rintro e w' ⟨rfl, rfl⟩
    go_wp2_with fail
    refine calls_at ?_; intro W2 hW; have dW2 : Below W1.heap.size W1 W2 := (by rw [hW]; exact (by repeat (first | with_reducible exact Below.refl _ _ | with_reducible refine below_alloc ?_ _ | with_reducible refine Below.drew ?_ | with_reducible refine below_set ?_ (by (first | (simp; done) | (simp; omega))) _ | with_reducible refine below_step (by assumption) ?_))); replace XT := XT.below dW2; (try clear lXT); have lXT := XT.lt; replace XA := XA.below dW2; (try clear lXA); have lXA := XA.lt
    have XG : B2 W2 (W1.heap.size) (.int .i64 (r + g)) (.slice none 0 0) := (by rw [hW]; unfold B2 Cel; simp [go_sem]); have lXG := XG.lt
    have i2 : Below w.heap.size w W2 := (by repeat (first | with_reducible exact Below.refl _ _ | with_reducible refine below_alloc ?_ _ | with_reducible refine Below.drew ?_ | with_reducible refine below_set ?_ (by (first | (simp; done) | (simp; omega))) _ | with_reducible refine below_step (by assumption) ?_))
    clear hW
    refine (HSH.out _).mono ?_
    rintro e w3 ⟨B, k, c, rfl, P, hb3, -⟩
    replace XT := XT.below hb3; replace XA := XA.below hb3; replace XG := XG.below hb3
    clear lXT lXA lXG; have lXT := XT.lt; have lXA := XA.lt; have lXG := XG.lt
    have i3 : Below w.heap.size w w3 := i2.trans (hb3.mono i2.size)
    go_wp2_with fail
    refine calls_at ?_; intro W4 hW; have dW4 : Below w3.heap.size w3 W4 := (by rw [hW]; exact (by repeat (first | with_reducible exact Below.refl _ _ | with_reducible refine below_alloc ?_ _ | with_reducible refine Below.drew ?_ | with_reducible refine below_set ?_ (by (first | (simp; done) | (simp; omega))) _ | with_reducible refine below_step (by assumption) ?_))); replace P := P.below dW4; (try clear lP); have lP := P.lt; replace XT := XT.below dW4; (try clear lXT); have lXT := XT.lt; replace XA := XA.below dW4; (try clear lXA); have lXA := XA.lt; replace XG := XG.below dW4; (try clear lXG); have lXG := XG.lt
    have XB : B2 W4 w3.heap.size (.int .i64 Rb) (.slice B k c) := (by rw [hW]; unfold B2 Cel; simp [go_sem])
    have i4 : Below w.heap.size w W4 := (by repeat (first | with_reducible exact Below.refl _ _ | with_reducible refine below_alloc ?_ _ | with_reducible refine Below.drew ?_ | with_reducible refine below_set ?_ (by (first | (simp; done) | (simp; omega))) _ | with_reducible refine below_step (by assumption) ?_))
    clear hW lXT lXA lXG dW0 dW1 dW2 dW4 i2 i3 hb3
    refine (HP.out _ _ _ _ _ _ _ (Pol.empty _) P).mono ?_
    rintro e w5 ⟨rfl, hb5⟩; have d5 : Below W4.heap.size W4 w5 := below_step hb5 (by repeat (first | with_reducible exact Below.refl _ _ | with_reducible refine below_alloc ?_ _ | with_reducible refine Below.drew ?_ | with_reducible refine below_set ?_ (by (first | (simp; done) | (simp; omega))) _ | with_reducible refine below_step (by assumption) ?_)); have z5 := hb5.size; (try simp at z5); replace P := P.below d5; (try clear lP); have lP := P.lt; replace XT := XT.below d5; (try clear lXT); have lXT := XT.lt; replace XA := XA.below d5; (try clear lXA); have lXA := XA.lt; replace XG := XG.below d5; (try clear lXG); have lXG := XG.lt; replace XB := XB.below d5; (try clear lXB); have lXB := XB.lt
    go_wp2_with fail
    refine calls_at ?_; intro W6 hW; have dW6 : Below w5.heap.size w5 W6 := (by rw [hW]; exact (by repeat (first | with_reducible exact Below.refl _ _ | with_reducible refine below_alloc ?_ _ | with_reducible refine Below.drew ?_ | with_reducible refine below_set ?_ (by (first | (simp; done) | (simp; omega))) _ | with_reducible refine below_step (by assumption) ?_))); replace P := P.below dW6; (try clear lP); have lP := P.lt; replace XT := XT.below dW6; (try clear lXT); have lXT := XT.lt; replace XA := XA.below dW6; (try clear lXA); have lXA := XA.lt; replace XG := XG.below dW6; (try clear lXG); have lXG := XG.lt; replace XB := XB.below dW6; (try clear lXB); have lXB := XB.lt
    have XP : B2 W6 (w5.heap.size) (.int .i64 (p0)) (.int .i64 (p1)) := (by rw [hW]; unfold B2 Cel; simp [go_sem]); have lXP := XP.lt
    have XQ : B2 W6 (w5.heap.size + 1) (.int .i64 (q0)) (.int .i64 (q1)) := (by rw [hW]; unfold B2 Cel; simp [go_sem]); have lXQ := XQ.lt
    have i6 : Below w.heap.size w W6 := (by repeat (first | with_reducible exact Below.refl _ _ | with_reducible refine below_alloc ?_ _ | with_reducible refine Below.drew ?_ | with_reducible refine below_set ?_ (by (first | (simp; done) | (simp; omega))) _ | with_reducible refine below_step (by assumption) ?_))
    clear hW
    refine (HC1.out _ _ _ _ P).mono ?_
    rintro e w7 ⟨rfl, hb7⟩; have d7 : Below W6.heap.size W6 w7 := below_step hb7 (by repeat (first | with_reducible exact Below.refl _ _ | with_reducible refine below_alloc ?_ _ | with_reducible refine Below.drew ?_ | with_reducible refine below_set ?_ (by (first | (simp; done) | (simp; omega))) _ | with_reducible refine below_step (by assumption) ?_)); have z7 := hb7.size; (try simp at z7); replace P := P.below d7; (try clear lP); have lP := P.lt; replace XG := XG.below d7; (try clear lXG); have lXG := XG.lt; replace XB := XB.below d7; (try clear lXB); have lXB := XB.lt; replace XP := XP.below d7; (try clear lXP); have lXP := XP.lt; replace XQ := XQ.below d7; (try clear lXQ); have lXQ := XQ.lt
    go_wp2_with fail
    refine calls_at ?_; intro W8 hW; have dW8 : Below w7.heap.size w7 W8 := (by rw [hW]; exact (by repeat (first | with_reducible exact Below.refl _ _ | with_reducible refine below_alloc ?_ _ | with_reducible refine Below.drew ?_ | with_reducible refine below_set ?_ (by (first | (simp; done) | (simp; omega))) _ | with_reducible refine below_step (by assumption) ?_))); replace P := P.below dW8; (try clear lP); have lP := P.lt; replace XG := XG.below dW8; (try clear lXG); have lXG := XG.lt; replace XB := XB.below dW8; (try clear lXB); have lXB := XB.lt; replace XP := XP.below dW8; (try clear lXP); have lXP := XP.lt; replace XQ := XQ.below dW8; (try clear lXQ); have lXQ := XQ.lt
    have XC : B3 W8 w7.heap.size (.int .i64 m1.1) (.int .i64 m1.2) (.int .i64 d1) := (by rw [hW]; unfold B3 Cel; simp [go_sem])
    have i8 : Below w.heap.size w W8 := (by repeat (first | with_reducible exact Below.refl _ _ | with_reducible refine below_alloc ?_ _ | with_reducible refine Below.drew ?_ | with_reducible refine below_set ?_ (by (first | (simp; done) | (simp; omega))) _ | with_reducible refine below_step (by assumption) ?_))
    clear hW
    refine (HC2.out _ _ _ _ P).mono ?_
    rintro e w9 ⟨rfl, hb9⟩; have d9 : Below W8.heap.size W8 w9 := below_step hb9 (by repeat (first | with_reducible exact Below.refl _ _ | with_reducible refine below_alloc ?_ _ | with_reducible refine Below.drew ?_ | with_reducible refine below_set ?_ (by (first | (simp; done) | (simp; omega))) _ | with_reducible refine below_step (by assumption) ?_)); have z9 := hb9.size; (try simp at z9); replace XC := XC.below d9; (try clear lXC); have lXC := XC.lt
    have i9 : Below w.heap.size w w9 := (by repeat (first | with_reducible exact Below.refl _ _ | with_reducible refine below_alloc ?_ _ | with_reducible refine Below.drew ?_ | with_reducible refine below_set ?_ (by (first | (simp; done) | (simp; omega))) _ | with_reducible refine below_step (by assumption) ?_))
    clear XT XA XG XB XP XQ P hb5 hb7 hb9 d5 d7 d9 dW6 dW8 z5 z7 z9 i4 i6 i8 lXT lXA lXG lXB lXP lXQ lP
    cases h1 with
    | true =>
      obtain ⟨rfl, hle⟩ := HGW.out rfl
      go_wp2_with fail
      refine (lives5_any _).mono ?_
      rintro e w10 ⟨rfl, hb10⟩
      go_wp2_with fail
      go_ret
      exact ⟨rfl, i9.trans (((by repeat (first | with_reducible exact Below.refl _ _ | with_reducible refine below_alloc ?_ _ | with_reducible refine Below.drew ?_ | with_reducible refine below_set ?_ (by (first | (simp; done) | (simp; omega))) _ | with_reducible refine below_step (by assumption) ?_)) : Below w9.heap.size w9 _).mono i9.size)⟩
    | false =>
      go_wp2_with fail
      refine (lives5_any _).mono ?_
      rintro e w10 ⟨rfl, hb10⟩
      go_wp2_with fail
      go_ret
      exact ⟨rfl, i9.trans (((by repeat (first | with_reducible exact Below.refl _ _ | with_reducible refine below_alloc ?_ _ | with_reducible refine Below.drew ?_ | with_reducible refine below_set ?_ (by (first | (simp; done) | (simp; omega))) _ | with_reducible refine below_step (by assumption) ?_)) : Below w9.heap.size w9 _).mono i9.size)⟩

theorem own : ownKnob Try.prog.godebug = none := by kernel_rfl
theorem laidOut : laidOutB Try.prog = true := by kernel_rfl

set_option maxRecDepth 100000 in
theorem lifted (os : Os) (started : os.Started) (H : Type) (enc : TypeId × Value → H) :
    ReturnsInHanded {} Try.checked os 11 .any (Rows.collideGrowSpec.pre6 enc Try.prog Try.f11 Rows.collideGrowRow.domain false) (Rows.collideGrowSpec.post enc Try.prog Try.f11 false true false false) := by
  refine returnsInHanded_of_change (C := Try.checked) own started (by kernel_rfl) Try.func11
    (ChangeSpec.witness6 (enc := enc) (C := Try.checked) false ⟨#[], #[.int .i64 0, .int .i64 0, .int .i64 0, .agg #[.int .i64 0, .int .i64 0, .int .i64 0, .int .i64 0]], []⟩ 8 (by kernel_rfl) (by kernel_rfl) (by kernel_rfl) (by kernel_rfl)) ?_
  intro W base args ds gs before hval0 hW hcnd _
  have hval : ∀ (j : Nat) t v, Try.f11.params[j]? = some t → args[j]? = some v → Value.okWide Try.prog W .any base t v := hval0
  have hW' := hW
  obtain ⟨p, q, hA0, hV, rfl, hfz, hnd⟩ := hW
  have hA : DataW.TrodAll enc Try.prog W 0 (fun _ => true) true Try.f11.params.toList args.toList ds p := hA0
  rw [Try.params11] at hA hval
  obtain ⟨v0, vs0, d0, ds0, p0, q0, hargs, rfl, rfl, h0, r0⟩ := trodAll_cons hA
  obtain ⟨v1, vs1, d1, ds1, p1, q1, rfl, rfl, rfl, h1, r1⟩ := trodAll_cons r0
  obtain ⟨v2, vs2, d2, ds2, p2, q2, rfl, rfl, rfl, h2, r2⟩ := trodAll_cons r1
  obtain ⟨v3, vs3, d3, ds3, p3, q3, rfl, rfl, rfl, h3, r3⟩ := trodAll_cons r2
  obtain ⟨rfl, rfl, rfl⟩ := trodAll_nil r3
  obtain rfl : args = #[v0, v1, v2, v3] := by cases args; simp_all
  obtain ⟨rfl, rfl⟩ := trodVars_none hV
  obtain ⟨a0, rfl, rfl, rfl, w0⟩ := open_int Try.underlying3 (hval 0 3 v0 rfl rfl) h0
  obtain ⟨a1, rfl, rfl, rfl, w1⟩ := open_int Try.underlying3 (hval 1 3 v1 rfl rfl) h1
  obtain ⟨a2, rfl, rfl, rfl, w2⟩ := open_int Try.underlying3 (hval 2 3 v2 rfl rfl) h2
  have k3 := h3
  have lt3 : ∀ x ∈ p3, x.block < W.heap.size := by obtain ⟨m, hm⟩ := k3; exact DataW.trod_lt m _ _ _ hm
  obtain ⟨zs3, rfl, hz3, hw3⟩ := open_arr Try.underlying51 Try.underlying3 (by kernel_rfl) (by kernel_rfl) (hval 3 51 v3 rfl rfl) h3
  obtain ⟨z3_0, z3_1, z3_2, z3_3, rfl⟩ := list4 hz3
  have bz3_0 := bounds_i64 (hw3 z3_0 (by simp))
  have bz3_1 := bounds_i64 (hw3 z3_1 (by simp))
  have bz3_2 := bounds_i64 (hw3 z3_2 (by simp))
  have bz3_3 := bounds_i64 (hw3 z3_3 (by simp))
  clear hA0 hval0
  refine (walk a0 (bounds_i64 w0).1 (bounds_i64 w0).2 a1 (bounds_i64 w1).1 (bounds_i64 w1).2 a2 (bounds_i64 w2).1 (bounds_i64 w2).2 z3_0 bz3_0.1 bz3_0.2 z3_1 bz3_1.1 bz3_1.2 z3_2 bz3_2.1 bz3_2.2 z3_3 bz3_3.1 bz3_3.2 W).mono fun e W' ⟨he, bel⟩ => ?_
  subst he
  exact ⟨_, rfl, _, _, _, [], _, [], hW', trodAll_mk1 (shut_bool Try.underlying4 _), (trodAll_cons_mk (shut_int Try.underlying3 w0) (trodAll_cons_mk (shut_int Try.underlying3 w1) (trodAll_cons_mk (shut_int Try.underlying3 w2) (trodAll_cons_mk (Below.trod laidOut (by kernel_rfl) (of_decide_eq_true (by kernel_rfl)) k3 bel lt3) trodAll_mk0)))), rfl, bel.frame _, fun h => by cases h⟩

theorem closed : joinedFacts Try.prog 11 Try.f11 Rows.collideGrowSpec Rows.collideGrowRow = true := by
  unfold joinedFacts
  repeat' (with_reducible refine both_of ?_ ?_)
  all_goals (first | with_reducible exact mayEnter_ok | (rw [liftsFinal_is]; as_aux_lemma => kernel_rfl) | (rw [make_is]; as_aux_lemma => kernel_rfl) | (as_aux_lemma => kernel_rfl))

theorem over : Rows.collideGrowRow.holds Try.pinned (OpenSpec.ofChange Rows.collideGrowSpec) :=
  OpenClaim.holds_of_wide 11 Try.f11 rfl rfl rfl rfl rfl rfl rfl ⟨rfl, rfl, rfl, rfl, rfl⟩ rfl rfl rfl rfl rfl (by kernel_rfl) Try.func11 closed
    (of_decide_eq_true (by kernel_rfl)) (by unfold Func.isWrapper; first | (rw [if_pos (by decide +kernel)]; kernel_rfl) | (rw [if_neg (by decide +kernel)]; exact ⟨rfl, rfl⟩))
    (fun os started H enc _ => lifted os started H enc)

theorem proved : Rows.CollideGrowSaid := over
#print axioms proved

end Go.Proofs.Ytipcppbbpmdijaa.collideGrow
