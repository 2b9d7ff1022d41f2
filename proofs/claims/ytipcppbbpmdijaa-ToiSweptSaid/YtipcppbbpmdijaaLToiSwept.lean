/-
  ToiSwept: two generated bodies whose bounding boxes over the whole motion do not overlap: the result is One; so too if the second one is placed beyond the first one's box. Conditions: none.
-/
import Derived.Test.YtipcppbbpmdijaaRows
import Derived.Test.YtipcppbbpmdijaaHead
import Derived.Test.YtipcppbbpmdijaaOpen
import Derived.Test.YtipcppbbpmdijaaTou
namespace Go.Proofs.Ytipcppbbpmdijaa.toiSwept
open Go.ChangeShapes Go.WideShapes Go.ChangeAt Go.RowKit Go.Sort
attribute [local go_sem ↓] Go.wp_at_zero Go.wp_at_succ

theorem set2_6 {W : World} {b : Nat} {v0 v1 v2 v3 v4 v5 : Value} (h : B6 W b v0 v1 v2 v3 v4 v5) (u : Value) : B6 (W.setCell ⟨b, 2, none⟩ u) b v0 v1 u v3 v4 v5 :=
  ⟨Cel.far h.1 (Or.inr (by decide)) u, Cel.far h.2.1 (Or.inr (by decide)) u, Cel.same h.2.2.1 u, Cel.far h.2.2.2.1 (Or.inr (by decide)) u, Cel.far h.2.2.2.2.1 (Or.inr (by decide)) u, Cel.far h.2.2.2.2.2 (Or.inr (by decide)) u⟩
theorem sw_bd {R : Int} {vs : List V2} {p0 p1 v0 v1 : Int} (hS : SN R vs) (h1 : -631077 ≤ p0 ∧ p0 ≤ 631077) (h3 : -16384 ≤ v0 ∧ v0 ≤ 16384) :
    (-800000 ≤ mnk (sx0 R vs (p0, p1) (v0, v1)) 8 ∧ mnk (sx0 R vs (p0, p1) (v0, v1)) 8 ≤ 800000) ∧ (-800000 ≤ mxk (sx1 R vs (p0, p1) (v0, v1)) 8 ∧ mxk (sx1 R vs (p0, p1) (v0, v1)) 8 ≤ 800000) := by
  obtain ⟨b0, b1, b2, b3⟩ := bb_bd hS
  constructor
  · refine mnk_bd (M := 800000) fun k hk => ?_
    have := mdv8_bd h3 (k := (k : Int)) (by omega)
    unfold sx0 stp; dsimp only; omega
  · refine mxk_bd (M := 800000) fun k hk => ?_
    have := mdv8_bd h3 (k := (k : Int)) (by omega)
    unfold sx1 stp; dsimp only; omega

set_option maxRecDepth 100000 in
set_option maxHeartbeats 8000000 in
theorem walk (w : World) (A : Option Addr) (lA cA : Nat) (zA : List Int) (hA : IsRow .i64 w A lA cA zA) (y : Int) (ly : -9223372036854775808 ≤ y) (uy : y ≤ 9223372036854775807) :
    Calls Try.prog 21 #[.slice A lA cA, .int .i64 y] w fun e w' => e = .returned (.bool true) ∧ Below w.heap.size w w' := by
  obtain ⟨Ra, Rb, p0, p1, u0, u1, q0, q1, v0, v1, va, vb, hSa, hSb, hb, hP⟩ := Pair_two lA zA
  unfold Bd at hb
  have hE := fun C j c D k d W P Q => earliest_any Ra Rb p0 p1 u0 u1 q0 q1 v0 v1 C D j c k d va vb W P Q hSa hSb (by omega) (by omega) (by omega) (by omega) (by omega) (by omega) (by omega) (by omega)
  have hSw1 := fun C j c W P => swept_any Ra p0 p1 u0 u1 C j c va W P hSa (by omega) (by omega) (by omega) (by omega)
  have hSw2 := fun C j c W P => swept_any Rb q0 q1 v0 v1 C j c vb W P hSb (by omega) (by omega) (by omega) (by omega)
  have hA2 := (sw_bd (p0 := p0) (p1 := p1) (v0 := u0) (v1 := u1) hSa (by omega) (by omega)).2
  have hB0 := (sw_bd (p0 := q0) (p1 := q1) (v0 := v0) (v1 := v1) hSb (by omega) (by omega)).1
  have hap := swept_apart (Ra := Ra) (va := va) (p := (p0, p1)) (u := (u0, u1)) (Rb := Rb) (vb := vb) (q := (q0, q1)) (v := (v0, v1))
  have hAr := fun W => Around_any y 1000 W (by omega) ly uy
  have har := arnd_bd y (most := 1000) (by decide)
  generalize arnd y 1000 = e at *
  have hbe := swept_beyond (Ra := Ra) (va := va) (p := (p0, p1)) (u := (u0, u1)) (Rb := Rb) (vb := vb) (q0 := q0) (q1 := q1) (v := (v0, v1)) (e := e) (by omega)
  have hE2 := fun (z : Int) (hz : -33000000 ≤ z ∧ z ≤ 33000000) C j c D k d W P Q => earliest_any Ra Rb p0 p1 u0 u1 z q1 v0 v1 C D j c k d va vb W P Q hSa hSb (by omega) (by omega) (by omega) (by omega) (by omega) (by omega) (by omega) (by omega)
  generalize mnk (sx0 Ra va (p0, p1) (u0, u1)) 8 = A0 at *
  generalize mnk (sy0 Ra va (p0, p1) (u0, u1)) 8 = A1 at *
  generalize mxk (sx1 Ra va (p0, p1) (u0, u1)) 8 = A2 at *
  generalize mxk (sy1 Ra va (p0, p1) (u0, u1)) 8 = A3 at *
  generalize mnk (sx0 Rb vb (q0, q1) (v0, v1)) 8 = B0 at *
  generalize mnk (sy0 Rb vb (q0, q1) (v0, v1)) 8 = B1 at *
  generalize mxk (sx1 Rb vb (q0, q1) (v0, v1)) 8 = B2 at *
  generalize mxk (sy1 Rb vb (q0, q1) (v0, v1)) 8 = B3 at *
  have hz : -33000000 ≤ q0 + A2 - B0 + 1 + e ∧ q0 + A2 - B0 + 1 + e ≤ 33000000 := by omega
  have hE3 := hE2 _ hz
  rw [show q0 + (A2 - B0 + 1 + e) = q0 + A2 - B0 + 1 + e by omega] at hbe
  rw [hbe] at hE3
  clear hE2 hbe
  have hAbs := fun W => rAbs_any (q0 + A2 - B0 + 1 + e) W (by omega)
  have HP := Lib.hid (fun W hW => hP A cA W (hA.below hW)); clear hP
  generalize ear (tch Ra va (p0, p1) (u0, u1) Rb vb (q0, q1) (v0, v1)) = f at *
  have HE := Lib.hid hE; clear hE hSa hSb
  have HE3 := Lib.hid hE3; clear hE3
  have HS1 := Lib.hid hSw1; clear hSw1
  have HS2 := Lib.hid hSw2; clear hSw2
  have HAP := Lib.hid hap; clear hap
  have HAR := Lib.hid hAr; clear hAr
  have HAB := Lib.hid hAbs; clear hAbs
  go_enter Try.func21, Try.ntmps21
  go_upto_region 1 with fail
  go_cut [5, 6] (fun s3 s4 w' => ∃ g h C j c D k d, s3 = .pointer (some ⟨g, 0, none⟩) ∧ s4 = .pointer (some ⟨h, 0, none⟩) ∧ g ≠ h ∧ w.heap.size ≤ g ∧ w.heap.size ≤ h ∧
    B6 w' g (.int .i64 Ra) (.slice C j c) (.int .i64 p0) (.int .i64 p1) (.int .i64 u0) (.int .i64 u1) ∧ B6 w' h (.int .i64 Rb) (.slice D k d) (.int .i64 q0) (.int .i64 q1) (.int .i64 v0) (.int .i64 v1) ∧
    Pol w' C j c va ∧ Pol w' D k d vb ∧ (∀ a, C = some a → a.block ≠ g ∧ a.block ≠ h) ∧ (∀ a, D = some a → a.block ≠ g ∧ a.block ≠ h) ∧ Below w.heap.size w w')
  case first =>
    clear HE HE3 HS1 HS2 HAP HAR HAB
    go_wp2_with fail
    refine (HP.out _ (by repeat (first | with_reducible exact Below.refl _ _ | with_reducible refine below_alloc ?_ _ | with_reducible refine Below.drew ?_ | with_reducible refine below_set ?_ (by (first | (simp; done) | (simp; omega))) _ | with_reducible refine below_step (by assumption) ?_))).mono ?_
    rintro e w9 ⟨C, j, c, D, k, d, rfl, PC, PD, fC, fD, hb9⟩
    have i9 : Below w.heap.size w w9 := (by repeat (first | with_reducible exact Below.refl _ _ | with_reducible refine below_alloc ?_ _ | with_reducible refine Below.drew ?_ | with_reducible refine below_set ?_ (by (first | (simp; done) | (simp; omega))) _ | with_reducible refine below_step (by assumption) ?_))
    go_wp2_with fail
    go_meet
    have s9 := i9.size
    exact ⟨w9.heap.size, w9.heap.size + 1, C, j, c, D, k, d, rfl, rfl, by omega, by omega, by omega, (by unfold B6 Cel; simp [go_sem]), (by unfold B6 Cel; simp [go_sem]), PC.below (by repeat (first | with_reducible exact Below.refl _ _ | with_reducible refine below_alloc ?_ _ | with_reducible refine Below.drew ?_ | with_reducible refine below_set ?_ (by (first | (simp; done) | (simp; omega))) _ | with_reducible refine below_step (by assumption) ?_)), PD.below (by repeat (first | with_reducible exact Below.refl _ _ | with_reducible refine below_alloc ?_ _ | with_reducible refine Below.drew ?_ | with_reducible refine below_set ?_ (by (first | (simp; done) | (simp; omega))) _ | with_reducible refine below_step (by assumption) ?_)), (fun a e => by have := PC.ltA e; omega), (fun a e => by have := PD.ltA e; omega), (by repeat (first | with_reducible exact i9 | with_reducible refine below_alloc ?_ _))⟩
  case rest =>
    rename World => w1
    obtain ⟨g, h, C, j, c, D, k, d, rfl, rfl, hne, hg, hh, XA, XB, PC, PD, fC, fD, j1⟩ := hcut
    have lXA := XA.lt; have lXB := XB.lt
    have hne' := Ne.symm hne
    have FC := Lib.hid fC; have FD := Lib.hid fD; clear fC fD HP
    go_wp2_with fail
    have lg1 := XA.lt; have lh1 := XB.lt
    refine (HS1.out _ _ _ _ PC).mono ?_
    rintro e w2 ⟨rfl, hb2⟩; have d2 : Below w1.heap.size w1 w2 := below_step hb2 (by repeat (first | with_reducible exact Below.refl _ _ | with_reducible refine below_alloc ?_ _ | with_reducible refine Below.drew ?_ | with_reducible refine below_set ?_ (by (first | (simp; done) | (simp; omega))) _ | with_reducible refine below_step (by assumption) ?_)); have z2 := hb2.size; (try simp at z2); replace XA := XA.below d2; (try clear lXA); have lXA := XA.lt; replace XB := XB.below d2; (try clear lXB); have lXB := XB.lt; replace PC := PC.below d2; (try clear lPC); have lPC := PC.lt; replace PD := PD.below d2; (try clear lPD); have lPD := PD.lt
    have i2 : Below w.heap.size w w2 := j1.trans (d2.mono j1.size)
    have z12 := d2.size
    go_wp2_with fail
    refine calls_at ?_; intro W3 hW; have dW3 : Below w2.heap.size w2 W3 := (by rw [hW]; exact (by repeat (first | with_reducible exact Below.refl _ _ | with_reducible refine below_alloc ?_ _ | with_reducible refine Below.drew ?_ | with_reducible refine below_set ?_ (by (first | (simp; done) | (simp; omega))) _ | with_reducible refine below_step (by assumption) ?_))); replace XA := XA.below dW3; (try clear lXA); have lXA := XA.lt; replace XB := XB.below dW3; (try clear lXB); have lXB := XB.lt; replace PC := PC.below dW3; (try clear lPC); have lPC := PC.lt; replace PD := PD.below dW3; (try clear lPD); have lPD := PD.lt
    have YA : B4 W3 w2.heap.size (.int .i64 A0) (.int .i64 A1) (.int .i64 A2) (.int .i64 A3) := (by rw [hW]; unfold B4 Cel; simp [go_sem])
    have lYA := YA.lt
    have i3 : Below w.heap.size w W3 := i2.trans (dW3.mono i2.size)
    clear hW
    refine (HS2.out _ _ _ _ PD).mono ?_
    rintro e w4 ⟨rfl, hb4⟩; have d4 : Below W3.heap.size W3 w4 := below_step hb4 (by repeat (first | with_reducible exact Below.refl _ _ | with_reducible refine below_alloc ?_ _ | with_reducible refine Below.drew ?_ | with_reducible refine below_set ?_ (by (first | (simp; done) | (simp; omega))) _ | with_reducible refine below_step (by assumption) ?_)); have z4 := hb4.size; (try simp at z4); replace XA := XA.below d4; (try clear lXA); have lXA := XA.lt; replace XB := XB.below d4; (try clear lXB); have lXB := XB.lt; replace PC := PC.below d4; (try clear lPC); have lPC := PC.lt; replace PD := PD.below d4; (try clear lPD); have lPD := PD.lt; replace YA := YA.below d4; (try clear lYA); have lYA := YA.lt
    have i4 : Below w.heap.size w w4 := i3.trans (d4.mono i3.size)
    have z34 := d4.size
    have n1 : g ≠ w2.heap.size := by omega
    have n2 : h ≠ w2.heap.size := by omega
    have n3 : g ≠ w4.heap.size := by omega
    have n4 : h ≠ w4.heap.size := by omega
    generalize w2.heap.size = y1 at *
    go_upto_region 4 with fail
    refine code_named ?_; intro W5 hW; have dW5 : Below w4.heap.size w4 W5 := (by rw [hW]; exact (by repeat (first | with_reducible exact Below.refl _ _ | with_reducible refine below_alloc ?_ _ | with_reducible refine Below.drew ?_ | with_reducible refine below_set ?_ (by (first | (simp; done) | (simp; omega))) _ | with_reducible refine below_step (by assumption) ?_))); replace XA := XA.below dW5; (try clear lXA); have lXA := XA.lt; replace XB := XB.below dW5; (try clear lXB); have lXB := XB.lt; replace PC := PC.below dW5; (try clear lPC); have lPC := PC.lt; replace PD := PD.below dW5; (try clear lPD); have lPD := PD.lt; replace YA := YA.below dW5; (try clear lYA); have lYA := YA.lt
    have YB : B4 W5 w4.heap.size (.int .i64 B0) (.int .i64 B1) (.int .i64 B2) (.int .i64 B3) := (by rw [hW]; unfold B4 Cel; simp [go_sem])
    have lYB := YB.lt
    have i5 : Below w.heap.size w W5 := i4.trans (dW5.mono i4.size)
    clear hW
    generalize w4.heap.size = y2 at *
    clear d2 d4 hb2 hb4 dW3 dW5 i2 i3 i4 j1 z2 z4 z12 z34 HS1 HS2
    go_cut [9] (fun s9 w' => ∃ ap : Bool, s9 = .bool ap ∧ (ap = true → A2 < B0 ∨ B2 < A0 ∨ A3 < B1 ∨ B3 < A1) ∧ W5 = w')
    case first =>
      clear HE HE3 HAP HAR HAB PC PD FC FD
      by_cases c1 : A2 < B0
      · go_wp2_with fail
        go_meet
        exact ⟨true, rfl, (fun _ => by omega), rfl⟩
      by_cases c2 : B2 < A0
      · go_wp2_with fail
        go_meet
        exact ⟨true, rfl, (fun _ => by omega), rfl⟩
      by_cases c3 : A3 < B1
      · go_wp2_with fail
        go_meet
        exact ⟨true, rfl, (fun _ => by omega), rfl⟩
      by_cases c4 : B3 < A1
      · go_wp2_with fail
        go_meet
        exact ⟨true, rfl, (fun _ => by omega), rfl⟩
      · go_wp2_with fail
        go_meet
        exact ⟨false, rfl, (fun h => by cases h), rfl⟩
    case rest =>
      obtain ⟨ap, rfl, hap, rfl⟩ := hcut
      go_upto_region 5 with fail
      go_cut [51] (fun s51 w' => s51 = .bool false ∧ Below W5.heap.size W5 w')
      case first =>
        cases ap with
        | true =>
          obtain rfl : f = 1024 := HAP.out (hap rfl)
          go_wp2_with fail
          refine (HE.out _ _ _ _ _ _ _ PC PD).mono ?_
          rintro e w6 ⟨rfl, hb6⟩
          go_wp2_with fail
          go_meet
          exact ⟨rfl, hb6⟩
        | false =>
          go_wp2_with fail
          go_meet
          exact ⟨rfl, Below.refl _ _⟩
      case rest =>
        rename World => w6
        obtain ⟨rfl, d6⟩ := hcut
        replace XA := XA.below d6; replace XB := XB.below d6; replace YA := YA.below d6; replace YB := YB.below d6; replace PC := PC.below d6; replace PD := PD.below d6
        have i6 : Below w.heap.size w w6 := i5.trans (d6.mono i5.size)
        clear lXA lXB lYA lYB d6 i5 HAP HE hap
        have lXA := XA.lt; have lXB := XB.lt; have lYA := YA.lt; have lYB := YB.lt
        go_wp2_with fail
        go_upto_region 7 with fail
        have KXA := XA.re; have KXB := XB.re; have KYA := YA.re; have KYB := YB.re; refine wp_region_last 15 (by kernel_rfl) (by kernel_rfl) ?_; simp only [List.take_succ_cons, List.take_zero, List.drop_succ_cons, List.drop_zero]
        repeat (go_big_quiet_step ((go_at_call 25; exact met_same (HAR.out _))))
        refine wpQuiet_nil ?_; intro w7 d7; clear KXA KXB KYA KYB; replace XA := XA.below d7; (try clear lXA); have lXA := XA.lt; replace XB := XB.below d7; (try clear lXB); have lXB := XB.lt; replace YA := YA.below d7; (try clear lYA); have lYA := YA.lt; replace YB := YB.below d7; (try clear lYB); have lYB := YB.lt
        replace PC := PC.below d7; replace PD := PD.below d7
        have i7 : Below w.heap.size w w7 := i6.trans (d7.mono i6.size)
        go_wp2_with fail
        refine calls_at ?_; intro W8 hW
        have i8 : Below w.heap.size w W8 := by rw [hW]; exact below_set i7 hh _
        replace PC : Pol W8 C j c va := by rw [hW]; exact Pol.farA PC (fun a e => Ne.symm (FC.out a e).2) _
        replace PD : Pol W8 D k d vb := by rw [hW]; exact Pol.farA PD (fun a e => Ne.symm (FD.out a e).2) _
        replace XA : B6 W8 g (.int .i64 Ra) (.slice C j c) (.int .i64 p0) (.int .i64 p1) (.int .i64 u0) (.int .i64 u1) := by rw [hW]; exact XA.far hne' _
        replace XB : B6 W8 h (.int .i64 Rb) (.slice D k d) (.int .i64 (q0 + A2 - B0 + 1 + e)) (.int .i64 q1) (.int .i64 v0) (.int .i64 v1) := by rw [hW]; exact set2_6 XB _
        clear hW lXA lXB lYA lYB YA YB FC FD i7 d7 HAR
        have lXA := XA.lt; have lXB := XB.lt
        refine (HAB.out _).mono ?_
        rintro e9 w9 ⟨rfl, rfl⟩
        generalize q0 + A2 - B0 + 1 + e = zz at *
        by_cases hbig : abz zz > 1048576
        · go_wp2_with fail
          refine (lives6_any _).mono ?_
          rintro e w10 ⟨rfl, hb10⟩
          go_wp2_with fail
          go_ret
          exact ⟨rfl, i8.trans (hb10.mono i8.size)⟩
        · go_wp2_with fail
          refine (HE3.out _ _ _ _ _ _ _ PC PD).mono ?_
          rintro e w10 ⟨rfl, hb10⟩
          have i10 := i8.trans (hb10.mono i8.size)
          go_wp2_with fail
          refine (lives6_any _).mono ?_
          rintro e w11 ⟨rfl, hb11⟩
          go_wp2_with fail
          go_ret
          exact ⟨rfl, i10.trans (hb11.mono i10.size)⟩

theorem own : ownKnob Try.prog.godebug = none := by kernel_rfl
theorem laidOut : laidOutB Try.prog = true := by kernel_rfl

set_option maxRecDepth 100000 in
theorem lifted (os : Os) (started : os.Started) (H : Type) (enc : TypeId × Value → H) :
    ReturnsInHanded {} Try.checked os 21 .any (Rows.toiSweptSpec.pre6 enc Try.prog Try.f21 Rows.toiSweptRow.domain false) (Rows.toiSweptSpec.post enc Try.prog Try.f21 false true false false) := by
  refine returnsInHanded_of_change (C := Try.checked) own started (by kernel_rfl) Try.func21
    (ChangeSpec.witness6 (enc := enc) (C := Try.checked) false ⟨#[], #[.slice none 0 0, .int .i64 0], []⟩ 8 (by kernel_rfl) (by kernel_rfl) (by kernel_rfl) (by kernel_rfl)) ?_
  intro W base args ds gs before hval0 hW hcnd _
  have hval : ∀ (j : Nat) t v, Try.f21.params[j]? = some t → args[j]? = some v → Value.okWide Try.prog W .any base t v := hval0
  have hW' := hW
  obtain ⟨p, q, hA0, hV, rfl, hfz, hnd⟩ := hW
  have hA : DataW.TrodAll enc Try.prog W 0 (fun _ => true) true Try.f21.params.toList args.toList ds p := hA0
  rw [Try.params21] at hA hval
  obtain ⟨v0, vs0, d0, ds0, p0, q0, hargs, rfl, rfl, h0, r0⟩ := trodAll_cons hA
  obtain ⟨v1, vs1, d1, ds1, p1, q1, rfl, rfl, rfl, h1, r1⟩ := trodAll_cons r0
  obtain ⟨rfl, rfl, rfl⟩ := trodAll_nil r1
  obtain rfl : args = #[v0, v1] := by cases args; simp_all
  obtain ⟨rfl, rfl⟩ := trodVars_none hV
  obtain ⟨a0, len0, cap0, rfl⟩ := okWide_slice Try.underlying67 (hval 0 67 v0 rfl rfl)
  have k0 := h0
  have lt0 : ∀ x ∈ p0, x.block < W.heap.size := by obtain ⟨m, hm⟩ := k0; exact DataW.trod_lt m _ _ _ hm
  obtain ⟨z0, w0⟩ : ∃ zs, IsRow .i64 W a0 len0 cap0 zs := by
    obtain ⟨fuel, hf⟩ := h0
    rcases open_ints Try.underlying67 Try.underlying3 (by kernel_rfl) hf with ⟨hcs, _⟩ | ⟨x, l, c, zs, hcs, _, hl, hm, hz, _, hcell, hwz⟩
    · simp [Value.cells] at hcs
      obtain ⟨rfl, rfl, rfl⟩ := hcs
      exact ⟨[], .inl ⟨rfl, rfl, rfl, rfl⟩⟩
    · simp [Value.cells] at hcs
      obtain ⟨rfl, rfl, rfl⟩ := hcs
      exact ⟨zs, .inr ⟨_, rfl, hl, hm, by simpa using hz, hcell, hwz⟩⟩
  obtain ⟨a1, rfl, rfl, rfl, w1⟩ := open_int Try.underlying3 (hval 1 3 v1 rfl rfl) h1
  clear hA0 hval0
  refine (walk W a0 len0 cap0 z0 w0 a1 (bounds_i64 w1).1 (bounds_i64 w1).2).mono fun e W' ⟨he, bel⟩ => ?_
  subst he
  exact ⟨_, rfl, _, _, _, [], _, [], hW', trodAll_mk1 (shut_bool Try.underlying4 _), (trodAll_cons_mk (Below.trod laidOut (by kernel_rfl) (of_decide_eq_true (by kernel_rfl)) k0 bel lt0) (trodAll_cons_mk (shut_int Try.underlying3 w1) trodAll_mk0)), rfl, bel.frame _, fun h => by cases h⟩

theorem closed : joinedFacts Try.prog 21 Try.f21 Rows.toiSweptSpec Rows.toiSweptRow = true := by
  unfold joinedFacts
  repeat' (with_reducible refine both_of ?_ ?_)
  all_goals (first | with_reducible exact mayEnter_ok | (rw [liftsFinal_is]; as_aux_lemma => kernel_rfl) | (rw [make_is]; as_aux_lemma => kernel_rfl) | (as_aux_lemma => kernel_rfl))

theorem over : Rows.toiSweptRow.holds Try.pinned (OpenSpec.ofChange Rows.toiSweptSpec) :=
  OpenClaim.holds_of_wide 21 Try.f21 rfl rfl rfl rfl rfl rfl rfl ⟨rfl, rfl, rfl, rfl, rfl⟩ rfl rfl rfl rfl rfl (by kernel_rfl) Try.func21 closed
    (of_decide_eq_true (by kernel_rfl)) (by unfold Func.isWrapper; first | (rw [if_pos (by decide +kernel)]; kernel_rfl) | (rw [if_neg (by decide +kernel)]; exact ⟨rfl, rfl⟩))
    (fun os started H enc _ => lifted os started H enc)

theorem proved : Rows.ToiSweptSaid := over
#print axioms proved

end Go.Proofs.Ytipcppbbpmdijaa.toiSwept
