/-
  ToiSlower: of two generated bodies only the first one moves; if they first touch after k sub-steps, then at half the velocity after at most 2k. Conditions: none.
-/
import Derived.Test.YtipcppbbpmdijaaRows
import Derived.Test.YtipcppbbpmdijaaHead
import Derived.Test.YtipcppbbpmdijaaOpen
import Derived.Test.YtipcppbbpmdijaaTou
namespace Go.Proofs.Ytipcppbbpmdijaa.toiSlower
open Go.ChangeShapes Go.WideShapes Go.ChangeAt Go.RowKit Go.Sort
attribute [local go_sem ↓] Go.wp_at_zero Go.wp_at_succ

theorem set45_6 {W : World} {b : Nat} {v0 v1 v2 v3 v4 v5 : Value} (h : B6 W b v0 v1 v2 v3 v4 v5) (x y : Value) : B6 ((W.setCell ⟨b, 4, none⟩ x).setCell ⟨b, 5, none⟩ y) b v0 v1 v2 v3 x y := by
  have h4 : B6 (W.setCell ⟨b, 4, none⟩ x) b v0 v1 v2 v3 x v5 := ⟨Cel.far h.1 (Or.inr (by decide)) x, Cel.far h.2.1 (Or.inr (by decide)) x, Cel.far h.2.2.1 (Or.inr (by decide)) x, Cel.far h.2.2.2.1 (Or.inr (by decide)) x, Cel.same h.2.2.2.2.1 x, Cel.far h.2.2.2.2.2 (Or.inr (by decide)) x⟩
  exact ⟨Cel.far h4.1 (Or.inr (by decide)) y, Cel.far h4.2.1 (Or.inr (by decide)) y, Cel.far h4.2.2.1 (Or.inr (by decide)) y, Cel.far h4.2.2.2.1 (Or.inr (by decide)) y, Cel.far h4.2.2.2.2.1 (Or.inr (by decide)) y, Cel.same h4.2.2.2.2.2 y⟩
theorem six_bd {u : Int} (h : -16384 ≤ u ∧ u ≤ 16384) : (-16384 ≤ Int.tdiv u 16 * 16 ∧ Int.tdiv u 16 * 16 ≤ 16384) ∧ Int.tdiv u 16 * 16 % 2 = 0 ∧ Int.tdiv (Int.tdiv u 16 * 16) 2 = Int.tdiv u 16 * 16 / 2 := by
  have h16 : -1024 ≤ Int.tdiv u 16 ∧ Int.tdiv u 16 ≤ 1024 := by
    rcases Int.le_total 0 u with h0 | h0
    · rw [Int.tdiv_eq_ediv_of_nonneg h0]; omega
    · have : Int.tdiv u 16 = -((-u) / 16) := by rw [← Int.tdiv_eq_ediv_of_nonneg (by omega), Int.neg_tdiv, Int.neg_neg]
      omega
  generalize Int.tdiv u 16 = m at *
  refine ⟨by omega, by omega, ?_⟩
  rw [show m * 16 = m * 8 * 2 by omega, Int.mul_tdiv_cancel _ (by omega), Int.mul_ediv_cancel _ (by omega)]

set_option maxRecDepth 100000 in
set_option maxHeartbeats 8000000 in
theorem walk (w : World) (A : Option Addr) (lA cA : Nat) (zA : List Int) (hA : IsRow .i64 w A lA cA zA) :
    Calls Try.prog 23 #[.slice A lA cA] w fun e w' => e = .returned (.bool true) ∧ Below w.heap.size w w' := by
  obtain ⟨Ra, Rb, p0, p1, u0, u1, q0, q1, v0, v1, va, vb, hSa, hSb, hb, hP⟩ := Pair_two lA zA
  unfold Bd at hb
  obtain ⟨bu0, eu0, du0⟩ := six_bd (u := u0) (by omega)
  obtain ⟨bu1, eu1, du1⟩ := six_bd (u := u1) (by omega)
  have hhalf := fun k => tch_half (Ra := Ra) (va := va) (p := (p0, p1)) (u0 := Int.tdiv u0 16 * 16) (u1 := Int.tdiv u1 16 * 16) (Rb := Rb) (vb := vb) (q := (q0, q1)) eu0 eu1 k
  have hE := fun C j c D k d W P Q => earliest_any Ra Rb p0 p1 (Int.tdiv u0 16 * 16) (Int.tdiv u1 16 * 16) q0 q1 0 0 C D j c k d va vb W P Q hSa hSb (by omega) (by omega) (by omega) (by omega) (by omega) (by omega) (by omega) (by omega)
  have hE2 := fun C j c D k d W P Q => earliest_any Ra Rb p0 p1 (Int.tdiv u0 16 * 16 / 2) (Int.tdiv u1 16 * 16 / 2) q0 q1 0 0 C D j c k d va vb W P Q hSa hSb (by omega) (by omega) (by omega) (by omega) (by omega) (by omega) (by omega) (by omega)
  have hT := fun C j c D k d W P Q => touch_any Ra Rb p0 p1 (Int.tdiv u0 16 * 16) (Int.tdiv u1 16 * 16) q0 q1 0 0 0 C D j c k d va vb W P Q hSa hSb (by omega) (by omega) (by omega) (by omega) (by omega) (by omega) (by omega) (by omega) (by omega)
  rw [← du0, ← du1] at hhalf hE2
  have bu2 : -16384 ≤ Int.tdiv (Int.tdiv u0 16 * 16) 2 ∧ Int.tdiv (Int.tdiv u0 16 * 16) 2 ≤ 16384 := by omega
  have bu3 : -16384 ≤ Int.tdiv (Int.tdiv u1 16 * 16) 2 ∧ Int.tdiv (Int.tdiv u1 16 * 16) 2 ≤ 16384 := by omega
  clear du0 du1 eu0 eu1
  have hd0 : -1024 ≤ Int.tdiv u0 16 ∧ Int.tdiv u0 16 ≤ 1024 := by omega
  have hd1 : -1024 ≤ Int.tdiv u1 16 ∧ Int.tdiv u1 16 ≤ 1024 := by omega
  generalize tch Ra va (p0, p1) (Int.tdiv u0 16 * 16, Int.tdiv u1 16 * 16) Rb vb (q0, q1) (0, 0) = t at *
  generalize tch Ra va (p0, p1) (Int.tdiv (Int.tdiv u0 16 * 16) 2, Int.tdiv (Int.tdiv u1 16 * 16) 2) Rb vb (q0, q1) (0, 0) = s at *
  have hst := ear_start t
  have hsp := ear_spec t
  have hsl := fun h0 m hm h1 => slower (t := t) (s := s) hhalf h0 (m := m) hm h1
  generalize ear t = f at *
  generalize ear s = gg at *
  have HP := Lib.hid (fun W hW => hP A cA W (hA.below hW)); clear hP
  have HE := Lib.hid hE; clear hE
  have HE2 := Lib.hid hE2; clear hE2
  have HT := Lib.hid hT; clear hT hSa hSb
  have HST := Lib.hid hst; clear hst
  have HSP := Lib.hid hsp; clear hsp
  have HSL := Lib.hid hsl; clear hsl hhalf
  go_enter Try.func23, Try.ntmps23
  go_upto_region 1 with fail
  go_cut [3, 4] (fun s3 s4 w' => ∃ g h C j c D k d, s3 = .pointer (some ⟨g, 0, none⟩) ∧ s4 = .pointer (some ⟨h, 0, none⟩) ∧ g ≠ h ∧ w.heap.size ≤ g ∧ w.heap.size ≤ h ∧
    B6 w' g (.int .i64 Ra) (.slice C j c) (.int .i64 p0) (.int .i64 p1) (.int .i64 u0) (.int .i64 u1) ∧ B6 w' h (.int .i64 Rb) (.slice D k d) (.int .i64 q0) (.int .i64 q1) (.int .i64 v0) (.int .i64 v1) ∧
    Pol w' C j c va ∧ Pol w' D k d vb ∧ (∀ a, C = some a → a.block ≠ g ∧ a.block ≠ h) ∧ (∀ a, D = some a → a.block ≠ g ∧ a.block ≠ h) ∧ Below w.heap.size w w')
  case first =>
    clear HE HE2 HT HST HSP HSL
    go_wp2_with fail
    refine (HP.out _ (by repeat (first | with_reducible exact Below.refl _ _ | with_reducible refine below_alloc ?_ _ | with_reducible refine Below.drew ?_ | with_reducible refine below_set ?_ (by (first | (simp; done) | (simp; omega))) _ | with_reducible refine below_step (by assumption) ?_))).mono ?_
    rintro e w9 ⟨C, j, c, D, k, d, rfl, PC, PD, fC, fD, hb9⟩
    have i9 : Below w.heap.size w w9 := (by repeat (first | with_reducible exact Below.refl _ _ | with_reducible refine below_alloc ?_ _ | with_reducible refine Below.drew ?_ | with_reducible refine below_set ?_ (by (first | (simp; done) | (simp; omega))) _ | with_reducible refine below_step (by assumption) ?_))
    go_wp2_with fail
    go_meet
    have s9 := i9.size
    exact ⟨w9.heap.size, w9.heap.size + 1, C, j, c, D, k, d, rfl, rfl, by omega, by omega, by omega, (by unfold B6 Cel; simp [go_sem]), (by unfold B6 Cel; simp [go_sem]), PC.below (by repeat (first | with_reducible exact Below.refl _ _ | with_reducible refine below_alloc ?_ _ | with_reducible refine Below.drew ?_ | with_reducible refine below_set ?_ (by (first | (simp; done) | (simp; omega))) _ | with_reducible refine below_step (by assumption) ?_)), PD.below (by repeat (first | with_reducible exact Below.refl _ _ | with_reducible refine below_alloc ?_ _ | with_reducible refine Below.drew ?_ | with_reducible refine below_set ?_ (by (first | (simp; done) | (simp; omega))) _ | with_reducible refine below_step (by assumption) ?_)), (fun a e => by have := PC.ltA e; omega), (fun a e => by have := PD.ltA e; omega), (by repeat (first | with_reducible exact i9 | with_reducible refine below_alloc ?_ _))⟩
  case rest =>
    rename World => w1
    obtain ⟨g, h, C, j, c, D, k, d, rfl, rfl, hne, hg, hh, XA, XB, PC, PD, fC, fD, j1⟩ := hcut
    have lXA := XA.lt; have lXB := XB.lt
    have hne' := Ne.symm hne
    have FC := Lib.hid fC; have FD := Lib.hid fD; clear fC fD HP
    go_upto_region 3 with fail
    refine code_named ?_; intro W2 hW
    have i2 : Below w.heap.size w W2 := by rw [hW]; exact below_set (below_set j1 hg _) hg _
    replace PC : Pol W2 C j c va := by rw [hW]; exact Pol.farA (Pol.farA PC (fun a e => Ne.symm (FC.out a e).1) _) (fun a e => Ne.symm (FC.out a e).1) _
    replace PD : Pol W2 D k d vb := by rw [hW]; exact Pol.farA (Pol.farA PD (fun a e => Ne.symm (FD.out a e).1) _) (fun a e => Ne.symm (FD.out a e).1) _
    replace XA : B6 W2 g (.int .i64 Ra) (.slice C j c) (.int .i64 p0) (.int .i64 p1) (.int .i64 (Int.tdiv u0 16 * 16)) (.int .i64 (Int.tdiv u1 16 * 16)) := by rw [hW]; exact set45_6 XA _ _
    replace XB : B6 W2 h (.int .i64 Rb) (.slice D k d) (.int .i64 q0) (.int .i64 q1) (.int .i64 v0) (.int .i64 v1) := by rw [hW]; exact (XB.far hne _).far hne _
    clear hW lXA lXB j1
    have lXA := XA.lt; have lXB := XB.lt
    go_wp2_with fail
    refine calls_at ?_; intro W3 hW
    have i3 : Below w.heap.size w W3 := by rw [hW]; exact below_set (below_set i2 hh _) hh _
    replace PC : Pol W3 C j c va := by rw [hW]; exact Pol.farA (Pol.farA PC (fun a e => Ne.symm (FC.out a e).2) _) (fun a e => Ne.symm (FC.out a e).2) _
    replace PD : Pol W3 D k d vb := by rw [hW]; exact Pol.farA (Pol.farA PD (fun a e => Ne.symm (FD.out a e).2) _) (fun a e => Ne.symm (FD.out a e).2) _
    replace XA : B6 W3 g (.int .i64 Ra) (.slice C j c) (.int .i64 p0) (.int .i64 p1) (.int .i64 (Int.tdiv u0 16 * 16)) (.int .i64 (Int.tdiv u1 16 * 16)) := by rw [hW]; exact (XA.far hne' _).far hne' _
    replace XB : B6 W3 h (.int .i64 Rb) (.slice D k d) (.int .i64 q0) (.int .i64 q1) (.int .i64 0) (.int .i64 0) := by rw [hW]; exact set45_6 XB _ _
    clear hW lXA lXB i2
    have lXA := XA.lt; have lXB := XB.lt
    refine (HE.out _ _ _ _ _ _ _ PC PD).mono ?_
    rintro e w4 ⟨rfl, hb4⟩; have d4 : Below W3.heap.size W3 w4 := below_step hb4 (by repeat (first | with_reducible exact Below.refl _ _ | with_reducible refine below_alloc ?_ _ | with_reducible refine Below.drew ?_ | with_reducible refine below_set ?_ (by (first | (simp; done) | (simp; omega))) _ | with_reducible refine below_step (by assumption) ?_)); have z4 := hb4.size; (try simp at z4); replace XA := XA.below d4; (try clear lXA); have lXA := XA.lt; replace XB := XB.below d4; (try clear lXB); have lXB := XB.lt; replace PC := PC.below d4; (try clear lPC); have lPC := PC.lt; replace PD := PD.below d4; (try clear lPD); have lPD := PD.lt
    have i4 : Below w.heap.size w w4 := i3.trans (d4.mono i3.size)
    have z34 := d4.size
    clear i3
    have n1 : g ≠ w4.heap.size := by omega
    have n2 : h ≠ w4.heap.size := by omega
    have n1' := Ne.symm n1; have n2' := Ne.symm n2
    have fC4 := fun a e => PC.ltA (a := a) e
    have fD4 := fun a e => PD.ltA (a := a) e
    have FC4 := Lib.hid fC4; have FD4 := Lib.hid fD4; clear fC4 fD4
    go_upto_region 6 with fail
    refine code_named ?_; intro W5 hW; have dW5 : Below w4.heap.size w4 W5 := (by rw [hW]; exact (by repeat (first | with_reducible exact Below.refl _ _ | with_reducible refine below_alloc ?_ _ | with_reducible refine Below.drew ?_ | with_reducible refine below_set ?_ (by (first | (simp; done) | (simp; omega))) _ | with_reducible refine below_step (by assumption) ?_))); replace XA := XA.below dW5; (try clear lXA); have lXA := XA.lt; replace XB := XB.below dW5; (try clear lXB); have lXB := XB.lt; replace PC := PC.below dW5; (try clear lPC); have lPC := PC.lt; replace PD := PD.below dW5; (try clear lPD); have lPD := PD.lt
    have XH : B6 W5 w4.heap.size (.int .i64 Ra) (.slice C j c) (.int .i64 p0) (.int .i64 p1) (.int .i64 (Int.tdiv u0 16 * 16)) (.int .i64 (Int.tdiv u1 16 * 16)) := (by rw [hW]; unfold B6 Cel; simp [go_sem])
    have lXH := XH.lt
    have i5 : Below w.heap.size w W5 := i4.trans (dW5.mono i4.size)
    have z4' := i4.size
    clear hW i4
    go_wp2_with fail
    refine calls_at ?_; intro W6 hW
    have i6 : Below w.heap.size w W6 := by rw [hW]; exact below_set (below_set i5 z4' _) z4' _
    replace PC : Pol W6 C j c va := by rw [hW]; exact Pol.farA (Pol.farA PC (fun a e => by have := FC4.out a e; omega) _) (fun a e => by have := FC4.out a e; omega) _
    replace PD : Pol W6 D k d vb := by rw [hW]; exact Pol.farA (Pol.farA PD (fun a e => by have := FD4.out a e; omega) _) (fun a e => by have := FD4.out a e; omega) _
    replace XA : B6 W6 g (.int .i64 Ra) (.slice C j c) (.int .i64 p0) (.int .i64 p1) (.int .i64 (Int.tdiv u0 16 * 16)) (.int .i64 (Int.tdiv u1 16 * 16)) := by rw [hW]; exact (XA.far n1' _).far n1' _
    replace XB : B6 W6 h (.int .i64 Rb) (.slice D k d) (.int .i64 q0) (.int .i64 q1) (.int .i64 0) (.int .i64 0) := by rw [hW]; exact (XB.far n2' _).far n2' _
    clear hW lXA lXB lXH XH i5
    have lXA := XA.lt; have lXB := XB.lt
    refine (HE2.out _ _ _ _ _ _ _ PC PD).mono ?_
    rintro e w7 ⟨rfl, hb7⟩; have d7 : Below W6.heap.size W6 w7 := below_step hb7 (by repeat (first | with_reducible exact Below.refl _ _ | with_reducible refine below_alloc ?_ _ | with_reducible refine Below.drew ?_ | with_reducible refine below_set ?_ (by (first | (simp; done) | (simp; omega))) _ | with_reducible refine below_step (by assumption) ?_)); have z7 := hb7.size; (try simp at z7); replace XA := XA.below d7; (try clear lXA); have lXA := XA.lt; replace XB := XB.below d7; (try clear lXB); have lXB := XB.lt; replace PC := PC.below d7; (try clear lPC); have lPC := PC.lt; replace PD := PD.below d7; (try clear lPD); have lPD := PD.lt
    have i7 : Below w.heap.size w w7 := i6.trans (d7.mono i6.size)
    go_wp2_with fail
    refine (HT.out _ _ _ _ _ _ _ PC PD).mono ?_
    rintro e w8 ⟨rfl, hb8⟩
    have i8 : Below w.heap.size w w8 := i7.trans (hb8.mono i7.size)
    clear XA XB PC PD lXA lXB hb7 d7 i6 i7 d4 dW5 n1 n2 n1' n2' FC4 FD4 FC FD HE HE2 HT
    generalize t 0 = b0 at *
    cases b0 with
    | true =>
      go_wp2_with fail
      refine (lives6_any _).mono ?_
      rintro e w9 ⟨rfl, hb9⟩
      go_wp2_with fail
      go_ret
      exact ⟨rfl, i8.trans (hb9.mono i8.size)⟩
    | false =>
      obtain ⟨m, hm, hf, hno, hyes⟩ := HSP.out rfl
      by_cases h8 : m = 8
      · obtain rfl : f = 1024 := by omega
        clear HSP HST HSL hno hyes
        go_wp2_with fail
        refine (lives6_any _).mono ?_
        rintro e w9 ⟨rfl, hb9⟩
        go_wp2_with fail
        go_ret
        exact ⟨rfl, i8.trans (hb9.mono i8.size)⟩
      · have hs := HSL.out rfl m (by omega) (hyes (by omega))
        clear HSP HST HSL hno hyes
        have hne : (f == 1024) = false := by simp; omega
        have hf0 : 0 ≤ f := by omega
        have hf1 : f ≤ 1024 := by omega
        have hq : Int.tdiv (f * 8) 1024 = (m : Int) := by rw [Int.tdiv_eq_ediv_of_nonneg (by omega)]; omega
        have HF := Lib.hid hf; clear hf
        have hm1 : (m : Int) ≤ 8 := by omega
        rcases hs with ⟨rfl, h2⟩ | ⟨n, hn, hg', hle⟩
        · go_wp2_with fail
          refine (lives6_any _).mono ?_
          rintro e w9 ⟨rfl, hb9⟩
          go_wp2_with fail
          go_ret
          exact ⟨rfl, i8.trans (hb9.mono i8.size)⟩
        · by_cases hn8 : n = 8
          · obtain rfl : gg = 1024 := by omega
            have h2 : 8 < 2 * ((m : Int) + 1) := by omega
            go_wp2_with fail
            refine (lives6_any _).mono ?_
            rintro e w9 ⟨rfl, hb9⟩
            go_wp2_with fail
            go_ret
            exact ⟨rfl, i8.trans (hb9.mono i8.size)⟩
          · have hne2 : (gg == 1024) = false := by simp; omega
            have hg0 : 0 ≤ gg := by omega
            have hg1 : gg ≤ 1024 := by omega
            have hq2 : Int.tdiv (gg * 8) 1024 = (n : Int) := by rw [Int.tdiv_eq_ediv_of_nonneg (by omega)]; omega
            have hn1 : (n : Int) ≤ 8 := by omega
            clear hg'
            go_wp2_with fail
            refine (lives6_any _).mono ?_
            rintro e w9 ⟨rfl, hb9⟩
            go_wp2_with fail
            go_ret
            exact ⟨rfl, i8.trans (hb9.mono i8.size)⟩

theorem own : ownKnob Try.prog.godebug = none := by kernel_rfl
theorem laidOut : laidOutB Try.prog = true := by kernel_rfl

set_option maxRecDepth 100000 in
theorem lifted (os : Os) (started : os.Started) (H : Type) (enc : TypeId × Value → H) :
    ReturnsInHanded {} Try.checked os 23 .any (Rows.toiSlowerSpec.pre6 enc Try.prog Try.f23 Rows.toiSlowerRow.domain false) (Rows.toiSlowerSpec.post enc Try.prog Try.f23 false true false false) := by
  refine returnsInHanded_of_change (C := Try.checked) own started (by kernel_rfl) Try.func23
    (ChangeSpec.witness6 (enc := enc) (C := Try.checked) false ⟨#[], #[.slice none 0 0], []⟩ 8 (by kernel_rfl) (by kernel_rfl) (by kernel_rfl) (by kernel_rfl)) ?_
  intro W base args ds gs before hval0 hW hcnd _
  have hval : ∀ (j : Nat) t v, Try.f23.params[j]? = some t → args[j]? = some v → Value.okWide Try.prog W .any base t v := hval0
  have hW' := hW
  obtain ⟨p, q, hA0, hV, rfl, hfz, hnd⟩ := hW
  have hA : DataW.TrodAll enc Try.prog W 0 (fun _ => true) true Try.f23.params.toList args.toList ds p := hA0
  rw [Try.params23] at hA hval
  obtain ⟨v0, vs0, d0, ds0, p0, q0, hargs, rfl, rfl, h0, r0⟩ := trodAll_cons hA
  obtain ⟨rfl, rfl, rfl⟩ := trodAll_nil r0
  obtain rfl : args = #[v0] := by cases args; simp_all
  obtain ⟨rfl, rfl⟩ := trodVars_none hV
  obtain ⟨a0, len0, cap0, rfl⟩ := okWide_slice Try.underlying67 (hval 0 67 v0 rfl rfl)
  have k0 := h0
  have lt0 : ∀ x ∈ p0, x.block < W.heap.size := by obtain ⟨m, hm⟩ := k0; exact DataW.trod_lt m _ _ _ hm
  obtain ⟨z0, w0⟩ : ∃ zs, IsRow .i64 W a0 len0 cap0 zs := by
    obtain ⟨fuel, hf⟩ := h0
    rcases open_ints Try.underlying67 Try.underlying3 (by kernel_rfl) hf with ⟨hcs, _⟩ | ⟨x, l, c, zs, hcs, _, hl, hm, hz, _, hcell, hwz⟩
    · simp [Value.cells] at hcs
      obtain ⟨rfl, rfl, rfl⟩ := hcs
      exact ⟨[], .inl ⟨rfl, rfl, rfl, rfl⟩⟩
    · simp [Value.cells] at hcs
      obtain ⟨rfl, rfl, rfl⟩ := hcs
      exact ⟨zs, .inr ⟨_, rfl, hl, hm, by simpa using hz, hcell, hwz⟩⟩
  clear hA0 hval0
  refine (walk W a0 len0 cap0 z0 w0).mono fun e W' ⟨he, bel⟩ => ?_
  subst he
  exact ⟨_, rfl, _, _, _, [], _, [], hW', trodAll_mk1 (shut_bool Try.underlying4 _), (trodAll_cons_mk (Below.trod laidOut (by kernel_rfl) (of_decide_eq_true (by kernel_rfl)) k0 bel lt0) trodAll_mk0), rfl, bel.frame _, fun h => by cases h⟩

theorem closed : joinedFacts Try.prog 23 Try.f23 Rows.toiSlowerSpec Rows.toiSlowerRow = true := by
  unfold joinedFacts
  repeat' (with_reducible refine both_of ?_ ?_)
  all_goals (first | with_reducible exact mayEnter_ok | (rw [liftsFinal_is]; as_aux_lemma => kernel_rfl) | (rw [make_is]; as_aux_lemma => kernel_rfl) | (as_aux_lemma => kernel_rfl))

theorem over : Rows.toiSlowerRow.holds Try.pinned (OpenSpec.ofChange Rows.toiSlowerSpec) :=
  OpenClaim.holds_of_wide 23 Try.f23 rfl rfl rfl rfl rfl rfl rfl ⟨rfl, rfl, rfl, rfl, rfl⟩ rfl rfl rfl rfl rfl (by kernel_rfl) Try.func23 closed
    (of_decide_eq_true (by kernel_rfl)) (by unfold Func.isWrapper; first | (rw [if_pos (by decide +kernel)]; kernel_rfl) | (rw [if_neg (by decide +kernel)]; exact ⟨rfl, rfl⟩))
    (fun os started H enc _ => lifted os started H enc)

theorem proved : Rows.ToiSlowerSaid := over
#print axioms proved

end Go.Proofs.Ytipcppbbpmdijaa.toiSlower
