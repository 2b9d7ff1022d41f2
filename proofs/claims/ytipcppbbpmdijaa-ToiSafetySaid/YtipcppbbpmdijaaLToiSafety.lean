/-
  ToiSafety: two generated bodies that do not touch at the start do not touch up to the sub-step that Earliest tells, and touch after the next one if there is one. Conditions: none.
-/
import Derived.Test.YtipcppbbpmdijaaRows
import Derived.Test.YtipcppbbpmdijaaHead
import Derived.Test.YtipcppbbpmdijaaOpen
import Derived.Test.YtipcppbbpmdijaaTou
namespace Go.Proofs.Ytipcppbbpmdijaa.toiSafety
open Go.ChangeShapes Go.WideShapes Go.ChangeAt Go.RowKit Go.Sort
attribute [local go_sem ↓] Go.wp_at_zero Go.wp_at_succ

set_option maxRecDepth 100000 in
set_option maxHeartbeats 4000000 in
theorem walk (w : World) (A : Option Addr) (lA cA : Nat) (zA : List Int) (hA : IsRow .i64 w A lA cA zA) :
    Calls Try.prog 18 #[.slice A lA cA] w fun e w' => e = .returned (.bool true) ∧ Below w.heap.size w w' := by
  obtain ⟨Ra, Rb, p0, p1, u0, u1, q0, q1, v0, v1, va, vb, hSa, hSb, hb, hP⟩ := Pair_two lA zA
  unfold Bd at hb
  have hE := fun C j c D k d W P Q => earliest_any Ra Rb p0 p1 u0 u1 q0 q1 v0 v1 C D j c k d va vb W P Q hSa hSb (by omega) (by omega) (by omega) (by omega) (by omega) (by omega) (by omega) (by omega)
  have hT := fun s (hs : 0 ≤ s ∧ s ≤ 8) C j c D k d W P Q => touch_any Ra Rb p0 p1 u0 u1 q0 q1 v0 v1 s C D j c k d va vb W P Q hSa hSb (by omega) (by omega) (by omega) (by omega) (by omega) (by omega) (by omega) (by omega) hs
  generalize tch Ra va (p0, p1) (u0, u1) Rb vb (q0, q1) (v0, v1) = t at *
  have hst := ear_start t
  have hsp := ear_spec t
  generalize ear t = f at *
  have HP := Lib.hid (fun W hW => hP A cA W (hA.below hW)); clear hP
  have HE := Lib.hid hE; clear hE hb hSa hSb
  have HT := Lib.hid hT; clear hT
  have HST := Lib.hid hst; clear hst
  have HSP := Lib.hid hsp; clear hsp
  go_enter Try.func18, Try.ntmps18
  go_upto_region 1 with fail
  go_cut [3, 4] (fun s3 s4 w' => ∃ g h C j c D k d, s3 = .pointer (some ⟨g, 0, none⟩) ∧ s4 = .pointer (some ⟨h, 0, none⟩) ∧ g ≠ h ∧ w.heap.size ≤ g ∧ w.heap.size ≤ h ∧
    B6 w' g (.int .i64 Ra) (.slice C j c) (.int .i64 p0) (.int .i64 p1) (.int .i64 u0) (.int .i64 u1) ∧ B6 w' h (.int .i64 Rb) (.slice D k d) (.int .i64 q0) (.int .i64 q1) (.int .i64 v0) (.int .i64 v1) ∧
    Pol w' C j c va ∧ Pol w' D k d vb ∧ (∀ a, C = some a → a.block ≠ g ∧ a.block ≠ h) ∧ (∀ a, D = some a → a.block ≠ g ∧ a.block ≠ h) ∧ Below w.heap.size w w')
  case first =>
    clear HE HT HST HSP
    go_wp2_with fail
    refine (HP.out _ (by repeat (first | with_reducible exact Below.refl _ _ | with_reducible refine below_alloc ?_ _ | with_reducible refine Below.drew ?_ | with_reducible refine below_set ?_ (by (first | (simp; done) | (simp; omega))) _ | with_reducible refine below_step (by assumption) ?_))).mono ?_
    rintro e w9 ⟨C, j, c, D, k, d, rfl, PC, PD, fC, fD, hb9⟩
    have i9 : Below w.heap.size w w9 := (by repeat (first | with_reducible exact Below.refl _ _ | with_reducible refine below_alloc ?_ _ | with_reducible refine Below.drew ?_ | with_reducible refine below_set ?_ (by (first | (simp; done) | (simp; omega))) _ | with_reducible refine below_step (by assumption) ?_))
    go_wp2_with fail
    go_meet
    have s9 := i9.size
    exact ⟨w9.heap.size, w9.heap.size + 1, C, j, c, D, k, d, rfl, rfl, by omega, by omega, by omega, (by unfold B6 Cel; simp [go_sem]), (by unfold B6 Cel; simp [go_sem]), PC.below (by repeat (first | with_reducible exact Below.refl _ _ | with_reducible refine below_alloc ?_ _ | with_reducible refine Below.drew ?_ | with_reducible refine below_set ?_ (by (first | (simp; done) | (simp; omega))) _ | with_reducible refine below_step (by assumption) ?_)), PD.below (by repeat (first | with_reducible exact Below.refl _ _ | with_reducible refine below_alloc ?_ _ | with_reducible refine Below.drew ?_ | with_reducible refine below_set ?_ (by (first | (simp; done) | (simp; omega))) _ | with_reducible refine below_step (by assumption) ?_)), (fun a e => by have := PC.ltA e; omega), (fun a e => by have := PD.ltA e; omega), (by repeat (first | with_reducible exact i9 | with_reducible refine below_alloc ?_ _))⟩
  case rest =>
    rename World => w1
    obtain ⟨g, h, C, j, c, D, k, d, rfl, rfl, hne, hg, hh, XA, XB, PC, PD, -, -, j1⟩ := hcut
    have lXA := XA.lt; have lXB := XB.lt
    clear HP hne hg hh
    go_wp2_with fail
    refine (HE.out _ _ _ _ _ _ _ PC PD).mono ?_
    rintro e w2 ⟨rfl, hb2⟩; have d2 : Below w1.heap.size w1 w2 := below_step hb2 (by repeat (first | with_reducible exact Below.refl _ _ | with_reducible refine below_alloc ?_ _ | with_reducible refine Below.drew ?_ | with_reducible refine below_set ?_ (by (first | (simp; done) | (simp; omega))) _ | with_reducible refine below_step (by assumption) ?_)); have z2 := hb2.size; (try simp at z2); replace XA := XA.below d2; (try clear lXA); have lXA := XA.lt; replace XB := XB.below d2; (try clear lXB); have lXB := XB.lt; replace PC := PC.below d2; (try clear lPC); have lPC := PC.lt; replace PD := PD.below d2; (try clear lPD); have lPD := PD.lt
    have i2 : Below w.heap.size w w2 := j1.trans (hb2.mono j1.size)
    clear hb2 d2 j1 z2 HE
    have HTW := Lib.hid (fun s hs W (hW : Below w2.heap.size w2 W) => HT.out s hs _ _ _ _ _ _ W (PC.below hW) (PD.below hW)); clear HT
    have KA := Lib.hid (fun W (hW : Below w2.heap.size w2 W) => XA.below hW)
    have KB := Lib.hid (fun W (hW : Below w2.heap.size w2 W) => XB.below hW)
    by_cases h0 : t 0 = true
    · obtain rfl : f = 1024 := HST.out h0
      have HT0 := Lib.hid (fun W hW => by have := HTW.out 0 (by omega) W hW; rwa [h0] at this)
      clear HTW HST HSP h0
      go_wp2_with fail
      refine (HT0.out _ (Below.refl _ _)).mono ?_
      rintro e w3 ⟨rfl, hb3⟩; have d3 : Below w2.heap.size w2 w3 := below_step hb3 (by repeat (first | with_reducible exact Below.refl _ _ | with_reducible refine below_alloc ?_ _ | with_reducible refine Below.drew ?_ | with_reducible refine below_set ?_ (by (first | (simp; done) | (simp; omega))) _ | with_reducible refine below_step (by assumption) ?_)); have z3 := hb3.size; (try simp at z3)
      have i3 : Below w.heap.size w w3 := i2.trans (hb3.mono i2.size)
      clear hb3 d3
      go_wp2_with fail
      refine (lives6_any _).mono ?_
      rintro e w4 ⟨rfl, hb4⟩
      go_wp2_with fail
      go_ret
      exact ⟨rfl, i3.trans (hb4.mono i3.size)⟩
    · have h0' : t 0 = false := by simpa using h0
      obtain ⟨m, hm, hf, hno, hyes⟩ := HSP.out h0'
      have HT0 := Lib.hid (fun W hW => by have := HTW.out 0 (by omega) W hW; rwa [h0'] at this)
      have HTN := Lib.hid (fun (i : Nat) (hi : i ≤ m) W hW => by have := HTW.out (i : Int) (by omega) W hW; rwa [hno i hi] at this)
      have HTY := Lib.hid (fun (hi : m < 8) W hW => by have := HTW.out ((m : Int) + 1) (by omega) W hW; rwa [hyes hi] at this)
      clear HTW HST HSP h0 h0' hno hyes
      have hf0 : 0 ≤ f := by omega
      have hf1 : f ≤ 1024 := by omega
      have hr : Int.tmod f 128 = 0 := by rw [Int.tmod_eq_emod_of_nonneg hf0]; omega
      have hq : Int.tdiv (f * 8) 1024 = (m : Int) := by rw [Int.tdiv_eq_ediv_of_nonneg (by omega)]; omega
      have HF := Lib.hid hf; clear hf
      go_wp2_with fail
      refine (HT0.out _ (Below.refl _ _)).mono ?_
      rintro e w3 ⟨rfl, hb3⟩; have d3 : Below w2.heap.size w2 w3 := below_step hb3 (by repeat (first | with_reducible exact Below.refl _ _ | with_reducible refine below_alloc ?_ _ | with_reducible refine Below.drew ?_ | with_reducible refine below_set ?_ (by (first | (simp; done) | (simp; omega))) _ | with_reducible refine below_step (by assumption) ?_)); have z3 := hb3.size; (try simp at z3)
      clear z3 hb3
      go_wp2_with fail
      go_loopg [7] (m + 1) (fun gk i wr => ∃ s : Nat, gk + s = m + 1 ∧ i = .int .i64 s ∧ Below w2.heap.size w2 wr)
      case atStart => exact ⟨0, by omega, rfl, d3⟩
      case round =>
        obtain ⟨s, hs, rfl, ib⟩ := hrel
        have YA := KA.out _ ib
        have YB := KB.out _ ib
        by_cases hlt : s ≤ m
        · go_wp2_with fail
          refine (HTN.out s hlt _ ib).mono ?_
          rintro e w4 ⟨rfl, hb4⟩; have d4 : Below wr.heap.size wr w4 := below_step hb4 (by repeat (first | with_reducible exact Below.refl _ _ | with_reducible refine below_alloc ?_ _ | with_reducible refine Below.drew ?_ | with_reducible refine below_set ?_ (by (first | (simp; done) | (simp; omega))) _ | with_reducible refine below_step (by assumption) ?_)); have z4 := hb4.size; (try simp at z4)
          clear z4 hb4
          go_wp2_with fail
          go_roundg (gk - 1)
          case measure => omega
          case rel => exact ⟨s + 1, by omega, by go_num, ib.trans (d4.mono ib.size)⟩
        · obtain rfl : s = m + 1 := by omega
          by_cases h8 : m = 8
          · obtain rfl : f = 1024 := by have := HF.out; omega
            go_wp2_with fail
            refine (lives6_any _).mono ?_
            rintro e w4 ⟨rfl, hb4⟩
            go_wp2_with fail
            go_ret
            exact ⟨rfl, i2.trans ((ib.trans (hb4.mono ib.size)).mono i2.size)⟩
          · have hne : (f == 1024) = false := by have := HF.out; simp; omega
            go_wp2_with fail
            refine (HTY.out (by omega) _ ib).mono ?_
            rintro e w4 ⟨rfl, hb4⟩; have d4 : Below wr.heap.size wr w4 := below_step hb4 (by repeat (first | with_reducible exact Below.refl _ _ | with_reducible refine below_alloc ?_ _ | with_reducible refine Below.drew ?_ | with_reducible refine below_set ?_ (by (first | (simp; done) | (simp; omega))) _ | with_reducible refine below_step (by assumption) ?_)); have z4 := hb4.size; (try simp at z4)
            have i4 : Below w2.heap.size w2 w4 := ib.trans (d4.mono ib.size)
            clear z4 hb4 d4
            go_wp2_with fail
            refine (lives6_any _).mono ?_
            rintro e w5 ⟨rfl, hb5⟩
            go_wp2_with fail
            go_ret
            exact ⟨rfl, i2.trans ((i4.trans (hb5.mono i4.size)).mono i2.size)⟩

theorem own : ownKnob Try.prog.godebug = none := by kernel_rfl
theorem laidOut : laidOutB Try.prog = true := by kernel_rfl

set_option maxRecDepth 100000 in
theorem lifted (os : Os) (started : os.Started) (H : Type) (enc : TypeId × Value → H) :
    ReturnsInHanded {} Try.checked os 18 .any (Rows.toiSafetySpec.pre6 enc Try.prog Try.f18 Rows.toiSafetyRow.domain false) (Rows.toiSafetySpec.post enc Try.prog Try.f18 false true false false) := by
  refine returnsInHanded_of_change (C := Try.checked) own started (by kernel_rfl) Try.func18
    (ChangeSpec.witness6 (enc := enc) (C := Try.checked) false ⟨#[], #[.slice none 0 0], []⟩ 8 (by kernel_rfl) (by kernel_rfl) (by kernel_rfl) (by kernel_rfl)) ?_
  intro W base args ds gs before hval0 hW hcnd _
  have hval : ∀ (j : Nat) t v, Try.f18.params[j]? = some t → args[j]? = some v → Value.okWide Try.prog W .any base t v := hval0
  have hW' := hW
  obtain ⟨p, q, hA0, hV, rfl, hfz, hnd⟩ := hW
  have hA : DataW.TrodAll enc Try.prog W 0 (fun _ => true) true Try.f18.params.toList args.toList ds p := hA0
  rw [Try.params18] at hA hval
  obtain ⟨v0, vs0, d0, ds0, p0, q0, hargs, rfl, rfl, h0, r0⟩ := trodAll_cons hA
  obtain ⟨rfl, rfl, rfl⟩ := trodAll_nil r0
  obtain rfl : args = #[v0] := by cases args; simp_all
  obtain ⟨rfl, rfl⟩ := trodVars_none hV
  obtain ⟨a0, len0, cap0, rfl⟩ := okWide_slice Try.underlying67 (hval 0 67 v0 rfl rfl)
  have k0 := h0
  have lt0 : ∀ x ∈ p0, x.block < W.heap.size := by obtain ⟨m, hm⟩ := k0; exact DataW.trod_lt m _ _ _ hm
  obtain ⟨z0, w0⟩ : ∃ zs, IsRow .i64 W a0 len0 cap0 zs := by
    obtain ⟨fuel, hf⟩ := h0
    rcases open_ints Try.underlying67 Try.underlying3 (by kernel_rfl) hf with ⟨hcs, _⟩ | ⟨x, l, c, zs, hcs, _, hl, hm, hz, _, hcell, hwz⟩
    · simp [Value.cells] at hcs
      obtain ⟨rfl, rfl, rfl⟩ := hcs
      exact ⟨[], .inl ⟨rfl, rfl, rfl, rfl⟩⟩
    · simp [Value.cells] at hcs
      obtain ⟨rfl, rfl, rfl⟩ := hcs
      exact ⟨zs, .inr ⟨_, rfl, hl, hm, by simpa using hz, hcell, hwz⟩⟩
  clear hA0 hval0
  refine (walk W a0 len0 cap0 z0 w0).mono fun e W' ⟨he, bel⟩ => ?_
  subst he
  exact ⟨_, rfl, _, _, _, [], _, [], hW', trodAll_mk1 (shut_bool Try.underlying4 _), (trodAll_cons_mk (Below.trod laidOut (by kernel_rfl) (of_decide_eq_true (by kernel_rfl)) k0 bel lt0) trodAll_mk0), rfl, bel.frame _, fun h => by cases h⟩

theorem closed : joinedFacts Try.prog 18 Try.f18 Rows.toiSafetySpec Rows.toiSafetyRow = true := by
  unfold joinedFacts
  repeat' (with_reducible refine both_of ?_ ?_)
  all_goals (first | with_reducible exact mayEnter_ok | (rw [liftsFinal_is]; as_aux_lemma => kernel_rfl) | (rw [make_is]; as_aux_lemma => kernel_rfl) | (as_aux_lemma => kernel_rfl))

theorem over : Rows.toiSafetyRow.holds Try.pinned (OpenSpec.ofChange Rows.toiSafetySpec) :=
  OpenClaim.holds_of_wide 18 Try.f18 rfl rfl rfl rfl rfl rfl rfl ⟨rfl, rfl, rfl, rfl, rfl⟩ rfl rfl rfl rfl rfl (by kernel_rfl) Try.func18 closed
    (of_decide_eq_true (by kernel_rfl)) (by unfold Func.isWrapper; first | (rw [if_pos (by decide +kernel)]; kernel_rfl) | (rw [if_neg (by decide +kernel)]; exact ⟨rfl, rfl⟩))
    (fun os started H enc _ => lifted os started H enc)

theorem proved : Rows.ToiSafetySaid := over
#print axioms proved

end Go.Proofs.Ytipcppbbpmdijaa.toiSafety
