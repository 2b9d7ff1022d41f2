/-
  ToiModel: for two generated bodies Earliest agrees with the reference model. Conditions: none.
-/
import Derived.Test.YtipcppbbpmdijaaRows
import Derived.Test.YtipcppbbpmdijaaHead
import Derived.Test.YtipcppbbpmdijaaOpen
import Derived.Test.YtipcppbbpmdijaaPaj
import Derived.Test.YtipcppbbpmdijaaTom
namespace Go.Proofs.Ytipcppbbpmdijaa.toiModel
open Go.ChangeShapes Go.WideShapes Go.ChangeAt Go.RowKit Go.Sort
attribute [local go_sem ↓] Go.wp_at_zero Go.wp_at_succ

set_option maxRecDepth 100000 in
set_option maxHeartbeats 4000000 in
theorem walk (w : World) (A : Option Addr) (lA cA : Nat) (zA : List Int) (hA : IsRow .i64 w A lA cA zA) :
    Calls Try.prog 17 #[.slice A lA cA] w fun e w' => e = .returned (.bool true) ∧ Below w.heap.size w w' := by
  obtain ⟨Ra, Rb, p0, p1, u0, u1, q0, q1, v0, v1, va, vb, hSa, hSb, hb, hP⟩ := Pair_two lA zA
  unfold Bd at hb
  have hE := fun C j c D k d W P Q => earliest_any Ra Rb p0 p1 u0 u1 q0 q1 v0 v1 C D j c k d va vb W P Q hSa hSb (by omega) (by omega) (by omega) (by omega) (by omega) (by omega) (by omega) (by omega)
  have hR := fun C j c D k d W P Q => rEarliest_any Ra Rb p0 p1 u0 u1 q0 q1 v0 v1 C D j c k d va vb W P Q hSa hSb (by omega) (by omega) (by omega) (by omega) (by omega) (by omega) (by omega) (by omega)
  generalize ear (tch Ra va (p0, p1) (u0, u1) Rb vb (q0, q1) (v0, v1)) = f at *
  have HP := Lib.hid (fun W hW => hP A cA W (hA.below hW)); clear hP
  have HE := Lib.hid hE; clear hE hb hSa hSb
  have HR := Lib.hid hR; clear hR
  go_enter Try.func17, Try.ntmps17
  go_upto_region 1 with fail
  go_cut [3, 4] (fun s3 s4 w' => ∃ g h C j c D k d, s3 = .pointer (some ⟨g, 0, none⟩) ∧ s4 = .pointer (some ⟨h, 0, none⟩) ∧ g ≠ h ∧ w.heap.size ≤ g ∧ w.heap.size ≤ h ∧
    B6 w' g (.int .i64 Ra) (.slice C j c) (.int .i64 p0) (.int .i64 p1) (.int .i64 u0) (.int .i64 u1) ∧ B6 w' h (.int .i64 Rb) (.slice D k d) (.int .i64 q0) (.int .i64 q1) (.int .i64 v0) (.int .i64 v1) ∧
    Pol w' C j c va ∧ Pol w' D k d vb ∧ (∀ a, C = some a → a.block ≠ g ∧ a.block ≠ h) ∧ (∀ a, D = some a → a.block ≠ g ∧ a.block ≠ h) ∧ Below w.heap.size w w')
  case first =>
    clear HE HR
    go_wp2_with fail
    refine (HP.out _ (by repeat (first | with_reducible exact Below.refl _ _ | with_reducible refine below_alloc ?_ _ | with_reducible refine Below.drew ?_ | with_reducible refine below_set ?_ (by (first | (simp; done) | (simp; omega))) _ | with_reducible refine below_step (by assumption) ?_))).mono ?_
    rintro e w9 ⟨C, j, c, D, k, d, rfl, PC, PD, fC, fD, hb9⟩
    have i9 : Below w.heap.size w w9 := (by repeat (first | with_reducible exact Below.refl _ _ | with_reducible refine below_alloc ?_ _ | with_reducible refine Below.drew ?_ | with_reducible refine below_set ?_ (by (first | (simp; done) | (simp; omega))) _ | with_reducible refine below_step (by assumption) ?_))
    go_wp2_with fail
    go_meet
    have s9 := i9.size
    exact ⟨w9.heap.size, w9.heap.size + 1, C, j, c, D, k, d, rfl, rfl, by omega, by omega, by omega, (by unfold B6 Cel; simp [go_sem]), (by unfold B6 Cel; simp [go_sem]), PC.below (by repeat (first | with_reducible exact Below.refl _ _ | with_reducible refine below_alloc ?_ _ | with_reducible refine Below.drew ?_ | with_reducible refine below_set ?_ (by (first | (simp; done) | (simp; omega))) _ | with_reducible refine below_step (by assumption) ?_)), PD.below (by repeat (first | with_reducible exact Below.refl _ _ | with_reducible refine below_alloc ?_ _ | with_reducible refine Below.drew ?_ | with_reducible refine below_set ?_ (by (first | (simp; done) | (simp; omega))) _ | with_reducible refine below_step (by assumption) ?_)), (fun a e => by have := PC.ltA e; omega), (fun a e => by have := PD.ltA e; omega), (by repeat (first | with_reducible exact i9 | with_reducible refine below_alloc ?_ _))⟩
  case rest =>
    rename World => w1
    obtain ⟨g, h, C, j, c, D, k, d, rfl, rfl, hne, hg, hh, XA, XB, PC, PD, -, -, j1⟩ := hcut
    have lXA := XA.lt; have lXB := XB.lt
    clear HP hne hg hh
    go_wp2_with fail
    have hPC := Lib.hid (fun (d' : Nat) (os : Array Obj) => PC.re d' os)
    have hPD := Lib.hid (fun (d' : Nat) (os : Array Obj) => PD.re d' os)
    have KXA := XA.re; have KXB := XB.re; refine wp_region_below (by kernel_rfl) (by kernel_rfl) ?_
    repeat (go_big_quiet_step (first
      | (go_at_call 56; exact met_below (HE.out _ _ _ _ _ _ _ (hPC.out _ _) (hPD.out _ _)))
      | (go_at_call 57; exact met_below (HR.out _ _ _ _ _ _ _ (hPC.out _ _) (hPD.out _ _)))
      | (go_at_call 58; exact met_below (lives6_any _))))
    refine wpQuiet_nil ?_; intro w2 d2
    go_wp2_with fail
    go_ret
    exact ⟨rfl, j1.trans (d2.mono j1.size)⟩

theorem own : ownKnob Try.prog.godebug = none := by kernel_rfl
theorem laidOut : laidOutB Try.prog = true := by kernel_rfl

set_option maxRecDepth 100000 in
theorem lifted (os : Os) (started : os.Started) (H : Type) (enc : TypeId × Value → H) :
    ReturnsInHanded {} Try.checked os 17 .any (Rows.toiModelSpec.pre6 enc Try.prog Try.f17 Rows.toiModelRow.domain false) (Rows.toiModelSpec.post enc Try.prog Try.f17 false true false false) := by
  refine returnsInHanded_of_change (C := Try.checked) own started (by kernel_rfl) Try.func17
    (ChangeSpec.witness6 (enc := enc) (C := Try.checked) false ⟨#[], #[.slice none 0 0], []⟩ 8 (by kernel_rfl) (by kernel_rfl) (by kernel_rfl) (by kernel_rfl)) ?_
  intro W base args ds gs before hval0 hW hcnd _
  have hval : ∀ (j : Nat) t v, Try.f17.params[j]? = some t → args[j]? = some v → Value.okWide Try.prog W .any base t v := hval0
  have hW' := hW
  obtain ⟨p, q, hA0, hV, rfl, hfz, hnd⟩ := hW
  have hA : DataW.TrodAll enc Try.prog W 0 (fun _ => true) true Try.f17.params.toList args.toList ds p := hA0
  rw [Try.params17] at hA hval
  obtain ⟨v0, vs0, d0, ds0, p0, q0, hargs, rfl, rfl, h0, r0⟩ := trodAll_cons hA
  obtain ⟨rfl, rfl, rfl⟩ := trodAll_nil r0
  obtain rfl : args = #[v0] := by cases args; simp_all
  obtain ⟨rfl, rfl⟩ := trodVars_none hV
  obtain ⟨a0, len0, cap0, rfl⟩ := okWide_slice Try.underlying67 (hval 0 67 v0 rfl rfl)
  have k0 := h0
  have lt0 : ∀ x ∈ p0, x.block < W.heap.size := by obtain ⟨m, hm⟩ := k0; exact DataW.trod_lt m _ _ _ hm
  obtain ⟨z0, w0⟩ : ∃ zs, IsRow .i64 W a0 len0 cap0 zs := by
    obtain ⟨fuel, hf⟩ := h0
    rcases open_ints Try.underlying67 Try.underlying3 (by kernel_rfl) hf with ⟨hcs, _⟩ | ⟨x, l, c, zs, hcs, _, hl, hm, hz, _, hcell, hwz⟩
    · simp [Value.cells] at hcs
      obtain ⟨rfl, rfl, rfl⟩ := hcs
      exact ⟨[], .inl ⟨rfl, rfl, rfl, rfl⟩⟩
    · simp [Value.cells] at hcs
      obtain ⟨rfl, rfl, rfl⟩ := hcs
      exact ⟨zs, .inr ⟨_, rfl, hl, hm, by simpa using hz, hcell, hwz⟩⟩
  clear hA0 hval0
  refine (walk W a0 len0 cap0 z0 w0).mono fun e W' ⟨he, bel⟩ => ?_
  subst he
  exact ⟨_, rfl, _, _, _, [], _, [], hW', trodAll_mk1 (shut_bool Try.underlying4 _), (trodAll_cons_mk (Below.trod laidOut (by kernel_rfl) (of_decide_eq_true (by kernel_rfl)) k0 bel lt0) trodAll_mk0), rfl, bel.frame _, fun h => by cases h⟩

theorem closed : joinedFacts Try.prog 17 Try.f17 Rows.toiModelSpec Rows.toiModelRow = true := by
  unfold joinedFacts
  repeat' (with_reducible refine both_of ?_ ?_)
  all_goals (first | with_reducible exact mayEnter_ok | (rw [liftsFinal_is]; as_aux_lemma => kernel_rfl) | (rw [make_is]; as_aux_lemma => kernel_rfl) | (as_aux_lemma => kernel_rfl))

theorem over : Rows.toiModelRow.holds Try.pinned (OpenSpec.ofChange Rows.toiModelSpec) :=
  OpenClaim.holds_of_wide 17 Try.f17 rfl rfl rfl rfl rfl rfl rfl ⟨rfl, rfl, rfl, rfl, rfl⟩ rfl rfl rfl rfl rfl (by kernel_rfl) Try.func17 closed
    (of_decide_eq_true (by kernel_rfl)) (by unfold Func.isWrapper; first | (rw [if_pos (by decide +kernel)]; kernel_rfl) | (rw [if_neg (by decide +kernel)]; exact ⟨rfl, rfl⟩))
    (fun os started H enc _ => lifted os started H enc)

theorem proved : Rows.ToiModelSaid := over
#print axioms proved

end Go.Proofs.Ytipcppbbpmdijaa.toiModel
