/-
  VecProducts: for all vectors in the domain Dot, Cross, Len and Normalize agree with the reference. Conditions: none.
-/
import Derived.Test.YtcapkmiinehdlaaRows
import Derived.Test.YtcapkmiinehdlaaHead
import Derived.Test.YtcapkmiinehdlaaOpen
import Derived.Test.YtcapkmiinehdlaaLives2
namespace Go.Proofs.Ytcapkmiinehdlaa.vecProducts
open Go.ChangeShapes Go.WideShapes Go.ChangeAt Go.RowKit
attribute [local go_sem ↓] Go.wp_at_zero Go.wp_at_succ

set_option maxHeartbeats 1000000 in
theorem walk (x0 : Int) (l0 : -9223372036854775808 ≤ x0) (u0 : x0 ≤ 9223372036854775807) (x1 : Int) (l1 : -9223372036854775808 ≤ x1) (u1 : x1 ≤ 9223372036854775807) (x2 : Int) (l2 : -9223372036854775808 ≤ x2) (u2 : x2 ≤ 9223372036854775807) (x3 : Int) (l3 : -9223372036854775808 ≤ x3) (u3 : x3 ≤ 9223372036854775807) (w : World) :
    Calls Try.prog 9 #[.agg #[.int .i64 x0, .int .i64 x1, .int .i64 x2, .int .i64 x3]] w fun e w' => e = .returned (.bool true) ∧ Below w.heap.size w w' := by
  have b1 := ofX_bd x0
  have b2 := ofY_bd x0 x1
  have b3 := ofX_bd x2
  have b4 := ofY_bd x2 x3
  have p1 := mul_bd b1 b3
  have p2 := mul_bd b2 b4
  have p3 := mul_bd b1 b4
  have p4 := mul_bd b2 b3
  have p5 := mul_bd b1 b1
  have p6 := mul_bd b2 b2
  have hz : ∀ (w : World), Calls Try.prog 46 #[.agg #[.int .i64 0, .int .i64 0]] w fun e w' => e = .returned (.agg #[.int .i64 0, .int .i64 0]) ∧ Below w.heap.size w w' := fun w => by
    have := Normalize_any 0 0 w (by omega) (by omega) (by omega) (by omega); rw [nrm_zero] at this; exact this
  have HZ := Lib.hid hz
  clear hz
  go_enter Try.func9, Try.ntmps9
  go_wp2_with fail
  refine (Of_any _ _ _ l0 u0 l1 u1).mono ?_
  rintro e w1 ⟨rfl, hb1⟩; obtain ⟨hc1, hf1, hz1, hy1⟩ := bcellB (B := w.heap.size + 1) hb1 (by first | (simp; done) | (simp; omega) | omega)
  go_wp2_with fail
  refine (Of_any _ _ _ l2 u2 l3 u3).mono ?_
  rintro e w2 ⟨rfl, hb2⟩
  obtain ⟨hc2, hf2, hz2, hy2⟩ := bcellB (B := w1.heap.size + 1) hb2 (by simp)
  go_wp2_with fail
  go_region_held3 (fun w' => w'.cell? ⟨w1.heap.size, 0, none⟩ = some (.int .i64 (ofX x0)) ∧ w'.cell? ⟨w1.heap.size, 1, none⟩ = some (.int .i64 (ofY x0 x1)) ∧ w'.cell? ⟨w2.heap.size, 0, none⟩ = some (.int .i64 (ofX x2)) ∧ w'.cell? ⟨w2.heap.size, 1, none⟩ = some (.int .i64 (ofY x2 x3)) ∧ Below w.heap.size w w') (first | (go_keep; done) | ((repeat' apply And.intro) <;> (first | (go_keep; done) | (refine keep_cell (by assumption) ?_; go_keep; done) | ((repeat (first | exact Below.refl _ _ | refine below_alloc ?_ _ | refine Below.drew ?_ | refine below_set ?_ (by (first | (simp; done) | (simp; omega))) _ | refine below_step (by assumption) ?_)); all_goals (simp [*]; done)))))
    (first
      | (go_at_call 40; refine (Dot_any _ _ _ _ _ (by omega) (by omega) (by omega) (by omega)).mono ?_; rintro e w3 ⟨rfl, hb3⟩)
      | (go_at_call 41; refine (rDot_any _ _ _ _ _ (by omega) (by omega) (by omega) (by omega)).mono ?_; rintro e w3 ⟨rfl, hb3⟩)
      | (go_at_call 42; refine (Cross_any _ _ _ _ _ (by omega) (by omega) (by omega) (by omega)).mono ?_; rintro e w3 ⟨rfl, hb3⟩)
      | (go_at_call 43; refine (rCross_any _ _ _ _ _ (by omega) (by omega) (by omega) (by omega)).mono ?_; rintro e w3 ⟨rfl, hb3⟩)
      | (go_at_call 44; refine (Len_any _ _ _ (by omega) (by omega) (by omega) (by omega)).mono ?_; rintro e w3 ⟨rfl, hb3⟩)
      | (go_at_call 45; refine (rLen_any _ _ _ (by omega) (by omega) (by omega) (by omega)).mono ?_; rintro e w3 ⟨rfl, hb3⟩)
      | (go_at_call_of 46 (Value.agg #[.int .i64 0, .int .i64 0]); refine (HZ.out _).mono ?_; rintro e w3 ⟨rfl, hb3⟩)
      | (go_at_call 46; refine (Normalize_any _ _ _ (by omega) (by omega) (by omega) (by omega)).mono ?_; rintro e w3 ⟨rfl, hb3⟩)
      | (go_at_call 47; refine (rNormalize_any _ _ _ (by omega) (by omega) (by omega) (by omega)).mono ?_; rintro e w3 ⟨rfl, hb3⟩)
      | (go_at_call 48; refine (lives2_any _).mono ?_; rintro e w3 ⟨rfl, hb3⟩))
  go_wp2
  go_ret
  exact ⟨rfl, by simp [*]⟩

theorem own : ownKnob Try.prog.godebug = none := by kernel_rfl
theorem laidOut : laidOutB Try.prog = true := by kernel_rfl

set_option maxRecDepth 100000 in
theorem lifted (os : Os) (started : os.Started) (H : Type) (enc : TypeId × Value → H) :
    ReturnsInHanded {} Try.checked os 9 .any (Rows.vecProductsSpec.pre6 enc Try.prog Try.f9 Rows.vecProductsRow.domain false) (Rows.vecProductsSpec.post enc Try.prog Try.f9 false true false false) := by
  refine returnsInHanded_of_change (C := Try.checked) own started (by kernel_rfl) Try.func9
    (ChangeSpec.witness6 (enc := enc) (C := Try.checked) false ⟨#[], #[.agg #[.int .i64 0, .int .i64 0, .int .i64 0, .int .i64 0]], []⟩ 8 (by kernel_rfl) (by kernel_rfl) (by kernel_rfl) (by kernel_rfl)) ?_
  intro W base args ds gs before hval0 hW hcnd _
  have hval : ∀ (j : Nat) t v, Try.f9.params[j]? = some t → args[j]? = some v → Value.okWide Try.prog W .any base t v := hval0
  have hW' := hW
  obtain ⟨p, q, hA0, hV, rfl, hfz, hnd⟩ := hW
  have hA : DataW.TrodAll enc Try.prog W 0 (fun _ => true) true Try.f9.params.toList args.toList ds p := hA0
  rw [Try.params9] at hA hval
  obtain ⟨v0, vs0, d0, ds0, p0, q0, hargs, rfl, rfl, h0, r0⟩ := trodAll_cons hA
  obtain ⟨rfl, rfl, rfl⟩ := trodAll_nil r0
  obtain rfl : args = #[v0] := by cases args; simp_all
  obtain ⟨rfl, rfl⟩ := trodVars_none hV
  have k0 := h0
  have lt0 : ∀ x ∈ p0, x.block < W.heap.size := by obtain ⟨m, hm⟩ := k0; exact DataW.trod_lt m _ _ _ hm
  obtain ⟨zs0, rfl, hz0, hw0⟩ := open_arr Try.underlying28 Try.underlying3 (by kernel_rfl) (by kernel_rfl) (hval 0 28 v0 rfl rfl) h0
  obtain ⟨z0_0, z0_1, z0_2, z0_3, rfl⟩ := list4 hz0
  have bz0_0 := bounds_i64 (hw0 z0_0 (by simp))
  have bz0_1 := bounds_i64 (hw0 z0_1 (by simp))
  have bz0_2 := bounds_i64 (hw0 z0_2 (by simp))
  have bz0_3 := bounds_i64 (hw0 z0_3 (by simp))
  clear hA0 hval0
  refine (walk z0_0 bz0_0.1 bz0_0.2 z0_1 bz0_1.1 bz0_1.2 z0_2 bz0_2.1 bz0_2.2 z0_3 bz0_3.1 bz0_3.2 W).mono fun e W' ⟨he, bel⟩ => ?_
  subst he
  exact ⟨_, rfl, _, _, _, [], _, [], hW', trodAll_mk1 (shut_bool Try.underlying4 _), (trodAll_cons_mk (Below.trod laidOut (by kernel_rfl) (of_decide_eq_true (by kernel_rfl)) k0 bel lt0) trodAll_mk0), rfl, bel.frame _, fun h => by cases h⟩

theorem closed : joinedFacts Try.prog 9 Try.f9 Rows.vecProductsSpec Rows.vecProductsRow = true := by
  unfold joinedFacts
  repeat' (with_reducible refine both_of ?_ ?_)
  all_goals (first | with_reducible exact mayEnter_ok | (rw [liftsFinal_is]; as_aux_lemma => kernel_rfl) | (rw [make_is]; as_aux_lemma => kernel_rfl) | (as_aux_lemma => kernel_rfl))

theorem over : Rows.vecProductsRow.holds Try.pinned (OpenSpec.ofChange Rows.vecProductsSpec) :=
  OpenClaim.holds_of_wide 9 Try.f9 rfl rfl rfl rfl rfl rfl rfl ⟨rfl, rfl, rfl, rfl, rfl⟩ rfl rfl rfl rfl rfl (by kernel_rfl) Try.func9 closed
    (of_decide_eq_true (by kernel_rfl)) (by unfold Func.isWrapper; first | (rw [if_pos (by decide +kernel)]; kernel_rfl) | (rw [if_neg (by decide +kernel)]; exact ⟨rfl, rfl⟩))
    (fun os started H enc _ => lifted os started H enc)

theorem proved : Rows.VecProductsSaid := over
#print axioms proved

end Go.Proofs.Ytcapkmiinehdlaa.vecProducts
