/-
  FixedRemainder: for all a, b and c of the domain with c other than 0, the remainder a*b - c*MulDiv(a, b, c) is 0 or has the sign of c, and is smaller than c in absolute value; multiplying by One, or by c/c, changes nothing. Conditions: none.
-/
import Derived.Test.YtcapkmiinehdlaaRows
import Derived.Test.YtcapkmiinehdlaaHead
import Derived.Test.YtcapkmiinehdlaaFix
import Derived.Test.YtcapkmiinehdlaaOpen
import Derived.Test.YtcapkmiinehdlaaLives1
namespace Go.Proofs.Ytcapkmiinehdlaa.fixedRemainder
open Go.ChangeShapes Go.WideShapes Go.ChangeAt Go.RowKit

theorem rem_pos {x y z : Int} (h : 0 < z) : 0 ≤ x * y - z * mdv x y z ∧ x * y - z * mdv x y z < z := by have := mdv_pos x y h; omega
theorem rem_neg {x y z : Int} (h : z < 0) : x * y - z * mdv x y z ≤ 0 ∧ z < x * y - z * mdv x y z := by have := mdv_neg x y h; omega
theorem abz_lt {r z : Int} (h : (0 ≤ r ∧ r < z) ∨ (r ≤ 0 ∧ z < r)) : abz r < abz z := by unfold abz; split <;> split <;> omega

theorem walk (a : Int) (la : -9223372036854775808 ≤ a) (ua : a ≤ 9223372036854775807) (b : Int) (lb : -9223372036854775808 ≤ b) (ub : b ≤ 9223372036854775807) (c : Int) (lc : -9223372036854775808 ≤ c) (uc : c ≤ 9223372036854775807) (w : World) :
    Calls Try.prog 8 #[.int .i64 a, .int .i64 b, .int .i64 c] w fun e w' => e = .returned (.bool true) ∧ Below w.heap.size w w' := by
  have ba := bnd_bd a (most := 2147483648) (by decide)
  have bb := bnd_bd b (most := 2147483648) (by decide)
  have bc := bnd_bd c (most := 2147483648) (by decide)
  have p0 := mul_bd ba bb
  have p1 := mul_bd ba bc
  have f0 : (mdv (bnd a 2147483648) 1024 1024 != (bnd a 2147483648)) = false := by rw [mdv_same _ (by decide)]; simp
  have f1 : (mdv (bnd a 2147483648) (bnd b 2147483648) 0 != 0) = false := by rw [mdv_zero]; simp
  have f2 : (mdv (bnd a 2147483648) 1024 0 != 0) = false := by rw [mdv_zero]; simp
  rcases Int.lt_trichotomy (bnd c 2147483648) 0 with h | h | h
  · have r1 := rem_neg (x := (bnd a 2147483648)) (y := (bnd b 2147483648)) h
    have k := abz_lt (Or.inr r1)
    have f3 : (mdv (bnd a 2147483648) (bnd c 2147483648) (bnd c 2147483648) == (bnd a 2147483648)) = true := by rw [mdv_same _ (by omega)]; simp
    have hz : ((bnd c 2147483648) == 0) = false := by simp; omega
    obtain ⟨r2, r3⟩ := r1
    by_cases hr : ((bnd a 2147483648) * (bnd b 2147483648) - (bnd c 2147483648) * mdv (bnd a 2147483648) (bnd b 2147483648) (bnd c 2147483648)) = 0
    · have hr1 : (((bnd a 2147483648) * (bnd b 2147483648) - (bnd c 2147483648) * mdv (bnd a 2147483648) (bnd b 2147483648) (bnd c 2147483648)) != 0) = false := by simpa using hr
      clear hr
      go_enter Try.func8, Try.ntmps8
      go_wp2_with (first
        | (go_at_call 24; refine (small_any _ _ (by omega) (by omega)).mono ?_; rintro e w' ⟨rfl, rfl⟩)
        | (go_at_call 25; refine (Mul_any _ _ _ (by omega) (by omega)).mono ?_; rintro e w' ⟨rfl, rfl⟩)
        | (go_at_call 29; refine (MulDiv_any _ _ _ _ (by omega) (by omega)).mono ?_; rintro e w' ⟨rfl, rfl⟩)
        | (go_at_call 27; refine (Div_any _ _ _ (by omega) (by omega)).mono ?_; rintro e w' ⟨rfl, rfl⟩)
        | (go_at_call 38; refine (Abs_any _ _ (by omega)).mono ?_; rintro e w' ⟨rfl, rfl⟩)
        | (go_at_call 31; refine (lives_any _).mono ?_; rintro e w' ⟨rfl, rfl⟩))
      all_goals (go_ret; exact ⟨rfl, Below.refl _ _⟩)
    · have hr1 : (((bnd a 2147483648) * (bnd b 2147483648) - (bnd c 2147483648) * mdv (bnd a 2147483648) (bnd b 2147483648) (bnd c 2147483648)) != 0) = true := by simpa using hr
      have hr2 : ((bnd a 2147483648) * (bnd b 2147483648) - (bnd c 2147483648) * mdv (bnd a 2147483648) (bnd b 2147483648) (bnd c 2147483648)) < 0 := by omega
      clear hr
      go_enter Try.func8, Try.ntmps8
      go_wp2_with (first
        | (go_at_call 24; refine (small_any _ _ (by omega) (by omega)).mono ?_; rintro e w' ⟨rfl, rfl⟩)
        | (go_at_call 25; refine (Mul_any _ _ _ (by omega) (by omega)).mono ?_; rintro e w' ⟨rfl, rfl⟩)
        | (go_at_call 29; refine (MulDiv_any _ _ _ _ (by omega) (by omega)).mono ?_; rintro e w' ⟨rfl, rfl⟩)
        | (go_at_call 27; refine (Div_any _ _ _ (by omega) (by omega)).mono ?_; rintro e w' ⟨rfl, rfl⟩)
        | (go_at_call 38; refine (Abs_any _ _ (by omega)).mono ?_; rintro e w' ⟨rfl, rfl⟩)
        | (go_at_call 31; refine (lives_any _).mono ?_; rintro e w' ⟨rfl, rfl⟩))
      all_goals (go_ret; exact ⟨rfl, Below.refl _ _⟩)
  · have hz : ((bnd c 2147483648) == 0) = true := by simpa using h
    clear h
    go_enter Try.func8, Try.ntmps8
    go_wp2_with (first
      | (go_at_call 24; refine (small_any _ _ (by omega) (by omega)).mono ?_; rintro e w' ⟨rfl, rfl⟩)
      | (go_at_call 25; refine (Mul_any _ _ _ (by omega) (by omega)).mono ?_; rintro e w' ⟨rfl, rfl⟩)
      | (go_at_call 29; refine (MulDiv_any _ _ _ _ (by omega) (by omega)).mono ?_; rintro e w' ⟨rfl, rfl⟩)
      | (go_at_call 27; refine (Div_any _ _ _ (by omega) (by omega)).mono ?_; rintro e w' ⟨rfl, rfl⟩)
      | (go_at_call 38; refine (Abs_any _ _ (by omega)).mono ?_; rintro e w' ⟨rfl, rfl⟩)
      | (go_at_call 31; refine (lives_any _).mono ?_; rintro e w' ⟨rfl, rfl⟩))
    all_goals (go_ret; exact ⟨rfl, Below.refl _ _⟩)
  · have r1 := rem_pos (x := (bnd a 2147483648)) (y := (bnd b 2147483648)) h
    have k := abz_lt (Or.inl r1)
    have f3 : (mdv (bnd a 2147483648) (bnd c 2147483648) (bnd c 2147483648) == (bnd a 2147483648)) = true := by rw [mdv_same _ (by omega)]; simp
    have hz : ((bnd c 2147483648) == 0) = false := by simp; omega
    obtain ⟨r2, r3⟩ := r1
    by_cases hr : ((bnd a 2147483648) * (bnd b 2147483648) - (bnd c 2147483648) * mdv (bnd a 2147483648) (bnd b 2147483648) (bnd c 2147483648)) = 0
    · have hr1 : (((bnd a 2147483648) * (bnd b 2147483648) - (bnd c 2147483648) * mdv (bnd a 2147483648) (bnd b 2147483648) (bnd c 2147483648)) != 0) = false := by simpa using hr
      clear hr
      go_enter Try.func8, Try.ntmps8
      go_wp2_with (first
        | (go_at_call 24; refine (small_any _ _ (by omega) (by omega)).mono ?_; rintro e w' ⟨rfl, rfl⟩)
        | (go_at_call 25; refine (Mul_any _ _ _ (by omega) (by omega)).mono ?_; rintro e w' ⟨rfl, rfl⟩)
        | (go_at_call 29; refine (MulDiv_any _ _ _ _ (by omega) (by omega)).mono ?_; rintro e w' ⟨rfl, rfl⟩)
        | (go_at_call 27; refine (Div_any _ _ _ (by omega) (by omega)).mono ?_; rintro e w' ⟨rfl, rfl⟩)
        | (go_at_call 38; refine (Abs_any _ _ (by omega)).mono ?_; rintro e w' ⟨rfl, rfl⟩)
        | (go_at_call 31; refine (lives_any _).mono ?_; rintro e w' ⟨rfl, rfl⟩))
      all_goals (go_ret; exact ⟨rfl, Below.refl _ _⟩)
    · have hr1 : (((bnd a 2147483648) * (bnd b 2147483648) - (bnd c 2147483648) * mdv (bnd a 2147483648) (bnd b 2147483648) (bnd c 2147483648)) != 0) = true := by simpa using hr
      have hr2 : 0 < ((bnd a 2147483648) * (bnd b 2147483648) - (bnd c 2147483648) * mdv (bnd a 2147483648) (bnd b 2147483648) (bnd c 2147483648)) := by omega
      have hd : decide (((bnd a 2147483648) * (bnd b 2147483648) - (bnd c 2147483648) * mdv (bnd a 2147483648) (bnd b 2147483648) (bnd c 2147483648)) < 0) = false := by simp only [decide_eq_false_iff_not]; omega
      clear hr
      go_enter Try.func8, Try.ntmps8
      go_wp2_with (first
        | (go_at_call 24; refine (small_any _ _ (by omega) (by omega)).mono ?_; rintro e w' ⟨rfl, rfl⟩)
        | (go_at_call 25; refine (Mul_any _ _ _ (by omega) (by omega)).mono ?_; rintro e w' ⟨rfl, rfl⟩)
        | (go_at_call 29; refine (MulDiv_any _ _ _ _ (by omega) (by omega)).mono ?_; rintro e w' ⟨rfl, rfl⟩)
        | (go_at_call 27; refine (Div_any _ _ _ (by omega) (by omega)).mono ?_; rintro e w' ⟨rfl, rfl⟩)
        | (go_at_call 38; refine (Abs_any _ _ (by omega)).mono ?_; rintro e w' ⟨rfl, rfl⟩)
        | (go_at_call 31; refine (lives_any _).mono ?_; rintro e w' ⟨rfl, rfl⟩))
      all_goals (go_ret; exact ⟨rfl, Below.refl _ _⟩)

theorem own : ownKnob Try.prog.godebug = none := by kernel_rfl
theorem laidOut : laidOutB Try.prog = true := by kernel_rfl

set_option maxRecDepth 100000 in
theorem lifted (os : Os) (started : os.Started) (H : Type) (enc : TypeId × Value → H) :
    ReturnsInHanded {} Try.checked os 8 .any (Rows.fixedRemainderSpec.pre6 enc Try.prog Try.f8 Rows.fixedRemainderRow.domain false) (Rows.fixedRemainderSpec.post enc Try.prog Try.f8 false true false false) := by
  refine returnsInHanded_of_change (C := Try.checked) own started (by kernel_rfl) Try.func8
    (ChangeSpec.witness6 (enc := enc) (C := Try.checked) false ⟨#[], #[.int .i64 0, .int .i64 0, .int .i64 0], []⟩ 8 (by kernel_rfl) (by kernel_rfl) (by kernel_rfl) (by kernel_rfl)) ?_
  intro W base args ds gs before hval0 hW hcnd _
  have hval : ∀ (j : Nat) t v, Try.f8.params[j]? = some t → args[j]? = some v → Value.okWide Try.prog W .any base t v := hval0
  have hW' := hW
  obtain ⟨p, q, hA0, hV, rfl, hfz, hnd⟩ := hW
  have hA : DataW.TrodAll enc Try.prog W 0 (fun _ => true) true Try.f8.params.toList args.toList ds p := hA0
  rw [Try.params8] at hA hval
  obtain ⟨v0, vs0, d0, ds0, p0, q0, hargs, rfl, rfl, h0, r0⟩ := trodAll_cons hA
  obtain ⟨v1, vs1, d1, ds1, p1, q1, rfl, rfl, rfl, h1, r1⟩ := trodAll_cons r0
  obtain ⟨v2, vs2, d2, ds2, p2, q2, rfl, rfl, rfl, h2, r2⟩ := trodAll_cons r1
  obtain ⟨rfl, rfl, rfl⟩ := trodAll_nil r2
  obtain rfl : args = #[v0, v1, v2] := by cases args; simp_all
  obtain ⟨rfl, rfl⟩ := trodVars_none hV
  obtain ⟨a0, rfl, rfl, rfl, w0⟩ := open_int Try.underlying3 (hval 0 3 v0 rfl rfl) h0
  obtain ⟨a1, rfl, rfl, rfl, w1⟩ := open_int Try.underlying3 (hval 1 3 v1 rfl rfl) h1
  obtain ⟨a2, rfl, rfl, rfl, w2⟩ := open_int Try.underlying3 (hval 2 3 v2 rfl rfl) h2
  clear hA0 hval0
  refine (walk a0 (bounds_i64 w0).1 (bounds_i64 w0).2 a1 (bounds_i64 w1).1 (bounds_i64 w1).2 a2 (bounds_i64 w2).1 (bounds_i64 w2).2 W).mono fun e W' ⟨he, bel⟩ => ?_
  subst he
  exact ⟨_, rfl, _, _, _, [], _, [], hW', trodAll_mk1 (shut_bool Try.underlying4 _), (trodAll_cons_mk (shut_int Try.underlying3 w0) (trodAll_cons_mk (shut_int Try.underlying3 w1) (trodAll_cons_mk (shut_int Try.underlying3 w2) trodAll_mk0))), rfl, bel.frame _, fun h => by cases h⟩

theorem closed : joinedFacts Try.prog 8 Try.f8 Rows.fixedRemainderSpec Rows.fixedRemainderRow = true := by
  unfold joinedFacts
  repeat' (with_reducible refine both_of ?_ ?_)
  all_goals (first | with_reducible exact mayEnter_ok | (rw [liftsFinal_is]; as_aux_lemma => kernel_rfl) | (rw [make_is]; as_aux_lemma => kernel_rfl) | (as_aux_lemma => kernel_rfl))

theorem over : Rows.fixedRemainderRow.holds Try.pinned (OpenSpec.ofChange Rows.fixedRemainderSpec) :=
  OpenClaim.holds_of_wide 8 Try.f8 rfl rfl rfl rfl rfl rfl rfl ⟨rfl, rfl, rfl, rfl, rfl⟩ rfl rfl rfl rfl rfl (by kernel_rfl) Try.func8 closed
    (of_decide_eq_true (by kernel_rfl)) (by unfold Func.isWrapper; first | (rw [if_pos (by decide +kernel)]; kernel_rfl) | (rw [if_neg (by decide +kernel)]; exact ⟨rfl, rfl⟩))
    (fun os started H enc _ => lifted os started H enc)

theorem proved : Rows.FixedRemainderSaid := over
#print axioms proved

end Go.Proofs.Ytcapkmiinehdlaa.fixedRemainder
