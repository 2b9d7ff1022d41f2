/-
  FixedMonotone: for all numbers with |a|, |b| <= 2^30, Mul is commutative and nondecreasing in each factor for a nonnegative other one; adding One to a factor adds the other factor to the product. Conditions: none.
-/
import Derived.Test.YtcapkmiinehdlaaRows
import Derived.Test.YtcapkmiinehdlaaHead
import Derived.Test.YtcapkmiinehdlaaFix
import Derived.Test.YtcapkmiinehdlaaOpen
import Derived.Test.YtcapkmiinehdlaaLives1
namespace Go.Proofs.Ytcapkmiinehdlaa.fixedMonotone
open Go.ChangeShapes Go.WideShapes Go.ChangeAt Go.RowKit

theorem comm (x y : Int) : mdv x y 1024 = mdv y x 1024 := by unfold mdv; rw [Int.mul_comm]
theorem mono {x y z : Int} (h : x ≤ y) (hz : 0 ≤ z) : mdv x z 1024 ≤ mdv y z 1024 := by
  rw [mdv_one, mdv_one]; exact Int.ediv_le_ediv (by decide) (Int.mul_le_mul_of_nonneg_right h hz)
theorem step (x y : Int) : mdv (x + 1024) y 1024 = mdv x y 1024 + y := by rw [mdv_one, mdv_one, Int.add_mul]; omega

theorem walk (a : Int) (la : -9223372036854775808 ≤ a) (ua : a ≤ 9223372036854775807) (b : Int) (lb : -9223372036854775808 ≤ b) (ub : b ≤ 9223372036854775807) (c : Int) (lc : -9223372036854775808 ≤ c) (uc : c ≤ 9223372036854775807) (w : World) :
    Calls Try.prog 4 #[.int .i64 a, .int .i64 b, .int .i64 c] w fun e w' => e = .returned (.bool true) ∧ Below w.heap.size w w' := by
  have ba := bnd_bd a (most := 1073741824) (by decide)
  have bb := bnd_bd b (most := 1073741824) (by decide)
  have bc := arnd_bd c (most := 1073741824) (by decide)
  have p0 := mul_bd ba bb
  have p1 := mul_bd (a := (bnd a 1073741824)) (b := (arnd c 1073741824)) (A := 1073741824) (B := 1073741824) (by omega) (by omega)
  have p2 := mul_bd (a := (bnd b 1073741824)) (b := (arnd c 1073741824)) (A := 1073741824) (B := 1073741824) (by omega) (by omega)
  have p3 := mul_bd (a := (bnd a 1073741824) + 1024) (b := (bnd b 1073741824)) (A := 1073742848) (B := 1073741824) (by omega) (by omega)
  have p4 := mul_bd (a := (bnd b 1073741824)) (b := (bnd a 1073741824)) (A := 1073741824) (B := 1073741824) (by omega) (by omega)
  have m0 : -1152921504606846976 ≤ mdv (bnd a 1073741824) (bnd b 1073741824) 1024 ∧ mdv (bnd a 1073741824) (bnd b 1073741824) 1024 ≤ 1152921504606846976 := by rw [mdv_one]; omega
  have f0 : (mdv (bnd a 1073741824) (bnd b 1073741824) 1024 != mdv (bnd b 1073741824) (bnd a 1073741824) 1024) = false := by rw [comm (bnd a 1073741824) (bnd b 1073741824)]; simp
  have f1 : (mdv ((bnd a 1073741824) + 1024) (bnd b 1073741824) 1024 == mdv (bnd a 1073741824) (bnd b 1073741824) 1024 + (bnd b 1073741824)) = true := by rw [step]; simp
  have g1 := fun h => mono (x := (bnd a 1073741824)) (y := (bnd b 1073741824)) (z := (arnd c 1073741824)) h (by omega)
  have g2 := fun h => mono (x := (bnd b 1073741824)) (y := (bnd a 1073741824)) (z := (arnd c 1073741824)) h (by omega)
  by_cases h1 : (bnd a 1073741824) < (bnd b 1073741824)
  · have g := g1 (by omega)
    clear g1 g2
    go_enter Try.func4, Try.ntmps4
    go_wp2_with (first
      | (go_at_call 32; refine (Bound_any _ _ _ (by omega) (by omega) (by omega) (by omega)).mono ?_; rintro e w' ⟨rfl, rfl⟩)
      | (go_at_call 33; refine (Around_any _ _ _ (by omega) (by omega) (by omega)).mono ?_; rintro e w' ⟨rfl, rfl⟩)
      | (go_at_call 25; refine (Mul_any _ _ _ (by omega) (by omega)).mono ?_; rintro e w' ⟨rfl, rfl⟩)
      | (go_at_call 31; refine (lives_any _).mono ?_; rintro e w' ⟨rfl, rfl⟩))
    all_goals (go_ret; exact ⟨rfl, Below.refl _ _⟩)
  · have g := g2 (by omega)
    clear g1 g2
    go_enter Try.func4, Try.ntmps4
    go_wp2_with (first
      | (go_at_call 32; refine (Bound_any _ _ _ (by omega) (by omega) (by omega) (by omega)).mono ?_; rintro e w' ⟨rfl, rfl⟩)
      | (go_at_call 33; refine (Around_any _ _ _ (by omega) (by omega) (by omega)).mono ?_; rintro e w' ⟨rfl, rfl⟩)
      | (go_at_call 25; refine (Mul_any _ _ _ (by omega) (by omega)).mono ?_; rintro e w' ⟨rfl, rfl⟩)
      | (go_at_call 31; refine (lives_any _).mono ?_; rintro e w' ⟨rfl, rfl⟩))
    all_goals (go_ret; exact ⟨rfl, Below.refl _ _⟩)

theorem own : ownKnob Try.prog.godebug = none := by kernel_rfl
theorem laidOut : laidOutB Try.prog = true := by kernel_rfl

set_option maxRecDepth 100000 in
theorem lifted (os : Os) (started : os.Started) (H : Type) (enc : TypeId × Value → H) :
    ReturnsInHanded {} Try.checked os 4 .any (Rows.fixedMonotoneSpec.pre6 enc Try.prog Try.f4 Rows.fixedMonotoneRow.domain false) (Rows.fixedMonotoneSpec.post enc Try.prog Try.f4 false true false false) := by
  refine returnsInHanded_of_change (C := Try.checked) own started (by kernel_rfl) Try.func4
    (ChangeSpec.witness6 (enc := enc) (C := Try.checked) false ⟨#[], #[.int .i64 0, .int .i64 0, .int .i64 0], []⟩ 8 (by kernel_rfl) (by kernel_rfl) (by kernel_rfl) (by kernel_rfl)) ?_
  intro W base args ds gs before hval0 hW hcnd _
  have hval : ∀ (j : Nat) t v, Try.f4.params[j]? = some t → args[j]? = some v → Value.okWide Try.prog W .any base t v := hval0
  have hW' := hW
  obtain ⟨p, q, hA0, hV, rfl, hfz, hnd⟩ := hW
  have hA : DataW.TrodAll enc Try.prog W 0 (fun _ => true) true Try.f4.params.toList args.toList ds p := hA0
  rw [Try.params4] at hA hval
  obtain ⟨v0, vs0, d0, ds0, p0, q0, hargs, rfl, rfl, h0, r0⟩ := trodAll_cons hA
  obtain ⟨v1, vs1, d1, ds1, p1, q1, rfl, rfl, rfl, h1, r1⟩ := trodAll_cons r0
  obtain ⟨v2, vs2, d2, ds2, p2, q2, rfl, rfl, rfl, h2, r2⟩ := trodAll_cons r1
  obtain ⟨rfl, rfl, rfl⟩ := trodAll_nil r2
  obtain rfl : args = #[v0, v1, v2] := by cases args; simp_all
  obtain ⟨rfl, rfl⟩ := trodVars_none hV
  obtain ⟨a0, rfl, rfl, rfl, w0⟩ := open_int Try.underlying3 (hval 0 3 v0 rfl rfl) h0
  obtain ⟨a1, rfl, rfl, rfl, w1⟩ := open_int Try.underlying3 (hval 1 3 v1 rfl rfl) h1
  obtain ⟨a2, rfl, rfl, rfl, w2⟩ := open_int Try.underlying3 (hval 2 3 v2 rfl rfl) h2
  clear hA0 hval0
  refine (walk a0 (bounds_i64 w0).1 (bounds_i64 w0).2 a1 (bounds_i64 w1).1 (bounds_i64 w1).2 a2 (bounds_i64 w2).1 (bounds_i64 w2).2 W).mono fun e W' ⟨he, bel⟩ => ?_
  subst he
  exact ⟨_, rfl, _, _, _, [], _, [], hW', trodAll_mk1 (shut_bool Try.underlying4 _), (trodAll_cons_mk (shut_int Try.underlying3 w0) (trodAll_cons_mk (shut_int Try.underlying3 w1) (trodAll_cons_mk (shut_int Try.underlying3 w2) trodAll_mk0))), rfl, bel.frame _, fun h => by cases h⟩

theorem closed : joinedFacts Try.prog 4 Try.f4 Rows.fixedMonotoneSpec Rows.fixedMonotoneRow = true := by
  unfold joinedFacts
  repeat' (with_reducible refine both_of ?_ ?_)
  all_goals (first | with_reducible exact mayEnter_ok | (rw [liftsFinal_is]; as_aux_lemma => kernel_rfl) | (rw [make_is]; as_aux_lemma => kernel_rfl) | (as_aux_lemma => kernel_rfl))

theorem over : Rows.fixedMonotoneRow.holds Try.pinned (OpenSpec.ofChange Rows.fixedMonotoneSpec) :=
  OpenClaim.holds_of_wide 4 Try.f4 rfl rfl rfl rfl rfl rfl rfl ⟨rfl, rfl, rfl, rfl, rfl⟩ rfl rfl rfl rfl rfl (by kernel_rfl) Try.func4 closed
    (of_decide_eq_true (by kernel_rfl)) (by unfold Func.isWrapper; first | (rw [if_pos (by decide +kernel)]; kernel_rfl) | (rw [if_neg (by decide +kernel)]; exact ⟨rfl, rfl⟩))
    (fun os started H enc _ => lifted os started H enc)

theorem proved : Rows.FixedMonotoneSaid := over
#print axioms proved

end Go.Proofs.Ytcapkmiinehdlaa.fixedMonotone
