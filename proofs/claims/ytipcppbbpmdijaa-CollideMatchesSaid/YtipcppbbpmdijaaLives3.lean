/-
  The documented examples of chapter 3 hold. Conditions: none.
-/
import Derived.Test.YtipcppbbpmdijaaShk
import Derived.Test.YtipcppbbpmdijaaShv
namespace Go.Proofs.Ytipcppbbpmdijaa
open Go.RowKit Go.Sort Go.Shelf
attribute [local go_sem ↓] Go.wp_at_zero Go.wp_at_succ

def sq4 : List V2 := [(-2, -2), (2, -2), (2, 2), (-2, 2)]
theorem sq4_valid : VShape 0 sq4 := .inr ⟨rfl, by decide, by decide, by unfold VPoly EdgeOK; decide +kernel⟩
theorem c5_valid : VShape 5 [] := .inl ⟨rfl, by decide, by decide⟩
theorem c0_bad : ¬ VShape 0 [] := vno_nil rfl (by decide)
theorem VRes.ok {R : Int} {vs : List V2} {z : Int} (h : VRes R vs z) (v : VShape R vs) : z = 0 := h.elim (·.1) (fun h => absurd v h.2)
theorem VRes.bad {R : Int} {vs : List V2} {z : Int} (h : VRes R vs z) (v : ¬ VShape R vs) : z = 10 := h.elim (fun h => absurd h.2 v) (·.1)
theorem sq4_sn : SN 0 sq4 := ⟨by decide, by decide, by decide +kernel⟩
theorem c5_sn : SN 5 [] := ⟨by decide, by decide, by simp⟩

theorem calls_named {P : Program} {f : FuncId} {args : Array Value} {Q : Ending → World → Prop} {w : World} (h : ∀ W, W = w → Calls P f args W Q) : Calls P f args w Q := h w rfl

set_option maxRecDepth 100000 in
set_option maxHeartbeats 2000000 in
theorem lives3_any (w : World) : Calls Try.prog 27 #[] w fun e w' => e = .returned (.bool true) ∧ Below w.heap.size w w' := by
  have e1 : bx0 0 sq4 = -2 := by decide +kernel
  have e2 : by0 0 sq4 = -2 := by decide +kernel
  have e3 : bx1 0 sq4 = 2 := by decide +kernel
  have e4 : by1 0 sq4 = 2 := by decide +kernel
  have f1 : cov 0 sq4 (2, 2) = true := by decide +kernel
  have f2 : cov 0 sq4 (3, 0) = false := by decide +kernel
  have f3 : cov 5 [] (3, 4) = true := by decide +kernel
  have f4 : cov 5 [] (4, 4) = false := by decide +kernel
  go_enter Try.func27, Try.ntmps27
  go_wp2_with fail
  refine calls_named ?_; intro W0 hW
  have P0 : Pol W0 (some ⟨w.heap.size, 0, none⟩) 4 4 sq4 := by
    refine ⟨rfl, by omega, by omega, fun h => by omega, fun _ => ⟨_, rfl, by rw [hW]; simp [go_sem], fun i v h => ?_⟩⟩
    rcases i with _ | _ | _ | _ | i <;> simp [sq4] at h <;> subst h <;> rw [hW] <;> simp [go_sem]
  have XA : B2 W0 (w.heap.size + 1) (.int .i64 0) (.slice (some ⟨w.heap.size, 0, none⟩) 4 4) := by rw [hW]; unfold B2 Cel; simp [go_sem]
  have XC : B2 W0 (w.heap.size + 1 + 1) (.int .i64 5) (.slice none 0 0) := by rw [hW]; unfold B2 Cel; simp [go_sem]
  have XP : B2 W0 (w.heap.size + 1 + 1 + 1) (.int .i64 10) (.int .i64 0) := by rw [hW]; unfold B2 Cel; simp [go_sem]
  have i0 : Below w.heap.size w W0 := by rw [hW]; exact (by repeat (first | with_reducible exact Below.refl _ _ | with_reducible refine below_alloc ?_ _ | with_reducible refine Below.drew ?_ | with_reducible refine below_set ?_ (by (first | (simp; done) | (simp; omega))) _ | with_reducible refine below_step (by assumption) ?_))
  clear hW
  refine (Validate_any _ _ _ _ sq4 _ P0 (by decide +kernel)).mono ?_
  rintro e w1 ⟨⟨z, rfl, hz⟩, hb1⟩
  obtain rfl := hz.ok sq4_valid
  have XA1 := XA.below hb1
  have XC1 := XC.below hb1
  have XP1 := XP.below hb1
  have P1 := P0.below hb1
  clear hz XA XC XP P0
  go_wp2_with fail
  refine (Validate_any _ _ _ _ [] _ (Pol.empty _) (by simp)).mono ?_
  rintro e w2 ⟨⟨z, rfl, hz⟩, hb2⟩
  obtain rfl := hz.ok c5_valid
  have XA2 := XA1.below hb2
  have XC2 := XC1.below hb2
  have XP2 := XP1.below hb2
  have P2 := P1.below hb2
  clear hz XA1 XC1 XP1 P1
  go_wp2_with fail
  refine (Validate_any _ _ _ _ [] _ (Pol.empty _) (by simp)).mono ?_
  rintro e w3 ⟨⟨z, rfl, hz⟩, hb3⟩
  obtain rfl := hz.bad c0_bad
  have XA3 := XA2.below hb3
  have XC3 := XC2.below hb3
  have XP3 := XP2.below hb3
  have P3 := P2.below hb3
  clear hz XA2 XC2 XP2 P2
  go_wp2_with fail
  refine (Bounds_any 0 10 0 _ _ _ sq4 _ P3 sq4_sn (by omega) (by omega)).mono ?_
  rintro e w4 ⟨rfl, hb4⟩
  have XA4 := XA3.below hb4
  have XC4 := XC3.below hb4
  have XP4 := XP3.below hb4
  have P4 := P3.below hb4
  clear XA3 XC3 XP3 P3
  go_wp2_with fail
  refine (Contains_any 0 10 0 12 2 _ _ _ sq4 _ P4 sq4_sn (by omega) (by omega) (by omega) (by omega)).mono ?_
  rintro e w5 ⟨rfl, hb5⟩
  have XA5 := XA4.below hb5
  have XC5 := XC4.below hb5
  have XP5 := XP4.below hb5
  have P5 := P4.below hb5
  clear XA4 XC4 XP4 P4
  go_wp2_with fail
  refine (Contains_any 0 10 0 13 0 _ _ _ sq4 _ P5 sq4_sn (by omega) (by omega) (by omega) (by omega)).mono ?_
  rintro e w6 ⟨rfl, hb6⟩
  have XC6 := XC5.below hb6
  clear XA5 XC5 XP5 P5
  go_wp2_with fail
  refine (Contains_any 5 0 0 3 4 _ _ _ [] _ (Pol.empty _) c5_sn (by omega) (by omega) (by omega) (by omega)).mono ?_
  rintro e w7 ⟨rfl, hb7⟩
  have XC7 := XC6.below hb7
  clear XC6
  go_wp2_with fail
  refine (Contains_any 5 0 0 4 4 _ _ _ [] _ (Pol.empty _) c5_sn (by omega) (by omega) (by omega) (by omega)).mono ?_
  rintro e w8 ⟨rfl, hb8⟩
  go_wp2_with fail
  go_ret
  exact ⟨rfl, (by repeat (first | with_reducible exact Below.refl _ _ | with_reducible refine below_alloc ?_ _ | with_reducible refine Below.drew ?_ | with_reducible refine below_set ?_ (by (first | (simp; done) | (simp; omega))) _ | with_reducible refine below_step (by assumption) ?_))⟩
end Go.Proofs.Ytipcppbbpmdijaa
