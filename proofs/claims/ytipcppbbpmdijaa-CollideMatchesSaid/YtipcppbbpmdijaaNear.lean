/-
  What chapter 3's law generators return: a point near a shape, an axis. Conditions: the numbers' bounds and the vertices in memory, as the theorems state.
-/
import Derived.Test.YtipcppbbpmdijaaShs
import Derived.Test.YtipcppbbpmdijaaLives3
namespace Go.Proofs.Ytipcppbbpmdijaa
open Go.RowKit Go.Sort
attribute [local go_sem ↓] Go.wp_at_zero Go.wp_at_succ

def nrX (R : Int) (vs : List V2) (x : Int) : Int := bx0 R vs - 2 + arnd x (bx1 R vs - bx0 R vs + 5)
def nrY (R : Int) (vs : List V2) (y : Int) : Int := by0 R vs - 2 + arnd y (by1 R vs - by0 R vs + 5)
theorem bb_ord {R : Int} {vs : List V2} (h : SN R vs) : bx0 R vs ≤ bx1 R vs ∧ by0 R vs ≤ by1 R vs := by
  unfold bx0 by0 bx1 by1
  by_cases hv : vs = []
  · have := h.1; simp only [if_pos hv]; omega
  · simp only [if_neg hv]
    obtain ⟨v, hm⟩ := List.exists_mem_of_ne_nil _ hv
    have a := (mnl_spec (·.1) hv).1 v hm
    have b := (mxl_spec (·.1) hv).1 v hm
    have c := (mnl_spec (·.2) hv).1 v hm
    have d := (mxl_spec (·.2) hv).1 v hm
    omega
theorem nr_bd {R : Int} {vs : List V2} (h : SN R vs) (x y : Int) : (-32770 ≤ nrX R vs x ∧ nrX R vs x ≤ 32770) ∧ (-32770 ≤ nrY R vs y ∧ nrY R vs y ≤ 32770) := by
  have a := bb_ord h
  have b := bb_bd h
  have c := arnd_bd x (most := bx1 R vs - bx0 R vs + 5) (by omega)
  have d := arnd_bd y (most := by1 R vs - by0 R vs + 5) (by omega)
  unfold nrX nrY
  omega

theorem rBounds_zero (R : Int) (A : Option Addr) (n c : Nat) (vs : List V2) (w : World) (hP : Pol w A n c vs) (hS : SN R vs) :
    Calls Try.prog 37 #[.agg #[.int .i64 R, .slice A n c], .agg #[.int .i64 0, .int .i64 0]] w fun e w' => e = .returned (.agg #[.int .i64 (bx0 R vs), .int .i64 (by0 R vs), .int .i64 (bx1 R vs), .int .i64 (by1 R vs)]) ∧ Below w.heap.size w w' := by
  have h := rBounds_any R 0 0 A n c vs w hP hS (by omega) (by omega)
  simp only [Int.add_zero] at h
  exact h

set_option maxRecDepth 100000 in
set_option maxHeartbeats 2000000 in
theorem near_any (R x y : Int) (A : Option Addr) (n c : Nat) (vs : List V2) (w : World) (hP : Pol w A n c vs) (hS : SN R vs) (h1 : -9223372036854775808 ≤ x) (h2 : x ≤ 9223372036854775807) (h3 : -9223372036854775808 ≤ y) (h4 : y ≤ 9223372036854775807) :
    Calls Try.prog 31 #[.agg #[.int .i64 R, .slice A n c], .int .i64 x, .int .i64 y] w fun e w' => e = .returned (.agg #[.int .i64 (nrX R vs x), .int .i64 (nrY R vs y)]) ∧ Below w.heap.size w w' := by
  have b := bb_bd hS
  have o := bb_ord hS
  have c1 := arnd_bd x (most := bx1 R vs - bx0 R vs + 5) (by omega)
  have c2 := arnd_bd y (most := by1 R vs - by0 R vs + 5) (by omega)
  have HB := Lib.hid (fun W hW => rBounds_zero R A n c vs W (Pol.below hP hW) hS)
  unfold nrX nrY
  generalize bx0 R vs = p0 at *
  generalize by0 R vs = p1 at *
  generalize bx1 R vs = p2 at *
  generalize by1 R vs = p3 at *
  obtain ⟨b1, b2, b3, b4⟩ := b
  have e1 : IntKind.i64.wrap (p0 - 2) = p0 - 2 := IntWalk.i64_in _ (by omega)
  have e2 : IntKind.i64.wrap (p2 - p0) = p2 - p0 := IntWalk.i64_in _ (by omega)
  have e3 : IntKind.i64.wrap (p2 - p0 + 5) = p2 - p0 + 5 := IntWalk.i64_in _ (by omega)
  have e4 : IntKind.i64.wrap (p1 - 2) = p1 - 2 := IntWalk.i64_in _ (by omega)
  have e5 : IntKind.i64.wrap (p3 - p1) = p3 - p1 := IntWalk.i64_in _ (by omega)
  have e6 : IntKind.i64.wrap (p3 - p1 + 5) = p3 - p1 + 5 := IntWalk.i64_in _ (by omega)
  have e7 : IntKind.i64.wrap (p0 - 2 + arnd x (p2 - p0 + 5)) = p0 - 2 + arnd x (p2 - p0 + 5) := IntWalk.i64_in _ (by omega)
  have e8 : IntKind.i64.wrap (p1 - 2 + arnd y (p3 - p1 + 5)) = p1 - 2 + arnd y (p3 - p1 + 5) := IntWalk.i64_in _ (by omega)
  go_enter Try.func31, Try.ntmps31
  go_wp2_with fail
  refine calls_at ?_; intro W0 hW; have dW0 : Below w.heap.size w W0 := (by rw [hW]; exact (by repeat (first | with_reducible exact Below.refl _ _ | with_reducible refine below_alloc ?_ _ | with_reducible refine Below.drew ?_ | with_reducible refine below_set ?_ (by (first | (simp; done) | (simp; omega))) _ | with_reducible refine below_step (by assumption) ?_)))
  have XS : B2 W0 w.heap.size (.int .i64 R) (.slice A n c) := (by rw [hW]; unfold B2 Cel; simp [go_sem])
  have XR : B2 W0 (w.heap.size + 1) (.int .i64 0) (.int .i64 0) := (by rw [hW]; unfold B2 Cel; simp [go_sem])
  clear hW
  refine (HB.out _ dW0).mono ?_
  rintro e w1 ⟨rfl, hb1⟩; have d1 : Below W0.heap.size W0 w1 := below_step hb1 (by repeat (first | with_reducible exact Below.refl _ _ | with_reducible refine below_alloc ?_ _ | with_reducible refine Below.drew ?_ | with_reducible refine below_set ?_ (by (first | (simp; done) | (simp; omega))) _ | with_reducible refine below_step (by assumption) ?_)); have z1 := hb1.size; (try simp at z1); replace XS := XS.below d1; (try clear lXS); have lXS := XS.lt; replace XR := XR.below d1; (try clear lXR); have lXR := XR.lt
  have i1 : Below w.heap.size w w1 := (by repeat (first | with_reducible exact Below.refl _ _ | with_reducible refine below_alloc ?_ _ | with_reducible refine Below.drew ?_ | with_reducible refine below_set ?_ (by (first | (simp; done) | (simp; omega))) _ | with_reducible refine below_step (by assumption) ?_))
  go_wp2_with fail
  refine code_named ?_; intro W2 hW; have dW2 : Below w1.heap.size w1 W2 := (by rw [hW]; exact (by repeat (first | with_reducible exact Below.refl _ _ | with_reducible refine below_alloc ?_ _ | with_reducible refine Below.drew ?_ | with_reducible refine below_set ?_ (by (first | (simp; done) | (simp; omega))) _ | with_reducible refine below_step (by assumption) ?_))); replace XS := XS.below dW2; (try clear lXS); have lXS := XS.lt; replace XR := XR.below dW2; (try clear lXR); have lXR := XR.lt
  have XB : B4 W2 (w1.heap.size) (.int .i64 (p0)) (.int .i64 (p1)) (.int .i64 (p2)) (.int .i64 (p3)) := (by rw [hW]; unfold B4 Cel; simp [go_sem]); have lXB := XB.lt
  have i2 : Below w.heap.size w W2 := (by repeat (first | with_reducible exact Below.refl _ _ | with_reducible refine below_alloc ?_ _ | with_reducible refine Below.drew ?_ | with_reducible refine below_set ?_ (by (first | (simp; done) | (simp; omega))) _ | with_reducible refine below_step (by assumption) ?_))
  clear hW
  have KXS := XS.re; have KXR := XR.re; have KXB := XB.re; refine wp_region_last 25 (by kernel_rfl) (by kernel_rfl) ?_; simp only [List.take_succ_cons, List.take_zero, List.drop_succ_cons, List.drop_zero]
  repeat (go_big_quiet_step ((go_at_call 25; exact met_same (Around_any _ _ _ (by omega) (by omega) (by omega)))))
  refine wpQuiet_nil ?_; intro w3 d3; clear KXS KXR KXB; replace XS := XS.below d3; (try clear lXS); have lXS := XS.lt; replace XR := XR.below d3; (try clear lXR); have lXR := XR.lt; replace XB := XB.below d3; (try clear lXB); have lXB := XB.lt
  go_wp2_with fail
  exact bodyPost_ret (v := .agg #[.int .i64 (p0 - 2 + arnd x (p2 - p0 + 5)), .int .i64 (p1 - 2 + arnd y (p3 - p1 + 5))]) (by simp [results, Try.results31, go_sem, *]) rfl ⟨rfl, (by repeat (first | with_reducible exact Below.refl _ _ | with_reducible refine below_alloc ?_ _ | with_reducible refine Below.drew ?_ | with_reducible refine below_set ?_ (by (first | (simp; done) | (simp; omega))) _ | with_reducible refine below_step (by assumption) ?_))⟩

def axA (x : Int) : Int := bnd x 720
theorem axA_bd (x : Int) : -720 ≤ axA x ∧ axA x ≤ 720 := bnd_bd x (by decide)
theorem axA_sq (x y : Int) : axA x * axA x + axA y * axA y ≤ 1048576 := by
  have a := mul_bd (axA_bd x) (axA_bd x)
  have b := mul_bd (axA_bd y) (axA_bd y)
  omega
theorem axis_any (x y : Int) (w : World) (h1 : -9223372036854775808 ≤ x) (h2 : x ≤ 9223372036854775807) (h3 : -9223372036854775808 ≤ y) (h4 : y ≤ 9223372036854775807) :
    Calls Try.prog 40 #[.int .i64 x, .int .i64 y] w fun e w' => e = .returned (.agg #[.int .i64 (axA x), .int .i64 (axA y)]) ∧ Below w.heap.size w w' := by
  unfold axA
  go_enter Try.func40, Try.ntmps40
  go_wp2_with fail
  refine (Bound_any _ _ _ (by omega) (by omega) h1 h2).mono ?_
  rintro e w' ⟨rfl, rfl⟩
  go_wp2_with fail
  refine (Bound_any _ _ _ (by omega) (by omega) h3 h4).mono ?_
  rintro e w' ⟨rfl, rfl⟩
  go_wp2_with fail
  exact bodyPost_ret (v := .agg #[.int .i64 (bnd x 720), .int .i64 (bnd y 720)]) (by simp [results, Try.results40, go_sem, *]) rfl ⟨rfl, (by repeat (first | with_reducible exact Below.refl _ _ | with_reducible refine below_alloc ?_ _ | with_reducible refine Below.drew ?_ | with_reducible refine below_set ?_ (by (first | (simp; done) | (simp; omega))) _ | with_reducible refine below_step (by assumption) ?_))⟩
theorem plo_bd {R : Int} {vs : List V2} (hS : SN R vs) {px py ax ay : Int} (h1 : -67108864 ≤ px ∧ px ≤ 67108864) (h2 : -67108864 ≤ py ∧ py ≤ 67108864) (h3 : -8388608 ≤ ax ∧ ax ≤ 8388608) (h4 : -8388608 ≤ ay ∧ ay ≤ 8388608) :
    (-9000000000000 ≤ plo R vs px py ax ay ∧ plo R vs px py ax ay ≤ 9000000000000) ∧ (-9000000000000 ≤ phi R vs px py ax ay ∧ phi R vs px py ax ay ≤ 9000000000000) := by
  obtain ⟨hR, -, hb⟩ := hS
  unfold plo phi
  by_cases hv : vs = []
  · simp only [if_pos hv]
    obtain ⟨-, -, p1, p2⟩ := pd_bd (x := 0) (y := 0) h1 h2 h3 h4 (by omega) (by omega)
    unfold dotz
    omega
  · simp only [if_neg hv]
    obtain ⟨_, v, hv1, e1⟩ := mnl_spec (pdt px py ax ay) hv
    obtain ⟨_, u, hu1, e2⟩ := mxl_spec (pdt px py ax ay) hv
    have bv := hb v hv1
    have bu := hb u hu1
    obtain ⟨p1, p2, -, -⟩ := pd_bd h1 h2 h3 h4 bv.1 bv.2
    obtain ⟨q1, q2, -, -⟩ := pd_bd h1 h2 h3 h4 bu.1 bu.2
    rw [← e1, ← e2]
    unfold pdt dotz
    omega
theorem cov_trn {R : Int} {vs : List V2} (h : GS R vs) (z : Int) (d : V2) : cov R (trn z vs) d = cov R vs d := by
  rcases h with ⟨rfl, _⟩ | ⟨rfl, h⟩
  · have e : trn z [] = [] := by unfold trn rot; simp
    rw [e]
  · have := h.len
    have := arnd_bd z (most := (vs.length : Int)) (by omega)
    exact cov_rot 0 d (by omega)
theorem gs_back {R : Int} {vs : List V2} (h : GS R vs) (hv : vs ≠ []) : ¬ VShape 0 vs.reverse := by
  rcases h with ⟨h, _⟩ | ⟨_, h⟩
  · exact absurd h hv
  · exact h.back
theorem circle_sides (R p0 p1 : Int) : cov R [] (bx0 R [] + p0 - p0, p1 - p1) = true ∧ cov R [] (bx1 R [] + p0 - p0, p1 - p1) = true ∧ cov R [] (p0 - p0, by0 R [] + p1 - p1) = true ∧ cov R [] (p0 - p0, by1 R [] + p1 - p1) = true := by
  have e1 : -R + p0 - p0 = -R := by omega
  have e2 : R + p0 - p0 = R := by omega
  have e3 : -R + p1 - p1 = -R := by omega
  have e4 : R + p1 - p1 = R := by omega
  simp only [cov_circle, bx0, bx1, by0, by1, if_true, e1, e2, e3, e4, Int.sub_self, Int.neg_mul_neg, Int.mul_zero, Int.add_zero, Int.zero_add]
  omega
def hasX (c : Int) (l : List V2) : Bool := l.any fun v => decide (v.1 = c)
def hasY (c : Int) (l : List V2) : Bool := l.any fun v => decide (v.2 = c)
theorem hasX_snoc (c : Int) (l : List V2) (v : V2) : hasX c (l ++ [v]) = (hasX c l || decide (v.1 = c)) := by simp [hasX]
theorem hasY_snoc (c : Int) (l : List V2) (v : V2) : hasY c (l ++ [v]) = (hasY c l || decide (v.2 = c)) := by simp [hasY]
theorem hasX_true {c : Int} {l : List V2} (h : ∃ v ∈ l, v.1 = c) : hasX c l = true := by simpa [hasX] using h
theorem hasY_true {c : Int} {l : List V2} (h : ∃ v ∈ l, v.2 = c) : hasY c l = true := by simpa [hasY] using h
theorem tdiv8 {x : Int} (h1 : -9223372036854775808 ≤ x) (h2 : x ≤ 9223372036854775807) : -9223372036854775808 ≤ x.tdiv 8 ∧ x.tdiv 8 ≤ 9223372036854775807 := by
  have q := Int.mul_tdiv_add_tmod x 8
  have tb := tmod_bd x (c := 8) (by decide)
  omega
end Go.Proofs.Ytipcppbbpmdijaa
