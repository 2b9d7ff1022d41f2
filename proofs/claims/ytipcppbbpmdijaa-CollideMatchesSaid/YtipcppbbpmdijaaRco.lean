/-
  What Collide of chapter 5's reference returns: the same as the program's. Conditions: the numbers' bounds and the vertices in memory, as the theorem states.
-/
import Derived.Test.YtipcppbbpmdijaaRay
import Derived.Test.YtipcppbbpmdijaaNear
namespace Go.Proofs.Ytipcppbbpmdijaa
open Go.RowKit Go.Sort
attribute [local go_sem ↓] Go.wp_at_zero Go.wp_at_succ

theorem rAxes_pol (Ra Rb p0 p1 q0 q1 : Int) (A B : Option Addr) (na ca nb cb : Nat) (va vb : List V2) (w : World) (hA : Pol w A na ca va) (hB : Pol w B nb cb vb) (hSa : SN Ra va) (hSb : SN Rb vb)
    (h1 : -33554432 ≤ p0 ∧ p0 ≤ 33554432) (h2 : -33554432 ≤ p1 ∧ p1 ≤ 33554432) (h3 : -33554432 ≤ q0 ∧ q0 ≤ 33554432) (h4 : -33554432 ≤ q1 ∧ q1 ≤ 33554432) :
    Calls Try.prog 51 #[.agg #[.int .i64 Ra, .slice A na ca], .agg #[.int .i64 p0, .int .i64 p1], .agg #[.int .i64 Rb, .slice B nb cb], .agg #[.int .i64 q0, .int .i64 q1]] w fun e w' =>
      ∃ g c, e = .returned (.slice (some ⟨g, 0, none⟩) (axl va vb (p0, p1) (q0, q1)).length c) ∧ Pol w' (some ⟨g, 0, none⟩) (axl va vb (p0, p1) (q0, q1)).length c (axl va vb (p0, p1) (q0, q1)) ∧ w.heap.size ≤ g ∧ Below w.heap.size w w' := by
  refine (rAxes_any Ra Rb p0 p1 q0 q1 A B na ca nb cb va vb w hA hB hSa hSb h1 h2 h3 h4).mono ?_
  rintro e w' ⟨v, rfl, ho, hb⟩
  have hl := List.length_pos_iff.2 (axl_ne va vb (p0, p1) (q0, q1))
  have hm := axl_len va vb (p0, p1) (q0, q1)
  have := hSa.2.1; have := hSb.2.1
  obtain ⟨g, c, rfl, hg, -⟩ := ho.form hl
  exact ⟨g, c, rfl, own_pol ho hl (by omega), hg, hb⟩
/-- The best of the first k axes: nothing for none. -/
def BestAt (f : V2 → Int) (X : List V2) (k : Nat) (n0 n1 d : Int) : Prop := (k = 0 ∧ n0 = 0 ∧ n1 = 0 ∧ d = 0) ∨ (0 < k ∧ best f (X.take k) = ((n0, n1), d))
theorem BestAt.one {f : V2 → Int} {X : List V2} {k : Nat} {n0 n1 d : Int} {v : V2} (h : BestAt f X k n0 n1 d) (hv : X[k]? = some v) (hc : k = 0 ∨ f v < d) : BestAt f X (k + 1) v.1 v.2 (f v) := by
  refine .inr ⟨by omega, ?_⟩
  rw [take_snoc' X k hv]
  by_cases h0 : k = 0
  · subst h0; rfl
  · rcases h with ⟨h, _⟩ | ⟨_, h⟩
    · exact absurd h h0
    · have hl : k < X.length := (List.getElem?_eq_some_iff.1 hv).1
      rw [best_snoc f (by intro e; have := congrArg List.length e; rw [List.length_take, List.length_nil] at this; omega), h, if_pos (by rcases hc with h | h; exact absurd h h0; exact h)]
theorem BestAt.two {f : V2 → Int} {X : List V2} {k : Nat} {n0 n1 d : Int} {v : V2} (h : BestAt f X k n0 n1 d) (hv : X[k]? = some v) (hc : ¬ (k = 0 ∨ f v < d)) : BestAt f X (k + 1) n0 n1 d := by
  refine .inr ⟨by omega, ?_⟩
  rw [take_snoc' X k hv]
  rcases h with ⟨h, _⟩ | ⟨_, h⟩
  · exact absurd (.inl h) hc
  · have hl : k < X.length := (List.getElem?_eq_some_iff.1 hv).1
    rw [best_snoc f (by intro e; have := congrArg List.length e; rw [List.length_take, List.length_nil] at this; omega), h, if_neg (fun h' => hc (.inr h'))]
theorem BestAt.all {f : V2 → Int} {X : List V2} {n0 n1 d : Int} (h : BestAt f X X.length n0 n1 d) (hX : X ≠ []) : best f X = ((n0, n1), d) := by
  rcases h with ⟨h, _⟩ | ⟨_, h⟩
  · have := List.length_pos_iff.2 hX; omega
  · rwa [List.take_length] at h
theorem cn_facts {Ra : Int} {va : List V2} {p : V2} {Rb : Int} {vb : List V2} {q : V2} : (hit Ra va p Rb vb q = false → cnD Ra va p Rb vb q = 0 ∧ cnN Ra va p Rb vb q = (0, 0)) ∧
    (hit Ra va p Rb vb q = true → cnD Ra va p Rb vb q = (best (dep Ra va p Rb vb q) (axl va vb p q)).2 ∧ cnN Ra va p Rb vb q = if dotz (q.1 - p.1) (q.2 - p.2) (best (dep Ra va p Rb vb q) (axl va vb p q)).1.1 (best (dep Ra va p Rb vb q) (axl va vb p q)).1.2 < 0 then (-(best (dep Ra va p Rb vb q) (axl va vb p q)).1.1, -(best (dep Ra va p Rb vb q) (axl va vb p q)).1.2) else (best (dep Ra va p Rb vb q) (axl va vb p q)).1) := by
  constructor
  · intro h; unfold cnD cnN; rw [h]; exact ⟨rfl, rfl⟩
  · intro h; unfold cnD cnN; rw [if_pos h, if_pos h]; exact ⟨rfl, rfl⟩

set_option maxRecDepth 100000 in
set_option maxHeartbeats 8000000 in
theorem rCollide_any (Ra Rb p0 p1 q0 q1 : Int) (A B : Option Addr) (na ca nb cb : Nat) (va vb : List V2) (w : World) (hA : Pol w A na ca va) (hB : Pol w B nb cb vb) (hSa : SN Ra va) (hSb : SN Rb vb)
    (h1 : -33554432 ≤ p0 ∧ p0 ≤ 33554432) (h2 : -33554432 ≤ p1 ∧ p1 ≤ 33554432) (h3 : -33554432 ≤ q0 ∧ q0 ≤ 33554432) (h4 : -33554432 ≤ q1 ∧ q1 ≤ 33554432) :
    Calls Try.prog 52 #[.agg #[.int .i64 Ra, .slice A na ca], .agg #[.int .i64 p0, .int .i64 p1], .agg #[.int .i64 Rb, .slice B nb cb], .agg #[.int .i64 q0, .int .i64 q1]] w fun e w' =>
      e = .returned (.tuple #[.agg #[.int .i64 (cnN Ra va (p0, p1) Rb vb (q0, q1)).1, .int .i64 (cnN Ra va (p0, p1) Rb vb (q0, q1)).2, .int .i64 (cnD Ra va (p0, p1) Rb vb (q0, q1))], .bool (hit Ra va (p0, p1) Rb vb (q0, q1))]) ∧ Below w.heap.size w w' := by
  have hX := fun W hW1 hW2 => rAxes_pol Ra Rb p0 p1 q0 q1 A B na ca nb cb va vb W hW1 hW2 hSa hSb h1 h2 h3 h4
  have hB1 := fun W P => rBounds_any Ra p0 p1 A na ca va W P hSa (by omega) (by omega)
  have hB2 := fun W P => rBounds_any Rb q0 q1 B nb cb vb W P hSb (by omega) (by omega)
  have oa := bb_ord hSa; have ob := bb_ord hSb
  have hO := fun W => rOverlap_any (bx0 Ra va + p0) (by0 Ra va + p1) (bx1 Ra va + p0) (by1 Ra va + p1) (bx0 Rb vb + q0) (by0 Rb vb + q1) (bx1 Rb vb + q0) (by1 Rb vb + q1) W (by omega) (by omega)
  have hov : ovl Ra va (p0, p1) Rb vb (q0, q1) = decide (bx0 Ra va + p0 ≤ bx1 Rb vb + q0 ∧ bx0 Rb vb + q0 ≤ bx1 Ra va + p0 ∧ by0 Ra va + p1 ≤ by1 Rb vb + q1 ∧ by0 Rb vb + q1 ≤ by1 Ra va + p1) := rfl
  rw [← hov] at hO
  clear hov oa ob
  have hpj1 := fun a0 a1 (h : (-1024 ≤ a0 ∧ a0 ≤ 1024) ∧ (-1024 ≤ a1 ∧ a1 ≤ 1024)) => plo_bd (px := p0) (py := p1) (ax := a0) (ay := a1) hSa (by omega) (by omega) (by omega) (by omega)
  have hpj2 := fun a0 a1 (h : (-1024 ≤ a0 ∧ a0 ≤ 1024) ∧ (-1024 ≤ a1 ∧ a1 ≤ 1024)) => plo_bd (px := q0) (py := q1) (ax := a0) (ay := a1) hSb (by omega) (by omega) (by omega) (by omega)
  have hK1 := fun a0 a1 (h : (-1024 ≤ a0 ∧ a0 ≤ 1024) ∧ (-1024 ≤ a1 ∧ a1 ≤ 1024)) W P => rProject_any Ra p0 p1 a0 a1 A na ca va W P hSa (by omega) (by omega) (by omega) (by omega)
  have hK2 := fun a0 a1 (h : (-1024 ≤ a0 ∧ a0 ≤ 1024) ∧ (-1024 ≤ a1 ∧ a1 ≤ 1024)) W P => rProject_any Rb q0 q1 a0 a1 B nb cb vb W P hSb (by omega) (by omega) (by omega) (by omega)
  have hdp : ∀ a0 a1, dep Ra va (p0, p1) Rb vb (q0, q1) (a0, a1) = min (phi Ra va p0 p1 a0 a1) (phi Rb vb q0 q1 a0 a1) - max (plo Ra va p0 p1 a0 a1) (plo Rb vb q0 q1 a0 a1) := fun _ _ => rfl
  have hhi := hit_iff (Ra := Ra) (va := va) (p := (p0, p1)) (Rb := Rb) (vb := vb) (q := (q0, q1))
  have hcn := cn_facts (Ra := Ra) (va := va) (p := (p0, p1)) (Rb := Rb) (vb := vb) (q := (q0, q1))
  have hXb := axl_bd va vb (p0, p1) (q0, q1)
  have hXn := axl_ne va vb (p0, p1) (q0, q1)
  have hXl := axl_len va vb (p0, p1) (q0, q1)
  have hla := hSa.2.1
  have hlb := hSb.2.1
  dsimp only at hcn
  generalize axl va vb (p0, p1) (q0, q1) = X at *
  generalize dep Ra va (p0, p1) Rb vb (q0, q1) = f at *
  generalize ovl Ra va (p0, p1) Rb vb (q0, q1) = ov at *
  generalize hit Ra va (p0, p1) Rb vb (q0, q1) = hh at *
  generalize cnD Ra va (p0, p1) Rb vb (q0, q1) = d1 at *
  generalize cnN Ra va (p0, p1) Rb vb (q0, q1) = mm at *
  obtain ⟨m1, m2⟩ := mm
  dsimp only
  have hl0 := List.length_pos_iff.2 hXn
  have hba := fun n0 n1 d h => BestAt.all (f := f) (X := X) (n0 := n0) (n1 := n1) (d := d) h hXn
  have hbm := (best_spec f hXn).2.1
  generalize hnx : X.length = nx at *
  have hn17 : nx ≤ 17 := by omega
  have HNX := Lib.hid hnx; clear hnx
  have HBA := Lib.hid hba; clear hba
  have HBM := Lib.hid hbm; clear hbm
  have HX := Lib.hid hX; clear hX
  have HB1 := Lib.hid hB1; clear hB1
  have HB2 := Lib.hid hB2; clear hB2
  have HO := Lib.hid hO; clear hO
  have HPJ1 := Lib.hid hpj1; clear hpj1
  have HPJ2 := Lib.hid hpj2; clear hpj2
  have HK1 := Lib.hid hK1; clear hK1
  have HK2 := Lib.hid hK2; clear hK2
  have HDP := Lib.hid hdp; clear hdp
  have HHI := Lib.hid hhi; clear hhi
  have HCN := Lib.hid hcn; clear hcn
  have HXB := Lib.hid hXb; clear hXb
  clear hSa hSb hXn hXl hla hlb
  go_enter Try.func52, Try.ntmps52
  go_wp2_with fail
  refine code_named ?_; intro W1 hW; have dW1 : Below w.heap.size w W1 := (by rw [hW]; exact (by repeat (first | with_reducible exact Below.refl _ _ | with_reducible refine below_alloc ?_ _ | with_reducible refine Below.drew ?_ | with_reducible refine below_set ?_ (by (first | (simp; done) | (simp; omega))) _ | with_reducible refine below_step (by assumption) ?_)))
  have XA : B2 W1 w.heap.size (.int .i64 Ra) (.slice A na ca) := (by rw [hW]; unfold B2 Cel; simp [go_sem])
  have XP : B2 W1 (w.heap.size + 1) (.int .i64 p0) (.int .i64 p1) := (by rw [hW]; unfold B2 Cel; simp [go_sem])
  have XB : B2 W1 (w.heap.size + 2) (.int .i64 Rb) (.slice B nb cb) := (by rw [hW]; unfold B2 Cel; simp [go_sem])
  have XQ : B2 W1 (w.heap.size + 3) (.int .i64 q0) (.int .i64 q1) := (by rw [hW]; unfold B2 Cel; simp [go_sem])
  have XR : B3 W1 (w.heap.size + 4) (.int .i64 0) (.int .i64 0) (.int .i64 0) := (by rw [hW]; unfold B3 Cel; simp [go_sem])
  clear hW
  have PA := hA.below dW1; have PB := hB.below dW1
  have hPA := Lib.hid (fun (d : Nat) (os : Array Obj) => PA.re d os)
  have hPB := Lib.hid (fun (d : Nat) (os : Array Obj) => PB.re d os)
  have KXA := XA.re; have KXP := XP.re; have KXB := XB.re; have KXQ := XQ.re; have KXR := XR.re; refine wp_region_below (by kernel_rfl) (by kernel_rfl) ?_
  repeat (go_big_quiet_step (first
    | (go_at_call 37; first | (with_reducible exact met_below (HB1.out _ (hPA.out _ _))) | (with_reducible exact met_below (HB2.out _ (hPB.out _ _))))
    | (go_at_call 78; exact met_below (HO.out _))))
  refine wpQuiet_nil ?_; intro w2 d2; clear KXA KXP KXB KXQ KXR; replace XA := XA.below d2; (try clear lXA); have lXA := XA.lt; replace XP := XP.below d2; (try clear lXP); have lXP := XP.lt; replace XB := XB.below d2; (try clear lXB); have lXB := XB.lt; replace XQ := XQ.below d2; (try clear lXQ); have lXQ := XQ.lt; replace XR := XR.below d2; (try clear lXR); have lXR := XR.lt
  replace PA := PA.below d2; replace PB := PB.below d2
  have i2 : Below w.heap.size w w2 := dW1.trans (d2.mono dW1.size)
  clear hPA hPB d2 dW1 HB1 HB2 HO
  cases ov with
  | false =>
    have hf : hh = false := by
      cases hh with
      | false => rfl
      | true => have := (HHI.out.1 rfl).1; cases this
    obtain ⟨rfl, hm⟩ := HCN.out.1 hf
    obtain ⟨rfl, rfl⟩ : m1 = 0 ∧ m2 = 0 := by injection hm with a b; exact ⟨a, b⟩
    subst hf
    clear HHI HCN HX HK1 HK2 HPJ1 HPJ2 HDP HBA HBM HXB hm
    go_wp2_with fail
    exact bodyPost_ret (v := .tuple #[.agg #[.int .i64 0, .int .i64 0, .int .i64 0], .bool false]) (by simp [results, Try.results52, go_sem, *]) rfl ⟨rfl, (by repeat (first | with_reducible exact Below.refl _ _ | with_reducible refine below_alloc ?_ _ | with_reducible refine Below.drew ?_ | with_reducible refine below_set ?_ (by (first | (simp; done) | (simp; omega))) _ | with_reducible refine below_step (by assumption) ?_))⟩
  | true =>
    go_wp2_with fail
    have lgc : w.heap.size + 4 < w2.heap.size := XR.lt
    refine calls_at ?_; intro W3 hW; have dW3 : Below w2.heap.size w2 W3 := (by rw [hW]; exact (by repeat (first | with_reducible exact Below.refl _ _ | with_reducible refine below_alloc ?_ _ | with_reducible refine Below.drew ?_ | with_reducible refine below_set ?_ (by (first | (simp; done) | (simp; omega))) _ | with_reducible refine below_step (by assumption) ?_))); replace XA := XA.below dW3; (try clear lXA); have lXA := XA.lt; replace XP := XP.below dW3; (try clear lXP); have lXP := XP.lt; replace XB := XB.below dW3; (try clear lXB); have lXB := XB.lt; replace XQ := XQ.below dW3; (try clear lXQ); have lXQ := XQ.lt; replace XR := XR.below dW3; (try clear lXR); have lXR := XR.lt; replace PA := PA.below dW3; (try clear lPA); have lPA := PA.lt; replace PB := PB.below dW3; (try clear lPB); have lPB := PB.lt
    have XC : B3 W3 w2.heap.size (.int .i64 0) (.int .i64 0) (.int .i64 0) := (by rw [hW]; unfold B3 Cel; simp [go_sem])
    have i3 : Below w.heap.size w W3 := i2.trans (dW3.mono i2.size)
    have lXC := XC.lt
    clear hW dW3 i2
    refine (HX.out _ PA PB).mono ?_
    rintro e w4 ⟨g, cc, rfl, PX, hgx, hb4⟩
    replace XA := XA.below hb4; replace XP := XP.below hb4; replace XB := XB.below hb4; replace XQ := XQ.below hb4; replace XR := XR.below hb4; replace XC := XC.below hb4
    have i4 : Below w.heap.size w w4 := i3.trans (hb4.mono i3.size)
    have ngc : w2.heap.size ≠ g := by omega
    have lwc : w.heap.size ≤ w2.heap.size := by omega
    generalize w2.heap.size = gc at *
    clear hb4 i3 PA PB lPA lPB lXA lXP lXB lXQ lXR lXC
    have hnx0 : ((nx : Int) == 0) = false := by simp; omega
    have hXne : X ≠ [] := fun h => by have := HNX.out; rw [h] at this; simp at this; omega
    go_wp2_with fail
    go_loopg [12] nx (fun gk i wr => ∃ (k : Nat) (n0 n1 bd : Int), gk + k = nx ∧ i = .int .i64 k ∧ BestAt f X k n0 n1 bd ∧ (∀ (z : Nat) v, z < k → X[z]? = some v → 0 < f v) ∧ B3 wr gc (.int .i64 n0) (.int .i64 n1) (.int .i64 bd) ∧ Pol wr (some ⟨g, 0, none⟩) nx cc X ∧
      B2 wr w.heap.size (.int .i64 Ra) (.slice A na ca) ∧ B2 wr (w.heap.size + 1) (.int .i64 p0) (.int .i64 p1) ∧ B2 wr (w.heap.size + 2) (.int .i64 Rb) (.slice B nb cb) ∧ B2 wr (w.heap.size + 3) (.int .i64 q0) (.int .i64 q1) ∧ B3 wr (w.heap.size + 4) (.int .i64 0) (.int .i64 0) (.int .i64 0) ∧ Below w.heap.size w wr)
    case atStart => exact ⟨0, 0, 0, 0, by omega, rfl, .inl ⟨rfl, rfl, rfl, rfl⟩, fun z v hz => by omega, XC, PX, XA, XP, XB, XQ, XR, i4⟩
    case round =>
      clear XA XP XB XQ XR XC PX i4
      obtain ⟨k, n0, n1, bd, hk, rfl, hbst, hpos, YC, PX, YA, YP, YB, YQ, YR, ib⟩ := hrel
      have lYC := YC.lt; have lYA := YA.lt; have lYP := YP.lt; have lYB := YB.lt; have lYQ := YQ.lt; have lYR := YR.lt
      by_cases hlt : k < nx
      · obtain ⟨⟨a0, a1⟩, hv⟩ : ∃ v, X[k]? = some v := ⟨X[k]'(by rw [HNX.out]; exact hlt), List.getElem?_eq_getElem (by rw [HNX.out]; exact hlt)⟩
        have hab := HXB.out _ (List.mem_of_getElem? hv)
        obtain ⟨g', hg', -, -, -, -, hgl, hcl⟩ := PX.at_ hXne
        have hgg : g = g' := by injection hg' with hg'; injection hg'
        subst hgg
        have cx := (hcl k _ hv).1
        have cy := (hcl k _ hv).2
        have kx := cell_regrown cx
        have ky := cell_regrown cy
        dsimp only at kx ky cx cy hab
        have K1 := HK1.out a0 a1 hab
        have K2 := HK2.out a0 a1 hab
        have hd := HDP.out a0 a1
        have pl1 := HPJ1.out a0 a1 hab
        have pl2 := HPJ2.out a0 a1 hab
        have hb1 : (k = 0 ∨ f (a0, a1) < bd) → BestAt f X (k + 1) a0 a1 (f (a0, a1)) := fun h => hbst.one hv h
        have hb2 : ¬ (k = 0 ∨ f (a0, a1) < bd) → BestAt f X (k + 1) n0 n1 bd := fun h => hbst.two hv h
        have hps : 0 < f (a0, a1) → ∀ (z : Nat) v, z < k + 1 → X[z]? = some v → 0 < f v := by
          intro h z v hz hzv
          by_cases hzk : z = k
          · subst hzk
            rw [hv] at hzv
            obtain rfl : (a0, a1) = v := by injection hzv
            exact h
          · exact hpos z v (by omega) hzv
        have hno : ¬ 0 < f (a0, a1) → hh = false := by
          intro h
          cases hh with
          | false => rfl
          | true => exact absurd ((HHI.out.1 rfl).2 _ (List.mem_of_getElem? hv)) h
        generalize f (a0, a1) = dd at *
        generalize plo Ra va p0 p1 a0 a1 = l1 at *
        generalize phi Ra va p0 p1 a0 a1 = r1 at *
        generalize plo Rb vb q0 q1 a0 a1 = l2 at *
        generalize phi Rb vb q0 q1 a0 a1 = r2 at *
        have K1 := Lib.hid K1; have K2 := Lib.hid K2
        have HB1 := Lib.hid hb1; have HB2 := Lib.hid hb2; have HPS := Lib.hid hps; have HNO := Lib.hid hno
        clear hb1 hb2 hps hno hv hbst hpos hcl hg'
        have hk1 : (0 : Int) ≤ (k : Int) := by omega
        have hk2 : (k : Int) < (nx : Int) := by omega
        clear HK1 HK2 HDP HPJ1 HPJ2 HHI HXB HBA HBM HX
        have hPA := Lib.hid (fun (d : Nat) (os : Array Obj) => (hA.below ib).re d os)
        go_wp2_with fail
        have KYA := YA.re; have KYP := YP.re; have KYB := YB.re; have KYQ := YQ.re; have KYC := YC.re; have KYR := YR.re; refine wp_region_below (by kernel_rfl) (by kernel_rfl) ?_
        repeat (go_big_quiet_step ((go_at_call 36; with_reducible exact met_below (K1.out _ (hPA.out _ _)))))
        refine wpQuiet_nil ?_; intro w2 d2; clear KYA KYP KYB KYQ KYC KYR; replace YA := YA.below d2; (try clear lYA); have lYA := YA.lt; replace YP := YP.below d2; (try clear lYP); have lYP := YP.lt; replace YB := YB.below d2; (try clear lYB); have lYB := YB.lt; replace YQ := YQ.below d2; (try clear lYQ); have lYQ := YQ.lt; replace YC := YC.below d2; (try clear lYC); have lYC := YC.lt; replace YR := YR.below d2; (try clear lYR); have lYR := YR.lt
        replace PX := PX.below d2
        have i2 : Below w.heap.size w w2 := ib.trans (d2.mono ib.size)
        have cx2 := (d2.cell (p := ⟨g, k * 2, none⟩) hgl).trans cx
        have cy2 := (d2.cell (p := ⟨g, k * 2 + 1, none⟩) hgl).trans cy
        have kx2 := cell_regrown cx2
        have ky2 := cell_regrown cy2
        have hgl2 := Nat.lt_of_lt_of_le hgl d2.size
        have hPB := Lib.hid (fun (d : Nat) (os : Array Obj) => (hB.below i2).re d os)
        clear kx ky hPA cx cy d2 ib
        go_wp2_with fail
        have KYA := YA.re; have KYP := YP.re; have KYB := YB.re; have KYQ := YQ.re; have KYC := YC.re; have KYR := YR.re; refine wp_region_below (by kernel_rfl) (by kernel_rfl) ?_
        repeat (go_big_quiet_step ((go_at_call 36; with_reducible exact met_below (K2.out _ (hPB.out _ _)))))
        refine wpQuiet_nil ?_; intro w3 d3; clear KYA KYP KYB KYQ KYC KYR; replace YA := YA.below d3; (try clear lYA); have lYA := YA.lt; replace YP := YP.below d3; (try clear lYP); have lYP := YP.lt; replace YB := YB.below d3; (try clear lYB); have lYB := YB.lt; replace YQ := YQ.below d3; (try clear lYQ); have lYQ := YQ.lt; replace YC := YC.below d3; (try clear lYC); have lYC := YC.lt; replace YR := YR.below d3; (try clear lYR); have lYR := YR.lt
        replace PX := PX.below d3
        have i3 : Below w.heap.size w w3 := i2.trans (d3.mono i2.size)
        have cx3 := (d3.cell (p := ⟨g, k * 2, none⟩) hgl2).trans cx2
        have cy3 := (d3.cell (p := ⟨g, k * 2 + 1, none⟩) hgl2).trans cy2
        clear kx2 ky2 hPB K1 K2 cx2 cy2 d3 i2 hA hB
        go_upto_region 10 with fail
        go_cut [17] (fun s17 w' => s17 = .int .i64 dd ∧ w3 = w')
        case first =>
          go_wp2_with fail
          go_meet
          exact ⟨by rw [hd], rfl⟩
        case rest =>
        obtain ⟨rfl, rfl⟩ := hcut
        clear hd pl1 pl2
        have ngc' := Ne.symm ngc
        have n8 : w.heap.size + 4 ≠ gc := by omega
        by_cases hp : dd ≤ 0
        · have hf := HNO.out (by omega)
          obtain ⟨rfl, hm⟩ := HCN.out.1 hf
          obtain ⟨rfl, rfl⟩ : m1 = 0 ∧ m2 = 0 := by injection hm with a b; exact ⟨a, b⟩
          subst hf
          clear HCN HNO HPS HB1 HB2 hm
          go_wp2_with fail
          exact bodyPost_ret (v := .tuple #[.agg #[.int .i64 0, .int .i64 0, .int .i64 0], .bool false]) (by simp [results, Try.results52, go_sem, *]) rfl ⟨rfl, (by repeat (first | with_reducible exact Below.refl _ _ | with_reducible refine below_alloc ?_ _ | with_reducible refine Below.drew ?_ | with_reducible refine below_set ?_ (by (first | (simp; done) | (simp; omega))) _ | with_reducible refine below_step (by assumption) ?_))⟩
        · have hps := HPS.out (by omega)
          have HPS' := Lib.hid hps; clear hps HPS HNO HCN
          by_cases h0 : k = 0
          · have HBB := Lib.hid (HB1.out (.inl h0)); clear HB1 HB2
            subst h0
            simp only [Nat.zero_mul, Nat.zero_add] at cx3 cy3
            go_wp2_with fail
            go_roundg (gk - 1)
            case measure => omega
            case rel => exact ⟨0 + 1, _, _, _, by omega, by go_num, HBB.out, HPS'.out, ((YC.set0 _).set1 _).set2 _, ((PX.far ngc _).far ngc _).far ngc _, ((YA.far (by omega) _).far (by omega) _).far (by omega) _, ((YP.far (by omega) _).far (by omega) _).far (by omega) _, ((YB.far (by omega) _).far (by omega) _).far (by omega) _, ((YQ.far (by omega) _).far (by omega) _).far (by omega) _, ((YR.far (by omega) _).far (by omega) _).far (by omega) _, (by repeat (first | with_reducible exact Below.refl _ _ | with_reducible refine below_alloc ?_ _ | with_reducible refine Below.drew ?_ | with_reducible refine below_set ?_ (by (first | (simp; done) | (simp; omega))) _ | with_reducible refine below_step (by assumption) ?_))⟩
          · have h0' : ((k : Int) == 0) = false := by simp; omega
            by_cases h2 : dd < bd
            · have HBB := Lib.hid (HB1.out (.inr h2)); clear HB1 HB2
              go_wp2_with fail
              go_roundg (gk - 1)
              case measure => omega
              case rel => exact ⟨k + 1, _, _, _, by omega, by go_num, HBB.out, HPS'.out, ((YC.set0 _).set1 _).set2 _, ((PX.far ngc _).far ngc _).far ngc _, ((YA.far (by omega) _).far (by omega) _).far (by omega) _, ((YP.far (by omega) _).far (by omega) _).far (by omega) _, ((YB.far (by omega) _).far (by omega) _).far (by omega) _, ((YQ.far (by omega) _).far (by omega) _).far (by omega) _, ((YR.far (by omega) _).far (by omega) _).far (by omega) _, (by repeat (first | with_reducible exact Below.refl _ _ | with_reducible refine below_alloc ?_ _ | with_reducible refine Below.drew ?_ | with_reducible refine below_set ?_ (by (first | (simp; done) | (simp; omega))) _ | with_reducible refine below_step (by assumption) ?_))⟩
            · have HBB := Lib.hid (HB2.out (by omega)); clear HB1 HB2
              go_wp2_with fail
              go_roundg (gk - 1)
              case measure => omega
              case rel => exact ⟨k + 1, n0, n1, bd, by omega, by go_num, HBB.out, HPS'.out, YC, PX, YA, YP, YB, YQ, YR, i3⟩
      · obtain rfl : k = nx := by omega
        have hlen := HNX.out
        have hbest := HBA.out n0 n1 bd hbst
        have hh' : hh = true := HHI.out.2 ⟨by trivial, fun x hx => by
          obtain ⟨z, hz⟩ := List.mem_iff_getElem?.1 hx
          exact hpos z x (by have := (List.getElem?_eq_some_iff.1 hz).1; omega) hz⟩
        obtain ⟨e1, e2⟩ := HCN.out.2 hh'
        have hab := HXB.out _ HBM.out
        rw [hbest] at e1 e2 hab
        dsimp only at e1 e2 hab
        subst hh' e1
        have HSU := Lib.hid (fun W => rSub_any q0 q1 p0 p1 W (by omega) (by omega) (by omega) (by omega))
        have sq0 := mul_bd (a := q0 - p0) (b := n0) (A := 67108864) (B := 1024) (by omega) (by omega)
        have sq1 := mul_bd (a := q1 - p1) (b := n1) (A := 67108864) (B := 1024) (by omega) (by omega)
        have HDT := Lib.hid (fun W => rDot_any (q0 - p0) (q1 - p1) n0 n1 W (by omega) (by omega) (by omega) (by omega))
        generalize dotz (q0 - p0) (q1 - p1) n0 n1 = dt at *
        have ngc' := Ne.symm ngc
        have n8 : w.heap.size + 4 ≠ gc := by omega
        have n8' := Ne.symm n8
        have HE2 := Lib.hid e2
        clear HK1 HK2 HDP HPJ1 HPJ2 HHI HXB HBA HBM HX HCN hbst hpos hbest e2 PX sq0 sq1 hA hB
        by_cases hdt : dt < 0
        · go_wp2_with fail
          have KYA := YA.re; have KYP := YP.re; have KYB := YB.re; have KYQ := YQ.re; have KYC := YC.re; have KYR := YR.re; refine wp_region_below (by kernel_rfl) (by kernel_rfl) ?_
          repeat (go_big_quiet_step (first
            | (go_at_call 68; exact met_below (HSU.out _))
            | (go_at_call 67; exact met_below (HDT.out _))))
          refine wpQuiet_nil ?_; intro w2 d2; clear KYA KYP KYB KYQ KYC KYR; replace YA := YA.below d2; (try clear lYA); have lYA := YA.lt; replace YP := YP.below d2; (try clear lYP); have lYP := YP.lt; replace YB := YB.below d2; (try clear lYB); have lYB := YB.lt; replace YQ := YQ.below d2; (try clear lYQ); have lYQ := YQ.lt; replace YC := YC.below d2; (try clear lYC); have lYC := YC.lt; replace YR := YR.below d2; (try clear lYR); have lYR := YR.lt
          have i2 : Below w.heap.size w w2 := ib.trans (d2.mono ib.size)
          go_wp2_with fail
          refine (rNeg_any n0 n1 _ (by omega) (by omega) (by omega) (by omega)).mono ?_
          rintro e w3 ⟨rfl, hb3⟩; have d3 : Below w2.heap.size w2 w3 := below_step hb3 (by repeat (first | with_reducible exact Below.refl _ _ | with_reducible refine below_alloc ?_ _ | with_reducible refine Below.drew ?_ | with_reducible refine below_set ?_ (by (first | (simp; done) | (simp; omega))) _ | with_reducible refine below_step (by assumption) ?_)); have z3 := hb3.size; (try simp at z3); replace YR := YR.below d3; (try clear lYR); have lYR := YR.lt; replace YC := YC.below d3; (try clear lYC); have lYC := YC.lt
          have i3 : Below w.heap.size w w3 := i2.trans (d3.mono i2.size)
          go_wp2_with fail
          have hm : (m1, m2) = (-n0, -n1) := by rw [HE2.out, if_pos hdt]
          obtain ⟨rfl, rfl⟩ : m1 = -n0 ∧ m2 = -n1 := by injection hm with a b; exact ⟨a, b⟩
          exact bodyPost_ret (v := .tuple #[.agg #[.int .i64 (-n0), .int .i64 (-n1), .int .i64 d1], .bool true]) (by simp [results, Try.results52, go_sem, *]) rfl ⟨rfl, (by repeat (first | with_reducible exact Below.refl _ _ | with_reducible refine below_alloc ?_ _ | with_reducible refine Below.drew ?_ | with_reducible refine below_set ?_ (by (first | (simp; done) | (simp; omega))) _ | with_reducible refine below_step (by assumption) ?_))⟩
        · go_wp2_with fail
          have KYA := YA.re; have KYP := YP.re; have KYB := YB.re; have KYQ := YQ.re; have KYC := YC.re; have KYR := YR.re; refine wp_region_below (by kernel_rfl) (by kernel_rfl) ?_
          repeat (go_big_quiet_step (first
            | (go_at_call 68; exact met_below (HSU.out _))
            | (go_at_call 67; exact met_below (HDT.out _))))
          refine wpQuiet_nil ?_; intro w2 d2; clear KYA KYP KYB KYQ KYC KYR; replace YA := YA.below d2; (try clear lYA); have lYA := YA.lt; replace YP := YP.below d2; (try clear lYP); have lYP := YP.lt; replace YB := YB.below d2; (try clear lYB); have lYB := YB.lt; replace YQ := YQ.below d2; (try clear lYQ); have lYQ := YQ.lt; replace YC := YC.below d2; (try clear lYC); have lYC := YC.lt; replace YR := YR.below d2; (try clear lYR); have lYR := YR.lt
          have i2 : Below w.heap.size w w2 := ib.trans (d2.mono ib.size)
          go_wp2_with fail
          have hm : (m1, m2) = (n0, n1) := by rw [HE2.out, if_neg (by omega)]
          obtain ⟨rfl, rfl⟩ : m1 = n0 ∧ m2 = n1 := by injection hm with a b; exact ⟨a, b⟩
          exact bodyPost_ret (v := .tuple #[.agg #[.int .i64 m1, .int .i64 m2, .int .i64 d1], .bool true]) (by simp [results, Try.results52, go_sem, *]) rfl ⟨rfl, (by repeat (first | with_reducible exact Below.refl _ _ | with_reducible refine below_alloc ?_ _ | with_reducible refine Below.drew ?_ | with_reducible refine below_set ?_ (by (first | (simp; done) | (simp; omega))) _ | with_reducible refine below_step (by assumption) ?_))⟩
end Go.Proofs.Ytipcppbbpmdijaa
