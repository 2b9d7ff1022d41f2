/-
  What Collide of package collide returns. Conditions: the numbers' bounds and the vertices in memory, as the theorem states.
-/
import Derived.Test.YtipcppbbpmdijaaAxi
namespace Go.Proofs.Ytipcppbbpmdijaa
open Go.RowKit Go.Sort Go.Shelf
attribute [local go_sem] Oper.semAt_some
attribute [local go_sem ↓] Go.wp_at_zero Go.wp_at_succ

theorem ownFrom_belowX {β : Type} {c n₀ m : Nat} {W0 : World} (hm : n₀ ≤ m) (h0 : n₀ ≤ W0.heap.size) : OwnFrom m (fun (_ : β) W => BelowX c n₀ W0 W) := fun _ _ _ _ h hg hr =>
  h.trans (BelowX.grown hg (fun k e => .inr (Nat.le_trans hm (hr k e).1)) (Nat.le_trans h0 h.size))
theorem bk_own {β : Type} (B : Nat) (t : TypeId) (f : β → Array Value) : Own (fun s W => Bk W B t (f s)) := by
  intro s X Y row hv hg hrow
  refine hv.kept hg (fun e' => ?_)
  obtain ⟨o, ho, hc⟩ := hrow B e'.symm
  rw [show X.heap[B]? = _ from hv] at ho; cases ho; cases hc
theorem Bk.new' {w : World} {g : Nat} {t : TypeId} {cs : Array Value} (h : g = w.heap.size) : Bk (w.alloc (.cells cs t)) g t cs := by subst h; exact Bk.new _ _ _
abbrev conA (c : V2 × Int) : Array Value := #[.int .i64 c.1.1, .int .i64 c.1.2, .int .i64 c.2]

set_option maxRecDepth 100000 in
set_option maxHeartbeats 4000000 in
theorem Collide_any (Ra Rb p0 p1 q0 q1 : Int) (A B : Option Addr) (na ca nb cb : Nat) (va vb : List V2) (w : World) (hA : Pol w A na ca va) (hB : Pol w B nb cb vb) (hSa : SN Ra va) (hSb : SN Rb vb)
    (h1 : -33554432 ≤ p0 ∧ p0 ≤ 33554432) (h2 : -33554432 ≤ p1 ∧ p1 ≤ 33554432) (h3 : -33554432 ≤ q0 ∧ q0 ≤ 33554432) (h4 : -33554432 ≤ q1 ∧ q1 ≤ 33554432) :
    Calls Try.prog 46 #[.agg #[.int .i64 Ra, .slice A na ca], .agg #[.int .i64 p0, .int .i64 p1], .agg #[.int .i64 Rb, .slice B nb cb], .agg #[.int .i64 q0, .int .i64 q1]] w fun e w' =>
      e = .returned (.tuple #[.agg #[.int .i64 (cnN Ra va (p0, p1) Rb vb (q0, q1)).1, .int .i64 (cnN Ra va (p0, p1) Rb vb (q0, q1)).2, .int .i64 (cnD Ra va (p0, p1) Rb vb (q0, q1))], .bool (hit Ra va (p0, p1) Rb vb (q0, q1))]) ∧ Below w.heap.size w w' := by
  have HX1 := Lib.hid (fun W P => Bounds_any Ra p0 p1 A na ca va W P hSa (by omega) (by omega))
  have HX2 := Lib.hid (fun W P => Bounds_any Rb q0 q1 B nb cb vb W P hSb (by omega) (by omega))
  have HD := Lib.hid (fun a0 a1 W PA PB => depth_any Ra Rb p0 p1 q0 q1 a0 a1 A B na ca nb cb va vb W PA PB hSa hSb h1 h2 h3 h4)
  have hov : ovl Ra va (p0, p1) Rb vb (q0, q1) = decide (bx0 Ra va + p0 ≤ bx1 Rb vb + q0 ∧ bx0 Rb vb + q0 ≤ bx1 Ra va + p0 ∧ by0 Ra va + p1 ≤ by1 Rb vb + q1 ∧ by0 Rb vb + q1 ≤ by1 Ra va + p1) := rfl
  have hO := fun W => Overlap_any (bx0 Ra va + p0) (by0 Ra va + p1) (bx1 Ra va + p0) (by1 Ra va + p1) (bx0 Rb vb + q0) (by0 Rb vb + q1) (bx1 Rb vb + q0) (by1 Rb vb + q1) W
  rw [← hov] at hO
  clear hov
  have HO := Lib.hid hO; clear hO
  have HPA := Lib.hid hA; clear hA
  have HPB := Lib.hid hB; clear hB
  by_cases hov : ovl Ra va (p0, p1) Rb vb (q0, q1) = true
  · rw [hov] at HO
    refine (callsIn_wide (n := 4)).1 ?_
    refine callsIn_of_wp_marks Try.func46 rfl trivial ?_ rfl
    simp only [Try.ntmps46, List.size_toArray, List.length_cons, List.length_nil, Nat.reduceAdd, Nat.reduceSub, Array.replicate_succ, Array.replicate_zero, List.push_toArray, List.append_toArray, List.nil_append, List.cons_append]
    refine wpIn_wide.2 ?_
    go_wp2_with fail
    refine code_named ?_; intro W1 hW; have dW1 : Below w.heap.size w W1 := (by rw [hW]; exact (by repeat (first | with_reducible exact Below.refl _ _ | with_reducible refine below_alloc ?_ _ | with_reducible refine Below.drew ?_ | with_reducible refine below_set ?_ (by (first | (simp; done) | (simp; omega))) _ | with_reducible refine below_step (by assumption) ?_)))
    have XA : B2 W1 w.heap.size (.int .i64 Ra) (.slice A na ca) := (by rw [hW]; unfold B2 Cel; simp [go_sem])
    have XP : B2 W1 (w.heap.size + 1) (.int .i64 p0) (.int .i64 p1) := (by rw [hW]; unfold B2 Cel; simp [go_sem])
    have XB : B2 W1 (w.heap.size + 1 + 1) (.int .i64 Rb) (.slice B nb cb) := (by rw [hW]; unfold B2 Cel; simp [go_sem])
    have XQ : B2 W1 (w.heap.size + 1 + 1 + 1) (.int .i64 q0) (.int .i64 q1) := (by rw [hW]; unfold B2 Cel; simp [go_sem])
    have X8 : Bk W1 (w.heap.size + 1 + 1 + 1 + 1) 55 (conA ((0, 0), 0)) := by rw [hW]; exact Bk.alloc (Bk.new' (by simp)) _
    have X9 : Bk W1 (w.heap.size + 1 + 1 + 1 + 1 + 1) 4 #[.bool false] := by rw [hW]; exact Bk.new' (by simp)
    clear hW
    have PA := HPA.out.below dW1
    have PB := HPB.out.below dW1
    have hPC := Lib.hid (fun (d : Nat) (os : Array Obj) => PA.re d os)
    have hQC := Lib.hid (fun (d : Nat) (os : Array Obj) => PB.re d os)
    have KXA := XA.re; have KXP := XP.re; have KXB := XB.re; have KXQ := XQ.re; refine wp_region_below (by kernel_rfl) (by kernel_rfl) ?_
    repeat (go_big_quiet_step (first
      | (go_at_call 32; first | (with_reducible exact met_below (HX1.out _ (hPC.out _ _))) | (with_reducible exact met_below (HX2.out _ (hQC.out _ _))))
      | (go_at_call 53; exact met_below (HO.out _))))
    refine wpQuiet_nil ?_; intro w2 d2; clear KXA KXP KXB KXQ; replace XA := XA.below d2; (try clear lXA); have lXA := XA.lt; replace XP := XP.below d2; (try clear lXP); have lXP := XP.lt; replace XB := XB.below d2; (try clear lXB); have lXB := XB.lt; replace XQ := XQ.below d2; (try clear lXQ); have lXQ := XQ.lt
    replace X8 := X8.below d2; replace X9 := X9.below d2
    have e22 := X9.lt
    replace PA := PA.below d2; replace PB := PB.below d2
    have i2 : Below w.heap.size w w2 := (by repeat (first | with_reducible exact Below.refl _ _ | with_reducible refine below_alloc ?_ _ | with_reducible refine Below.drew ?_ | with_reducible refine below_set ?_ (by (first | (simp; done) | (simp; omega))) _ | with_reducible refine below_step (by assumption) ?_))
    clear hPC hQC d2 dW1
    go_wp2_with fail
    refine calls_at ?_; intro W3 hW; have dW3 : Below w2.heap.size w2 W3 := (by rw [hW]; exact (by repeat (first | with_reducible exact Below.refl _ _ | with_reducible refine below_alloc ?_ _ | with_reducible refine Below.drew ?_ | with_reducible refine below_set ?_ (by (first | (simp; done) | (simp; omega))) _ | with_reducible refine below_step (by assumption) ?_))); replace PA := PA.below dW3; (try clear lPA); have lPA := PA.lt; replace PB := PB.below dW3; (try clear lPB); have lPB := PB.lt; replace XA := XA.below dW3; (try clear lXA); have lXA := XA.lt; replace XP := XP.below dW3; (try clear lXP); have lXP := XP.lt; replace XB := XB.below dW3; (try clear lXB); have lXB := XB.lt; replace XQ := XQ.below dW3; (try clear lXQ); have lXQ := XQ.lt
    have XC : Bk W3 w2.heap.size 55 (conA ((0, 0), 0)) := by rw [hW]; exact Bk.new' (by simp)
    clear hW
    replace X8 := X8.below dW3; replace X9 := X9.below dW3
    have i3 : Below w.heap.size w W3 := (by repeat (first | with_reducible exact Below.refl _ _ | with_reducible refine below_alloc ?_ _ | with_reducible refine Below.drew ?_ | with_reducible refine below_set ?_ (by (first | (simp; done) | (simp; omega))) _ | with_reducible refine below_step (by assumption) ?_))
    refine (axes_any Ra Rb p0 p1 q0 q1 A B na ca nb cb _).mono ?_
    rintro e W0 ⟨rfl, d0, YA, YP, YB, YQ⟩
    go_wp2_with fail
    have e0 := d0.size
    have e3 : w2.heap.size < W3.heap.size := XC.lt
    have e2 := i2.size
    have XA0 := XA.below d0; have XP0 := XP.below d0; have XB0 := XB.below d0; have XQ0 := XQ.below d0
    have PA0 := PA.below d0; have PB0 := PB.below d0
    replace X8 := X8.below d0; replace X9 := X9.below d0; replace XC := XC.below d0
    have i0 : Below w.heap.size w W0 := i3.trans (d0.mono i3.size)
    have l8 := X8.lt; have l9 := X9.lt
    have y3 := YQ.lt
    have hPAb : ∀ a, A = some a → a.block < W0.heap.size ∧ a.block ≠ w2.heap.size := fun a h => by
      obtain ⟨_, _, _, h4, h5⟩ := HPA.out
      by_cases hn : na = 0
      · rw [(h4 hn).1] at h; cases h
      · obtain ⟨b, hb, hlt, _⟩ := h5 (by omega); rw [hb] at h; cases h; dsimp only; omega
    have hPBb : ∀ a, B = some a → a.block < W0.heap.size ∧ a.block ≠ w2.heap.size := fun a h => by
      obtain ⟨_, _, _, h4, h5⟩ := HPB.out
      by_cases hn : nb = 0
      · rw [(h4 hn).1] at h; cases h
      · obtain ⟨b, hb, hlt, _⟩ := h5 (by omega); rw [hb] at h; cases h; dsimp only; omega
    have hHold : ∀ W', BelowX w2.heap.size W0.heap.size W0 W' → AxHold W0.heap.size W' W3.heap.size (W3.heap.size + 2) (W3.heap.size + 1) (W3.heap.size + 3) Ra Rb p0 p1 q0 q1 A B na ca nb cb va vb := fun W' h =>
      ⟨h.two YA (by omega) (by omega), h.two YB (by omega) (by omega), h.two YP (by omega) (by omega), h.two YQ y3 (by omega), h.pol PA0 hPAb, h.pol PB0 hPBb⟩
    have HPAB := Lib.hid hPAb; clear hPAb
    have HPBB := Lib.hid hPBb; clear hPBb
    have HHOLD := Lib.hid hHold; clear hHold
    clear YA YB YP YQ XA XP XB XQ PA PB d0 dW3 lXA lXP lXB lXQ lPA lPB
    have lA0 := XA0.lt; have lP0 := XP0.lt; have lB0 := XB0.lt; have lQ0 := XQ0.lt
    refine (wpIn_wide (n := 4)).1 ?_
    refine wpIn_rangeFunc_ownH rfl (by omega) (gf := 90) (lb := #[.pointer (some ⟨W3.heap.size, 0, none⟩), .pointer (some ⟨W3.heap.size + 2, 0, none⟩), .pointer (some ⟨W3.heap.size + 1, 0, none⟩), .pointer (some ⟨W3.heap.size + 3, 0, none⟩)]) rfl trivial (enters_of Try.func90 (by kernel_rfl) rfl)
      (axes_stops 3 w2.heap.size W3.heap.size (W3.heap.size + 2) (W3.heap.size + 1) (W3.heap.size + 3) W0.heap.size Ra Rb p0 p1 q0 q1 A B na ca nb cb va vb hSa hSb h1 h2 h3 h4 W0 (Nat.le_refl _) HHOLD.out) Kp.trans (Kp.put (Nat.le_refl _)) (Below.refl _ _) (fun _ => rfl)
      (fun pre W => (∀ x ∈ pre, 0 < dep Ra va (p0, p1) Rb vb (q0, q1) x.1) ∧ Bk W w2.heap.size 55 (conA (best (dep Ra va (p0, p1) Rb vb (q0, q1)) (pre.map (·.1)))) ∧ BelowX w2.heap.size W0.heap.size W0 W)
      (fun c pre W => (c = .ret ∧ ∃ x ∈ pre, dep Ra va (p0, p1) Rb vb (q0, q1) x.1 ≤ 0) ∧ Bk W (w.heap.size + 1 + 1 + 1 + 1) 55 (conA ((0, 0), 0)) ∧ Bk W (w.heap.size + 1 + 1 + 1 + 1 + 1) 4 #[.bool false] ∧ Below w.heap.size w W)
      (OwnFrom.and (ownFrom_pure _ _) (OwnFrom.and (Own.from (bk_own _ _ _) _) (ownFrom_belowX (Nat.le_refl _) (Nat.le_refl _))))
      (fun c => OwnFrom.and (ownFrom_pure _ _) (OwnFrom.and (Own.from (bk_own _ _ (fun _ => _)) _) (OwnFrom.and (Own.from (bk_own _ _ (fun _ => _)) _) (ownFrom_below (Nat.le_refl _) i0.size))))
      ⟨by simp, XC, BelowX.refl _ _ _⟩
      (fun x a' W => ∃ Bx : Nat, W0.heap.size ≤ Bx ∧ W.cell? ⟨Bx, 0, none⟩ = some (.int .i64 x.1.1) ∧ W.cell? ⟨Bx, 1, none⟩ = some (.int .i64 x.1.2) ∧
        a' = { tmps := #[.agg #[.int .i64 Ra, .slice A na ca], .agg #[.int .i64 p0, .int .i64 p1], .agg #[.int .i64 Rb, .slice B nb cb], .agg #[.int .i64 q0, .int .i64 q1], .pointer (some ⟨w.heap.size, 0, none⟩), .pointer (some ⟨w.heap.size + 1, 0, none⟩), .pointer (some ⟨w.heap.size + 1 + 1, 0, none⟩), .pointer (some ⟨w.heap.size + 1 + 1 + 1, 0, none⟩), .pointer (some ⟨w.heap.size + 1 + 1 + 1 + 1, 0, none⟩), .pointer (some ⟨w.heap.size + 1 + 1 + 1 + 1 + 1, 0, none⟩), .pointer (some ⟨w2.heap.size, 0, none⟩), .pointer (some ⟨Bx, 0, none⟩), undef, .agg #[.int .i64 Ra, .slice A na ca], .agg #[.int .i64 p0, .int .i64 p1], .agg #[.int .i64 (bx0 Ra va + p0), .int .i64 (by0 Ra va + p1), .int .i64 (bx1 Ra va + p0), .int .i64 (by1 Ra va + p1)], .agg #[.int .i64 Rb, .slice B nb cb], .agg #[.int .i64 q0, .int .i64 q1], .agg #[.int .i64 (bx0 Rb vb + q0), .int .i64 (by0 Rb vb + q1), .int .i64 (bx1 Rb vb + q0), .int .i64 (by1 Rb vb + q1)], .bool true, .bool false, undef, .agg #[.int .i64 Ra, .slice A na ca], .agg #[.int .i64 p0, .int .i64 p1], .agg #[.int .i64 Rb, .slice B nb cb], .agg #[.int .i64 q0, .int .i64 q1], .func (.func 90) #[] #[.pointer (some ⟨W3.heap.size, 0, none⟩), .pointer (some ⟨W3.heap.size + 2, 0, none⟩), .pointer (some ⟨W3.heap.size + 1, 0, none⟩), .pointer (some ⟨W3.heap.size + 3, 0, none⟩)], .agg #[.int .i64 x.1.1, .int .i64 x.1.2], undef, undef, undef, undef, undef, undef, undef, undef, undef, undef, undef, undef, undef, undef, undef, undef, undef, undef, undef, undef, undef, undef, undef, undef, undef, undef, undef, undef, undef, undef, undef, undef, undef], defers := [] })
      (fun x a' => Own.from (fun s A B row hs hg hr => by obtain ⟨Bx, k1, k2, k3, k6⟩ := hs; exact ⟨Bx, k1, cell_kept k2 hg hr, cell_kept k3 hg hr, k6⟩) _) ?assign ?body ?done ?stop
    case assign =>
      rintro l pre x W K ⟨hp, hc, hb⟩ hK
      unfold encA
      gi_wp2
      exact hK _ _ ((KeepsOthers.alloc _ _).from _) (Kp.of_below (below_alloc (Below.refl _ _) _) hb.size) ⟨hp, hc.alloc _, hb.trans (BelowX.of (below_alloc (Below.refl _ _) _) hb.size)⟩ ⟨W.heap.size, hb.size, by simp [go_sem], by simp [go_sem], rfl⟩
    case body =>
      rintro l pre ⟨⟨x0, x1⟩, hx0, hx1⟩ a' W hl _ ⟨hp, XC', hb⟩ ⟨Bx, hBx, c0, c1, rfl⟩ hlt
      dsimp only at hx0 hx1 c0 c1
      have HP := Lib.hid hp
      have ZA := hb.two XA0 lA0 (by omega)
      have ZP := hb.two XP0 lP0 (by omega)
      have ZB := hb.two XB0 lB0 (by omega)
      have ZQ := hb.two XQ0 lQ0 (by omega)
      have QA := hb.pol PA0 HPAB.out
      have QB := hb.pol PB0 HPBB.out
      have Z8 : Bk W (w.heap.size + 1 + 1 + 1 + 1) 55 (conA ((0, 0), 0)) := (hb.block _ l8 (by omega)).trans X8
      have Z9 : Bk W (w.heap.size + 1 + 1 + 1 + 1 + 1) 4 #[.bool false] := (hb.block _ l9 (by omega)).trans X9
      have lBx := World.block_lt_of_cell? W _ c0
      have lC := XC'.lt
      have hbs := hb.size
      have hdd := HD.out x0 x1 W QA QB hx0 hx1
      have hmx : (Try.prog).follows .mixedOrders = true := by kernel_rfl
      have h1' : 1 ≤ 4 - 1 - 1 := by omega
      dsimp only at lBx
      generalize hdv : dep Ra va (p0, p1) Rb vb (q0, q1) (x0, x1) = d at *
      have HDD := Lib.hid hdd; clear hdd
      have HDV := Lib.hid hdv; clear hdv
      gi_wp2
      refine ⟨trivial, ?_⟩
      refine (CallsIn.inRound l (callsIn_wide.2 HDD.out)).mono ?_
      rintro e w5 ⟨rfl, hb5⟩
      have Y8 := Z8.below hb5
      have Y9 := Z9.below hb5
      have YC := XC'.below hb5
      have V8 : B3 w5 (w.heap.size + 1 + 1 + 1 + 1) (.int .i64 0) (.int .i64 0) (.int .i64 0) := ⟨⟨Y8.cell 0, Y8.frozen 0⟩, ⟨Y8.cell 1, Y8.frozen 1⟩, ⟨Y8.cell 2, Y8.frozen 2⟩⟩
      have V9 : B1 w5 (w.heap.size + 1 + 1 + 1 + 1 + 1) (.bool false) := ⟨Y9.cell 0, Y9.frozen 0⟩
      have c0' := keep_cell hb5 c0
      have c1' := keep_cell hb5 c1
      clear HDD ZA ZP ZB ZQ QA QB Z8 Z9 XC' c0 c1 hp
      by_cases hd : d ≤ 0
      · have HDL := Lib.hid hd
        gi_wp2
        refine ⟨(((((keepsOthers_of_below hb5).trans (KeepsOthers.setCell _ _ _)).trans (KeepsOthers.setCell _ _ _)).trans (KeepsOthers.setCell _ _ _)).trans (KeepsOthers.setCell _ _ _)).from _, ⟨rfl, _, List.mem_append_right _ List.mem_cons_self, by rw [HDV.out]; exact HDL.out⟩, ?_, ?_, ?_⟩
        · exact Bk.far (((Y8.set_ 0 _).set_ 1 _).set_ 2 _) (by omega) _
        · exact Bk.set_ (Bk.far (Bk.far (Bk.far Y9 (by omega) _) (by omega) _) (by omega) _) 0 _
        · have i5 : Below w.heap.size w w5 := i0.trans ((hb.down (m := w.heap.size) i0.size (by omega)).trans (hb5.mono (by omega)))
          exact (by repeat (first | with_reducible exact Below.refl _ _ | with_reducible refine below_alloc ?_ _ | with_reducible refine Below.drew ?_ | with_reducible refine below_set ?_ (by (first | (simp; done) | (simp; omega))) _ | with_reducible refine below_step (by assumption) ?_))
      · have hpp : ∀ y ∈ pre ++ [⟨(x0, x1), hx0, hx1⟩], 0 < dep Ra va (p0, p1) Rb vb (q0, q1) (y : AX).1 := fun y hy => (List.mem_append.1 hy).elim (HP.out y) (fun e => by rw [List.mem_singleton.1 e]; dsimp only; rw [HDV.out]; omega)
        have HPP := Lib.hid hpp; clear hpp
        have hd' : 0 < d := by omega
        by_cases he : pre = []
        · subst he
          have VC : B3 w5 w2.heap.size (.int .i64 0) (.int .i64 0) (.int .i64 0) := ⟨⟨YC.cell 0, YC.frozen 0⟩, ⟨YC.cell 1, YC.frozen 1⟩, ⟨YC.cell 2, YC.frozen 2⟩⟩
          have Y5 := (YC.set_ 0 (.int .i64 x0)).set_ 1 (.int .i64 x1)
          have Y6 := Y5.set_ 2 (.int .i64 d)
          gi_wp2
          refine ⟨(((((keepsOthers_of_below hb5).trans (KeepsOthers.setCell _ _ _)).trans (KeepsOthers.setCell _ _ _)).trans (KeepsOthers.setCell _ _ _)).from _), ⟨(((BelowX.of hb5 hbs).trans (BelowX.set _ _ _ (.inl rfl))).trans (BelowX.set _ _ _ (.inl rfl))).trans (BelowX.set _ _ _ (.inl rfl)), (((KeepT.of_below hb5).trans (KeepT.set _ YC (by decide) _ _)).trans (KeepT.set _ (YC.set_ 0 _) (by decide) _ _)).trans (KeepT.set _ ((YC.set_ 0 _).set_ 1 _) (by decide) _ _)⟩, HPP.out, ?_, (((hb.trans (BelowX.of hb5 hbs)).trans (BelowX.set _ _ _ (.inl rfl))).trans (BelowX.set _ _ _ (.inl rfl))).trans (BelowX.set _ _ _ (.inl rfl))⟩
          rw [List.map_append]
          show Bk _ _ _ (conA (best (dep Ra va (p0, p1) Rb vb (q0, q1)) ([] ++ [(x0, x1)])))
          rw [best_one _ rfl, HDV.out]
          exact Y6
        · have hne : pre.map (·.1) ≠ [] := fun h => he (List.map_eq_nil_iff.1 h)
          obtain ⟨-, s2, s3⟩ := best_spec (dep Ra va (p0, p1) Rb vb (q0, q1)) hne
          have hE := best_snoc (dep Ra va (p0, p1) Rb vb (q0, q1)) hne (x0, x1)
          have hpos : 0 < (best (dep Ra va (p0, p1) Rb vb (q0, q1)) (pre.map (·.1))).2 := by
            obtain ⟨y, hy, ey⟩ := List.mem_map.1 s2
            rw [← s3, ← ey]
            exact HP.out y hy
          rw [HDV.out] at hE
          generalize best (dep Ra va (p0, p1) Rb vb (q0, q1)) (pre.map (·.1)) = bs at *
          obtain ⟨⟨b0, b1⟩, bd⟩ := bs
          have HE := Lib.hid hE; clear hE
          have VC : B3 w5 w2.heap.size (.int .i64 b0) (.int .i64 b1) (.int .i64 bd) := ⟨⟨YC.cell 0, YC.frozen 0⟩, ⟨YC.cell 1, YC.frozen 1⟩, ⟨YC.cell 2, YC.frozen 2⟩⟩
          dsimp only at hpos
          have hb0 : (bd == 0) = false := by simp; omega
          clear s2 s3 hne he
          by_cases hlt2 : d < bd
          · have HLT := Lib.hid hlt2
            have Y5 := (YC.set_ 0 (.int .i64 x0)).set_ 1 (.int .i64 x1)
            have Y6 := Y5.set_ 2 (.int .i64 d)
            gi_wp2
            refine ⟨(((((keepsOthers_of_below hb5).trans (KeepsOthers.setCell _ _ _)).trans (KeepsOthers.setCell _ _ _)).trans (KeepsOthers.setCell _ _ _)).from _), ⟨(((BelowX.of hb5 hbs).trans (BelowX.set _ _ _ (.inl rfl))).trans (BelowX.set _ _ _ (.inl rfl))).trans (BelowX.set _ _ _ (.inl rfl)), (((KeepT.of_below hb5).trans (KeepT.set _ YC (by decide) _ _)).trans (KeepT.set _ (YC.set_ 0 _) (by decide) _ _)).trans (KeepT.set _ ((YC.set_ 0 _).set_ 1 _) (by decide) _ _)⟩, HPP.out, ?_, (((hb.trans (BelowX.of hb5 hbs)).trans (BelowX.set _ _ _ (.inl rfl))).trans (BelowX.set _ _ _ (.inl rfl))).trans (BelowX.set _ _ _ (.inl rfl))⟩
            rw [List.map_append]
            show Bk _ _ _ (conA (best _ (pre.map (·.1) ++ [(x0, x1)])))
            rw [HE.out, if_pos HLT.out]
            exact Y6
          · have HLT := Lib.hid (show ¬ d < (((b0, b1), bd) : V2 × Int).2 from hlt2)
            gi_wp2
            refine ⟨(keepsOthers_of_below hb5).from _, Kp.of_below hb5 hbs, HPP.out, ?_, hb.trans (BelowX.of hb5 hbs)⟩
            rw [List.map_append]
            show Bk _ _ _ (conA (best _ (pre.map (·.1) ++ [(x0, x1)])))
            rw [HE.out, if_neg (show ¬ d < (((b0, b1), bd) : V2 × Int).2 from Int.not_lt.2 HLT.out)]
            exact YC
    case done =>
      rintro Dn ys W hDn rfl ⟨hall, XC', hb⟩ hK
      rw [axL_val] at XC'
      have hhit : hit Ra va (p0, p1) Rb vb (q0, q1) = true := hit_iff.2 ⟨hov, fun x hx => by
        rw [← axL_val] at hx
        obtain ⟨y, hy, rfl⟩ := List.mem_map.1 hx
        exact hall y hy⟩
      have hmem := (best_spec (dep Ra va (p0, p1) Rb vb (q0, q1)) (axl_ne va vb (p0, p1) (q0, q1))).2.1
      have hbn := axl_bd va vb (p0, p1) (q0, q1) _ hmem
      have hres : cnN Ra va (p0, p1) Rb vb (q0, q1) = (if dotz (q0 - p0) (q1 - p1) (best (dep Ra va (p0, p1) Rb vb (q0, q1)) (axl va vb (p0, p1) (q0, q1))).1.1 (best (dep Ra va (p0, p1) Rb vb (q0, q1)) (axl va vb (p0, p1) (q0, q1))).1.2 < 0 then (-(best (dep Ra va (p0, p1) Rb vb (q0, q1)) (axl va vb (p0, p1) (q0, q1))).1.1, -(best (dep Ra va (p0, p1) Rb vb (q0, q1)) (axl va vb (p0, p1) (q0, q1))).1.2) else (best (dep Ra va (p0, p1) Rb vb (q0, q1)) (axl va vb (p0, p1) (q0, q1))).1) := by
        unfold cnN bst; rw [if_pos hhit]
      have hrd : cnD Ra va (p0, p1) Rb vb (q0, q1) = (best (dep Ra va (p0, p1) Rb vb (q0, q1)) (axl va vb (p0, p1) (q0, q1))).2 := by unfold cnD bst; rw [if_pos hhit]
      generalize best (dep Ra va (p0, p1) Rb vb (q0, q1)) (axl va vb (p0, p1) (q0, q1)) = bs at *
      obtain ⟨⟨b0, b1⟩, bd⟩ := bs
      dsimp only at hbn hres hrd
      obtain ⟨hb0, hb1⟩ := hbn
      have m1 := mul_bd (a := q0 - p0) (b := b0) (A := 67108864) (B := 1024) (by omega) hb0
      have m2 := mul_bd (a := q1 - p1) (b := b1) (A := 67108864) (B := 1024) (by omega) hb1
      have ZP := hb.two XP0 lP0 (by omega)
      have ZQ := hb.two XQ0 lQ0 (by omega)
      have Z8 : Bk W (w.heap.size + 1 + 1 + 1 + 1) 55 (conA ((0, 0), 0)) := (hb.block _ l8 (by omega)).trans X8
      have Z9 : Bk W (w.heap.size + 1 + 1 + 1 + 1 + 1) 4 #[.bool false] := (hb.block _ l9 (by omega)).trans X9
      have VC : B3 W w2.heap.size (.int .i64 b0) (.int .i64 b1) (.int .i64 bd) := ⟨⟨XC'.cell 0, XC'.frozen 0⟩, ⟨XC'.cell 1, XC'.frozen 1⟩, ⟨XC'.cell 2, XC'.frozen 2⟩⟩
      have V8 : B3 W (w.heap.size + 1 + 1 + 1 + 1) (.int .i64 0) (.int .i64 0) (.int .i64 0) := ⟨⟨Z8.cell 0, Z8.frozen 0⟩, ⟨Z8.cell 1, Z8.frozen 1⟩, ⟨Z8.cell 2, Z8.frozen 2⟩⟩
      have V9 : B1 W (w.heap.size + 1 + 1 + 1 + 1 + 1) (.bool false) := ⟨Z9.cell 0, Z9.frozen 0⟩
      have iW : Below w.heap.size w W := i0.trans (hb.down (m := w.heap.size) i0.size (by omega))
      have HHIT := Lib.hid hhit; clear hhit
      have HRES := Lib.hid hres; clear hres
      have HRD := Lib.hid hrd; clear hrd
      clear hall hmem XC' Z8 Z9 XC
      go_wp2_with fail
      have KZP := ZP.re; have KZQ := ZQ.re; have KVC := VC.re; refine wp_region_below (by kernel_rfl) (by kernel_rfl) ?_
      repeat (go_big_quiet_step (first
        | (go_at_call 48; exact met_below (Sub_any _ _ _ _ _ (by omega) (by omega) (by omega) (by omega)))
        | (go_at_call 41; exact met_below (Dot_any _ _ _ _ _ (by omega) (by omega) (by omega) (by omega)))))
      refine wpQuiet_nil ?_
      intro w6 d6
      replace VC := VC.below d6; replace V8 := V8.below d6; replace V9 := B1.below V9 d6
      have hK6 : w6.heap[Dn]? = some (.deferred (some [])) := (d6.block Dn (Array.getElem?_eq_some_iff.1 hK).1).trans hK
      have i6 : Below w.heap.size w w6 := (by repeat (first | with_reducible exact Below.refl _ _ | with_reducible refine below_alloc ?_ _ | with_reducible refine Below.drew ?_ | with_reducible refine below_set ?_ (by (first | (simp; done) | (simp; omega))) _ | with_reducible refine below_step (by assumption) ?_))
      clear KZP KZQ KVC ZP ZQ hK
      generalize hdz : dotz (q0 - p0) (q1 - p1) b0 b1 = z at *
      have lC := VC.lt
      have l8' := V8.lt
      have l9' := B1.lt V9
      have HZ := Lib.hid hdz; clear hdz
      by_cases hz : z < 0
      · have HZL := Lib.hid hz
        go_wp2_with fail
        refine (Neg_any b0 b1 _ (by omega) (by omega) (by omega) (by omega)).mono ?_
        rintro e w7 ⟨rfl, hb7⟩
        replace VC := VC.below hb7; replace V8 := V8.below hb7; replace V9 := B1.below V9 hb7
        have hK7 : w7.heap[Dn]? = some (.deferred (some [])) := (hb7.block Dn (Array.getElem?_eq_some_iff.1 hK6).1).trans hK6
        have i7 : Below w.heap.size w w7 := (by repeat (first | with_reducible exact Below.refl _ _ | with_reducible refine below_alloc ?_ _ | with_reducible refine Below.drew ?_ | with_reducible refine below_set ?_ (by (first | (simp; done) | (simp; omega))) _ | with_reducible refine below_step (by assumption) ?_))
        clear hK6
        go_wp2_with fail
        have hK' := ((KeepsOthers.setCell _ ⟨w.heap.size + 1 + 1 + 1 + 1 + 1, 0, none⟩ (.bool true)).same Dn _ ((KeepsOthers.setCell _ ⟨w.heap.size + 1 + 1 + 1 + 1, 2, none⟩ (.int .i64 bd)).same Dn _ ((KeepsOthers.setCell _ ⟨w.heap.size + 1 + 1 + 1 + 1, 1, none⟩ (.int .i64 (-b1))).same Dn _ ((KeepsOthers.setCell _ ⟨w.heap.size + 1 + 1 + 1 + 1, 0, none⟩ (.int .i64 (-b0))).same Dn _ ((KeepsOthers.setCell _ ⟨w2.heap.size, 1, none⟩ (.int .i64 (-b1))).same Dn _ ((KeepsOthers.setCell _ ⟨w2.heap.size, 0, none⟩ (.int .i64 (-b0))).same Dn _ hK7 rfl) rfl) rfl) rfl) rfl) rfl)
        have F8 := ((((((V8.far (c := w2.heap.size) (j := 0) (by omega) (.int .i64 (-b0))).far (c := w2.heap.size) (j := 1) (by omega) (.int .i64 (-b1))).set0 (.int .i64 (-b0))).set1 (.int .i64 (-b1))).set2 (.int .i64 bd)).far (c := w.heap.size + 1 + 1 + 1 + 1 + 1) (j := 0) (by omega) (.bool true))
        have F9 := (B1.set0 (B1.far (c := w.heap.size + 1 + 1 + 1 + 1) (j := 2) (B1.far (c := w.heap.size + 1 + 1 + 1 + 1) (j := 1) (B1.far (c := w.heap.size + 1 + 1 + 1 + 1) (j := 0) (B1.far (c := w2.heap.size) (j := 1) (B1.far (c := w2.heap.size) (j := 0) V9 (by omega) (.int .i64 (-b0))) (by omega) (.int .i64 (-b1))) (by omega) (.int .i64 (-b0))) (by omega) (.int .i64 (-b1))) (by omega) (.int .i64 bd)) (.bool true))
        refine ⟨by simp, .inl ⟨_, _, rfl, run_takeDeferred hK', ?_⟩⟩
        have g0 := cell_kept F8.1.1 (grownBy_putObj' _ Dn (.deferred none)) (fun r e => by cases e; exact ⟨_, hK', rfl⟩)
        have g1 := cell_kept F8.2.1.1 (grownBy_putObj' _ Dn (.deferred none)) (fun r e => by cases e; exact ⟨_, hK', rfl⟩)
        have g2 := cell_kept F8.2.2.1 (grownBy_putObj' _ Dn (.deferred none)) (fun r e => by cases e; exact ⟨_, hK', rfl⟩)
        have g3 := cell_kept F9.1 (grownBy_putObj' _ Dn (.deferred none)) (fun r e => by cases e; exact ⟨_, hK', rfl⟩)
        refine ⟨.tuple #[.agg #[.int .i64 (-b0), .int .i64 (-b1), .int .i64 bd], .bool true], by simp [results, Try.f46, go_sem, g0, g1, g2, g3], ?_, ?_⟩
        · rw [HHIT.out, HRD.out, HRES.out, if_pos HZL.out]
        · refine Below.trans (b := _) ?_ (belowK_b (w := w) (Nat.le_refl _) _ Dn _ _ (Nat.le_trans i0.size hDn) hK' rfl rfl)
          exact (by repeat (first | with_reducible exact Below.refl _ _ | with_reducible refine below_alloc ?_ _ | with_reducible refine Below.drew ?_ | with_reducible refine below_set ?_ (by (first | (simp; done) | (simp; omega))) _ | with_reducible refine below_step (by assumption) ?_))
      · have HZL := Lib.hid hz
        go_wp2_with fail
        have hK' := ((KeepsOthers.setCell _ ⟨w.heap.size + 1 + 1 + 1 + 1 + 1, 0, none⟩ (.bool true)).same Dn _ ((KeepsOthers.setCell _ ⟨w.heap.size + 1 + 1 + 1 + 1, 2, none⟩ (.int .i64 bd)).same Dn _ ((KeepsOthers.setCell _ ⟨w.heap.size + 1 + 1 + 1 + 1, 1, none⟩ (.int .i64 b1)).same Dn _ ((KeepsOthers.setCell _ ⟨w.heap.size + 1 + 1 + 1 + 1, 0, none⟩ (.int .i64 b0)).same Dn _ hK6 rfl) rfl) rfl) rfl)
        have F8 := ((((V8.set0 (.int .i64 b0)).set1 (.int .i64 b1)).set2 (.int .i64 bd)).far (c := w.heap.size + 1 + 1 + 1 + 1 + 1) (j := 0) (by omega) (.bool true))
        have F9 := (B1.set0 (B1.far (c := w.heap.size + 1 + 1 + 1 + 1) (j := 2) (B1.far (c := w.heap.size + 1 + 1 + 1 + 1) (j := 1) (B1.far (c := w.heap.size + 1 + 1 + 1 + 1) (j := 0) V9 (by omega) (.int .i64 b0)) (by omega) (.int .i64 b1)) (by omega) (.int .i64 bd)) (.bool true))
        refine ⟨by simp, .inl ⟨_, _, rfl, run_takeDeferred hK', ?_⟩⟩
        have g0 := cell_kept F8.1.1 (grownBy_putObj' _ Dn (.deferred none)) (fun r e => by cases e; exact ⟨_, hK', rfl⟩)
        have g1 := cell_kept F8.2.1.1 (grownBy_putObj' _ Dn (.deferred none)) (fun r e => by cases e; exact ⟨_, hK', rfl⟩)
        have g2 := cell_kept F8.2.2.1 (grownBy_putObj' _ Dn (.deferred none)) (fun r e => by cases e; exact ⟨_, hK', rfl⟩)
        have g3 := cell_kept F9.1 (grownBy_putObj' _ Dn (.deferred none)) (fun r e => by cases e; exact ⟨_, hK', rfl⟩)
        refine ⟨.tuple #[.agg #[.int .i64 b0, .int .i64 b1, .int .i64 bd], .bool true], by simp [results, Try.f46, go_sem, g0, g1, g2, g3], ?_, ?_⟩
        · rw [HHIT.out, HRD.out, HRES.out, if_neg (Int.not_lt.2 HZL.out)]
        · refine Below.trans (b := _) ?_ (belowK_b (w := w) (Nat.le_refl _) _ Dn _ _ (Nat.le_trans i0.size hDn) hK' rfl rfl)
          exact (by repeat (first | with_reducible exact Below.refl _ _ | with_reducible refine below_alloc ?_ _ | with_reducible refine Below.drew ?_ | with_reducible refine below_set ?_ (by (first | (simp; done) | (simp; omega))) _ | with_reducible refine below_step (by assumption) ?_))
    case stop =>
      rintro Dn c pre W hDn ⟨k, hk⟩ ⟨⟨rfl, x, hx, hneg⟩, C8, C9, iW⟩ hK
      have hhit : hit Ra va (p0, p1) Rb vb (q0, q1) = false := by
        cases h : hit Ra va (p0, p1) Rb vb (q0, q1) with
        | false => rfl
        | true =>
          have := (hit_iff.1 h).2 x.1 (by rw [← axL_val]; refine List.mem_map.2 ⟨x, ?_, rfl⟩; rw [hk] at hx; exact List.mem_of_mem_take hx)
          omega
      have hN : cnN Ra va (p0, p1) Rb vb (q0, q1) = (0, 0) := by unfold cnN; rw [if_neg (by rw [hhit]; simp)]
      have hD : cnD Ra va (p0, p1) Rb vb (q0, q1) = 0 := by unfold cnD; rw [if_neg (by rw [hhit]; simp)]
      have HHIT := Lib.hid hhit; clear hhit
      have HNN := Lib.hid hN; clear hN
      have HDD := Lib.hid hD; clear hD
      gi_wp2
      refine ⟨by simp, .inl ⟨_, _, rfl, run_takeDeferred hK, ?_⟩⟩
      have g0 := cell_kept (C8.cell 0) (grownBy_putObj' _ Dn (.deferred none)) (fun r e => by cases e; exact ⟨_, hK, rfl⟩)
      have g1 := cell_kept (C8.cell 1) (grownBy_putObj' _ Dn (.deferred none)) (fun r e => by cases e; exact ⟨_, hK, rfl⟩)
      have g2 := cell_kept (C8.cell 2) (grownBy_putObj' _ Dn (.deferred none)) (fun r e => by cases e; exact ⟨_, hK, rfl⟩)
      have g3 := cell_kept (C9.cell 0) (grownBy_putObj' _ Dn (.deferred none)) (fun r e => by cases e; exact ⟨_, hK, rfl⟩)
      refine ⟨.tuple #[.agg #[.int .i64 0, .int .i64 0, .int .i64 0], .bool false], by simp [results, Try.f46, go_sem, g0, g1, g2, g3], ?_, ?_⟩
      · rw [HHIT.out, HDD.out, HNN.out]
      · exact iW.trans (belowK_b (w := w) (Nat.le_refl _) _ Dn _ _ (Nat.le_trans i0.size hDn) hK rfl rfl)
  · obtain hov' : ovl Ra va (p0, p1) Rb vb (q0, q1) = false := by simpa using hov
    have hhit : hit Ra va (p0, p1) Rb vb (q0, q1) = false := by unfold hit; rw [hov']; rfl
    have hN : cnN Ra va (p0, p1) Rb vb (q0, q1) = (0, 0) := by unfold cnN; rw [if_neg (by rw [hhit]; simp)]
    have hD : cnD Ra va (p0, p1) Rb vb (q0, q1) = 0 := by unfold cnD; rw [if_neg (by rw [hhit]; simp)]
    rw [hhit, hN, hD]
    rw [hov'] at HO
    clear hov hov' hhit hN hD
    refine (callsIn_wide (n := 4)).1 ?_
    refine callsIn_of_wp_marks Try.func46 rfl trivial ?_ rfl
    simp only [Try.ntmps46, List.size_toArray, List.length_cons, List.length_nil, Nat.reduceAdd, Nat.reduceSub, Array.replicate_succ, Array.replicate_zero, List.push_toArray, List.append_toArray, List.nil_append, List.cons_append]
    refine wpIn_wide.2 ?_
    go_wp2_with fail
    refine code_named ?_; intro W1 hW; have dW1 : Below w.heap.size w W1 := (by rw [hW]; exact (by repeat (first | with_reducible exact Below.refl _ _ | with_reducible refine below_alloc ?_ _ | with_reducible refine Below.drew ?_ | with_reducible refine below_set ?_ (by (first | (simp; done) | (simp; omega))) _ | with_reducible refine below_step (by assumption) ?_)))
    have XA : B2 W1 w.heap.size (.int .i64 Ra) (.slice A na ca) := (by rw [hW]; unfold B2 Cel; simp [go_sem])
    have XP : B2 W1 (w.heap.size + 1) (.int .i64 p0) (.int .i64 p1) := (by rw [hW]; unfold B2 Cel; simp [go_sem])
    have XB : B2 W1 (w.heap.size + 1 + 1) (.int .i64 Rb) (.slice B nb cb) := (by rw [hW]; unfold B2 Cel; simp [go_sem])
    have XQ : B2 W1 (w.heap.size + 1 + 1 + 1) (.int .i64 q0) (.int .i64 q1) := (by rw [hW]; unfold B2 Cel; simp [go_sem])
    have X8 : B3 W1 (w.heap.size + 1 + 1 + 1 + 1) (.int .i64 0) (.int .i64 0) (.int .i64 0) := (by rw [hW]; unfold B3 Cel; simp [go_sem])
    have X9 : B1 W1 (w.heap.size + 1 + 1 + 1 + 1 + 1) (.bool false) := (by rw [hW]; unfold B1 Cel; simp [go_sem])
    clear hW
    have PA := HPA.out.below dW1
    have PB := HPB.out.below dW1
    have hPC := Lib.hid (fun (d : Nat) (os : Array Obj) => PA.re d os)
    have hQC := Lib.hid (fun (d : Nat) (os : Array Obj) => PB.re d os)
    have KXA := XA.re; have KXP := XP.re; have KXB := XB.re; have KXQ := XQ.re; refine wp_region_below (by kernel_rfl) (by kernel_rfl) ?_
    repeat (go_big_quiet_step (first
      | (go_at_call 32; first | (with_reducible exact met_below (HX1.out _ (hPC.out _ _))) | (with_reducible exact met_below (HX2.out _ (hQC.out _ _))))
      | (go_at_call 53; exact met_below (HO.out _))))
    refine wpQuiet_nil ?_
    intro w2 d2
    replace X8 := X8.below d2; replace X9 := B1.below X9 d2
    have i2 : Below w.heap.size w w2 := (by repeat (first | with_reducible exact Below.refl _ _ | with_reducible refine below_alloc ?_ _ | with_reducible refine Below.drew ?_ | with_reducible refine below_set ?_ (by (first | (simp; done) | (simp; omega))) _ | with_reducible refine below_step (by assumption) ?_))
    have l8 := X8.lt
    have l9 := B1.lt X9
    clear KXA KXP KXB KXQ hPC hQC
    go_wp2_with fail
    have F8 := ((((X8.set0 (.int .i64 0)).set1 (.int .i64 0)).set2 (.int .i64 0)).far (show w.heap.size + 1 + 1 + 1 + 1 + 1 ≠ w.heap.size + 1 + 1 + 1 + 1 by omega) (.bool false) (j := 0))
    have F9 := B1.set0 (B1.far (c := w.heap.size + 1 + 1 + 1 + 1) (j := 2) (B1.far (c := w.heap.size + 1 + 1 + 1 + 1) (j := 1) (B1.far (c := w.heap.size + 1 + 1 + 1 + 1) (j := 0) X9 (by omega) (.int .i64 0)) (by omega) (.int .i64 0)) (by omega) (.int .i64 0)) (.bool false)
    exact ⟨.tuple #[.agg #[.int .i64 0, .int .i64 0, .int .i64 0], .bool false], by simp [results, Try.results46, go_sem, F8.1.1, F8.2.1.1, F8.2.2.1, F9.1], rfl, (by repeat (first | with_reducible exact Below.refl _ _ | with_reducible refine below_alloc ?_ _ | with_reducible refine Below.drew ?_ | with_reducible refine below_set ?_ (by (first | (simp; done) | (simp; omega))) _ | with_reducible refine below_step (by assumption) ?_))⟩
end Go.Proofs.Ytipcppbbpmdijaa
