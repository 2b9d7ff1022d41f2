/-
  What Bounds and Project of package shape return. Conditions: the numbers' bounds and the vertices in memory, as the theorems state.
-/
import Derived.Test.YtipcppbbpmdijaaShp
import Derived.Test.YtipcppbbpmdijaaVecr
import Derived.Test.YtipcppbbpmdijaaQo
import Derived.Lib.MinMax
import Derived.BigRegion
import Derived.BigQuiet
import Derived.Deep.LoopGhost
import Derived.Deep.DeepCutAuto
import Derived.Outline
namespace Go.Proofs.Ytipcppbbpmdijaa
open Go.RowKit Go.Sort
attribute [local go_sem ↓] Go.wp_at_zero Go.wp_at_succ

theorem take_snoc' {α : Type} (l : List α) (k : Nat) {v : α} (h : l[k]? = some v) : l.take (k + 1) = l.take k ++ [v] := by
  rw [List.take_add_one, h]; rfl

set_option maxRecDepth 100000 in
set_option maxHeartbeats 4000000 in
theorem Bounds_poly (R px py : Int) (A : Option Addr) (n c : Nat) (vs : List V2) (w : World) (hP : Pol w A n c vs) (hS : SN R vs) (hv : vs ≠ []) (h1 : -67108864 ≤ px ∧ px ≤ 67108864) (h2 : -67108864 ≤ py ∧ py ≤ 67108864) :
    Calls Try.prog 32 #[.agg #[.int .i64 R, .slice A n c], .agg #[.int .i64 px, .int .i64 py]] w fun e w' => e = .returned (.agg #[.int .i64 (bx0 R vs + px), .int .i64 (by0 R vs + py), .int .i64 (bx1 R vs + px), .int .i64 (by1 R vs + py)]) ∧ Below w.heap.size w w' := by
  obtain ⟨b, rfl, hn, hl, hnc, hc, hbl, hcell⟩ := hP.at_ hv
  obtain ⟨hR, hlen, hbd⟩ := id hS
  have HC := Lib.hid hcell; clear hcell
  have HB := Lib.hid hbd; clear hbd
  go_enter Try.func32, Try.ntmps32
  go_wp2_with fail
  refine code_named ?_; intro W0 hW; have dW0 : Below w.heap.size w W0 := (by rw [hW]; exact (by repeat (first | with_reducible exact Below.refl _ _ | with_reducible refine below_alloc ?_ _ | with_reducible refine Below.drew ?_ | with_reducible refine below_set ?_ (by (first | (simp; done) | (simp; omega))) _ | with_reducible refine below_step (by assumption) ?_)))
  have XP : B2 W0 (w.heap.size + 1) (.int .i64 px) (.int .i64 py) := (by rw [hW]; unfold B2 Cel; simp [go_sem])
  have XR : B4 W0 (w.heap.size + 1 + 1) (.int .i64 0) (.int .i64 0) (.int .i64 0) (.int .i64 0) := (by rw [hW]; unfold B4 Cel; simp [go_sem])
  have XB : B4 W0 (w.heap.size + 1 + 1 + 1) (.int .i64 (-R)) (.int .i64 (-R)) (.int .i64 R) (.int .i64 R) := (by rw [hW]; unfold B4 Cel; simp [go_sem])
  clear hW
  go_loopg [22] n (fun gk i wr => ∃ k : Nat, gk + k = n ∧ i = .int .i64 k ∧ B4 wr (w.heap.size + 1 + 1 + 1) (.int .i64 (bx0 R (vs.take k))) (.int .i64 (by0 R (vs.take k))) (.int .i64 (bx1 R (vs.take k))) (.int .i64 (by1 R (vs.take k))) ∧
      B2 wr (w.heap.size + 1) (.int .i64 px) (.int .i64 py) ∧ B4 wr (w.heap.size + 1 + 1) (.int .i64 0) (.int .i64 0) (.int .i64 0) (.int .i64 0) ∧ Below w.heap.size w wr)
  case atStart => exact ⟨0, by omega, rfl, by simpa [bx0, by0, bx1, by1] using XB, XP, XR, (by repeat (first | with_reducible exact Below.refl _ _ | with_reducible refine below_alloc ?_ _ | with_reducible refine Below.drew ?_ | with_reducible refine below_set ?_ (by (first | (simp; done) | (simp; omega))) _ | with_reducible refine below_step (by assumption) ?_))⟩
  case round =>
    clear XP XR XB dW0
    obtain ⟨k, hk, rfl, YB, YP, YR, ib⟩ := hrel
    by_cases hlt : k < n
    · obtain ⟨⟨x, y⟩, hv'⟩ : ∃ v, vs[k]? = some v := ⟨vs[k], List.getElem?_eq_getElem (by omega)⟩
      have hx := (ib.cell (p := ⟨b, k * 2, none⟩) hbl).trans (HC.out k _ hv').1
      have hy := (ib.cell (p := ⟨b, k * 2 + 1, none⟩) hbl).trans (HC.out k _ hv').2
      have lB := YB.lt
      have lB' : w.heap.size + 1 + 1 + 1 < wr.heap.size := lB
      have lP := YP.lt
      have lb : b < wr.heap.size := Nat.lt_of_lt_of_le hbl ib.size
      dsimp only at hx hy
      have hts := Lib.hid (take_snoc' vs k hv')
      clear hv'
      go_upto_if 28 with fail
      go_cut [7] (fun s7 w2 => ∃ (g : Nat) (b0 b1 b2 b3 : Int), s7 = .pointer (some ⟨g, 0, none⟩) ∧ w.heap.size + 1 + 1 + 1 < g ∧ Hid (min b0 x = bx0 R (vs.take (k + 1)) ∧ min b1 y = by0 R (vs.take (k + 1)) ∧ max b2 x = bx1 R (vs.take (k + 1)) ∧ max b3 y = by1 R (vs.take (k + 1))) ∧ B2 w2 g (.int .i64 x) (.int .i64 y) ∧ B4 w2 (w.heap.size + 1 + 1 + 1) (.int .i64 b0) (.int .i64 b1) (.int .i64 b2) (.int .i64 b3) ∧ B2 w2 (w.heap.size + 1) (.int .i64 px) (.int .i64 py) ∧ B4 w2 (w.heap.size + 1 + 1) (.int .i64 0) (.int .i64 0) (.int .i64 0) (.int .i64 0) ∧ Below w.heap.size w w2)
      case first =>
        by_cases h0 : k = 0
        · have E := Lib.hid (bb_one R (l := vs.take k) (v := (x, y)) (by subst h0; rfl))
          subst h0
          go_wp2_with fail
          go_meet
          refine ⟨_, x, y, x, y, rfl, lB', ?_, by unfold B2 Cel; simp [go_sem, *], ((((YB.set0 _).set1 _).set2 _).set3 _).below (below_alloc (Below.refl _ _) _), ((((YP.far (by omega) _).far (by omega) _).far (by omega) _).far (by omega) _).below (below_alloc (Below.refl _ _) _), ((((YR.far (by omega) _).far (by omega) _).far (by omega) _).far (by omega) _).below (below_alloc (Below.refl _ _) _), (by repeat (first | with_reducible exact Below.refl _ _ | with_reducible refine below_alloc ?_ _ | with_reducible refine Below.drew ?_ | with_reducible refine below_set ?_ (by (first | (simp; done) | (simp; omega))) _ | with_reducible refine below_step (by assumption) ?_))⟩
          rw [hts.out, E.out.1, E.out.2.1, E.out.2.2.1, E.out.2.2.2]
          exact ⟨by omega, by omega, by omega, by omega⟩
        · have hne : vs.take k ≠ [] := by intro h; have := congrArg List.length h; rw [List.length_take, List.length_nil] at this; omega
          have E := Lib.hid (bb_snoc R (v := (x, y)) hne)
          have hk0 : ((k : Int) == 0) = false := by simp; omega
          clear h0 hne
          go_wp2_with fail
          go_meet
          refine ⟨_, _, _, _, _, rfl, lB', ?_, by unfold B2 Cel; simp [go_sem, *], YB.below (below_alloc (Below.refl _ _) _), YP.below (below_alloc (Below.refl _ _) _), YR.below (below_alloc (Below.refl _ _) _), (by repeat (first | with_reducible exact Below.refl _ _ | with_reducible refine below_alloc ?_ _ | with_reducible refine Below.drew ?_ | with_reducible refine below_set ?_ (by (first | (simp; done) | (simp; omega))) _ | with_reducible refine below_step (by assumption) ?_))⟩
          rw [hts.out, E.out.1, E.out.2.1, E.out.2.2.1, E.out.2.2.2]
          exact ⟨rfl, rfl, rfl, rfl⟩
      case rest =>
        clear YB YP YR ib hx hy lB lP lb lB' hts
        rename World => w2
        obtain ⟨g, b0, b1, b2, b3, rfl, lg, HE, ZV, ZB, ZP, ZR, jb⟩ := hcut
        have nV : g ≠ w.heap.size + 1 + 1 + 1 := Nat.ne_of_gt lg
        have nV' := Ne.symm nV
        go_upto_region 7 with fail
        go_cut [] (fun w3 => B2 w3 g (.int .i64 x) (.int .i64 y) ∧ B4 w3 (w.heap.size + 1 + 1 + 1) (.int .i64 (min b0 x)) (.int .i64 b1) (.int .i64 (max b2 x)) (.int .i64 b3) ∧ B2 w3 (w.heap.size + 1) (.int .i64 px) (.int .i64 py) ∧ B4 w3 (w.heap.size + 1 + 1) (.int .i64 0) (.int .i64 0) (.int .i64 0) (.int .i64 0) ∧ Below w.heap.size w w3)
        case first =>
          go_region
          go_wp2_with fail
          go_meet
          exact ⟨(ZV.far nV' _).far nV' _, (ZB.set0 _).set2 _, (ZP.far (by omega) _).far (by omega) _, (ZR.far (by omega) _).far (by omega) _, (by repeat (first | with_reducible exact Below.refl _ _ | with_reducible refine below_alloc ?_ _ | with_reducible refine Below.drew ?_ | with_reducible refine below_set ?_ (by (first | (simp; done) | (simp; omega))) _ | with_reducible refine below_step (by assumption) ?_))⟩
        case rest =>
          clear ZV ZB ZP ZR jb
          rename World => w3
          obtain ⟨ZV, ZB, ZP, ZR, jb⟩ := hcut
          go_wp2_with fail
          go_region
          go_wp2_with fail
          go_roundg (n - (k + 1))
          case measure => omega
          case rel =>
            refine ⟨k + 1, by omega, by go_num, ?_, (ZP.far (by omega) _).far (by omega) _, (ZR.far (by omega) _).far (by omega) _, (by repeat (first | with_reducible exact Below.refl _ _ | with_reducible refine below_alloc ?_ _ | with_reducible refine Below.drew ?_ | with_reducible refine below_set ?_ (by (first | (simp; done) | (simp; omega))) _ | with_reducible refine below_step (by assumption) ?_))⟩
            rw [← HE.out.1, ← HE.out.2.1, ← HE.out.2.2.1, ← HE.out.2.2.2]
            exact (ZB.set1 _).set3 _
    · have hkn : k = n := by omega
      subst hkn
      have ht : vs.take k = vs := List.take_of_length_le (by omega)
      rw [ht] at YB
      have q := bb_bd hS
      go_wp2_with fail
      have cR := YR
      exact bodyPost_ret (v := .agg #[.int .i64 (bx0 R vs + px), .int .i64 (by0 R vs + py), .int .i64 (bx1 R vs + px), .int .i64 (by1 R vs + py)]) (by simp [results, Try.results32, go_sem, *]) rfl ⟨rfl, (by repeat (first | with_reducible exact Below.refl _ _ | with_reducible refine below_alloc ?_ _ | with_reducible refine Below.drew ?_ | with_reducible refine below_set ?_ (by (first | (simp; done) | (simp; omega))) _ | with_reducible refine below_step (by assumption) ?_))⟩

theorem Bounds_circle (R px py : Int) (w : World) (hR : 0 ≤ R ∧ R ≤ 32768) (h1 : -67108864 ≤ px ∧ px ≤ 67108864) (h2 : -67108864 ≤ py ∧ py ≤ 67108864) :
    Calls Try.prog 32 #[.agg #[.int .i64 R, .slice none 0 0], .agg #[.int .i64 px, .int .i64 py]] w fun e w' => e = .returned (.agg #[.int .i64 (-R + px), .int .i64 (-R + py), .int .i64 (R + px), .int .i64 (R + py)]) ∧ Below w.heap.size w w' := by
  go_enter Try.func32, Try.ntmps32
  go_wp2_with fail
  refine wp_loop_rounds 1 ?_
  rw [rounds_succ]
  go_wp2_with fail
  exact bodyPost_ret (v := .agg #[.int .i64 (-R + px), .int .i64 (-R + py), .int .i64 (R + px), .int .i64 (R + py)]) (by simp [results, Try.results32, go_sem, *]) rfl ⟨rfl, (by repeat (first | with_reducible exact Below.refl _ _ | with_reducible refine below_alloc ?_ _ | with_reducible refine Below.drew ?_ | with_reducible refine below_set ?_ (by (first | (simp; done) | (simp; omega))) _ | with_reducible refine below_step (by assumption) ?_))⟩

theorem Bounds_any (R px py : Int) (A : Option Addr) (n c : Nat) (vs : List V2) (w : World) (hP : Pol w A n c vs) (hS : SN R vs) (h1 : -67108864 ≤ px ∧ px ≤ 67108864) (h2 : -67108864 ≤ py ∧ py ≤ 67108864) :
    Calls Try.prog 32 #[.agg #[.int .i64 R, .slice A n c], .agg #[.int .i64 px, .int .i64 py]] w fun e w' => e = .returned (.agg #[.int .i64 (bx0 R vs + px), .int .i64 (by0 R vs + py), .int .i64 (bx1 R vs + px), .int .i64 (by1 R vs + py)]) ∧ Below w.heap.size w w' := by
  by_cases hv : vs = []
  · obtain ⟨rfl, rfl, rfl⟩ := hP.nil hv
    subst hv
    exact Bounds_circle R px py w hS.1 h1 h2
  · exact Bounds_poly R px py A n c vs w hP hS hv h1 h2

/-! ### Project -/
theorem mnl_one (f : V2 → Int) {l : List V2} {v : V2} (h : l = []) : mnl f (l ++ [v]) = f v ∧ mxl f (l ++ [v]) = f v := by subst h; exact ⟨rfl, rfl⟩
/-- Products of a point and an axis. -/
theorem pd_bd {px py ax ay x y : Int} (h1 : -67108864 ≤ px ∧ px ≤ 67108864) (h2 : -67108864 ≤ py ∧ py ≤ 67108864) (h3 : -8388608 ≤ ax ∧ ax ≤ 8388608) (h4 : -8388608 ≤ ay ∧ ay ≤ 8388608) (h5 : -32768 ≤ x ∧ x ≤ 32768) (h6 : -32768 ≤ y ∧ y ≤ 32768) :
    (-844424930131968 ≤ (px + x) * ax ∧ (px + x) * ax ≤ 844424930131968) ∧ (-844424930131968 ≤ (py + y) * ay ∧ (py + y) * ay ≤ 844424930131968) ∧ (-844424930131968 ≤ px * ax ∧ px * ax ≤ 844424930131968) ∧ (-844424930131968 ≤ py * ay ∧ py * ay ≤ 844424930131968) := by
  have p1 := mul_bd (a := px + x) (b := ax) (A := 100663296) (B := 8388608) (by omega) h3
  have p2 := mul_bd (a := py + y) (b := ay) (A := 100663296) (B := 8388608) (by omega) h4
  have p3 := mul_bd (a := px) (b := ax) (A := 100663296) (B := 8388608) (by omega) h3
  have p4 := mul_bd (a := py) (b := ay) (A := 100663296) (B := 8388608) (by omega) h4
  omega

theorem Project_circle (R px py ax ay : Int) (w : World) (hR : 0 ≤ R ∧ R ≤ 32768) (h1 : -67108864 ≤ px ∧ px ≤ 67108864) (h2 : -67108864 ≤ py ∧ py ≤ 67108864) (h3 : -8388608 ≤ ax ∧ ax ≤ 8388608) (h4 : -8388608 ≤ ay ∧ ay ≤ 8388608) :
    Calls Try.prog 35 #[.agg #[.int .i64 R, .slice none 0 0], .agg #[.int .i64 px, .int .i64 py], .agg #[.int .i64 ax, .int .i64 ay]] w fun e w' => e = .returned (.tuple #[.int .i64 (dotz px py ax ay - R), .int .i64 (dotz px py ax ay + R)]) ∧ Below w.heap.size w w' := by
  obtain ⟨-, -, p1, p2⟩ := pd_bd (x := 0) (y := 0) h1 h2 h3 h4 (by omega) (by omega)
  have q : -9000000000000000 ≤ dotz px py ax ay ∧ dotz px py ax ay ≤ 9000000000000000 := by unfold dotz; omega
  go_enter Try.func35, Try.ntmps35
  go_wp2_with fail
  refine (Dot_any _ _ _ _ _ (by omega) (by omega) (by omega) (by omega)).mono ?_
  rintro e w1 ⟨rfl, hb1⟩; have d1 : Below w.heap.size w w1 := below_step hb1 (by repeat (first | with_reducible exact Below.refl _ _ | with_reducible refine below_alloc ?_ _ | with_reducible refine Below.drew ?_ | with_reducible refine below_set ?_ (by (first | (simp; done) | (simp; omega))) _ | with_reducible refine below_step (by assumption) ?_)); have z1 := hb1.size; (try simp at z1)
  have XS : B2 w1 w.heap.size (.int .i64 R) (.slice none 0 0) := B2.below (by unfold B2 Cel; simp [go_sem]) hb1
  go_wp2_with fail
  refine code_named ?_; intro W1 hW; have dW1 : Below w1.heap.size w1 W1 := (by rw [hW]; exact (by repeat (first | with_reducible exact Below.refl _ _ | with_reducible refine below_alloc ?_ _ | with_reducible refine Below.drew ?_ | with_reducible refine below_set ?_ (by (first | (simp; done) | (simp; omega))) _ | with_reducible refine below_step (by assumption) ?_))); replace XS := XS.below dW1; (try clear lXS); have lXS := XS.lt
  clear hW
  have KXS := XS.re; refine wp_region_below (by kernel_rfl) (by kernel_rfl) ?_
  repeat (go_big_quiet_step (fail))
  refine wpQuiet_nil ?_; intro w2 d2; clear KXS; replace XS := XS.below d2; (try clear lXS); have lXS := XS.lt
  go_wp2_with fail
  go_ret2
  exact ⟨rfl, (by repeat (first | with_reducible exact Below.refl _ _ | with_reducible refine below_alloc ?_ _ | with_reducible refine Below.drew ?_ | with_reducible refine below_set ?_ (by (first | (simp; done) | (simp; omega))) _ | with_reducible refine below_step (by assumption) ?_))⟩

set_option maxRecDepth 100000 in
set_option maxHeartbeats 4000000 in
theorem Project_poly (R px py ax ay : Int) (A : Option Addr) (n c : Nat) (vs : List V2) (w : World) (hP : Pol w A n c vs) (hS : SN R vs) (hv : vs ≠ []) (h1 : -67108864 ≤ px ∧ px ≤ 67108864) (h2 : -67108864 ≤ py ∧ py ≤ 67108864) (h3 : -8388608 ≤ ax ∧ ax ≤ 8388608) (h4 : -8388608 ≤ ay ∧ ay ≤ 8388608) :
    Calls Try.prog 35 #[.agg #[.int .i64 R, .slice A n c], .agg #[.int .i64 px, .int .i64 py], .agg #[.int .i64 ax, .int .i64 ay]] w fun e w' => e = .returned (.tuple #[.int .i64 (mnl (pdt px py ax ay) vs), .int .i64 (mxl (pdt px py ax ay) vs)]) ∧ Below w.heap.size w w' := by
  obtain ⟨b, rfl, hn, hl, hnc, hc, hbl, hcell⟩ := hP.at_ hv
  obtain ⟨hR, hlen, hbd⟩ := id hS
  have HC := Lib.hid hcell; clear hcell
  have HB := Lib.hid hbd; clear hbd
  have hn0 : ((n : Int) == 0) = false := by simp; omega
  go_enter Try.func35, Try.ntmps35
  go_wp2_with fail
  refine code_named ?_; intro W0 hW; have dW0 : Below w.heap.size w W0 := (by rw [hW]; exact (by repeat (first | with_reducible exact Below.refl _ _ | with_reducible refine below_alloc ?_ _ | with_reducible refine Below.drew ?_ | with_reducible refine below_set ?_ (by (first | (simp; done) | (simp; omega))) _ | with_reducible refine below_step (by assumption) ?_)))
  have XP : B2 W0 (w.heap.size + 1) (.int .i64 px) (.int .i64 py) := (by rw [hW]; unfold B2 Cel; simp [go_sem])
  have XA : B2 W0 (w.heap.size + 1 + 1) (.int .i64 ax) (.int .i64 ay) := (by rw [hW]; unfold B2 Cel; simp [go_sem])
  clear hW
  go_loopg [6, 7, 30] n (fun gk lo hi i wr => ∃ k : Nat, gk + k = n ∧ i = .int .i64 k ∧ lo = .int .i64 (mnl (pdt px py ax ay) (vs.take k)) ∧ hi = .int .i64 (mxl (pdt px py ax ay) (vs.take k)) ∧ B2 wr (w.heap.size + 1) (.int .i64 px) (.int .i64 py) ∧ B2 wr (w.heap.size + 1 + 1) (.int .i64 ax) (.int .i64 ay) ∧ Below w.heap.size w wr)
  case atStart => exact ⟨0, by omega, rfl, rfl, rfl, XP, XA, (by repeat (first | with_reducible exact Below.refl _ _ | with_reducible refine below_alloc ?_ _ | with_reducible refine Below.drew ?_ | with_reducible refine below_set ?_ (by (first | (simp; done) | (simp; omega))) _ | with_reducible refine below_step (by assumption) ?_))⟩
  case round =>
    clear XP XA dW0
    obtain ⟨k, hk, rfl, rfl, rfl, YP, YA, ib⟩ := hrel
    by_cases hlt : k < n
    · obtain ⟨⟨x, y⟩, hv'⟩ : ∃ v, vs[k]? = some v := ⟨vs[k], List.getElem?_eq_getElem (by omega)⟩
      have hx := (ib.cell (p := ⟨b, k * 2, none⟩) hbl).trans (HC.out k _ hv').1
      have hy := (ib.cell (p := ⟨b, k * 2 + 1, none⟩) hbl).trans (HC.out k _ hv').2
      obtain ⟨bx, by'⟩ := HB.out (x, y) (List.mem_of_getElem? hv')
      obtain ⟨q1, q2, -, -⟩ := pd_bd h1 h2 h3 h4 bx by'
      have lP := YP.lt
      have lA := YA.lt
      have lb : b < wr.heap.size := Nat.lt_of_lt_of_le hbl ib.size
      dsimp only at hx hy bx by'
      have hts := Lib.hid (take_snoc' vs k hv')
      have hd : pdt px py ax ay (x, y) = dotz (px + x) (py + y) ax ay := rfl
      by_cases h0 : k = 0
      · have E := Lib.hid (mnl_one (pdt px py ax ay) (l := vs.take k) (v := (x, y)) (by subst h0; rfl))
        have HD := Lib.hid hd; clear hd hv'
        subst h0
        go_wp2_with fail
        refine code_named ?_; intro W1 hW; have dW1 : Below wr.heap.size wr W1 := (by rw [hW]; exact (by repeat (first | with_reducible exact Below.refl _ _ | with_reducible refine below_alloc ?_ _ | with_reducible refine Below.drew ?_ | with_reducible refine below_set ?_ (by (first | (simp; done) | (simp; omega))) _ | with_reducible refine below_step (by assumption) ?_))); replace YP := YP.below dW1; (try clear lYP); have lYP := YP.lt; replace YA := YA.below dW1; (try clear lYA); have lYA := YA.lt
        have XV : B2 W1 (wr.heap.size) (.int .i64 (x)) (.int .i64 (y)) := (by rw [hW]; unfold B2 Cel; simp [go_sem]); have lXV := XV.lt
        have ib1 : Below w.heap.size w W1 := (by repeat (first | with_reducible exact Below.refl _ _ | with_reducible refine below_alloc ?_ _ | with_reducible refine Below.drew ?_ | with_reducible refine below_set ?_ (by (first | (simp; done) | (simp; omega))) _ | with_reducible refine below_step (by assumption) ?_))
        clear hW hx hy ib dW1
        have KYP := YP.re; have KYA := YA.re; have KXV := XV.re; refine wp_region_below (by kernel_rfl) (by kernel_rfl) ?_
        repeat (go_big_quiet_step (first
          | (go_at_call 30; exact met_below (Add_any _ _ _ _ _ (by omega) (by omega) (by omega) (by omega)))
          | (go_at_call 41; exact met_below (Dot_any _ _ _ _ _ (by omega) (by omega) (by omega) (by omega)))))
        refine wpQuiet_nil ?_; intro w2 d2; clear KYP KYA KXV; replace YP := YP.below d2; (try clear lYP); have lYP := YP.lt; replace YA := YA.below d2; (try clear lYA); have lYA := YA.lt; replace XV := XV.below d2; (try clear lXV); have lXV := XV.lt
        go_wp2_with fail
        go_roundg (n - 1)
        case measure => omega
        case rel => exact ⟨0 + 1, by omega, by go_num, by rw [hts.out, E.out.1, HD.out], by rw [hts.out, E.out.2, HD.out], YP, YA, (by repeat (first | with_reducible exact Below.refl _ _ | with_reducible refine below_alloc ?_ _ | with_reducible refine Below.drew ?_ | with_reducible refine below_set ?_ (by (first | (simp; done) | (simp; omega))) _ | with_reducible refine below_step (by assumption) ?_))⟩
      · have hne : vs.take k ≠ [] := by intro h; have := congrArg List.length h; rw [List.length_take, List.length_nil] at this; omega
        have E := Lib.hid (And.intro (mnl_snoc (pdt px py ax ay) hne (x, y)) (mxl_snoc (pdt px py ax ay) hne (x, y)))
        have HD := Lib.hid hd; clear hd hv'
        have hk0 : ((k : Int) == 0) = false := by simp; omega
        clear h0 hne
        generalize hlo : mnl (pdt px py ax ay) (vs.take k) = lo at *
        generalize hhi : mxl (pdt px py ax ay) (vs.take k) = hi at *
        clear hlo hhi
        go_wp2_with fail
        refine code_named ?_; intro W1 hW; have dW1 : Below wr.heap.size wr W1 := (by rw [hW]; exact (by repeat (first | with_reducible exact Below.refl _ _ | with_reducible refine below_alloc ?_ _ | with_reducible refine Below.drew ?_ | with_reducible refine below_set ?_ (by (first | (simp; done) | (simp; omega))) _ | with_reducible refine below_step (by assumption) ?_))); replace YP := YP.below dW1; (try clear lYP); have lYP := YP.lt; replace YA := YA.below dW1; (try clear lYA); have lYA := YA.lt
        have XV : B2 W1 (wr.heap.size) (.int .i64 (x)) (.int .i64 (y)) := (by rw [hW]; unfold B2 Cel; simp [go_sem]); have lXV := XV.lt
        have ib1 : Below w.heap.size w W1 := (by repeat (first | with_reducible exact Below.refl _ _ | with_reducible refine below_alloc ?_ _ | with_reducible refine Below.drew ?_ | with_reducible refine below_set ?_ (by (first | (simp; done) | (simp; omega))) _ | with_reducible refine below_step (by assumption) ?_))
        clear hW hx hy ib dW1
        have KYP := YP.re; have KYA := YA.re; have KXV := XV.re; refine wp_region_below (by kernel_rfl) (by kernel_rfl) ?_
        repeat (go_big_quiet_step (first
          | (go_at_call 30; exact met_below (Add_any _ _ _ _ _ (by omega) (by omega) (by omega) (by omega)))
          | (go_at_call 41; exact met_below (Dot_any _ _ _ _ _ (by omega) (by omega) (by omega) (by omega)))))
        refine wpQuiet_nil ?_; intro w2 d2; clear KYP KYA KXV; replace YP := YP.below d2; (try clear lYP); have lYP := YP.lt; replace YA := YA.below d2; (try clear lYA); have lYA := YA.lt; replace XV := XV.below d2; (try clear lXV); have lXV := XV.lt
        go_wp2_with fail
        go_roundg (n - (k + 1))
        case measure => omega
        case rel => exact ⟨k + 1, by omega, by go_num, by rw [hts.out, E.out.1, HD.out], by rw [hts.out, E.out.2, HD.out], YP, YA, (by repeat (first | with_reducible exact Below.refl _ _ | with_reducible refine below_alloc ?_ _ | with_reducible refine Below.drew ?_ | with_reducible refine below_set ?_ (by (first | (simp; done) | (simp; omega))) _ | with_reducible refine below_step (by assumption) ?_))⟩
    · have hkn : k = n := by omega
      subst hkn
      have ht : vs.take k = vs := List.take_of_length_le (by omega)
      have HT := Lib.hid ht; clear ht
      go_wp2_with fail
      go_ret2
      exact ⟨by simp [HT.out], ib⟩

theorem Project_any (R px py ax ay : Int) (A : Option Addr) (n c : Nat) (vs : List V2) (w : World) (hP : Pol w A n c vs) (hS : SN R vs) (h1 : -67108864 ≤ px ∧ px ≤ 67108864) (h2 : -67108864 ≤ py ∧ py ≤ 67108864) (h3 : -8388608 ≤ ax ∧ ax ≤ 8388608) (h4 : -8388608 ≤ ay ∧ ay ≤ 8388608) :
    Calls Try.prog 35 #[.agg #[.int .i64 R, .slice A n c], .agg #[.int .i64 px, .int .i64 py], .agg #[.int .i64 ax, .int .i64 ay]] w fun e w' => e = .returned (.tuple #[.int .i64 (plo R vs px py ax ay), .int .i64 (phi R vs px py ax ay)]) ∧ Below w.heap.size w w' := by
  unfold plo phi
  by_cases hv : vs = []
  · obtain ⟨rfl, rfl, rfl⟩ := hP.nil hv
    rw [if_pos hv, if_pos hv]
    exact Project_circle R px py ax ay w hS.1 h1 h2 h3 h4
  · rw [if_neg hv, if_neg hv]
    exact Project_poly R px py ax ay A n c vs w hP hS hv h1 h2 h3 h4
end Go.Proofs.Ytipcppbbpmdijaa
