/-
  CollideLeast: two generated shapes collide just if their bounds overlap and the depth along every axis is positive; Depth is the least one, attained along the normal or its opposite, and the normal does not point from the second shape to the first. Conditions: none.
-/
import Derived.Test.YtipcppbbpmdijaaRows
import Derived.Test.YtipcppbbpmdijaaHead
import Derived.Test.YtipcppbbpmdijaaOpen
import Derived.Test.YtipcppbbpmdijaaPla
import Derived.Test.YtipcppbbpmdijaaNear
import Derived.Test.YtipcppbbpmdijaaEqu
namespace Go.Proofs.Ytipcppbbpmdijaa.collideLeast
open Go.ChangeShapes Go.WideShapes Go.ChangeAt Go.RowKit Go.Sort
attribute [local go_sem ↓] Go.wp_at_zero Go.wp_at_succ

def lstIf (c : Bool) (dd L L' : Int) : Prop := if c = true then L' = dd else L' = L
/-- The least depth of the first k axes: 0 for none. -/
def lst (f : V2 → Int) (X : List V2) (k : Nat) : Int := if k = 0 then 0 else (best f (X.take k)).2
theorem lst_one {f : V2 → Int} {X : List V2} {v : V2} (h : X[0]? = some v) : lst f X 1 = f v := by
  unfold lst
  have := take_snoc' X 0 h
  rw [if_neg (by omega), this]
  rfl
theorem lst_succ {f : V2 → Int} {X : List V2} {k : Nat} {v : V2} (h : X[k]? = some v) (hk : k ≠ 0) : lst f X (k + 1) = if f v < lst f X k then f v else lst f X k := by
  unfold lst
  have hl : k < X.length := (List.getElem?_eq_some_iff.1 h).1
  have hne : X.take k ≠ [] := by intro e; have := congrArg List.length e; rw [List.length_take, List.length_nil] at this; omega
  rw [if_neg (by omega), if_neg hk, take_snoc' X k h, best_snoc f hne]
  split <;> rfl
theorem lst_all {f : V2 → Int} {X : List V2} (h : X ≠ []) : lst f X X.length = (best f X).2 := by
  unfold lst
  have := List.length_pos_iff.2 h
  rw [if_neg (by omega), List.take_length]
theorem cn_hit {Ra : Int} {va : List V2} {p : V2} {Rb : Int} {vb : List V2} {q : V2} : (hit Ra va p Rb vb q = true → cnD Ra va p Rb vb q = (bst Ra va p Rb vb q).2 ∧ (cnN Ra va p Rb vb q = (bst Ra va p Rb vb q).1 ∨ cnN Ra va p Rb vb q = (-(bst Ra va p Rb vb q).1.1, -(bst Ra va p Rb vb q).1.2))) ∧ (hit Ra va p Rb vb q = false → cnD Ra va p Rb vb q = 0 ∧ cnN Ra va p Rb vb q = (0, 0)) := by
  constructor
  · intro h
    unfold cnD cnN
    rw [if_pos h, if_pos h]
    refine ⟨rfl, ?_⟩
    split
    · exact .inr rfl
    · exact .inl rfl
  · intro h
    unfold cnD cnN
    rw [h]
    exact ⟨rfl, rfl⟩

set_option maxRecDepth 100000 in
set_option maxHeartbeats 8000000 in
theorem walk (n : Int) (ln : -9223372036854775808 ≤ n) (un : n ≤ 9223372036854775807) (m : Int) (lm : -9223372036854775808 ≤ m) (um : m ≤ 9223372036854775807) (t0 : Int) (lt0 : -9223372036854775808 ≤ t0) (ut0 : t0 ≤ 9223372036854775807) (t1 : Int) (lt1 : -9223372036854775808 ≤ t1) (ut1 : t1 ≤ 9223372036854775807) (t2 : Int) (lt2 : -9223372036854775808 ≤ t2) (ut2 : t2 ≤ 9223372036854775807) (t3 : Int) (lt3 : -9223372036854775808 ≤ t3) (ut3 : t3 ≤ 9223372036854775807) (w : World) :
    Calls Try.prog 14 #[.int .i64 n, .int .i64 m, .agg #[.int .i64 t0, .int .i64 t1, .int .i64 t2, .int .i64 t3]] w fun e w' => e = .returned (.bool true) ∧ Below w.heap.size w w' := by
  have hGa := shape_gs n
  have hGb := shape_gs m
  have hSa := hGa.sn
  have hSb := hGb.sn
  have hSh1 := fun W => Shape_any n W ln un
  have hSh2 := fun W => Shape_any m W lm um
  generalize shR n = Ra at *
  generalize shV n = va at *
  generalize shR m = Rb at *
  generalize shV m = vb at *
  have hP := fun A j c B k d W P Q => Place_any Ra Rb t0 t1 t2 t3 A B j c k d va vb W P Q hSa hSb ⟨lt0, ut0⟩ ⟨lt1, ut1⟩ ⟨lt2, ut2⟩ ⟨lt3, ut3⟩
  have pb := plP_bd t0 t1
  have qb := plQ_bd hSa hSb t0 t1 t2 t3
  generalize plP t0 t1 = p at *
  generalize plQ Ra va Rb vb t0 t1 t2 t3 = q at *
  obtain ⟨p0, p1⟩ := p
  obtain ⟨q0, q1⟩ := q
  unfold LB at pb qb
  dsimp only at pb qb hP
  have hC := fun A j c B k d W P Q => Collide_any Ra Rb p0 p1 q0 q1 A B j c k d va vb W P Q hSa hSb (by omega) (by omega) (by omega) (by omega)
  have hX := fun A j c B k d W P Q => Axes_pol Ra Rb p0 p1 q0 q1 A B j c k d va vb W P Q hSa hSb (by omega) (by omega) (by omega) (by omega)
  have hB1 := fun A j c W P => Bounds_any Ra p0 p1 A j c va W P hSa (by omega) (by omega)
  have hB2 := fun A j c W P => Bounds_any Rb q0 q1 A j c vb W P hSb (by omega) (by omega)
  have hO := fun W => Overlap_any (bx0 Ra va + p0) (by0 Ra va + p1) (bx1 Ra va + p0) (by1 Ra va + p1) (bx0 Rb vb + q0) (by0 Rb vb + q1) (bx1 Rb vb + q0) (by1 Rb vb + q1) W
  have hov : ovl Ra va (p0, p1) Rb vb (q0, q1) = decide (bx0 Ra va + p0 ≤ bx1 Rb vb + q0 ∧ bx0 Rb vb + q0 ≤ bx1 Ra va + p0 ∧ by0 Ra va + p1 ≤ by1 Rb vb + q1 ∧ by0 Rb vb + q1 ≤ by1 Ra va + p1) := rfl
  rw [← hov] at hO
  clear hov
  have hpj1 := fun a0 a1 (h : (-1024 ≤ a0 ∧ a0 ≤ 1024) ∧ (-1024 ≤ a1 ∧ a1 ≤ 1024)) => plo_bd (px := p0) (py := p1) (ax := a0) (ay := a1) hSa (by omega) (by omega) (by omega) (by omega)
  have hpj2 := fun a0 a1 (h : (-1024 ≤ a0 ∧ a0 ≤ 1024) ∧ (-1024 ≤ a1 ∧ a1 ≤ 1024)) => plo_bd (px := q0) (py := q1) (ax := a0) (ay := a1) hSb (by omega) (by omega) (by omega) (by omega)
  have hK1 := fun a0 a1 (h : (-1024 ≤ a0 ∧ a0 ≤ 1024) ∧ (-1024 ≤ a1 ∧ a1 ≤ 1024)) A j c W P => Project_any Ra p0 p1 a0 a1 A j c va W P hSa (by omega) (by omega) (by omega) (by omega)
  have hK2 := fun a0 a1 (h : (-1024 ≤ a0 ∧ a0 ≤ 1024) ∧ (-1024 ≤ a1 ∧ a1 ≤ 1024)) A j c W P => Project_any Rb q0 q1 a0 a1 A j c vb W P hSb (by omega) (by omega) (by omega) (by omega)
  have hdp : ∀ a0 a1, dep Ra va (p0, p1) Rb vb (q0, q1) (a0, a1) = min (phi Ra va p0 p1 a0 a1) (phi Rb vb q0 q1 a0 a1) - max (plo Ra va p0 p1 a0 a1) (plo Rb vb q0 q1 a0 a1) := fun _ _ => rfl
  have hhl := hit_least Ra va (p0, p1) Rb vb (q0, q1)
  have hcn := cn_hit (Ra := Ra) (va := va) (p := (p0, p1)) (Rb := Rb) (vb := vb) (q := (q0, q1))
  have hdt := cn_dot (Ra := Ra) (va := va) (p := (p0, p1)) (Rb := Rb) (vb := vb) (q := (q0, q1))
  have hNb : LB (cnN Ra va (p0, p1) Rb vb (q0, q1)) 1024 := by
    cases hh : hit Ra va (p0, p1) Rb vb (q0, q1) with
    | false => rw [(hcn.2 hh).2]; unfold LB; decide
    | true =>
      have := axl_bd va vb (p0, p1) (q0, q1) _ (best_spec (dep Ra va (p0, p1) Rb vb (q0, q1)) (axl_ne va vb (p0, p1) (q0, q1))).2.1
      unfold bst at hcn
      unfold LB
      rcases (hcn.1 hh).2 with h | h <;> rw [h]
      · exact this
      · dsimp only; omega
  have hXb := axl_bd va vb (p0, p1) (q0, q1)
  have hXn := axl_ne va vb (p0, p1) (q0, q1)
  have hXl := axl_len va vb (p0, p1) (q0, q1)
  have hla := hSa.2.1
  have hlb := hSb.2.1
  unfold bst at hhl hcn
  generalize axl va vb (p0, p1) (q0, q1) = X at *
  generalize dep Ra va (p0, p1) Rb vb (q0, q1) = f at *
  generalize ovl Ra va (p0, p1) Rb vb (q0, q1) = ov at *
  generalize hit Ra va (p0, p1) Rb vb (q0, q1) = h1 at *
  generalize cnD Ra va (p0, p1) Rb vb (q0, q1) = d1 at *
  generalize cnN Ra va (p0, p1) Rb vb (q0, q1) = m1 at *
  obtain ⟨m1, m2⟩ := m1
  unfold LB at hNb
  dsimp only at hNb hdt
  have hla' := lst_all (f := f) hXn
  have hbs := best_spec f hXn
  have hl0 := List.length_pos_iff.2 hXn
  generalize hnx : X.length = nx at *
  have hn17 : nx ≤ 17 := by omega
  have sq0 := mul_bd (a := q0 - p0) (b := m1) (A := 100000) (B := 1024) (by omega) (by omega)
  have sq1 := mul_bd (a := q1 - p1) (b := m2) (A := 100000) (B := 1024) (by omega) (by omega)
  have hDt := fun W => Dot_any (q0 - p0) (q1 - p1) m1 m2 W (by omega) (by omega) (by omega) (by omega)
  generalize dotz (q0 - p0) (q1 - p1) m1 m2 = dt at *
  have hSb' := fun W => Sub_any q0 q1 p0 p1 W (by omega) (by omega) (by omega) (by omega)
  have HNX := Lib.hid hnx; clear hnx
  have HP := Lib.hid hP; clear hP
  have HC := Lib.hid hC; clear hC
  have HX := Lib.hid hX; clear hX
  have HB1 := Lib.hid hB1; clear hB1
  have HB2 := Lib.hid hB2; clear hB2
  have HO := Lib.hid hO; clear hO
  have HPJ1 := Lib.hid hpj1; clear hpj1
  have HPJ2 := Lib.hid hpj2; clear hpj2
  have HK1 := Lib.hid hK1; clear hK1
  have HK2 := Lib.hid hK2; clear hK2
  have HDP := Lib.hid hdp; clear hdp
  have HHL := Lib.hid hhl; clear hhl
  have HCN := Lib.hid hcn; clear hcn
  have HXB := Lib.hid hXb; clear hXb
  have HLA := Lib.hid hla'; clear hla'
  have HBS := Lib.hid hbs; clear hbs
  have HDT := Lib.hid hDt; clear hDt
  have HSB := Lib.hid hSb'; clear hSb'
  have HSH1 := Lib.hid hSh1; clear hSh1
  have HSH2 := Lib.hid hSh2; clear hSh2
  clear hGa hGb hSa hSb hXn hXl hla hlb sq0 sq1
  go_enter Try.func14, Try.ntmps14
  go_wp2_with fail
  refine calls_at ?_; intro W0 hW; have dW0 : Below w.heap.size w W0 := (by rw [hW]; exact (by repeat (first | with_reducible exact Below.refl _ _ | with_reducible refine below_alloc ?_ _ | with_reducible refine Below.drew ?_ | with_reducible refine below_set ?_ (by (first | (simp; done) | (simp; omega))) _ | with_reducible refine below_step (by assumption) ?_)))
  have XT : B4 W0 (w.heap.size) (.int .i64 (t0)) (.int .i64 (t1)) (.int .i64 (t2)) (.int .i64 (t3)) := (by rw [hW]; unfold B4 Cel; simp [go_sem]); have lXT := XT.lt
  clear hW
  refine (HSH1.out _).mono ?_
  rintro e w1 ⟨A, ja, ca, rfl, PA, hb1, -⟩
  replace XT := XT.below hb1; clear lXT; have lXT := XT.lt
  go_wp2_with fail
  refine calls_at ?_; intro W2 hW; have dW2 : Below w1.heap.size w1 W2 := (by rw [hW]; exact (by repeat (first | with_reducible exact Below.refl _ _ | with_reducible refine below_alloc ?_ _ | with_reducible refine Below.drew ?_ | with_reducible refine below_set ?_ (by (first | (simp; done) | (simp; omega))) _ | with_reducible refine below_step (by assumption) ?_))); replace XT := XT.below dW2; (try clear lXT); have lXT := XT.lt; replace PA := PA.below dW2; (try clear lPA); have lPA := PA.lt
  have XA : B2 W2 w1.heap.size (.int .i64 Ra) (.slice A ja ca) := (by rw [hW]; unfold B2 Cel; simp [go_sem])
  have i2 : Below w.heap.size w W2 := (by repeat (first | with_reducible exact Below.refl _ _ | with_reducible refine below_alloc ?_ _ | with_reducible refine Below.drew ?_ | with_reducible refine below_set ?_ (by (first | (simp; done) | (simp; omega))) _ | with_reducible refine below_step (by assumption) ?_))
  clear hW
  refine (HSH2.out _).mono ?_
  rintro e w3 ⟨B, jb, cb, rfl, PB, hb3, -⟩
  replace XT := XT.below hb3; replace XA := XA.below hb3; replace PA := PA.below hb3
  clear lXT; have lXT := XT.lt; have lXA := XA.lt
  have i3 : Below w.heap.size w w3 := i2.trans (hb3.mono i2.size)
  go_wp2_with fail
  refine calls_at ?_; intro W4 hW; have dW4 : Below w3.heap.size w3 W4 := (by rw [hW]; exact (by repeat (first | with_reducible exact Below.refl _ _ | with_reducible refine below_alloc ?_ _ | with_reducible refine Below.drew ?_ | with_reducible refine below_set ?_ (by (first | (simp; done) | (simp; omega))) _ | with_reducible refine below_step (by assumption) ?_))); replace XT := XT.below dW4; (try clear lXT); have lXT := XT.lt; replace XA := XA.below dW4; (try clear lXA); have lXA := XA.lt; replace PA := PA.below dW4; (try clear lPA); have lPA := PA.lt; replace PB := PB.below dW4; (try clear lPB); have lPB := PB.lt
  have XB : B2 W4 w3.heap.size (.int .i64 Rb) (.slice B jb cb) := (by rw [hW]; unfold B2 Cel; simp [go_sem])
  have i4 : Below w.heap.size w W4 := (by repeat (first | with_reducible exact Below.refl _ _ | with_reducible refine below_alloc ?_ _ | with_reducible refine Below.drew ?_ | with_reducible refine below_set ?_ (by (first | (simp; done) | (simp; omega))) _ | with_reducible refine below_step (by assumption) ?_))
  clear hW dW0 dW2 dW4 i2 i3 hb1 hb3
  refine (HP.out _ _ _ _ _ _ _ PA PB).mono ?_
  rintro e w5 ⟨rfl, hb5⟩; have d5 : Below W4.heap.size W4 w5 := below_step hb5 (by repeat (first | with_reducible exact Below.refl _ _ | with_reducible refine below_alloc ?_ _ | with_reducible refine Below.drew ?_ | with_reducible refine below_set ?_ (by (first | (simp; done) | (simp; omega))) _ | with_reducible refine below_step (by assumption) ?_)); have z5 := hb5.size; (try simp at z5); replace XT := XT.below d5; (try clear lXT); have lXT := XT.lt; replace XA := XA.below d5; (try clear lXA); have lXA := XA.lt; replace PA := PA.below d5; (try clear lPA); have lPA := PA.lt; replace PB := PB.below d5; (try clear lPB); have lPB := PB.lt; replace XB := XB.below d5; (try clear lXB); have lXB := XB.lt
  go_wp2_with fail
  refine code_named ?_; intro W6 hW; have dW6 : Below w5.heap.size w5 W6 := (by rw [hW]; exact (by repeat (first | with_reducible exact Below.refl _ _ | with_reducible refine below_alloc ?_ _ | with_reducible refine Below.drew ?_ | with_reducible refine below_set ?_ (by (first | (simp; done) | (simp; omega))) _ | with_reducible refine below_step (by assumption) ?_))); replace PA := PA.below dW6; (try clear lPA); have lPA := PA.lt; replace PB := PB.below dW6; (try clear lPB); have lPB := PB.lt; replace XA := XA.below dW6; (try clear lXA); have lXA := XA.lt; replace XB := XB.below dW6; (try clear lXB); have lXB := XB.lt
  have XP : B2 W6 (w5.heap.size) (.int .i64 (p0)) (.int .i64 (p1)) := (by rw [hW]; unfold B2 Cel; simp [go_sem]); have lXP := XP.lt
  have XQ : B2 W6 (w5.heap.size + 1) (.int .i64 (q0)) (.int .i64 (q1)) := (by rw [hW]; unfold B2 Cel; simp [go_sem]); have lXQ := XQ.lt
  have i6 : Below w.heap.size w W6 := (by repeat (first | with_reducible exact Below.refl _ _ | with_reducible refine below_alloc ?_ _ | with_reducible refine Below.drew ?_ | with_reducible refine below_set ?_ (by (first | (simp; done) | (simp; omega))) _ | with_reducible refine below_step (by assumption) ?_))
  clear hW hb5 d5 dW6 i4 XT lXT z5
  generalize w1.heap.size = ga at *
  generalize w3.heap.size = gb at *
  generalize w5.heap.size = gp at *
  generalize gp + 1 = gq at *
  have hPA := Lib.hid (fun (d : Nat) (os : Array Obj) => PA.re d os)
  have hPB := Lib.hid (fun (d : Nat) (os : Array Obj) => PB.re d os)
  have KXA := XA.re; have KXB := XB.re; have KXP := XP.re; have KXQ := XQ.re; refine wp_region_below (by kernel_rfl) (by kernel_rfl) ?_
  repeat (go_big_quiet_step (first
    | (go_at_call 32; first | (with_reducible exact met_below (HB1.out _ _ _ _ (hPA.out _ _))) | (with_reducible exact met_below (HB2.out _ _ _ _ (hPB.out _ _))))
    | (go_at_call 53; exact met_below (HO.out _))))
  refine wpQuiet_nil ?_; intro w7 d7; clear KXA KXB KXP KXQ; replace XA := XA.below d7; (try clear lXA); have lXA := XA.lt; replace XB := XB.below d7; (try clear lXB); have lXB := XB.lt; replace XP := XP.below d7; (try clear lXP); have lXP := XP.lt; replace XQ := XQ.below d7; (try clear lXQ); have lXQ := XQ.lt
  replace PA := PA.below d7; replace PB := PB.below d7
  have i7 : Below w.heap.size w w7 := i6.trans (d7.mono i6.size)
  clear hPA hPB d7 i6 HB1 HB2 HO lPA lPB
  go_wp2_with fail
  refine (HX.out _ _ _ _ _ _ _ PA PB).mono ?_
  rintro e w8 ⟨g, cc, rfl, PX, -, hb8⟩
  replace PA := PA.below hb8; replace PB := PB.below hb8; replace XA := XA.below hb8; replace XB := XB.below hb8; replace XP := XP.below hb8; replace XQ := XQ.below hb8
  have i8 : Below w.heap.size w w8 := i7.trans (hb8.mono i7.size)
  clear hb8 i7 lXA lXB lXP lXQ
  have lXA := XA.lt; have lXB := XB.lt; have lXP := XP.lt; have lXQ := XQ.lt
  go_wp2_with fail
  refine (HC.out _ _ _ _ _ _ _ PA PB).mono ?_
  rintro e w9 ⟨rfl, hb9⟩; have d9 : Below w8.heap.size w8 w9 := below_step hb9 (by repeat (first | with_reducible exact Below.refl _ _ | with_reducible refine below_alloc ?_ _ | with_reducible refine Below.drew ?_ | with_reducible refine below_set ?_ (by (first | (simp; done) | (simp; omega))) _ | with_reducible refine below_step (by assumption) ?_)); have z9 := hb9.size; (try simp at z9); replace PA := PA.below d9; (try clear lPA); have lPA := PA.lt; replace PB := PB.below d9; (try clear lPB); have lPB := PB.lt; replace PX := PX.below d9; (try clear lPX); have lPX := PX.lt; replace XA := XA.below d9; (try clear lXA); have lXA := XA.lt; replace XB := XB.below d9; (try clear lXB); have lXB := XB.lt; replace XP := XP.below d9; (try clear lXP); have lXP := XP.lt; replace XQ := XQ.below d9; (try clear lXQ); have lXQ := XQ.lt
  have i9 : Below w.heap.size w w9 := i8.trans (d9.mono i8.size)
  go_wp2_with fail
  refine code_named ?_; intro Wa hW; have dWa : Below w9.heap.size w9 Wa := (by rw [hW]; exact (by repeat (first | with_reducible exact Below.refl _ _ | with_reducible refine below_alloc ?_ _ | with_reducible refine Below.drew ?_ | with_reducible refine below_set ?_ (by (first | (simp; done) | (simp; omega))) _ | with_reducible refine below_step (by assumption) ?_))); replace PA := PA.below dWa; (try clear lPA); have lPA := PA.lt; replace PB := PB.below dWa; (try clear lPB); have lPB := PB.lt; replace PX := PX.below dWa; (try clear lPX); have lPX := PX.lt; replace XA := XA.below dWa; (try clear lXA); have lXA := XA.lt; replace XB := XB.below dWa; (try clear lXB); have lXB := XB.lt; replace XP := XP.below dWa; (try clear lXP); have lXP := XP.lt; replace XQ := XQ.below dWa; (try clear lXQ); have lXQ := XQ.lt
  have XC : B3 Wa w9.heap.size (.int .i64 m1) (.int .i64 m2) (.int .i64 d1) := (by rw [hW]; unfold B3 Cel; simp [go_sem])
  have ia : Below w.heap.size w Wa := i9.trans (dWa.mono i9.size)
  clear hW dWa d9 hb9 z9 i8 i9 HX HC HP HSH1 HSH2
  generalize w9.heap.size = gc at *
  obtain ⟨g', hg', -, -, -, -, hgl, hcl⟩ := PX.at_ (fun h => by have := HNX.out; rw [h] at this; simp at this; omega)
  have hgg : g = g' := by injection hg' with hg'; injection hg'
  subst hgg
  have HCL := Lib.hid hcl; clear hcl hg' PX lPX
  have hnx0 : ((nx : Int) == 0) = false := by simp; omega
  go_loopg [15, 16, 17] nx (fun gk ls att i wr => ∃ (k : Nat) (bt : Bool), gk + k = nx ∧ i = .int .i64 k ∧ ls = .int .i64 (lst f X k) ∧ att = .bool bt ∧ (∀ (z : Nat) v, z < k → X[z]? = some v → f v = d1 → (v = (m1, m2) ∨ (-v.1, -v.2) = (m1, m2)) → bt = true) ∧ Below Wa.heap.size Wa wr)
  case atStart => exact ⟨0, false, by omega, rfl, rfl, rfl, fun z v hz => by omega, Below.refl _ _⟩
  case round =>
    obtain ⟨k, bt, hk, rfl, rfl, rfl, hatt, db⟩ := hrel
    have HATT := Lib.hid hatt; clear hatt
    replace PA := PA.below db; replace PB := PB.below db; replace XA := XA.below db; replace XB := XB.below db; replace XP := XP.below db; replace XQ := XQ.below db; replace XC := XC.below db
    have ir : Below w.heap.size w wr := ia.trans (db.mono ia.size)
    clear lPA lPB lXA lXB lXP lXQ
    have lXA := XA.lt; have lXB := XB.lt; have lXP := XP.lt; have lXQ := XQ.lt; have lXC := XC.lt
    by_cases hlt : k < nx
    · obtain ⟨⟨a0, a1⟩, hv⟩ : ∃ v, X[k]? = some v := ⟨X[k]'(by rw [HNX.out]; exact hlt), List.getElem?_eq_getElem (by rw [HNX.out]; exact hlt)⟩
      have hab := HXB.out _ (List.mem_of_getElem? hv)
      have kx := cell_regrown ((db.cell (p := ⟨g, k * 2, none⟩) hgl).trans (HCL.out k _ hv).1)
      have ky := cell_regrown ((db.cell (p := ⟨g, k * 2 + 1, none⟩) hgl).trans (HCL.out k _ hv).2)
      have cx := (db.cell (p := ⟨g, k * 2, none⟩) hgl).trans (HCL.out k _ hv).1
      have cy := (db.cell (p := ⟨g, k * 2 + 1, none⟩) hgl).trans (HCL.out k _ hv).2
      dsimp only at kx ky cx cy hab
      have glr : g < wr.heap.size := World.block_lt_of_cell? wr _ cx
      have K1 := HK1.out a0 a1 hab
      have K2 := HK2.out a0 a1 hab
      have hd := HDP.out a0 a1
      have pl1 := HPJ1.out a0 a1 hab
      have pl2 := HPJ2.out a0 a1 hab
      have hl1 : (k = 0 ∨ f (a0, a1) < lst f X k → lst f X (k + 1) = f (a0, a1)) ∧ (¬ (k = 0 ∨ f (a0, a1) < lst f X k) → lst f X (k + 1) = lst f X k) := by
        by_cases h0 : k = 0
        · subst h0
          exact ⟨fun _ => lst_one hv, fun h => absurd (.inl rfl) h⟩
        · rw [lst_succ hv h0]
          constructor
          · rintro (h | h)
            · exact absurd h h0
            · exact if_pos h
          · intro h; exact if_neg (fun h' => h (.inr h'))
      have hnx' : ∀ bt' : Bool, (bt = true → bt' = true) → (f (a0, a1) = d1 → ((a0, a1) = (m1, m2) ∨ (-a0, -a1) = (m1, m2)) → bt' = true) → ∀ (z : Nat) v, z < k + 1 → X[z]? = some v → f v = d1 → (v = (m1, m2) ∨ (-v.1, -v.2) = (m1, m2)) → bt' = true := by
        intro bt' h1 h2 z v hz hzv e1 e2
        by_cases hzk : z = k
        · subst hzk
          rw [hv] at hzv
          obtain rfl : (a0, a1) = v := by injection hzv
          exact h2 e1 e2
        · exact h1 (HATT.out z v (by omega) hzv e1 e2)
      obtain ⟨L', hLe⟩ : ∃ L', L' = lst f X (k + 1) := ⟨_, rfl⟩
      rw [← hLe] at hl1
      have HLE := Lib.hid hLe; clear hLe
      generalize lst f X k = L at *
      generalize f (a0, a1) = dd at *
      generalize plo Ra va p0 p1 a0 a1 = l1 at *
      generalize phi Ra va p0 p1 a0 a1 = r1 at *
      generalize plo Rb vb q0 q1 a0 a1 = l2 at *
      generalize phi Rb vb q0 q1 a0 a1 = r2 at *
      have K1 := Lib.hid K1; have K2 := Lib.hid K2
      have HL1 := Lib.hid hl1; have HNX' := Lib.hid hnx'; clear hl1 hnx' hv
      have hk1 : (0 : Int) ≤ (k : Int) := by omega
      have hk2 : (k : Int) < (nx : Int) := by omega
      clear HHL HCN HXB HLA HBS HDT HSB HATT HK1 HK2 HDP HPJ1 HPJ2 HCL
      have hPA := Lib.hid (fun (d : Nat) (os : Array Obj) => PA.re d os)
      go_wp2_with fail
      have KXA := XA.re; have KXB := XB.re; have KXP := XP.re; have KXQ := XQ.re; have KXC := XC.re; refine wp_region_below (by kernel_rfl) (by kernel_rfl) ?_
      repeat (go_big_quiet_step ((go_at_call 35; with_reducible exact met_below (K1.out _ _ _ _ (hPA.out _ _)))))
      refine wpQuiet_nil ?_; intro w2 d2; clear KXA KXB KXP KXQ KXC; replace XA := XA.below d2; (try clear lXA); have lXA := XA.lt; replace XB := XB.below d2; (try clear lXB); have lXB := XB.lt; replace XP := XP.below d2; (try clear lXP); have lXP := XP.lt; replace XQ := XQ.below d2; (try clear lXQ); have lXQ := XQ.lt; replace XC := XC.below d2; (try clear lXC); have lXC := XC.lt
      replace PB := PB.below d2
      have kx2 := cell_regrown ((d2.cell (p := ⟨g, k * 2, none⟩) glr).trans cx)
      have ky2 := cell_regrown ((d2.cell (p := ⟨g, k * 2 + 1, none⟩) glr).trans cy)
      have hPB := Lib.hid (fun (d : Nat) (os : Array Obj) => PB.re d os)
      clear kx ky hPA
      go_wp2_with fail
      have KXA := XA.re; have KXB := XB.re; have KXP := XP.re; have KXQ := XQ.re; have KXC := XC.re; refine wp_region_below (by kernel_rfl) (by kernel_rfl) ?_
      repeat (go_big_quiet_step ((go_at_call 35; with_reducible exact met_below (K2.out _ _ _ _ (hPB.out _ _)))))
      refine wpQuiet_nil ?_; intro w3 d3; clear KXA KXB KXP KXQ KXC; replace XA := XA.below d3; (try clear lXA); have lXA := XA.lt; replace XB := XB.below d3; (try clear lXB); have lXB := XB.lt; replace XP := XP.below d3; (try clear lXP); have lXP := XP.lt; replace XQ := XQ.below d3; (try clear lXQ); have lXQ := XQ.lt; replace XC := XC.below d3; (try clear lXC); have lXC := XC.lt
      have d23 : Below wr.heap.size wr w3 := d2.trans (d3.mono d2.size)
      clear kx2 ky2 hPB K1 K2 PA PB
      go_upto_region 14 with fail
      go_cut [22] (fun s22 w' => s22 = .int .i64 dd ∧ w3 = w')
      case first =>
        go_wp2_with fail
        go_meet
        exact ⟨by rw [hd], rfl⟩
      case rest =>
      obtain ⟨rfl, rfl⟩ := hcut
      clear hd pl1 pl2
      go_upto_region 15 with fail
      go_cut [93] (fun s93 w' => ∃ c : Bool, s93 = .bool c ∧ (c = true ↔ (k = 0 ∨ dd < L)) ∧ w3 = w')
      case first =>
        by_cases h0 : k = 0
        · have h0' : ((k : Int) == 0) = true := by simp [h0]
          go_wp2_with fail
          go_meet
          exact ⟨true, rfl, ⟨fun _ => .inl h0, fun _ => rfl⟩, rfl⟩
        · have h0' : ((k : Int) == 0) = false := by simp; omega
          by_cases h2 : dd < L
          · go_wp2_with fail
            go_meet
            exact ⟨true, rfl, ⟨fun _ => .inr h2, fun _ => rfl⟩, rfl⟩
          · go_wp2_with fail
            go_meet
            exact ⟨false, rfl, ⟨(fun h => by cases h), (fun h => by omega)⟩, rfl⟩
      case rest =>
        obtain ⟨c, rfl, hc, rfl⟩ := hcut
        have hl1 : lstIf c dd L L' := by
          unfold lstIf
          cases c with
          | true => exact HL1.out.1 (hc.1 rfl)
          | false => exact HL1.out.2 (fun h => by have := hc.2 h; cases this)
        clear hc
        go_upto_if 93 with fail
        go_cut [15] (fun s15 w' => s15 = .int .i64 L' ∧ w3 = w')
        case first =>
          cases c with
          | true =>
            obtain rfl : L' = dd := hl1
            go_wp2_with fail
            go_meet
            exact ⟨rfl, rfl⟩
          | false =>
            obtain rfl : L' = L := hl1
            go_wp2_with fail
            go_meet
            exact ⟨rfl, rfl⟩
        case rest =>
          obtain ⟨rfl, rfl⟩ := hcut
          have kx3 := cell_regrown ((d23.cell (p := ⟨g, k * 2, none⟩) glr).trans cx)
          have ky3 := cell_regrown ((d23.cell (p := ⟨g, k * 2 + 1, none⟩) glr).trans cy)
          clear cx cy HL1 hl1 d2 d3
          cases bt with
          | true =>
            go_wp2_with fail
            have KXC := XC.re; refine wp_region_below (by kernel_rfl) (by kernel_rfl) ?_
            repeat (go_big_quiet_step ((go_at_call 54; exact met_below (Neg_any _ _ _ (by omega) (by omega) (by omega) (by omega)))))
            refine wpQuiet_nil ?_; intro w4 d4
            go_wp2_with fail
            go_roundg (gk - 1)
            case measure => omega
            case rel => exact ⟨k + 1, true, by omega, by go_num, by rw [← HLE.out], rfl, HNX'.out true (fun _ => rfl) (fun _ _ => rfl), db.trans ((d23.trans (d4.mono d23.size)).mono db.size)⟩
          | false =>
            by_cases e1 : dd = d1
            · have e1' : (dd == d1) = true := by simp [e1]
              by_cases e2 : a0 = m1
              · have e2' : (a0 == m1) = true := by simp [e2]
                by_cases e3 : a1 = m2
                · subst e2 e3
                  go_wp2_with fail
                  have KXC := XC.re; refine wp_region_below (by kernel_rfl) (by kernel_rfl) ?_
                  repeat (go_big_quiet_step ((go_at_call 54; exact met_below (Neg_any _ _ _ (by omega) (by omega) (by omega) (by omega)))))
                  refine wpQuiet_nil ?_; intro w4 d4
                  go_wp2_with fail
                  go_roundg (gk - 1)
                  case measure => omega
                  case rel => exact ⟨k + 1, true, by omega, by go_num, by rw [← HLE.out], rfl, HNX'.out true (fun _ => rfl) (fun _ _ => rfl), db.trans ((d23.trans (d4.mono d23.size)).mono db.size)⟩
                · have e3' : (a1 == m2) = false := by simp [e3]
                  by_cases e4 : -a0 = m1
                  · by_cases e5 : -a1 = m2
                    · subst e2; subst e5
                      go_wp2_with fail
                      have KXC := XC.re; refine wp_region_below (by kernel_rfl) (by kernel_rfl) ?_
                      repeat (go_big_quiet_step ((go_at_call 54; exact met_below (Neg_any _ _ _ (by omega) (by omega) (by omega) (by omega)))))
                      refine wpQuiet_nil ?_; intro w4 d4
                      go_wp2_with fail
                      go_roundg (gk - 1)
                      case measure => omega
                      case rel => exact ⟨k + 1, true, by omega, by go_num, by rw [← HLE.out], rfl, HNX'.out true (fun _ => rfl) (fun _ _ => rfl), db.trans ((d23.trans (d4.mono d23.size)).mono db.size)⟩
                    · have e5' : (-a1 == m2) = false := by simp [e5]
                      go_wp2_with fail
                      have KXC := XC.re; refine wp_region_below (by kernel_rfl) (by kernel_rfl) ?_
                      repeat (go_big_quiet_step ((go_at_call 54; exact met_below (Neg_any _ _ _ (by omega) (by omega) (by omega) (by omega)))))
                      refine wpQuiet_nil ?_; intro w4 d4
                      go_wp2_with fail
                      go_roundg (gk - 1)
                      case measure => omega
                      case rel => exact ⟨k + 1, false, by omega, by go_num, by rw [← HLE.out], rfl, HNX'.out false (fun h => by cases h) (fun _ h => by rcases h with h | h <;> injection h with h h'; exact absurd h' e3; exact absurd h' e5), db.trans ((d23.trans (d4.mono d23.size)).mono db.size)⟩
                  · have e4' : (-a0 == m1) = false := by simp [e4]
                    go_wp2_with fail
                    have KXC := XC.re; refine wp_region_below (by kernel_rfl) (by kernel_rfl) ?_
                    repeat (go_big_quiet_step ((go_at_call 54; exact met_below (Neg_any _ _ _ (by omega) (by omega) (by omega) (by omega)))))
                    refine wpQuiet_nil ?_; intro w4 d4
                    go_wp2_with fail
                    go_roundg (gk - 1)
                    case measure => omega
                    case rel => exact ⟨k + 1, false, by omega, by go_num, by rw [← HLE.out], rfl, HNX'.out false (fun h => by cases h) (fun _ h => by rcases h with h | h <;> injection h with h h'; exact absurd h' e3; exact absurd h e4), db.trans ((d23.trans (d4.mono d23.size)).mono db.size)⟩
              · have e2' : (a0 == m1) = false := by simp [e2]
                by_cases e4 : -a0 = m1
                · by_cases e5 : -a1 = m2
                  · subst e4 e5
                    go_wp2_with fail
                    have KXC := XC.re; refine wp_region_below (by kernel_rfl) (by kernel_rfl) ?_
                    repeat (go_big_quiet_step ((go_at_call 54; exact met_below (Neg_any _ _ _ (by omega) (by omega) (by omega) (by omega)))))
                    refine wpQuiet_nil ?_; intro w4 d4
                    go_wp2_with fail
                    go_roundg (gk - 1)
                    case measure => omega
                    case rel => exact ⟨k + 1, true, by omega, by go_num, by rw [← HLE.out], rfl, HNX'.out true (fun _ => rfl) (fun _ _ => rfl), db.trans ((d23.trans (d4.mono d23.size)).mono db.size)⟩
                  · have e5' : (-a1 == m2) = false := by simp [e5]
                    go_wp2_with fail
                    have KXC := XC.re; refine wp_region_below (by kernel_rfl) (by kernel_rfl) ?_
                    repeat (go_big_quiet_step ((go_at_call 54; exact met_below (Neg_any _ _ _ (by omega) (by omega) (by omega) (by omega)))))
                    refine wpQuiet_nil ?_; intro w4 d4
                    go_wp2_with fail
                    go_roundg (gk - 1)
                    case measure => omega
                    case rel => exact ⟨k + 1, false, by omega, by go_num, by rw [← HLE.out], rfl, HNX'.out false (fun h => by cases h) (fun _ h => by rcases h with h | h <;> injection h with h h'; exact absurd h e2; exact absurd h' e5), db.trans ((d23.trans (d4.mono d23.size)).mono db.size)⟩
                · have e4' : (-a0 == m1) = false := by simp [e4]
                  go_wp2_with fail
                  have KXC := XC.re; refine wp_region_below (by kernel_rfl) (by kernel_rfl) ?_
                  repeat (go_big_quiet_step ((go_at_call 54; exact met_below (Neg_any _ _ _ (by omega) (by omega) (by omega) (by omega)))))
                  refine wpQuiet_nil ?_; intro w4 d4
                  go_wp2_with fail
                  go_roundg (gk - 1)
                  case measure => omega
                  case rel => exact ⟨k + 1, false, by omega, by go_num, by rw [← HLE.out], rfl, HNX'.out false (fun h => by cases h) (fun _ h => by rcases h with h | h <;> injection h with h h'; exact absurd h e2; exact absurd h e4), db.trans ((d23.trans (d4.mono d23.size)).mono db.size)⟩
            · have e1' : (dd == d1) = false := by simp [e1]
              go_wp2_with fail
              have KXC := XC.re; refine wp_region_below (by kernel_rfl) (by kernel_rfl) ?_
              repeat (go_big_quiet_step ((go_at_call 54; exact met_below (Neg_any _ _ _ (by omega) (by omega) (by omega) (by omega)))))
              refine wpQuiet_nil ?_; intro w4 d4
              go_wp2_with fail
              go_roundg (gk - 1)
              case measure => omega
              case rel => exact ⟨k + 1, false, by omega, by go_num, by rw [← HLE.out], rfl, HNX'.out false (fun h => by cases h) (fun h => absurd h e1), db.trans ((d23.trans (d4.mono d23.size)).mono db.size)⟩
    · obtain rfl : k = nx := by omega
      have hL := HLA.out
      rw [hL]
      obtain ⟨b1, b2, b3⟩ := HBS.out
      obtain ⟨z, hz⟩ := List.mem_iff_getElem?.1 b2
      have hzl : z < k := by have := (List.getElem?_eq_some_iff.1 hz).1; rw [HNX.out] at this; exact this
      have hat := HATT.out z _ hzl hz
      have hcn := HCN.out
      have hhl := HHL.out
      rw [b3] at hat
      generalize (best f X).2 = bb at *
      clear HATT HHL HCN HXB HLA HBS HK1 HK2 HDP HPJ1 HPJ2 HCL b1 b2 b3 hz hzl hL
      by_cases hp : ov = true ∧ 0 < bb
      · obtain ⟨rfl, hbb⟩ := hp
        have hh : h1 = true := by rw [hhl]; simp [hbb]
        subst hh
        obtain ⟨c1, c2⟩ := hcn.1 rfl
        subst c1
        have hb : bt = true := hat rfl (by rcases c2 with h | h <;> rw [h] <;> simp)
        subst hb
        clear hat hcn hhl c2
        go_wp2_with fail
        have KXA := XA.re; have KXB := XB.re; have KXP := XP.re; have KXQ := XQ.re; have KXC := XC.re; refine wp_region_below (by kernel_rfl) (by kernel_rfl) ?_
        repeat (go_big_quiet_step (first
          | (go_at_call 48; exact met_below (HSB.out _))
          | (go_at_call 41; exact met_below (HDT.out _))
          | (go_at_call 44; exact met_below (lives5_any _))))
        refine wpQuiet_nil ?_; intro w2 d2
        go_wp2_with fail
        go_ret
        exact ⟨rfl, ir.trans (d2.mono ir.size)⟩
      · have hh : h1 = false := by
          rw [hhl]
          cases ov with
          | false => rfl
          | true => have : ¬ 0 < bb := fun h => hp ⟨rfl, h⟩
                    simp; omega
        subst hh
        obtain ⟨rfl, c2⟩ := hcn.2 rfl
        obtain ⟨rfl, rfl⟩ : m1 = 0 ∧ m2 = 0 := by injection c2 with c2 c3; exact ⟨c2, c3⟩
        clear hat hcn hhl HDT HSB
        cases ov with
        | false =>
          go_wp2_with fail
          refine (lives5_any _).mono ?_
          rintro e w5 ⟨rfl, hb5⟩
          go_wp2_with fail
          go_ret
          exact ⟨rfl, ir.trans (hb5.mono ir.size)⟩
        | true =>
          have hbb : ¬ 0 < bb := fun h => hp ⟨rfl, h⟩
          clear hp
          go_wp2_with fail
          refine (lives5_any _).mono ?_
          rintro e w5 ⟨rfl, hb5⟩
          go_wp2_with fail
          go_ret
          exact ⟨rfl, ir.trans (hb5.mono ir.size)⟩

theorem own : ownKnob Try.prog.godebug = none := by kernel_rfl
theorem laidOut : laidOutB Try.prog = true := by kernel_rfl

set_option maxRecDepth 100000 in
theorem lifted (os : Os) (started : os.Started) (H : Type) (enc : TypeId × Value → H) :
    ReturnsInHanded {} Try.checked os 14 .any (Rows.collideLeastSpec.pre6 enc Try.prog Try.f14 Rows.collideLeastRow.domain false) (Rows.collideLeastSpec.post enc Try.prog Try.f14 false true false false) := by
  refine returnsInHanded_of_change (C := Try.checked) own started (by kernel_rfl) Try.func14
    (ChangeSpec.witness6 (enc := enc) (C := Try.checked) false ⟨#[], #[.int .i64 0, .int .i64 0, .agg #[.int .i64 0, .int .i64 0, .int .i64 0, .int .i64 0]], []⟩ 8 (by kernel_rfl) (by kernel_rfl) (by kernel_rfl) (by kernel_rfl)) ?_
  intro W base args ds gs before hval0 hW hcnd _
  have hval : ∀ (j : Nat) t v, Try.f14.params[j]? = some t → args[j]? = some v → Value.okWide Try.prog W .any base t v := hval0
  have hW' := hW
  obtain ⟨p, q, hA0, hV, rfl, hfz, hnd⟩ := hW
  have hA : DataW.TrodAll enc Try.prog W 0 (fun _ => true) true Try.f14.params.toList args.toList ds p := hA0
  rw [Try.params14] at hA hval
  obtain ⟨v0, vs0, d0, ds0, p0, q0, hargs, rfl, rfl, h0, r0⟩ := trodAll_cons hA
  obtain ⟨v1, vs1, d1, ds1, p1, q1, rfl, rfl, rfl, h1, r1⟩ := trodAll_cons r0
  obtain ⟨v2, vs2, d2, ds2, p2, q2, rfl, rfl, rfl, h2, r2⟩ := trodAll_cons r1
  obtain ⟨rfl, rfl, rfl⟩ := trodAll_nil r2
  obtain rfl : args = #[v0, v1, v2] := by cases args; simp_all
  obtain ⟨rfl, rfl⟩ := trodVars_none hV
  obtain ⟨a0, rfl, rfl, rfl, w0⟩ := open_int Try.underlying3 (hval 0 3 v0 rfl rfl) h0
  obtain ⟨a1, rfl, rfl, rfl, w1⟩ := open_int Try.underlying3 (hval 1 3 v1 rfl rfl) h1
  have k2 := h2
  have lt2 : ∀ x ∈ p2, x.block < W.heap.size := by obtain ⟨m, hm⟩ := k2; exact DataW.trod_lt m _ _ _ hm
  obtain ⟨zs2, rfl, hz2, hw2⟩ := open_arr Try.underlying51 Try.underlying3 (by kernel_rfl) (by kernel_rfl) (hval 2 51 v2 rfl rfl) h2
  obtain ⟨z2_0, z2_1, z2_2, z2_3, rfl⟩ := list4 hz2
  have bz2_0 := bounds_i64 (hw2 z2_0 (by simp))
  have bz2_1 := bounds_i64 (hw2 z2_1 (by simp))
  have bz2_2 := bounds_i64 (hw2 z2_2 (by simp))
  have bz2_3 := bounds_i64 (hw2 z2_3 (by simp))
  clear hA0 hval0
  refine (walk a0 (bounds_i64 w0).1 (bounds_i64 w0).2 a1 (bounds_i64 w1).1 (bounds_i64 w1).2 z2_0 bz2_0.1 bz2_0.2 z2_1 bz2_1.1 bz2_1.2 z2_2 bz2_2.1 bz2_2.2 z2_3 bz2_3.1 bz2_3.2 W).mono fun e W' ⟨he, bel⟩ => ?_
  subst he
  exact ⟨_, rfl, _, _, _, [], _, [], hW', trodAll_mk1 (shut_bool Try.underlying4 _), (trodAll_cons_mk (shut_int Try.underlying3 w0) (trodAll_cons_mk (shut_int Try.underlying3 w1) (trodAll_cons_mk (Below.trod laidOut (by kernel_rfl) (of_decide_eq_true (by kernel_rfl)) k2 bel lt2) trodAll_mk0))), rfl, bel.frame _, fun h => by cases h⟩

theorem closed : joinedFacts Try.prog 14 Try.f14 Rows.collideLeastSpec Rows.collideLeastRow = true := by
  unfold joinedFacts
  repeat' (with_reducible refine both_of ?_ ?_)
  all_goals (first | with_reducible exact mayEnter_ok | (rw [liftsFinal_is]; as_aux_lemma => kernel_rfl) | (rw [make_is]; as_aux_lemma => kernel_rfl) | (as_aux_lemma => kernel_rfl))

theorem over : Rows.collideLeastRow.holds Try.pinned (OpenSpec.ofChange Rows.collideLeastSpec) :=
  OpenClaim.holds_of_wide 14 Try.f14 rfl rfl rfl rfl rfl rfl rfl ⟨rfl, rfl, rfl, rfl, rfl⟩ rfl rfl rfl rfl rfl (by kernel_rfl) Try.func14 closed
    (of_decide_eq_true (by kernel_rfl)) (by unfold Func.isWrapper; first | (rw [if_pos (by decide +kernel)]; kernel_rfl) | (rw [if_neg (by decide +kernel)]; exact ⟨rfl, rfl⟩))
    (fun os started H enc _ => lifted os started H enc)

theorem proved : Rows.CollideLeastSaid := over
#print axioms proved

end Go.Proofs.Ytipcppbbpmdijaa.collideLeast
