/-
  What the generators of chapter 7's reference return: numbers, motions and contacts of the domain. Conditions: the slice as it came in.
-/
import Derived.Test.YtcapkmiinehdlaaVecr
import Derived.Test.YtcapkmiinehdlaaOpen
import Derived.Test.YtcapkmiinehdlaaResM
namespace Go.Proofs.Ytcapkmiinehdlaa
open Go.RowKit
attribute [local go_sem ↓] Go.wp_at_zero Go.wp_at_succ

/-- Element i of the slice, reduced; 0 if there is none. -/
def pck (zs : List Int) (len : Nat) (i most : Int) : Int := if i.toNat < len then arnd (zs.getD i.toNat 0) most else 0
theorem pck_bd (zs : List Int) (len : Nat) (i : Int) {most : Int} (h : 1 ≤ most) : 0 ≤ pck zs len i most ∧ pck zs len i most ≤ most - 1 := by
  unfold pck
  split
  · exact arnd_bd _ h
  · omega

theorem Pick_any (a : Option Addr) (len cap : Nat) (zs : List Int) (i most : Int) (w : World) (hr : IsRow .i64 w a len cap zs) (hi : 0 ≤ i) (hi2 : i ≤ 1000) (hm : 1 ≤ most) :
    Calls Try.prog 84 #[.slice a len cap, .int .i64 i, .int .i64 most] w fun e w' => e = .returned (.int .i64 (pck zs len i most)) ∧ w = w' := by
  obtain ⟨k, rfl⟩ := Int.eq_ofNat_of_zero_le hi
  rcases hr with ⟨rfl, rfl, rfl, rfl⟩ | ⟨x, rfl, hl, hmx, hz, hcell, hwz⟩
  · have H := Lib.hid (show pck [] 0 (k : Int) most = 0 by unfold pck; rw [if_neg (by omega)])
    go_enter Try.func84, Try.ntmps84
    go_wp2
    all_goals (go_ret; exact ⟨ret_i H.out.symm, rfl⟩)
  · unfold maxLen at hmx
    by_cases hk : k < len
    · have H := Lib.hid (show pck zs len (k : Int) most = arnd (zs.getD k 0) most by unfold pck; rw [if_pos (by simpa using hk)]; simp)
      have hw := bounds_i64 (hwz (zs.getD k 0) (by rw [List.getD_eq_getElem?_getD, List.getElem?_eq_getElem (show k < zs.length by omega)]; exact List.getElem_mem _))
      obtain ⟨b, off, rfl, hcc⟩ := ints_at hcell (by omega)
      have hc0 := hcc k (by omega)
      clear hcell hwz hcc
      generalize zs.getD k 0 = z at *
      have hk1 : (k : Int) < (len : Int) := by omega
      have hd : decide ((len : Int) ≤ (k : Int)) = false := by simp; omega
      go_enter Try.func84, Try.ntmps84
      go_wp2_with (go_at_call 33; refine (Around_any _ _ _ (by omega) (by omega) (by omega)).mono ?_; rintro e w' ⟨rfl, rfl⟩)
      all_goals (go_ret; exact ⟨ret_i H.out.symm, rfl⟩)
    · have H := Lib.hid (show pck zs len (k : Int) most = 0 by unfold pck; rw [if_neg (by simpa using hk)])
      have hk1 : (len : Int) ≤ (k : Int) := by omega
      go_enter Try.func84, Try.ntmps84
      go_wp2
      all_goals (go_ret; exact ⟨ret_i H.out.symm, rfl⟩)

/-- An inverse mass. -/
def msz (n : Int) : Int := if n % 7 = 0 then 0 else if n % 7 = 1 then 1024 else if n % 7 = 2 then 1024 else if n % 7 = 3 then 512 else if n % 7 = 4 then n % 4097 else if n % 7 = 5 then 4096 else 1
theorem msz_bd {n : Int} (_h : 0 ≤ n) : 0 ≤ msz n ∧ msz n ≤ 4096 := by unfold msz; omega

theorem mass_any (n : Int) (w : World) (h0 : 0 ≤ n) (h1 : n ≤ 1000000) :
    Calls Try.prog 83 #[.int .i64 n] w fun e w' => e = .returned (.int .i64 (msz n)) ∧ Below w.heap.size w w' := by
  have hc : (w.alloc (Obj.cells #[.int .i64 0, .int .i64 1024, .int .i64 1024, .int .i64 512, .int .i64 (n % 4097), .int .i64 4096, .int .i64 1] 3)).cell? ⟨w.heap.size, (n % 7).toNat, none⟩ = some (.int .i64 (msz n)) := by
    have hm : n % 7 = 0 ∨ n % 7 = 1 ∨ n % 7 = 2 ∨ n % 7 = 3 ∨ n % 7 = 4 ∨ n % 7 = 5 ∨ n % 7 = 6 := by omega
    unfold msz
    rcases hm with h | h | h | h | h | h | h <;> rw [h] <;> simp [go_sem]
  go_enter Try.func83, Try.ntmps83
  go_wp2
  go_ret
  exact ⟨rfl, (by repeat (first | with_reducible exact Below.refl _ _ | with_reducible refine below_alloc ?_ _ | with_reducible refine Below.drew ?_ | with_reducible refine below_set ?_ (by (first | (simp; done) | (simp; omega))) _ | with_reducible refine below_step (by assumption) ?_))⟩

/-- A number mapped to a range, small for two of three. -/
def bdm (n most : Int) : Int := if 0 < n % 3 then 300 else most
def bdd (n most : Int) : Int := n / 3 % (2 * bdm n most + 1) - bdm n most
theorem bdd_bd {n most : Int} (h : 300 ≤ most) : -most ≤ bdd n most ∧ bdd n most ≤ most := by
  have hm : 300 ≤ bdm n most ∧ bdm n most ≤ most := by unfold bdm; split <;> omega
  unfold bdd
  have h2 := Int.emod_nonneg (n / 3) (show 2 * bdm n most + 1 ≠ 0 by omega)
  have h3 := Int.emod_lt_of_pos (n / 3) (show 0 < 2 * bdm n most + 1 by omega)
  omega

theorem bounded_any (a : Option Addr) (len cap : Nat) (zs : List Int) (i most : Int) (w : World) (hr : IsRow .i64 w a len cap zs) (hi : 0 ≤ i) (hi2 : i ≤ 1000) (hm : 300 < most) (hm2 : most ≤ 1073741824) :
    Calls Try.prog 82 #[.slice a len cap, .int .i64 i, .int .i64 most] w fun e w' => e = .returned (.int .i64 (bdd (pck zs len i 1000000007) most)) ∧ w = w' := by
  have HR := Lib.hid hr
  clear hr
  have hp := pck_bd zs len i (most := 1000000007) (by decide)
  by_cases h3 : 0 < pck zs len i 1000000007 % 3
  · have H := Lib.hid (show bdd (pck zs len i 1000000007) most = pck zs len i 1000000007 / 3 % 601 - 300 by unfold bdd bdm; rw [if_pos h3]; rfl)
    go_enter Try.func82, Try.ntmps82
    go_wp2_with (go_at_call 84; refine (Pick_any _ _ _ zs _ _ _ HR.out hi hi2 (by omega)).mono ?_; rintro e w' ⟨rfl, rfl⟩)
    all_goals (go_ret; exact ⟨ret_i H.out.symm, rfl⟩)
  · have H := Lib.hid (show bdd (pck zs len i 1000000007) most = pck zs len i 1000000007 / 3 % (2 * most + 1) - most by unfold bdd bdm; rw [if_neg h3])
    have h4 : (2 * most + 1 == 0) = false := by simp; omega
    have h5 := Int.emod_nonneg (pck zs len i 1000000007 / 3) (show 2 * most + 1 ≠ 0 by omega)
    have h6 := Int.emod_lt_of_pos (pck zs len i 1000000007 / 3) (show 0 < 2 * most + 1 by omega)
    go_enter Try.func82, Try.ntmps82
    go_wp2_with (go_at_call 84; refine (Pick_any _ _ _ zs _ _ _ HR.out hi hi2 (by omega)).mono ?_; rintro e w' ⟨rfl, rfl⟩)
    all_goals (go_ret; exact ⟨ret_i H.out.symm, rfl⟩)

theorem IsRow.below {k : IntKind} {w w' : World} {a : Option Addr} {len cap : Nat} {zs : List Int} (h : IsRow k w a len cap zs) (g : Below w.heap.size w w') : IsRow k w' a len cap zs := by
  rcases h with h | ⟨x, h1, h2, h3, h4, h5, h6⟩
  · exact Or.inl h
  · exact Or.inr ⟨x, h1, h2, h3, h4, fun i hi => (g.cell (World.block_lt_of_cell? w _ (h5 i hi))).trans (h5 i hi), h6⟩

/-! ### Motions -/
def mpx (zs : List Int) (len : Nat) : Int := bdd (pck zs len 0 1000000007) 1048576
def mpy (zs : List Int) (len : Nat) : Int := bdd (pck zs len 1 1000000007) 1048576
def mvx (zs : List Int) (len : Nat) : Int := bdd (pck zs len 2 1000000007) 16384
def mvy (zs : List Int) (len : Nat) : Int := bdd (pck zs len 3 1000000007) 16384
def mms (zs : List Int) (len : Nat) : Int := msz (pck zs len 4 1000000)
theorem motion_bd (zs : List Int) (len : Nat) : RB (mpx zs len) (mpy zs len) (mvx zs len) (mvy zs len) (mms zs len) :=
  ⟨bdd_bd (by decide), bdd_bd (by decide), bdd_bd (by decide), bdd_bd (by decide), msz_bd (pck_bd _ _ _ (by decide)).1⟩

theorem Motion_any (a : Option Addr) (len cap : Nat) (zs : List Int) (w : World) (hr : IsRow .i64 w a len cap zs) :
    Calls Try.prog 66 #[.slice a len cap] w fun e w' => e = .returned (.agg #[.int .i64 (mpx zs len), .int .i64 (mpy zs len), .int .i64 (mvx zs len), .int .i64 (mvy zs len), .int .i64 (mms zs len)]) ∧ Below w.heap.size w w' := by
  have HR := Lib.hid hr
  clear hr
  have HA := Lib.hid (HR.out.below (below_alloc (Below.refl w.heap.size w) (Obj.cells #[.int .i64 0, .int .i64 0, .int .i64 0, .int .i64 0, .int .i64 0] 46)))
  have hp := pck_bd zs len 4 (most := 1000000) (by decide)
  go_enter Try.func66, Try.ntmps66
  go_wp2_with (first
    | (go_at_call 82; refine (bounded_any _ _ _ zs _ _ _ HA.out (by omega) (by omega) (by omega) (by omega)).mono ?_; rintro e w' ⟨rfl, rfl⟩)
    | (go_at_call 84; refine (Pick_any _ _ _ zs _ _ _ HA.out (by omega) (by omega) (by omega)).mono ?_; rintro e w' ⟨rfl, rfl⟩)
    | (go_at_call 83; refine (mass_any _ _ (by omega) (by omega)).mono ?_; rintro e w1 ⟨rfl, hb1⟩; obtain ⟨hc1, hf1, hz1, hy1⟩ := bcellB (B := w.heap.size + 1) hb1 (by first | (simp; done) | (simp; omega) | omega)))
  exact bodyPost_ret (v := .agg #[.int .i64 (bdd (pck zs len 0 1000000007) 1048576), .int .i64 (bdd (pck zs len 1 1000000007) 1048576), .int .i64 (bdd (pck zs len 2 1000000007) 16384), .int .i64 (bdd (pck zs len 3 1000000007) 16384), .int .i64 (msz (pck zs len 4 1000000))]) (by simp [results, Try.results66, go_sem, *]) rfl ⟨rfl, (by repeat (first | with_reducible exact Below.refl _ _ | with_reducible refine below_alloc ?_ _ | with_reducible refine Below.drew ?_ | with_reducible refine below_set ?_ (by (first | (simp; done) | (simp; omega))) _ | with_reducible refine below_step (by assumption) ?_))⟩

/-! ### Slow motions -/
def spx (zs : List Int) (len : Nat) : Int := (mpx zs len).tmod 262145
def spy (zs : List Int) (len : Nat) : Int := (mpy zs len).tmod 262145
def svx (zs : List Int) (len : Nat) : Int := (mvx zs len).tmod 2001
def svy (zs : List Int) (len : Nat) : Int := (mvy zs len).tmod 2001
/-- The bounds of a slow motion. -/
def SB (px py vx vy m : Int) : Prop := (-262144 ≤ px ∧ px ≤ 262144) ∧ (-262144 ≤ py ∧ py ≤ 262144) ∧ (-2000 ≤ vx ∧ vx ≤ 2000) ∧ (-2000 ≤ vy ∧ vy ≤ 2000) ∧ (0 ≤ m ∧ m ≤ 4096)
theorem slow_bd (zs : List Int) (len : Nat) : SB (spx zs len) (spy zs len) (svx zs len) (svy zs len) (mms zs len) := by
  have h1 := tmod_bd (mpx zs len) (c := 262145) (by decide)
  have h2 := tmod_bd (mpy zs len) (c := 262145) (by decide)
  have h3 := tmod_bd (mvx zs len) (c := 2001) (by decide)
  have h4 := tmod_bd (mvy zs len) (c := 2001) (by decide)
  have h5 := (motion_bd zs len).2.2.2.2
  unfold SB spx spy svx svy
  omega

theorem Slow_any (a : Option Addr) (len cap : Nat) (zs : List Int) (w : World) (hr : IsRow .i64 w a len cap zs) :
    Calls Try.prog 71 #[.slice a len cap] w fun e w' => e = .returned (.agg #[.int .i64 (spx zs len), .int .i64 (spy zs len), .int .i64 (svx zs len), .int .i64 (svy zs len), .int .i64 (mms zs len)]) ∧ Below w.heap.size w w' := by
  have HA := Lib.hid (hr.below (below_alloc (Below.refl w.heap.size w) (Obj.cells #[.int .i64 0, .int .i64 0, .int .i64 0, .int .i64 0, .int .i64 0] 46)))
  clear hr
  go_enter Try.func71, Try.ntmps71
  go_wp2_with (go_at_call 66; refine (Motion_any _ _ _ zs _ HA.out).mono ?_; rintro e w1 ⟨rfl, hb1⟩; obtain ⟨hc1, hf1, hz1, hy1⟩ := bcellB (B := w.heap.size + 1) hb1 (by first | (simp; done) | (simp; omega) | omega))
  exact bodyPost_ret (v := .agg #[.int .i64 ((mpx zs len).tmod 262145), .int .i64 ((mpy zs len).tmod 262145), .int .i64 ((mvx zs len).tmod 2001), .int .i64 ((mvy zs len).tmod 2001), .int .i64 (mms zs len)]) (by simp [results, Try.results71, go_sem, *]) rfl ⟨rfl, (by repeat (first | with_reducible exact Below.refl _ _ | with_reducible refine below_alloc ?_ _ | with_reducible refine Below.drew ?_ | with_reducible refine below_set ?_ (by (first | (simp; done) | (simp; omega))) _ | with_reducible refine below_step (by assumption) ?_))⟩

/-! ### Axes and contacts -/
def axx (n : Int) : Int := if arnd n 4 = 0 then 1024 else if arnd n 4 = 2 then -1024 else 0
def axy (n : Int) : Int := if arnd n 4 = 1 then 1024 else if arnd n 4 = 3 then -1024 else 0
theorem ax_bd (n : Int) : (-1024 ≤ axx n ∧ axx n ≤ 1024) ∧ (-1024 ≤ axy n ∧ axy n ≤ 1024) := by unfold axx axy; omega

theorem Axis_any (n : Int) (w : World) (h1 : -9223372036854775808 ≤ n) (h2 : n ≤ 9223372036854775807) :
    Calls Try.prog 72 #[.int .i64 n] w fun e w' => e = .returned (.agg #[.int .i64 (axx n), .int .i64 (axy n)]) ∧ Below w.heap.size w w' := by
  have hb := arnd_bd n (most := 4) (by decide)
  have hm : arnd n 4 = 0 ∨ arnd n 4 = 1 ∨ arnd n 4 = 2 ∨ arnd n 4 = 3 := by omega
  rcases hm with h | h | h | h
  · have ha := fun w => Around_any n 4 w (by omega) h1 h2
    simp only [h] at ha
    have HA := Lib.hid ha
    have e1 : axx n = 1024 := by unfold axx; rw [h]; rfl
    have e2 : axy n = 0 := by unfold axy; rw [h]; rfl
    rw [e1, e2]
    clear ha h e1 e2
    go_enter Try.func72, Try.ntmps72
    go_wp2_with (go_at_call 33; refine (HA.out _).mono ?_; rintro e w' ⟨rfl, rfl⟩)
    exact bodyPost_ret (v := .agg #[.int .i64 (1024), .int .i64 (0)]) (by simp [results, Try.results72, go_sem, *]) rfl ⟨rfl, (by repeat (first | with_reducible exact Below.refl _ _ | with_reducible refine below_alloc ?_ _ | with_reducible refine Below.drew ?_ | with_reducible refine below_set ?_ (by (first | (simp; done) | (simp; omega))) _ | with_reducible refine below_step (by assumption) ?_))⟩
  · have ha := fun w => Around_any n 4 w (by omega) h1 h2
    simp only [h] at ha
    have HA := Lib.hid ha
    have e1 : axx n = 0 := by unfold axx; rw [h]; rfl
    have e2 : axy n = 1024 := by unfold axy; rw [h]; rfl
    rw [e1, e2]
    clear ha h e1 e2
    go_enter Try.func72, Try.ntmps72
    go_wp2_with (go_at_call 33; refine (HA.out _).mono ?_; rintro e w' ⟨rfl, rfl⟩)
    exact bodyPost_ret (v := .agg #[.int .i64 (0), .int .i64 (1024)]) (by simp [results, Try.results72, go_sem, *]) rfl ⟨rfl, (by repeat (first | with_reducible exact Below.refl _ _ | with_reducible refine below_alloc ?_ _ | with_reducible refine Below.drew ?_ | with_reducible refine below_set ?_ (by (first | (simp; done) | (simp; omega))) _ | with_reducible refine below_step (by assumption) ?_))⟩
  · have ha := fun w => Around_any n 4 w (by omega) h1 h2
    simp only [h] at ha
    have HA := Lib.hid ha
    have e1 : axx n = -1024 := by unfold axx; rw [h]; rfl
    have e2 : axy n = 0 := by unfold axy; rw [h]; rfl
    rw [e1, e2]
    clear ha h e1 e2
    go_enter Try.func72, Try.ntmps72
    go_wp2_with (go_at_call 33; refine (HA.out _).mono ?_; rintro e w' ⟨rfl, rfl⟩)
    exact bodyPost_ret (v := .agg #[.int .i64 (-1024), .int .i64 (0)]) (by simp [results, Try.results72, go_sem, *]) rfl ⟨rfl, (by repeat (first | with_reducible exact Below.refl _ _ | with_reducible refine below_alloc ?_ _ | with_reducible refine Below.drew ?_ | with_reducible refine below_set ?_ (by (first | (simp; done) | (simp; omega))) _ | with_reducible refine below_step (by assumption) ?_))⟩
  · have ha := fun w => Around_any n 4 w (by omega) h1 h2
    simp only [h] at ha
    have HA := Lib.hid ha
    have e1 : axx n = 0 := by unfold axx; rw [h]; rfl
    have e2 : axy n = -1024 := by unfold axy; rw [h]; rfl
    rw [e1, e2]
    clear ha h e1 e2
    go_enter Try.func72, Try.ntmps72
    go_wp2_with (go_at_call 33; refine (HA.out _).mono ?_; rintro e w' ⟨rfl, rfl⟩)
    exact bodyPost_ret (v := .agg #[.int .i64 (0), .int .i64 (-1024)]) (by simp [results, Try.results72, go_sem, *]) rfl ⟨rfl, (by repeat (first | with_reducible exact Below.refl _ _ | with_reducible refine below_alloc ?_ _ | with_reducible refine Below.drew ?_ | with_reducible refine below_set ?_ (by (first | (simp; done) | (simp; omega))) _ | with_reducible refine below_step (by assumption) ?_))⟩

def cnn (zs : List Int) (len : Nat) : Int := pck zs len 0 1000000
def cnx (zs : List Int) (len : Nat) : Int := if cnn zs len % 3 = 0 then cnn zs len / 3 % 2049 - 1024 else axx (cnn zs len / 3)
def cny (zs : List Int) (len : Nat) : Int := if cnn zs len % 3 = 0 then pck zs len 2 2049 - 1024 else axy (cnn zs len / 3)
def cdp (zs : List Int) (len : Nat) : Int := if pck zs len 1 11 = 10 then pck zs len 1 1048577 else pck zs len 1 5000
theorem contact_bd (zs : List Int) (len : Nat) : ((-1024 ≤ cnx zs len ∧ cnx zs len ≤ 1024) ∧ (-1024 ≤ cny zs len ∧ cny zs len ≤ 1024)) ∧ 0 ≤ cdp zs len ∧ cdp zs len ≤ 1048576 := by
  have h1 := pck_bd zs len 2 (most := 2049) (by decide)
  have h2 := pck_bd zs len 1 (most := 5000) (by decide)
  have h3 := pck_bd zs len 1 (most := 1048577) (by decide)
  have h4 := ax_bd (cnn zs len / 3)
  refine ⟨⟨?_, ?_⟩, ?_⟩
  · unfold cnx; split
    · omega
    · exact h4.1
  · unfold cny; split
    · omega
    · exact h4.2
  · unfold cdp; split <;> omega

theorem Contact_any (a : Option Addr) (len cap : Nat) (zs : List Int) (w : World) (hr : IsRow .i64 w a len cap zs) :
    Calls Try.prog 67 #[.slice a len cap] w fun e w' => e = .returned (.agg #[.int .i64 (cnx zs len), .int .i64 (cny zs len), .int .i64 (cdp zs len)]) ∧ Below w.heap.size w w' := by
  have HR := Lib.hid hr
  clear hr
  have hp := pck_bd zs len 0 (most := 1000000) (by decide)
  have hq := pck_bd zs len 2 (most := 2049) (by decide)
  by_cases h3 : cnn zs len % 3 = 0 <;> by_cases h10 : pck zs len 1 11 = 10 <;> unfold cnn at h3
  · have e1 : cnx zs len = pck zs len 0 1000000 / 3 % 2049 - 1024 := by unfold cnx cnn; rw [if_pos h3]
    have e2 : cny zs len = pck zs len 2 2049 - 1024 := by unfold cny cnn; rw [if_pos h3]
    have e3 : cdp zs len = pck zs len 1 1048577 := by unfold cdp; rw [if_pos h10]
    have t1 : (pck zs len 0 1000000 % 3 == 0) = true := by simpa using h3
    have t2 : (pck zs len 1 11 == 10) = true := by simpa using h10
    rw [e1, e2, e3]
    clear e1 e2 e3 h3 h10
    go_enter Try.func67, Try.ntmps67
    go_wp2_with (first
      | (go_at_call 84; refine (Pick_any _ _ _ zs _ _ _ (HR.out.below (by repeat (first | with_reducible exact Below.refl _ _ | with_reducible refine below_alloc ?_ _ | with_reducible refine Below.drew ?_ | with_reducible refine below_set ?_ (by (first | (simp; done) | (simp; omega))) _ | with_reducible refine below_step (by assumption) ?_))) (by omega) (by omega) (by omega)).mono ?_; rintro e w' ⟨rfl, rfl⟩)
      | (go_at_call 72; refine (Axis_any _ _ (by omega) (by omega)).mono ?_; rintro e w1 ⟨rfl, hb1⟩; obtain ⟨hc1, hf1, hz1, hy1⟩ := bcellB (B := w.heap.size + 2) hb1 (by first | (simp; done) | (simp; omega) | omega)))
    exact bodyPost_ret (v := .agg #[.int .i64 (pck zs len 0 1000000 / 3 % 2049 - 1024), .int .i64 (pck zs len 2 2049 - 1024), .int .i64 (pck zs len 1 1048577)]) (by simp [results, Try.results67, go_sem, *]) rfl ⟨rfl, (by repeat (first | with_reducible exact Below.refl _ _ | with_reducible refine below_alloc ?_ _ | with_reducible refine Below.drew ?_ | with_reducible refine below_set ?_ (by (first | (simp; done) | (simp; omega))) _ | with_reducible refine below_step (by assumption) ?_))⟩
  · have e1 : cnx zs len = pck zs len 0 1000000 / 3 % 2049 - 1024 := by unfold cnx cnn; rw [if_pos h3]
    have e2 : cny zs len = pck zs len 2 2049 - 1024 := by unfold cny cnn; rw [if_pos h3]
    have e3 : cdp zs len = pck zs len 1 5000 := by unfold cdp; rw [if_neg h10]
    have t1 : (pck zs len 0 1000000 % 3 == 0) = true := by simpa using h3
    have t2 : (pck zs len 1 11 == 10) = false := by simpa using h10
    rw [e1, e2, e3]
    clear e1 e2 e3 h3 h10
    go_enter Try.func67, Try.ntmps67
    go_wp2_with (first
      | (go_at_call 84; refine (Pick_any _ _ _ zs _ _ _ (HR.out.below (by repeat (first | with_reducible exact Below.refl _ _ | with_reducible refine below_alloc ?_ _ | with_reducible refine Below.drew ?_ | with_reducible refine below_set ?_ (by (first | (simp; done) | (simp; omega))) _ | with_reducible refine below_step (by assumption) ?_))) (by omega) (by omega) (by omega)).mono ?_; rintro e w' ⟨rfl, rfl⟩)
      | (go_at_call 72; refine (Axis_any _ _ (by omega) (by omega)).mono ?_; rintro e w1 ⟨rfl, hb1⟩; obtain ⟨hc1, hf1, hz1, hy1⟩ := bcellB (B := w.heap.size + 2) hb1 (by first | (simp; done) | (simp; omega) | omega)))
    exact bodyPost_ret (v := .agg #[.int .i64 (pck zs len 0 1000000 / 3 % 2049 - 1024), .int .i64 (pck zs len 2 2049 - 1024), .int .i64 (pck zs len 1 5000)]) (by simp [results, Try.results67, go_sem, *]) rfl ⟨rfl, (by repeat (first | with_reducible exact Below.refl _ _ | with_reducible refine below_alloc ?_ _ | with_reducible refine Below.drew ?_ | with_reducible refine below_set ?_ (by (first | (simp; done) | (simp; omega))) _ | with_reducible refine below_step (by assumption) ?_))⟩
  · have e1 : cnx zs len = axx (pck zs len 0 1000000 / 3) := by unfold cnx cnn; rw [if_neg h3]
    have e2 : cny zs len = axy (pck zs len 0 1000000 / 3) := by unfold cny cnn; rw [if_neg h3]
    have e3 : cdp zs len = pck zs len 1 1048577 := by unfold cdp; rw [if_pos h10]
    have t1 : (pck zs len 0 1000000 % 3 == 0) = false := by simpa using h3
    have t2 : (pck zs len 1 11 == 10) = true := by simpa using h10
    rw [e1, e2, e3]
    clear e1 e2 e3 h3 h10
    go_enter Try.func67, Try.ntmps67
    go_wp2_with (first
      | (go_at_call 84; refine (Pick_any _ _ _ zs _ _ _ (HR.out.below (by repeat (first | with_reducible exact Below.refl _ _ | with_reducible refine below_alloc ?_ _ | with_reducible refine Below.drew ?_ | with_reducible refine below_set ?_ (by (first | (simp; done) | (simp; omega))) _ | with_reducible refine below_step (by assumption) ?_))) (by omega) (by omega) (by omega)).mono ?_; rintro e w' ⟨rfl, rfl⟩)
      | (go_at_call 72; refine (Axis_any _ _ (by omega) (by omega)).mono ?_; rintro e w1 ⟨rfl, hb1⟩; obtain ⟨hc1, hf1, hz1, hy1⟩ := bcellB (B := w.heap.size + 2) hb1 (by first | (simp; done) | (simp; omega) | omega)))
    exact bodyPost_ret (v := .agg #[.int .i64 (axx (pck zs len 0 1000000 / 3)), .int .i64 (axy (pck zs len 0 1000000 / 3)), .int .i64 (pck zs len 1 1048577)]) (by simp [results, Try.results67, go_sem, *]) rfl ⟨rfl, (by repeat (first | with_reducible exact Below.refl _ _ | with_reducible refine below_alloc ?_ _ | with_reducible refine Below.drew ?_ | with_reducible refine below_set ?_ (by (first | (simp; done) | (simp; omega))) _ | with_reducible refine below_step (by assumption) ?_))⟩
  · have e1 : cnx zs len = axx (pck zs len 0 1000000 / 3) := by unfold cnx cnn; rw [if_neg h3]
    have e2 : cny zs len = axy (pck zs len 0 1000000 / 3) := by unfold cny cnn; rw [if_neg h3]
    have e3 : cdp zs len = pck zs len 1 5000 := by unfold cdp; rw [if_neg h10]
    have t1 : (pck zs len 0 1000000 % 3 == 0) = false := by simpa using h3
    have t2 : (pck zs len 1 11 == 10) = false := by simpa using h10
    rw [e1, e2, e3]
    clear e1 e2 e3 h3 h10
    go_enter Try.func67, Try.ntmps67
    go_wp2_with (first
      | (go_at_call 84; refine (Pick_any _ _ _ zs _ _ _ (HR.out.below (by repeat (first | with_reducible exact Below.refl _ _ | with_reducible refine below_alloc ?_ _ | with_reducible refine Below.drew ?_ | with_reducible refine below_set ?_ (by (first | (simp; done) | (simp; omega))) _ | with_reducible refine below_step (by assumption) ?_))) (by omega) (by omega) (by omega)).mono ?_; rintro e w' ⟨rfl, rfl⟩)
      | (go_at_call 72; refine (Axis_any _ _ (by omega) (by omega)).mono ?_; rintro e w1 ⟨rfl, hb1⟩; obtain ⟨hc1, hf1, hz1, hy1⟩ := bcellB (B := w.heap.size + 2) hb1 (by first | (simp; done) | (simp; omega) | omega)))
    exact bodyPost_ret (v := .agg #[.int .i64 (axx (pck zs len 0 1000000 / 3)), .int .i64 (axy (pck zs len 0 1000000 / 3)), .int .i64 (pck zs len 1 5000)]) (by simp [results, Try.results67, go_sem, *]) rfl ⟨rfl, (by repeat (first | with_reducible exact Below.refl _ _ | with_reducible refine below_alloc ?_ _ | with_reducible refine Below.drew ?_ | with_reducible refine below_set ?_ (by (first | (simp; done) | (simp; omega))) _ | with_reducible refine below_step (by assumption) ?_))⟩
end Go.Proofs.Ytcapkmiinehdlaa
