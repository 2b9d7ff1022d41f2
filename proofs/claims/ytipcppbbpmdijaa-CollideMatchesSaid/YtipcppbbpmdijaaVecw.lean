/-
  What the functions of package vec and of its reference return, each proved once over this translation. Conditions: the components' bounds, as each theorem states.
-/
import Derived.Test.YtipcppbbpmdijaaFix
import Derived.Deep.RegionHeld3
import Derived.Deep.DrawnRows
import Derived.Deep.RegionWith
import Derived.Deep.DeepCutAuto
namespace Go.Proofs.Ytipcppbbpmdijaa
open Go.RowKit
attribute [local go_sem ↓] Go.wp_at_zero Go.wp_at_succ

def dotz (ax ay bx b_y : Int) : Int := (ax * bx + ay * b_y) / 1024
def crz (ax ay bx b_y : Int) : Int := (ax * b_y - ay * bx) / 1024
def lnz (ax ay : Int) : Int := isq (ax * ax + ay * ay)

theorem bcell {W w1 : World} (hb : Below W.heap.size W w1) : (∀ b o, b < W.heap.size → w1.cell? ⟨b, o, none⟩ = W.cell? ⟨b, o, none⟩) ∧ (∀ b o, b < W.heap.size → w1.frozen? ⟨b, o, none⟩ = W.frozen? ⟨b, o, none⟩) :=
  ⟨fun b o h => hb.cell (p := ⟨b, o, none⟩) h, fun b o h => hb.frozen (p := ⟨b, o, none⟩) h⟩
theorem bcellB {W w1 : World} {B : Nat} (hb : Below W.heap.size W w1) (hB : B ≤ W.heap.size) : (∀ b o, b < B → w1.cell? ⟨b, o, none⟩ = W.cell? ⟨b, o, none⟩) ∧ (∀ b o, b < B → w1.frozen? ⟨b, o, none⟩ = W.frozen? ⟨b, o, none⟩) ∧ B ≤ w1.heap.size ∧ (∀ b, b < B → b < w1.heap.size) :=
  ⟨fun b o h => hb.cell (p := ⟨b, o, none⟩) (Nat.lt_of_lt_of_le h hB), fun b o h => hb.frozen (p := ⟨b, o, none⟩) (Nat.lt_of_lt_of_le h hB), Nat.le_trans hB hb.size, fun _ h => Nat.lt_of_lt_of_le h (Nat.le_trans hB hb.size)⟩
theorem keep_cell {W w1 : World} (hb : Below W.heap.size W w1) {b o : Nat} {v : Value} (h : W.cell? ⟨b, o, none⟩ = some v) : w1.cell? ⟨b, o, none⟩ = some v :=
  (hb.cell (p := ⟨b, o, none⟩) (World.block_lt_of_cell? W _ h)).trans h
theorem below_step {w a b : World} (h : Below a.heap.size a b) (g : Below w.heap.size w a) : Below w.heap.size w b := g.trans (h.mono g.size)
theorem below_alloc {w a : World} (g : Below w.heap.size w a) (o : Obj) : Below w.heap.size w (a.alloc o) := g.alloc g.size o
theorem below_set {w a : World} (g : Below w.heap.size w a) {p : Addr} (hp : w.heap.size ≤ p.block) (u : Value) : Below w.heap.size w (a.setCell p u) := g.setCell hp u

theorem Add_any (ax ay bx b_y : Int) (w : World) (h1 : -9223372036854775808 ≤ ax + bx) (h2 : ax + bx ≤ 9223372036854775807) (h3 : -9223372036854775808 ≤ ay + b_y) (h4 : ay + b_y ≤ 9223372036854775807) :
    Calls Try.prog 30 #[.agg #[.int .i64 ax, .int .i64 ay], .agg #[.int .i64 bx, .int .i64 b_y]] w fun e w' => e = .returned (.agg #[.int .i64 (ax + bx), .int .i64 (ay + b_y)]) ∧ Below w.heap.size w w' := by
  go_enter Try.func30, Try.ntmps30
  go_wp2
  exact bodyPost_ret (v := .agg #[.int .i64 (ax + bx), .int .i64 (ay + b_y)]) (by simp [results, Try.results30, go_sem, *]) rfl ⟨rfl, (by repeat (first | with_reducible exact Below.refl _ _ | with_reducible refine below_alloc ?_ _ | with_reducible refine Below.drew ?_ | with_reducible refine below_set ?_ (by (first | (simp; done) | (simp; omega))) _ | with_reducible refine below_step (by assumption) ?_))⟩

theorem Sub_any (ax ay bx b_y : Int) (w : World) (h1 : -9223372036854775808 ≤ ax - bx) (h2 : ax - bx ≤ 9223372036854775807) (h3 : -9223372036854775808 ≤ ay - b_y) (h4 : ay - b_y ≤ 9223372036854775807) :
    Calls Try.prog 48 #[.agg #[.int .i64 ax, .int .i64 ay], .agg #[.int .i64 bx, .int .i64 b_y]] w fun e w' => e = .returned (.agg #[.int .i64 (ax - bx), .int .i64 (ay - b_y)]) ∧ Below w.heap.size w w' := by
  go_enter Try.func48, Try.ntmps48
  go_wp2
  exact bodyPost_ret (v := .agg #[.int .i64 (ax - bx), .int .i64 (ay - b_y)]) (by simp [results, Try.results48, go_sem, *]) rfl ⟨rfl, (by repeat (first | with_reducible exact Below.refl _ _ | with_reducible refine below_alloc ?_ _ | with_reducible refine Below.drew ?_ | with_reducible refine below_set ?_ (by (first | (simp; done) | (simp; omega))) _ | with_reducible refine below_step (by assumption) ?_))⟩

theorem Neg1_any (n : Int) (w : World) (h1 : -9223372036854775807 ≤ n) (h2 : n ≤ 9223372036854775807) :
    Calls Try.prog 81 #[.int .i64 n] w fun e w' => e = .returned (.int .i64 (-n)) ∧ w = w' := by
  go_enter Try.func81, Try.ntmps81
  go_wp2
  go_ret
  exact ⟨rfl, rfl⟩

theorem each_neg (ax ay : Int) (w : World) (h1 : -9223372036854775807 ≤ ax) (h2 : ax ≤ 9223372036854775807) (h3 : -9223372036854775807 ≤ ay) (h4 : ay ≤ 9223372036854775807) :
    Calls Try.prog 80 #[.agg #[.int .i64 ax, .int .i64 ay], .func (.func 81) #[] #[]] w fun e w' => e = .returned (.agg #[.int .i64 (-ax), .int .i64 (-ay)]) ∧ Below w.heap.size w w' := by
  go_enter Try.func80, Try.ntmps80
  go_wp2
  go_region_held3 (fun w' => w'.cell? ⟨w.heap.size, 0, none⟩ = some (.int .i64 ax) ∧ w'.cell? ⟨w.heap.size, 1, none⟩ = some (.int .i64 ay)) (first | (go_keep; done) | ((repeat' apply And.intro) <;> (first | (go_keep; done) | (refine keep_cell (by assumption) ?_; go_keep; done) | ((repeat (first | with_reducible exact Below.refl _ _ | with_reducible refine below_alloc ?_ _ | with_reducible refine Below.drew ?_ | with_reducible refine below_set ?_ (by (first | (simp; done) | (simp; omega))) _ | with_reducible refine below_step (by assumption) ?_)); all_goals (simp [*]; done)))))
    (first | (go_at_call 81; refine (Neg1_any _ _ (by omega) (by omega)).mono ?_; rintro e w' ⟨rfl, rfl⟩))
  go_wp2
  exact bodyPost_ret (v := .agg #[.int .i64 (-ax), .int .i64 (-ay)]) (by simp [results, Try.results80, go_sem, *]) rfl ⟨rfl, (by repeat (first | with_reducible exact Below.refl _ _ | with_reducible refine below_alloc ?_ _ | with_reducible refine Below.drew ?_ | with_reducible refine below_set ?_ (by (first | (simp; done) | (simp; omega))) _ | with_reducible refine below_step (by assumption) ?_))⟩

theorem Neg_any (ax ay : Int) (w : World) (h1 : -9223372036854775807 ≤ ax) (h2 : ax ≤ 9223372036854775807) (h3 : -9223372036854775807 ≤ ay) (h4 : ay ≤ 9223372036854775807) :
    Calls Try.prog 54 #[.agg #[.int .i64 ax, .int .i64 ay]] w fun e w' => e = .returned (.agg #[.int .i64 (-ax), .int .i64 (-ay)]) ∧ Below w.heap.size w w' := by
  go_enter Try.func54, Try.ntmps54
  go_wp2_with (go_at_call 80; refine (each_neg _ _ _ h1 h2 h3 h4).mono ?_; rintro e w1 ⟨rfl, hb1⟩; obtain ⟨hc1, hf1⟩ := bcell hb1; have hz1 := hb1.size; (try simp at hz1))
  exact bodyPost_ret (v := .agg #[.int .i64 (-ax), .int .i64 (-ay)]) (by simp [results, Try.results54, go_sem, *]) rfl ⟨rfl, (by repeat (first | with_reducible exact Below.refl _ _ | with_reducible refine below_alloc ?_ _ | with_reducible refine Below.drew ?_ | with_reducible refine below_set ?_ (by (first | (simp; done) | (simp; omega))) _ | with_reducible refine below_step (by assumption) ?_))⟩

theorem MulDiv1_any (x n d : Int) (p q : Nat) (w : World) (hc : w.cell? ⟨p, 0, none⟩ = some (.int .i64 n)) (hd : w.cell? ⟨q, 0, none⟩ = some (.int .i64 d)) (h1 : -4611686018427387904 ≤ x * n) (h2 : x * n ≤ 4611686018427387904) :
    Calls Try.prog 85 #[.int .i64 x, .pointer (some ⟨p, 0, none⟩), .pointer (some ⟨q, 0, none⟩)] w fun e w' => e = .returned (.int .i64 (mdv x n d)) ∧ w = w' := by
  go_enter Try.func85, Try.ntmps85
  go_wp2_with (go_at_call 86; refine (MulDiv_any _ _ _ _ h1 h2).mono ?_; rintro e w' ⟨rfl, rfl⟩)
  go_ret
  exact ⟨rfl, rfl⟩

theorem each_muldiv (ax ay n d : Int) (p q : Nat) (w : World) (hc : w.cell? ⟨p, 0, none⟩ = some (.int .i64 n)) (hd : w.cell? ⟨q, 0, none⟩ = some (.int .i64 d)) (h1 : -4611686018427387904 ≤ ax * n) (h2 : ax * n ≤ 4611686018427387904) (h3 : -4611686018427387904 ≤ ay * n) (h4 : ay * n ≤ 4611686018427387904) :
    Calls Try.prog 80 #[.agg #[.int .i64 ax, .int .i64 ay], .func (.func 85) #[] #[.pointer (some ⟨p, 0, none⟩), .pointer (some ⟨q, 0, none⟩)]] w fun e w' => e = .returned (.agg #[.int .i64 (mdv ax n d), .int .i64 (mdv ay n d)]) ∧ Below w.heap.size w w' := by
  have hn := World.new_ne w ⟨p, 0, none⟩ hc
  have hm := World.new_ne w ⟨q, 0, none⟩ hd
  go_enter Try.func80, Try.ntmps80
  go_wp2
  go_region_held3 (fun w' => w'.cell? ⟨w.heap.size, 0, none⟩ = some (.int .i64 ax) ∧ w'.cell? ⟨w.heap.size, 1, none⟩ = some (.int .i64 ay) ∧ w'.cell? ⟨p, 0, none⟩ = some (.int .i64 n) ∧ w'.cell? ⟨q, 0, none⟩ = some (.int .i64 d)) (go_keep)
    (first | (go_at_call_of 85 (Value.int .i64 ax); refine (MulDiv1_any ax n d p q _ ?_ ?_ h1 h2).mono ?_; (simp [*]); (simp [*]); rintro e w' ⟨rfl, rfl⟩) | (go_at_call_of 85 (Value.int .i64 ay); refine (MulDiv1_any ay n d p q _ ?_ ?_ h3 h4).mono ?_; (simp [*]); (simp [*]); rintro e w' ⟨rfl, rfl⟩))
  go_wp2
  exact bodyPost_ret (v := .agg #[.int .i64 (mdv ax n d), .int .i64 (mdv ay n d)]) (by simp [results, Try.results80, go_sem, *]) rfl ⟨rfl, (by repeat (first | with_reducible exact Below.refl _ _ | with_reducible refine below_alloc ?_ _ | with_reducible refine Below.drew ?_ | with_reducible refine below_set ?_ (by (first | (simp; done) | (simp; omega))) _ | with_reducible refine below_step (by assumption) ?_))⟩

theorem vMulDiv_any (ax ay n d : Int) (w : World) (h1 : -4611686018427387904 ≤ ax * n) (h2 : ax * n ≤ 4611686018427387904) (h3 : -4611686018427387904 ≤ ay * n) (h4 : ay * n ≤ 4611686018427387904) :
    Calls Try.prog 63 #[.agg #[.int .i64 ax, .int .i64 ay], .int .i64 n, .int .i64 d] w fun e w' => e = .returned (.agg #[.int .i64 (mdv ax n d), .int .i64 (mdv ay n d)]) ∧ Below w.heap.size w w' := by
  go_enter Try.func63, Try.ntmps63
  go_wp2_with (go_at_call 80; refine (each_muldiv _ _ n d _ _ _ ?_ ?_ h1 h2 h3 h4).mono ?_; (simp [go_sem]); (simp [go_sem]); rintro e w1 ⟨rfl, hb1⟩; obtain ⟨hc1, hf1⟩ := bcell hb1; have hz1 := hb1.size; (try simp at hz1))
  exact bodyPost_ret (v := .agg #[.int .i64 (mdv ax n d), .int .i64 (mdv ay n d)]) (by simp [results, Try.results63, go_sem, *]) rfl ⟨rfl, (by repeat (first | with_reducible exact Below.refl _ _ | with_reducible refine below_alloc ?_ _ | with_reducible refine Below.drew ?_ | with_reducible refine below_set ?_ (by (first | (simp; done) | (simp; omega))) _ | with_reducible refine below_step (by assumption) ?_))⟩

theorem shift_any (n : Int) (w : World) :
    Calls Try.prog 70 #[.int .i64 n] w fun e w' => e = .returned (.int .i64 (n / 1024)) ∧ w = w' := by
  go_enter Try.func70, Try.ntmps70
  go_wp2
  go_ret
  exact ⟨rfl, rfl⟩

theorem Dot_any (ax ay bx b_y : Int) (w : World) (h1 : -2305843009213693952 ≤ ax * bx) (h2 : ax * bx ≤ 2305843009213693952) (h3 : -2305843009213693952 ≤ ay * b_y) (h4 : ay * b_y ≤ 2305843009213693952) :
    Calls Try.prog 41 #[.agg #[.int .i64 ax, .int .i64 ay], .agg #[.int .i64 bx, .int .i64 b_y]] w fun e w' => e = .returned (.int .i64 (dotz ax ay bx b_y)) ∧ Below w.heap.size w w' := by
  go_enter Try.func41, Try.ntmps41
  go_wp2_with (go_at_call 70; refine (shift_any _ _).mono ?_; rintro e w' ⟨rfl, rfl⟩)
  go_ret
  exact ⟨rfl, (by repeat (first | with_reducible exact Below.refl _ _ | with_reducible refine below_alloc ?_ _ | with_reducible refine Below.drew ?_ | with_reducible refine below_set ?_ (by (first | (simp; done) | (simp; omega))) _ | with_reducible refine below_step (by assumption) ?_))⟩

theorem Len_any (ax ay : Int) (w : World) (h1 : -2305843009213693952 ≤ ax * ax) (h2 : ax * ax ≤ 2305843009213693952) (h3 : -2305843009213693952 ≤ ay * ay) (h4 : ay * ay ≤ 2305843009213693952) :
    Calls Try.prog 47 #[.agg #[.int .i64 ax, .int .i64 ay]] w fun e w' => e = .returned (.int .i64 (lnz ax ay)) ∧ Below w.heap.size w w' := by
  go_enter Try.func47, Try.ntmps47
  go_wp2_with (go_at_call 73; refine (Isqrt_any _ _ (by omega)).mono ?_; rintro e w' ⟨rfl, rfl⟩)
  go_ret
  exact ⟨rfl, (by repeat (first | with_reducible exact Below.refl _ _ | with_reducible refine below_alloc ?_ _ | with_reducible refine Below.drew ?_ | with_reducible refine below_set ?_ (by (first | (simp; done) | (simp; omega))) _ | with_reducible refine below_step (by assumption) ?_))⟩

theorem nrm_zero (n : Int) : mdv 0 1024 n = 0 := by unfold mdv; rw [Int.zero_mul]; exact Int.zero_fdiv _

theorem Normalize_any (ax ay : Int) (w : World) (h1 : -1073741824 ≤ ax) (h2 : ax ≤ 1073741824) (h3 : -1073741824 ≤ ay) (h4 : ay ≤ 1073741824) :
    Calls Try.prog 97 #[.agg #[.int .i64 ax, .int .i64 ay]] w fun e w' => e = .returned (.agg #[.int .i64 (mdv ax 1024 (lnz ax ay)), .int .i64 (mdv ay 1024 (lnz ax ay))]) ∧ Below w.heap.size w w' := by
  have p1 := mul_bd (a := ax) (b := ax) (A := 1073741824) (B := 1073741824) ⟨h1, h2⟩ ⟨h1, h2⟩
  have p2 := mul_bd (a := ay) (b := ay) (A := 1073741824) (B := 1073741824) ⟨h3, h4⟩ ⟨h3, h4⟩
  by_cases hx : ax = 0
  · subst hx
    by_cases hy : ay = 0
    · subst hy
      rw [nrm_zero]
      go_enter Try.func97, Try.ntmps97
      go_wp2
      exact bodyPost_ret (v := .agg #[.int .i64 0, .int .i64 0]) (by simp [results, Try.results97, go_sem, *]) rfl ⟨rfl, (by repeat (first | with_reducible exact Below.refl _ _ | with_reducible refine below_alloc ?_ _ | with_reducible refine Below.drew ?_ | with_reducible refine below_set ?_ (by (first | (simp; done) | (simp; omega))) _ | with_reducible refine below_step (by assumption) ?_))⟩
    · go_enter Try.func97, Try.ntmps97
      go_wp2_with fail
      go_region_with (first | (go_at_call 47; refine (Len_any _ _ _ (by omega) (by omega) (by omega) (by omega)).mono ?_; rintro e w1 ⟨rfl, hb1⟩; obtain ⟨hc1, hf1, hz1, hy1⟩ := bcellB (B := w.heap.size + 2) hb1 (by first | (simp; done) | (simp; omega) | omega)) | (go_at_call 63; refine (vMulDiv_any _ _ _ _ _ (by omega) (by omega) (by omega) (by omega)).mono ?_; rintro e w2 ⟨rfl, hb2⟩; obtain ⟨hc2, hf2, hz2, hy2⟩ := bcellB (B := w.heap.size + 2) hb2 (by first | (simp; done) | (simp; omega) | omega)))
      all_goals go_wp2
      all_goals exact bodyPost_ret (v := .agg #[.int .i64 (mdv 0 1024 (lnz 0 ay)), .int .i64 (mdv ay 1024 (lnz 0 ay))]) (by simp [results, Try.results97, go_sem, *]) rfl ⟨rfl, (by repeat (first | with_reducible exact Below.refl _ _ | with_reducible refine below_alloc ?_ _ | with_reducible refine Below.drew ?_ | with_reducible refine below_set ?_ (by (first | (simp; done) | (simp; omega))) _ | with_reducible refine below_step (by assumption) ?_))⟩
  · go_enter Try.func97, Try.ntmps97
    go_wp2_with fail
    go_region_with (first | (go_at_call 47; refine (Len_any _ _ _ (by omega) (by omega) (by omega) (by omega)).mono ?_; rintro e w1 ⟨rfl, hb1⟩; obtain ⟨hc1, hf1, hz1, hy1⟩ := bcellB (B := w.heap.size + 2) hb1 (by first | (simp; done) | (simp; omega) | omega)) | (go_at_call 63; refine (vMulDiv_any _ _ _ _ _ (by omega) (by omega) (by omega) (by omega)).mono ?_; rintro e w2 ⟨rfl, hb2⟩; obtain ⟨hc2, hf2, hz2, hy2⟩ := bcellB (B := w.heap.size + 2) hb2 (by first | (simp; done) | (simp; omega) | omega)))
    all_goals go_wp2
    all_goals exact bodyPost_ret (v := .agg #[.int .i64 (mdv ax 1024 (lnz ax ay)), .int .i64 (mdv ay 1024 (lnz ax ay))]) (by simp [results, Try.results97, go_sem, *]) rfl ⟨rfl, (by repeat (first | with_reducible exact Below.refl _ _ | with_reducible refine below_alloc ?_ _ | with_reducible refine Below.drew ?_ | with_reducible refine below_set ?_ (by (first | (simp; done) | (simp; omega))) _ | with_reducible refine below_step (by assumption) ?_))⟩
end Go.Proofs.Ytipcppbbpmdijaa
