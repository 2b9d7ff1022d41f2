/-
  What the methods of package resolve do to a body in memory, each proved once over this translation. Conditions: the numbers' bounds, as each theorem states.
-/
import Derived.Test.YtcapkmiinehdlaaVecr
import Derived.Test.YtcapkmiinehdlaaVmath
import Derived.Handy
import Derived.Deep.QuietTactic
import Derived.BigQuiet
import Derived.BigRegion
namespace Go.Proofs.Ytcapkmiinehdlaa
open Go.RowKit
attribute [local go_sem ↓] Go.wp_at_zero Go.wp_at_succ

/-- What lay there lies as it lay, but for block b. -/
def Off (b : Nat) (w w' : World) : Prop := w'.os = w.os ∧ w'.tape = w.tape ∧ w'.output = w.output ∧ w.heap.size ≤ w'.heap.size ∧ ∀ k, k < w.heap.size → k ≠ b → w'.heap[k]? = w.heap[k]?
theorem Off.refl (b : Nat) (w : World) : Off b w w := ⟨rfl, rfl, rfl, Nat.le_refl _, fun _ _ _ => rfl⟩
theorem Off.size {b : Nat} {w w' : World} (h : Off b w w') : w.heap.size ≤ w'.heap.size := h.2.2.2.1
theorem Off.of_below {b : Nat} {w a c : World} (h : Off b w a) (g : Below a.heap.size a c) : Off b w c :=
  ⟨g.os.trans h.1, g.tape.trans h.2.1, g.output.trans h.2.2.1, Nat.le_trans h.size g.size, fun k hk hb => (g.block k (Nat.lt_of_lt_of_le hk h.size)).trans (h.2.2.2.2 k hk hb)⟩
theorem Off.alloc {b : Nat} {w a : World} (h : Off b w a) (o : Obj) : Off b w (a.alloc o) := h.of_below (below_alloc (Below.refl _ _) o)
theorem Off.drew {b : Nat} {w a : World} (h : Off b w a) : Off b w a.drew := h
theorem Off.setCell {b : Nat} {w a : World} (h : Off b w a) {p : Addr} (hp : p.block = b ∨ w.heap.size ≤ p.block) (u : Value) : Off b w (a.setCell p u) :=
  ⟨h.1, h.2.1, h.2.2.1, by simpa [World.setCell] using h.size, fun k hk hb => (Below.heap_setCell _ _ _ _ (by omega)).trans (h.2.2.2.2 k hk hb)⟩
theorem Off.setB {b : Nat} {w a : World} (h : Off b w a) (o : Nat) (u : Value) : Off b w (a.setCell ⟨b, o, none⟩ u) := h.setCell (Or.inl rfl) u
theorem Off.trans {b : Nat} {w a c : World} (h : Off b w a) (g : Off b a c) : Off b w c :=
  ⟨g.1.trans h.1, g.2.1.trans h.2.1, g.2.2.1.trans h.2.2.1, Nat.le_trans h.size g.size, fun k hk hb => (g.2.2.2.2 k (Nat.lt_of_lt_of_le hk h.size) hb).trans (h.2.2.2.2 k hk hb)⟩
theorem Off.cell {b : Nat} {w a : World} (h : Off b w a) {c o : Nat} {v : Value} (hc : c ≠ b) (hv : w.cell? ⟨c, o, none⟩ = some v) : a.cell? ⟨c, o, none⟩ = some v :=
  (World.cell?_of_block (w := w) (a := ⟨c, o, none⟩) (h.2.2.2.2 c (World.block_lt_of_cell? w _ hv) hc)).trans hv
theorem Off.frozen {b : Nat} {w a : World} (h : Off b w a) {c o : Nat} {x : Bool} (hc : c ≠ b) (hl : c < w.heap.size) (hv : w.frozen? ⟨c, o, none⟩ = x) : a.frozen? ⟨c, o, none⟩ = x :=
  (World.frozen?_of_block (w := w) (a := ⟨c, o, none⟩) (h.2.2.2.2 c hl hc)).trans hv
/-- A body's block lies beyond what was there when the call began. -/
theorem Off.below {b : Nat} {w0 w a : World} (h : Off b w a) (hb : w0.heap.size ≤ b) (g : Below w0.heap.size w0 w) : Below w0.heap.size w0 a :=
  ⟨h.1.trans g.os, h.2.1.trans g.tape, h.2.2.1.trans g.output, Nat.le_trans g.size h.size, fun k hk => (h.2.2.2.2 k (Nat.lt_of_lt_of_le hk g.size) (by omega)).trans (g.block k hk)⟩

/-- A body: position, velocity, inverse mass, in five cells that may be written. -/
def Bod (w : World) (b : Nat) (px py vx vy m : Int) : Prop :=
  w.cell? ⟨b, 0, none⟩ = some (.int .i64 px) ∧ w.cell? ⟨b, 1, none⟩ = some (.int .i64 py) ∧ w.cell? ⟨b, 2, none⟩ = some (.int .i64 vx) ∧ w.cell? ⟨b, 3, none⟩ = some (.int .i64 vy) ∧ w.cell? ⟨b, 4, none⟩ = some (.int .i64 m) ∧
  w.frozen? ⟨b, 0, none⟩ = false ∧ w.frozen? ⟨b, 1, none⟩ = false ∧ w.frozen? ⟨b, 2, none⟩ = false ∧ w.frozen? ⟨b, 3, none⟩ = false ∧ w.frozen? ⟨b, 4, none⟩ = false
theorem Bod.off {w a : World} {b c : Nat} {px py vx vy m : Int} (h : Bod w c px py vx vy m) (g : Off b w a) (hc : c ≠ b) : Bod a c px py vx vy m := by
  obtain ⟨h0, h1, h2, h3, h4, f0, f1, f2, f3, f4⟩ := h
  have hl := World.block_lt_of_cell? w _ h0
  exact ⟨g.cell hc h0, g.cell hc h1, g.cell hc h2, g.cell hc h3, g.cell hc h4, g.frozen hc hl f0, g.frozen hc hl f1, g.frozen hc hl f2, g.frozen hc hl f3, g.frozen hc hl f4⟩
theorem Bod.below {w a : World} {c : Nat} {px py vx vy m : Int} (h : Bod w c px py vx vy m) (g : Below w.heap.size w a) : Bod a c px py vx vy m := by
  obtain ⟨h0, h1, h2, h3, h4, f0, f1, f2, f3, f4⟩ := h
  have hl := World.block_lt_of_cell? w _ h0
  exact ⟨keep_cell g h0, keep_cell g h1, keep_cell g h2, keep_cell g h3, keep_cell g h4, frozen_new g hl f0, frozen_new g hl f1, frozen_new g hl f2, frozen_new g hl f3, frozen_new g hl f4⟩
theorem Bod.drew {w : World} {c : Nat} {px py vx vy m : Int} (h : Bod w c px py vx vy m) : Bod w.drew c px py vx vy m := h
theorem Bod.alloc {w : World} {c : Nat} {px py vx vy m : Int} (h : Bod w c px py vx vy m) (o : Obj) : Bod (w.alloc o) c px py vx vy m := h.below (below_alloc (Below.refl _ _) o)
/-- A store into one of the body's cells, seen at each of the others. -/
theorem set_other {w : World} {b i j : Nat} {u v : Value} (hij : i ≠ j) (h : w.cell? ⟨b, j, none⟩ = some v) : (w.setCell ⟨b, i, none⟩ u).cell? ⟨b, j, none⟩ = some v :=
  (World.cell?_setCell_other w ⟨b, i, none⟩ ⟨b, j, none⟩ u (fun e => hij (by cases e; rfl))).trans h
theorem set_same {w : World} {b i : Nat} {u v : Value} (h : w.cell? ⟨b, i, none⟩ = some v) : (w.setCell ⟨b, i, none⟩ u).cell? ⟨b, i, none⟩ = some u :=
  World.cell?_setCell_same' _ _ _ (by rw [h]; rfl)
theorem Bod.set0 {w : World} {b : Nat} {px py vx vy m : Int} (h : Bod w b px py vx vy m) (x : Int) : Bod (w.setCell ⟨b, 0, none⟩ (.int .i64 x)) b x py vx vy m := by
  obtain ⟨h0, h1, h2, h3, h4, f0, f1, f2, f3, f4⟩ := h
  exact ⟨set_same h0, set_other (by decide) h1, set_other (by decide) h2, set_other (by decide) h3, set_other (by decide) h4, by simpa using f0, by simpa using f1, by simpa using f2, by simpa using f3, by simpa using f4⟩
theorem Bod.set1 {w : World} {b : Nat} {px py vx vy m : Int} (h : Bod w b px py vx vy m) (x : Int) : Bod (w.setCell ⟨b, 1, none⟩ (.int .i64 x)) b px x vx vy m := by
  obtain ⟨h0, h1, h2, h3, h4, f0, f1, f2, f3, f4⟩ := h
  exact ⟨set_other (by decide) h0, set_same h1, set_other (by decide) h2, set_other (by decide) h3, set_other (by decide) h4, by simpa using f0, by simpa using f1, by simpa using f2, by simpa using f3, by simpa using f4⟩
theorem Bod.set2 {w : World} {b : Nat} {px py vx vy m : Int} (h : Bod w b px py vx vy m) (x : Int) : Bod (w.setCell ⟨b, 2, none⟩ (.int .i64 x)) b px py x vy m := by
  obtain ⟨h0, h1, h2, h3, h4, f0, f1, f2, f3, f4⟩ := h
  exact ⟨set_other (by decide) h0, set_other (by decide) h1, set_same h2, set_other (by decide) h3, set_other (by decide) h4, by simpa using f0, by simpa using f1, by simpa using f2, by simpa using f3, by simpa using f4⟩
theorem Bod.set3 {w : World} {b : Nat} {px py vx vy m : Int} (h : Bod w b px py vx vy m) (x : Int) : Bod (w.setCell ⟨b, 3, none⟩ (.int .i64 x)) b px py vx x m := by
  obtain ⟨h0, h1, h2, h3, h4, f0, f1, f2, f3, f4⟩ := h
  exact ⟨set_other (by decide) h0, set_other (by decide) h1, set_other (by decide) h2, set_same h3, set_other (by decide) h4, by simpa using f0, by simpa using f1, by simpa using f2, by simpa using f3, by simpa using f4⟩
/-- What a method leaves: the body turned so, the rest as it was. -/
def BodPost (w : World) (b : Nat) (px py vx vy m : Int) (e : Ending) (w' : World) : Prop := e = .returned (.tuple #[]) ∧ Off b w w' ∧ Bod w' b px py vx vy m

set_option maxHeartbeats 8000000 in
theorem pull_any (b : Nat) (px py vx vy m nx ny j : Int) (w : World) (hbod : Bod w b px py vx vy m)
    (h1 : -4611686018427387904 ≤ j * m) (h2 : j * m ≤ 4611686018427387904) (h3 : -4611686018427387904 ≤ nx * mdv j m 1024) (h4 : nx * mdv j m 1024 ≤ 4611686018427387904) (h5 : -4611686018427387904 ≤ ny * mdv j m 1024) (h6 : ny * mdv j m 1024 ≤ 4611686018427387904)
    (h7 : -9223372036854775808 ≤ vx - mdv nx (mdv j m 1024) 1024) (h8 : vx - mdv nx (mdv j m 1024) 1024 ≤ 9223372036854775807) (h9 : -9223372036854775808 ≤ vy - mdv ny (mdv j m 1024) 1024) (h10 : vy - mdv ny (mdv j m 1024) 1024 ≤ 9223372036854775807) :
    Calls Try.prog 85 #[.pointer (some ⟨b, 0, none⟩), .agg #[.int .i64 nx, .int .i64 ny], .int .i64 j] w (BodPost w b px py (vx - mdv nx (mdv j m 1024) 1024) (vy - mdv ny (mdv j m 1024) 1024) m) := by
  have HB := Lib.hid hbod
  obtain ⟨k0, k1, k2, k3, k4, f0, f1, f2, f3, f4⟩ := hbod
  have hl := World.block_lt_of_cell? w _ k0
  have hle : b ≤ w.heap.size := Nat.le_of_lt hl
  have hn1 : b ≠ w.heap.size := Nat.ne_of_lt hl
  have hn2 : w.heap.size ≠ b := Nat.ne_of_gt hl
  go_enter Try.func85, Try.ntmps85
  go_wp2_with fail
  go_region_with (first
    | (go_at_call 25; refine (Mul_any _ _ _ h1 h2).mono ?_; rintro e w' ⟨rfl, rfl⟩)
    | (go_at_call 54; refine (Scale_any _ _ _ _ h3 h4 h5 h6).mono ?_; rintro e w1 ⟨rfl, hb1⟩; obtain ⟨hc1, hf1, hz1, hy1⟩ := bcellB (B := w.heap.size + 1) hb1 (by first | (simp; done) | (simp; omega) | omega))
    | (go_at_call 51; refine (Sub_any _ _ _ _ _ h7 h8 h9 h10).mono ?_; rintro e w2 ⟨rfl, hb2⟩; obtain ⟨hc2, hf2, hz2, hy2⟩ := bcellB (B := w.heap.size + 1) hb2 (by first | (simp; done) | (simp; omega) | omega)))
  all_goals (go_end0; exact ⟨rfl, (by repeat (first | with_reducible exact Off.refl _ _ | with_reducible refine Off.setB ?_ _ _ | with_reducible refine Off.drew ?_ | with_reducible refine Off.alloc ?_ _ | with_reducible refine Off.of_below ?_ (by assumption))), (((((HB.out.alloc (Obj.cells #[.int .i64 nx, .int .i64 ny] 30)).drew).below hb1).below hb2).set2 _).set3 _⟩)

set_option maxHeartbeats 8000000 in
theorem push_any (b : Nat) (px py vx vy m nx ny j : Int) (w : World) (hbod : Bod w b px py vx vy m)
    (h1 : -4611686018427387904 ≤ j * m) (h2 : j * m ≤ 4611686018427387904) (h3 : -4611686018427387904 ≤ nx * mdv j m 1024) (h4 : nx * mdv j m 1024 ≤ 4611686018427387904) (h5 : -4611686018427387904 ≤ ny * mdv j m 1024) (h6 : ny * mdv j m 1024 ≤ 4611686018427387904)
    (h7 : -9223372036854775808 ≤ vx + mdv nx (mdv j m 1024) 1024) (h8 : vx + mdv nx (mdv j m 1024) 1024 ≤ 9223372036854775807) (h9 : -9223372036854775808 ≤ vy + mdv ny (mdv j m 1024) 1024) (h10 : vy + mdv ny (mdv j m 1024) 1024 ≤ 9223372036854775807) :
    Calls Try.prog 86 #[.pointer (some ⟨b, 0, none⟩), .agg #[.int .i64 nx, .int .i64 ny], .int .i64 j] w (BodPost w b px py (vx + mdv nx (mdv j m 1024) 1024) (vy + mdv ny (mdv j m 1024) 1024) m) := by
  have HB := Lib.hid hbod
  obtain ⟨k0, k1, k2, k3, k4, f0, f1, f2, f3, f4⟩ := hbod
  have hl := World.block_lt_of_cell? w _ k0
  have hle : b ≤ w.heap.size := Nat.le_of_lt hl
  have hn1 : b ≠ w.heap.size := Nat.ne_of_lt hl
  have hn2 : w.heap.size ≠ b := Nat.ne_of_gt hl
  go_enter Try.func86, Try.ntmps86
  go_wp2_with fail
  go_region_with (first
    | (go_at_call 25; refine (Mul_any _ _ _ h1 h2).mono ?_; rintro e w' ⟨rfl, rfl⟩)
    | (go_at_call 54; refine (Scale_any _ _ _ _ h3 h4 h5 h6).mono ?_; rintro e w1 ⟨rfl, hb1⟩; obtain ⟨hc1, hf1, hz1, hy1⟩ := bcellB (B := w.heap.size + 1) hb1 (by first | (simp; done) | (simp; omega) | omega))
    | (go_at_call 50; refine (Add_any _ _ _ _ _ h7 h8 h9 h10).mono ?_; rintro e w2 ⟨rfl, hb2⟩; obtain ⟨hc2, hf2, hz2, hy2⟩ := bcellB (B := w.heap.size + 1) hb2 (by first | (simp; done) | (simp; omega) | omega)))
  all_goals (go_end0; exact ⟨rfl, (by repeat (first | with_reducible exact Off.refl _ _ | with_reducible refine Off.setB ?_ _ _ | with_reducible refine Off.drew ?_ | with_reducible refine Off.alloc ?_ _ | with_reducible refine Off.of_below ?_ (by assumption))), (((((HB.out.alloc (Obj.cells #[.int .i64 nx, .int .i64 ny] 30)).drew).below hb1).below hb2).set2 _).set3 _⟩)

end Go.Proofs.Ytcapkmiinehdlaa
