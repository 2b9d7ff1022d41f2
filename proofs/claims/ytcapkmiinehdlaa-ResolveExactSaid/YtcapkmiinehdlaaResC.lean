/-
  What the method clamp of package resolve does to a body in memory. Conditions: none but that the body lies there.
-/
import Derived.Test.YtcapkmiinehdlaaRes
namespace Go.Proofs.Ytcapkmiinehdlaa
open Go.RowKit

set_option maxHeartbeats 4000000 in
theorem clamp_any (b : Nat) (px py vx vy m : Int) (w : World) (hbod : Bod w b px py vx vy m) :
    Calls Try.prog 87 #[.pointer (some ⟨b, 0, none⟩)] w (BodPost w b (clp px (-1048576) 1048576) (clp py (-1048576) 1048576) (clp vx (-16384) 16384) (clp vy (-16384) 16384) m) := by
  have HB := Lib.hid hbod
  obtain ⟨k0, k1, k2, k3, k4, f0, f1, f2, f3, f4⟩ := hbod
  have hl := World.block_lt_of_cell? w _ k0
  have hle : b ≤ w.heap.size := Nat.le_of_lt hl
  have hn1 : b ≠ w.heap.size := Nat.ne_of_lt hl
  have hn2 : w.heap.size ≠ b := Nat.ne_of_gt hl
  go_enter Try.func87, Try.ntmps87
  go_wp2_with fail
  go_region
  go_wp2_with fail
  refine wp_loop_rounds 3 ?_
  rw [rounds_succ]
  go_wp2_with (go_at_call 55; refine (Clamp_any _ _ _ _).mono ?_; rintro e w' ⟨rfl, rfl⟩)
  rw [rounds_succ]
  go_wp2_with (go_at_call 55; refine (Clamp_any _ _ _ _).mono ?_; rintro e w' ⟨rfl, rfl⟩)
  rw [rounds_succ]
  go_wp2_with (go_at_call 55; refine (Clamp_any _ _ _ _).mono ?_; rintro e w' ⟨rfl, rfl⟩)
  go_region
  go_wp2_with fail
  refine wp_loop_rounds 3 ?_
  rw [rounds_succ]
  go_wp2_with (go_at_call 55; refine (Clamp_any _ _ _ _).mono ?_; rintro e w' ⟨rfl, rfl⟩)
  rw [rounds_succ]
  go_wp2_with (go_at_call 55; refine (Clamp_any _ _ _ _).mono ?_; rintro e w' ⟨rfl, rfl⟩)
  rw [rounds_succ]
  go_wp2_with (go_at_call 55; refine (Clamp_any _ _ _ _).mono ?_; rintro e w' ⟨rfl, rfl⟩)
  go_end0
  refine ⟨rfl, (by repeat (first | with_reducible exact Off.refl _ _ | with_reducible refine Off.setB ?_ _ _ | with_reducible refine Off.drew ?_ | with_reducible refine Off.alloc ?_ _ | with_reducible refine Off.of_below ?_ (by assumption))), ?_⟩
  repeat (first | with_reducible refine Bod.drew ?_ | with_reducible refine Bod.alloc ?_ _)
  exact (((HB.out.set0 _).set1 _).set2 _).set3 _
end Go.Proofs.Ytcapkmiinehdlaa
