/-
  What Resolve computes, in plain numbers. Conditions: as each theorem states. No program in sight.
-/
import Derived.Test.YtcapkmiinehdlaaVmath
namespace Go.Proofs.Ytcapkmiinehdlaa
/-- The impulse: 0 where the bodies separate. -/
def rj (vn e t : Int) : Int := if vn < 0 then mdv (-vn) (1024 + e) t else 0
/-- A position moved by a part of the depth, and a velocity by an impulse, each limited. -/
def rpos (p n d m t : Int) : Int := clp (p - mdv n (mdv d m t) 1024) (-1048576) 1048576
def rpos' (p n d m t : Int) : Int := clp (p + mdv n (mdv d m t) 1024) (-1048576) 1048576
def rvel (v n j m : Int) : Int := clp (v - mdv n (mdv j m 1024) 1024) (-16384) 16384
def rvel' (v n j m : Int) : Int := clp (v + mdv n (mdv j m 1024) 1024) (-16384) 16384

theorem zero_mdv (b c : Int) : mdv 0 b c = 0 := by unfold mdv; rw [Int.zero_mul]; exact Int.zero_fdiv _
theorem mdv_zero_mid (a c : Int) : mdv a 0 c = 0 := by unfold mdv; rw [Int.mul_zero]; exact Int.zero_fdiv _
theorem clp_in {n lo hi : Int} (h1 : lo ≤ n) (h2 : n ≤ hi) : clp n lo hi = n := by unfold clp; omega
theorem rj_sep {vn e t : Int} (h : ¬ vn < 0) : rj vn e t = 0 := by unfold rj; rw [if_neg h]
theorem rj_app {vn e t : Int} (h : vn < 0) : rj vn e t = mdv (-vn) (1024 + e) t := by unfold rj; rw [if_pos h]
theorem rvel_zero {v : Int} (n m : Int) (h : -16384 ≤ v ∧ v ≤ 16384) : rvel v n 0 m = v ∧ rvel' v n 0 m = v := by
  unfold rvel rvel'; rw [zero_mdv, mdv_zero_mid]
  exact ⟨by rw [Int.sub_zero]; exact clp_in h.1 h.2, by rw [Int.add_zero]; exact clp_in h.1 h.2⟩
theorem rpos_zero {p : Int} (n d m : Int) (h : -1048576 ≤ p ∧ p ≤ 1048576) : rpos p n d m 0 = p ∧ rpos' p n d m 0 = p := by
  unfold rpos rpos'; rw [mdv_zero, mdv_zero_mid]
  exact ⟨by rw [Int.sub_zero]; exact clp_in h.1 h.2, by rw [Int.add_zero]; exact clp_in h.1 h.2⟩
theorem vn_bd {ux uy vx vy nx ny : Int} (h1 : -16384 ≤ ux ∧ ux ≤ 16384) (h2 : -16384 ≤ uy ∧ uy ≤ 16384) (h3 : -16384 ≤ vx ∧ vx ≤ 16384) (h4 : -16384 ≤ vy ∧ vy ≤ 16384) (h5 : -1024 ≤ nx ∧ nx ≤ 1024) (h6 : -1024 ≤ ny ∧ ny ≤ 1024) :
    (-33554432 ≤ (vx - ux) * nx ∧ (vx - ux) * nx ≤ 33554432) ∧ (-33554432 ≤ (vy - uy) * ny ∧ (vy - uy) * ny ≤ 33554432) ∧ -65536 ≤ dotz (vx - ux) (vy - uy) nx ny ∧ dotz (vx - ux) (vy - uy) nx ny ≤ 65536 := by
  have p1 := mul_bd (a := vx - ux) (b := nx) (A := 32768) (B := 1024) (by omega) h5
  have p2 := mul_bd (a := vy - uy) (b := ny) (A := 32768) (B := 1024) (by omega) h6
  unfold dotz
  omega
theorem rj_bd {vn e t : Int} (h1 : -65536 ≤ vn ∧ vn ≤ 65536) (h2 : 0 ≤ e ∧ e ≤ 1024) (h3 : 0 ≤ t) : -134217728 ≤ rj vn e t ∧ rj vn e t ≤ 134217728 := by
  unfold rj
  split
  · by_cases ht : t = 0
    · subst ht; rw [mdv_zero]; omega
    · have := mul_bd (a := -vn) (b := 1024 + e) (A := 65536) (B := 2048) (by omega) (by omega)
      exact mdv_bd (by omega) (by omega)
  · omega
theorem imp_bd {j m n : Int} (h1 : -134217728 ≤ j ∧ j ≤ 134217728) (h2 : 0 ≤ m ∧ m ≤ 4096) (h3 : -1024 ≤ n ∧ n ≤ 1024) :
    (-549755813888 ≤ j * m ∧ j * m ≤ 549755813888) ∧ (-562949953421312 ≤ n * mdv j m 1024 ∧ n * mdv j m 1024 ≤ 562949953421312) ∧ -562949953421312 ≤ mdv n (mdv j m 1024) 1024 ∧ mdv n (mdv j m 1024) 1024 ≤ 562949953421312 := by
  have p1 := mul_bd (a := j) (b := m) (A := 134217728) (B := 4096) h1 (by omega)
  have p2 := mdv_bd (x := j) (n := m) (c := 1024) (M := 549755813888) (by decide) (by omega)
  have p3 := mul_bd (a := n) (b := mdv j m 1024) (A := 1024) (B := 549755813888) h3 p2
  have p4 := mdv_bd (x := n) (n := mdv j m 1024) (c := 1024) (M := 562949953421312) (by decide) (by omega)
  omega
theorem dep_bd {d m n t : Int} (h1 : 0 ≤ d ∧ d ≤ 1048576) (h2 : 0 ≤ m ∧ m ≤ 4096) (h3 : -1024 ≤ n ∧ n ≤ 1024) (ht : 0 ≤ t) :
    (-4294967296 ≤ d * m ∧ d * m ≤ 4294967296) ∧ (-4398046511104 ≤ n * mdv d m t ∧ n * mdv d m t ≤ 4398046511104) ∧ -4398046511104 ≤ mdv n (mdv d m t) 1024 ∧ mdv n (mdv d m t) 1024 ≤ 4398046511104 := by
  have p1 := mul_bd (a := d) (b := m) (A := 1048576) (B := 4096) (by omega) (by omega)
  have p2 : -4294967296 ≤ mdv d m t ∧ mdv d m t ≤ 4294967296 := by
    by_cases h : t = 0
    · subst h; rw [mdv_zero]; omega
    · exact mdv_bd (by omega) (by omega)
  have p3 := mul_bd (a := n) (b := mdv d m t) (A := 1024) (B := 4294967296) h3 p2
  have p4 := mdv_bd (x := n) (n := mdv d m t) (c := 1024) (M := 4398046511104) (by decide) (by omega)
  omega
/-- The bounds of a motion. -/
def RB (px py vx vy m : Int) : Prop := (-1048576 ≤ px ∧ px ≤ 1048576) ∧ (-1048576 ≤ py ∧ py ≤ 1048576) ∧ (-16384 ≤ vx ∧ vx ≤ 16384) ∧ (-16384 ≤ vy ∧ vy ≤ 16384) ∧ (0 ≤ m ∧ m ≤ 4096)
end Go.Proofs.Ytcapkmiinehdlaa
