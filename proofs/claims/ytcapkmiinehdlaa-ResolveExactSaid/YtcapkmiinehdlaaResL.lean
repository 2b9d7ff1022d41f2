/-
  What Resolve of package resolve returns, for all motions of the domain; the example of chapter 7 holds. Conditions: the numbers' bounds, as the theorems state.
-/
import Derived.Test.YtcapkmiinehdlaaResR
import Derived.Test.YtcapkmiinehdlaaResG
namespace Go.Proofs.Ytcapkmiinehdlaa
open Go.RowKit
attribute [local go_sem ↓] Go.wp_at_zero Go.wp_at_succ

theorem rj_zero (vn e : Int) : rj vn e 0 = 0 := by unfold rj; split <;> first | exact mdv_zero _ _ | rfl

/-- The impulse of two bodies. -/
def imp (avx avy am bvx bvy bm nx ny e : Int) : Int := rj (dotz (bvx - avx) (bvy - avy) nx ny) e (am + bm)

theorem Resolve_any (apx apy avx avy am bpx bpy bvx bvy bm nx ny d e : Int) (w : World) (hA : RB apx apy avx avy am) (hB : RB bpx bpy bvx bvy bm) (hn : (-1024 ≤ nx ∧ nx ≤ 1024) ∧ (-1024 ≤ ny ∧ ny ≤ 1024)) (hd : 0 ≤ d ∧ d ≤ 1048576) (he : 0 ≤ e ∧ e ≤ 1024) :
    Calls Try.prog 68 #[.agg #[.int .i64 apx, .int .i64 apy, .int .i64 avx, .int .i64 avy, .int .i64 am], .agg #[.int .i64 bpx, .int .i64 bpy, .int .i64 bvx, .int .i64 bvy, .int .i64 bm], .agg #[.int .i64 nx, .int .i64 ny, .int .i64 d], .int .i64 e] w
      fun r w' => r = .returned (.tuple #[.agg #[.int .i64 (rpos apx nx d am (am + bm)), .int .i64 (rpos apy ny d am (am + bm)), .int .i64 (rvel avx nx (imp avx avy am bvx bvy bm nx ny e) am), .int .i64 (rvel avy ny (imp avx avy am bvx bvy bm nx ny e) am), .int .i64 am], .agg #[.int .i64 (rpos' bpx nx d bm (am + bm)), .int .i64 (rpos' bpy ny d bm (am + bm)), .int .i64 (rvel' bvx nx (imp avx avy am bvx bvy bm nx ny e) bm), .int .i64 (rvel' bvy ny (imp avx avy am bvx bvy bm nx ny e) bm), .int .i64 bm]]) ∧ Below w.heap.size w w' := by
  by_cases ht : 1 ≤ am + bm
  · exact (resolve_some apx apy avx avy am bpx bpy bvx bvy bm nx ny d e w hA hB hn hd he ht).mono fun r w' ⟨j, hj, hr, hb⟩ => ⟨by rw [hr, hj]; rfl, hb⟩
  · have ha : am = 0 := by have := hA.2.2.2.2; have := hB.2.2.2.2; omega
    have hb : bm = 0 := by have := hA.2.2.2.2; have := hB.2.2.2.2; omega
    refine (resolve_zero apx apy avx avy am bpx bpy bvx bvy bm nx ny d e w ha hb).mono fun r w' ⟨hr, hbel⟩ => ⟨?_, hbel⟩
    subst ha hb
    have z : (0 : Int) + 0 = 0 := rfl
    unfold imp
    rw [hr, z, rj_zero, (rpos_zero nx d 0 hA.1).1, (rpos_zero ny d 0 hA.2.1).1, (rpos_zero nx d 0 hB.1).2, (rpos_zero ny d 0 hB.2.1).2, (rvel_zero nx 0 hA.2.2.1).1, (rvel_zero ny 0 hA.2.2.2.1).1, (rvel_zero nx 0 hB.2.2.1).2, (rvel_zero ny 0 hB.2.2.2.1).2]

theorem lives7_any (w : World) : Calls Try.prog 70 #[] w fun e w' => e = .returned (.bool true) ∧ Below w.heap.size w w' := by
  have h := fun w => Resolve_any 0 0 100 0 1024 90 0 (-100) 0 1024 1024 0 10 1024 w (by unfold RB; omega) (by unfold RB; omega) (by omega) (by omega) (by omega)
  have e1 : rpos 0 1024 10 1024 (1024 + 1024) = -5 := by decide
  have e2 : rpos 0 0 10 1024 (1024 + 1024) = 0 := by decide
  have e3 : rpos' 90 1024 10 1024 (1024 + 1024) = 95 := by decide
  have e4 : rpos' 0 0 10 1024 (1024 + 1024) = 0 := by decide
  have e5 : rvel 100 1024 (imp 100 0 1024 (-100) 0 1024 1024 0 1024) 1024 = -100 := by decide
  have e6 : rvel 0 0 (imp 100 0 1024 (-100) 0 1024 1024 0 1024) 1024 = 0 := by decide
  have e7 : rvel' (-100) 1024 (imp 100 0 1024 (-100) 0 1024 1024 0 1024) 1024 = 100 := by decide
  have e8 : rvel' 0 0 (imp 100 0 1024 (-100) 0 1024 1024 0 1024) 1024 = 0 := by decide
  simp only [e1, e2, e3, e4, e5, e6, e7, e8] at h
  clear e1 e2 e3 e4 e5 e6 e7 e8
  have H := Lib.hid h
  clear h
  go_enter Try.func70, Try.ntmps70
  go_wp2_with fail
  refine (H.out _).mono ?_
  rintro r w1 ⟨rfl, hb1⟩
  go_wp2_with fail
  go_ret
  exact ⟨rfl, (by repeat (first | with_reducible exact Below.refl _ _ | with_reducible refine below_alloc ?_ _ | with_reducible refine Below.drew ?_ | with_reducible refine below_set ?_ (by (first | (simp; done) | (simp; omega))) _ | with_reducible refine below_step (by assumption) ?_))⟩
end Go.Proofs.Ytcapkmiinehdlaa
