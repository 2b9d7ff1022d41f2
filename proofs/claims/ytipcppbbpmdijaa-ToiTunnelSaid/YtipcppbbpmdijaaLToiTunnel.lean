/-
  ToiTunnel: a circle that would get past a wall's left side within the tick is stopped, if an eighth of its speed is at most the wall's width plus the circle's diameter minus 2. Conditions: none.
-/
import Derived.Test.YtipcppbbpmdijaaRows
import Derived.Test.YtipcppbbpmdijaaHead
import Derived.Test.YtipcppbbpmdijaaOpen
import Derived.Test.YtipcppbbpmdijaaTou
namespace Go.Proofs.Ytipcppbbpmdijaa.toiTunnel
open Go.ChangeShapes Go.WideShapes Go.ChangeAt Go.RowKit Go.Sort
attribute [local go_sem ↓] Go.wp_at_zero Go.wp_at_succ

theorem wall_sn {h : Int} (hh : 1 ≤ h ∧ h ≤ 200) : SN 0 (wall h) := by
  refine ⟨by omega, by show 4 ≤ 8; decide, fun v hv => ?_⟩
  simp only [wall, List.mem_cons, List.not_mem_nil, or_false] at hv
  rcases hv with rfl | rfl | rfl | rfl <;> dsimp only <;> omega
theorem circ_sn {r : Int} (hr : 10 ≤ r ∧ r ≤ 200) : SN r [] := ⟨by omega, by decide, by simp⟩

set_option maxRecDepth 100000 in
set_option maxHeartbeats 4000000 in
theorem walk (w : World) (x : Int) (lx : -9223372036854775808 ≤ x) (ux : x ≤ 9223372036854775807) (y : Int) (ly : -9223372036854775808 ≤ y) (uy : y ≤ 9223372036854775807)
    (z : Int) (lz : -9223372036854775808 ≤ z) (uz : z ≤ 9223372036854775807) (s : Int) (ls : -9223372036854775808 ≤ s) (us : s ≤ 9223372036854775807) :
    Calls Try.prog 19 #[.int .i64 x, .int .i64 y, .int .i64 z, .int .i64 s] w fun e w' => e = .returned (.bool true) ∧ Below w.heap.size w w' := by
  have hA1 := fun W => Around_any x 191 W (by omega) lx ux
  have hA2 := fun W => Around_any y 200 W (by omega) ly uy
  have hA3 := fun W => Around_any z 2000 W (by omega) lz uz
  have ha := arnd_bd x (most := 191) (by decide)
  have hb := arnd_bd y (most := 200) (by decide)
  have hc := arnd_bd z (most := 2000) (by decide)
  generalize arnd x 191 = a at *
  generalize arnd y 200 = b at *
  generalize arnd z 2000 = c at *
  have HA1 := Lib.hid hA1; clear hA1
  have HA2 := Lib.hid hA2; clear hA2
  have HA3 := Lib.hid hA3; clear hA3
  go_enter Try.func19, Try.ntmps19
  go_wp2_with fail
  refine (HA1.out _).mono ?_
  rintro e w' ⟨rfl, rfl⟩
  go_wp2_with fail
  refine (HA2.out _).mono ?_
  rintro e w' ⟨rfl, rfl⟩
  go_wp2_with fail
  refine calls_at ?_; intro W1 hW; have dW1 : Below w.heap.size w W1 := (by rw [hW]; exact (by repeat (first | with_reducible exact Below.refl _ _ | with_reducible refine below_alloc ?_ _ | with_reducible refine Below.drew ?_ | with_reducible refine below_set ?_ (by (first | (simp; done) | (simp; omega))) _ | with_reducible refine below_step (by assumption) ?_)))
  have PW : Pol W1 (some ⟨w.heap.size, 0, none⟩) 4 4 (wall (1 + b)) := by
    refine ⟨rfl, by omega, by omega, fun h => by omega, fun _ => ⟨_, rfl, by rw [hW]; simp; omega, fun i v hv => ?_⟩⟩
    rw [hW]
    rcases i with _ | _ | _ | _ | i <;> simp [wall] at hv <;> subst hv <;> simp [go_sem]
  have XS : B2 W1 (w.heap.size + 1) (.int .i64 0) (.slice (some ⟨w.heap.size, 0, none⟩) 4 4) := (by rw [hW]; unfold B2 Cel; simp [go_sem])
  have lXS := XS.lt
  clear hW
  refine (Around_any s _ _ (by omega) ls us).mono ?_
  rintro e w' ⟨rfl, rfl⟩
  have hv := arnd_bd s (most := min 16384 (8 * (2 * (1 + b + (10 + a)) - 2)) + 1) (by omega)
  generalize arnd s (min 16384 (8 * (2 * (1 + b + (10 + a)) - 2)) + 1) = v at *
  go_wp2_with fail
  refine (HA3.out _).mono ?_
  rintro e w' ⟨rfl, rfl⟩
  have hE := Earliest_any (10 + a) 0 (-(1 + b + (10 + a) + 1 + c)) 0 v 0 0 0 0 0 none (some ⟨w.heap.size, 0, none⟩) 0 0 4 4 [] (wall (1 + b)) W1 (Pol.empty _) PW (circ_sn (by omega)) (wall_sn (by omega)) (by omega) (by omega) (by omega) (by omega) (by omega) (by omega) (by omega) (by omega)
  have ht := tunnel (r := 10 + a) (h := 1 + b) (x := -(1 + b + (10 + a) + 1 + c)) (v := v) (by omega) (by omega) (by omega) (by omega) (by omega)
  generalize ear (tch (10 + a) [] (-(1 + b + (10 + a) + 1 + c), 0) (v, 0) 0 (wall (1 + b)) (0, 0) (0, 0)) = f at *
  have HE := Lib.hid hE; clear hE
  obtain ⟨t1, t2⟩ := ht
  have T1 := Lib.hid t1; have T2 := Lib.hid t2; clear t1 t2
  go_wp2_with fail
  refine HE.out.mono ?_
  rintro e w2 ⟨rfl, hb2⟩; have d2 : Below W1.heap.size W1 w2 := below_step hb2 (by repeat (first | with_reducible exact Below.refl _ _ | with_reducible refine below_alloc ?_ _ | with_reducible refine Below.drew ?_ | with_reducible refine below_set ?_ (by (first | (simp; done) | (simp; omega))) _ | with_reducible refine below_step (by assumption) ?_)); have z2 := hb2.size; (try simp at z2)
  have i2 : Below w.heap.size w w2 := dW1.trans (d2.mono dW1.size)
  clear PW XS HE lXS
  by_cases hp : -(1 + b + (10 + a)) < -(1 + b + (10 + a) + 1 + c) + v
  · obtain ⟨m, hm, hf⟩ := T1.out hp
    have hlt : f < 1024 := by omega
    clear T1 T2 hf
    go_wp2_with fail
    refine (lives6_any _).mono ?_
    rintro e w3 ⟨rfl, hb3⟩
    go_wp2_with fail
    go_ret
    exact ⟨rfl, i2.trans (hb3.mono i2.size)⟩
  · obtain rfl : f = 1024 := T2.out (by omega)
    clear T1 T2
    go_wp2_with fail
    refine (lives6_any _).mono ?_
    rintro e w3 ⟨rfl, hb3⟩
    go_wp2_with fail
    go_ret
    exact ⟨rfl, i2.trans (hb3.mono i2.size)⟩

theorem own : ownKnob Try.prog.godebug = none := by kernel_rfl
theorem laidOut : laidOutB Try.prog = true := by kernel_rfl

set_option maxRecDepth 100000 in
theorem lifted (os : Os) (started : os.Started) (H : Type) (enc : TypeId × Value → H) :
    ReturnsInHanded {} Try.checked os 19 .any (Rows.toiTunnelSpec.pre6 enc Try.prog Try.f19 Rows.toiTunnelRow.domain false) (Rows.toiTunnelSpec.post enc Try.prog Try.f19 false true false false) := by
  refine returnsInHanded_of_change (C := Try.checked) own started (by kernel_rfl) Try.func19
    (ChangeSpec.witness6 (enc := enc) (C := Try.checked) false ⟨#[], #[.int .i64 0, .int .i64 0, .int .i64 0, .int .i64 0], []⟩ 8 (by kernel_rfl) (by kernel_rfl) (by kernel_rfl) (by kernel_rfl)) ?_
  intro W base args ds gs before hval0 hW hcnd _
  have hval : ∀ (j : Nat) t v, Try.f19.params[j]? = some t → args[j]? = some v → Value.okWide Try.prog W .any base t v := hval0
  have hW' := hW
  obtain ⟨p, q, hA0, hV, rfl, hfz, hnd⟩ := hW
  have hA : DataW.TrodAll enc Try.prog W 0 (fun _ => true) true Try.f19.params.toList args.toList ds p := hA0
  rw [Try.params19] at hA hval
  obtain ⟨v0, vs0, d0, ds0, p0, q0, hargs, rfl, rfl, h0, r0⟩ := trodAll_cons hA
  obtain ⟨v1, vs1, d1, ds1, p1, q1, rfl, rfl, rfl, h1, r1⟩ := trodAll_cons r0
  obtain ⟨v2, vs2, d2, ds2, p2, q2, rfl, rfl, rfl, h2, r2⟩ := trodAll_cons r1
  obtain ⟨v3, vs3, d3, ds3, p3, q3, rfl, rfl, rfl, h3, r3⟩ := trodAll_cons r2
  obtain ⟨rfl, rfl, rfl⟩ := trodAll_nil r3
  obtain rfl : args = #[v0, v1, v2, v3] := by cases args; simp_all
  obtain ⟨rfl, rfl⟩ := trodVars_none hV
  obtain ⟨a0, rfl, rfl, rfl, w0⟩ := open_int Try.underlying3 (hval 0 3 v0 rfl rfl) h0
  obtain ⟨a1, rfl, rfl, rfl, w1⟩ := open_int Try.underlying3 (hval 1 3 v1 rfl rfl) h1
  obtain ⟨a2, rfl, rfl, rfl, w2⟩ := open_int Try.underlying3 (hval 2 3 v2 rfl rfl) h2
  obtain ⟨a3, rfl, rfl, rfl, w3⟩ := open_int Try.underlying3 (hval 3 3 v3 rfl rfl) h3
  clear hA0 hval0
  refine (walk W a0 (bounds_i64 w0).1 (bounds_i64 w0).2 a1 (bounds_i64 w1).1 (bounds_i64 w1).2 a2 (bounds_i64 w2).1 (bounds_i64 w2).2 a3 (bounds_i64 w3).1 (bounds_i64 w3).2).mono fun e W' ⟨he, bel⟩ => ?_
  subst he
  exact ⟨_, rfl, _, _, _, [], _, [], hW', trodAll_mk1 (shut_bool Try.underlying4 _), (trodAll_cons_mk (shut_int Try.underlying3 w0) (trodAll_cons_mk (shut_int Try.underlying3 w1) (trodAll_cons_mk (shut_int Try.underlying3 w2) (trodAll_cons_mk (shut_int Try.underlying3 w3) trodAll_mk0)))), rfl, bel.frame _, fun h => by cases h⟩

theorem closed : joinedFacts Try.prog 19 Try.f19 Rows.toiTunnelSpec Rows.toiTunnelRow = true := by
  unfold joinedFacts
  repeat' (with_reducible refine both_of ?_ ?_)
  all_goals (first | with_reducible exact mayEnter_ok | (rw [liftsFinal_is]; as_aux_lemma => kernel_rfl) | (rw [make_is]; as_aux_lemma => kernel_rfl) | (as_aux_lemma => kernel_rfl))

theorem over : Rows.toiTunnelRow.holds Try.pinned (OpenSpec.ofChange Rows.toiTunnelSpec) :=
  OpenClaim.holds_of_wide 19 Try.f19 rfl rfl rfl rfl rfl rfl rfl ⟨rfl, rfl, rfl, rfl, rfl⟩ rfl rfl rfl rfl rfl (by kernel_rfl) Try.func19 closed
    (of_decide_eq_true (by kernel_rfl)) (by unfold Func.isWrapper; first | (rw [if_pos (by decide +kernel)]; kernel_rfl) | (rw [if_neg (by decide +kernel)]; exact ⟨rfl, rfl⟩))
    (fun os started H enc _ => lifted os started H enc)

theorem proved : Rows.ToiTunnelSaid := over
#print axioms proved

end Go.Proofs.Ytipcppbbpmdijaa.toiTunnel
