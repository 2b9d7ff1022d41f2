/-
  What Resolve of package resolve returns. Conditions: the numbers' bounds, as the theorem states.
-/
import Derived.Test.YtcapkmiinehdlaaResC
import Derived.Test.YtcapkmiinehdlaaResM
import Derived.Test.YtcapkmiinehdlaaQt
namespace Go.Proofs.Ytcapkmiinehdlaa
open Go.RowKit Go.Sort
attribute [local go_sem ↓] Go.wp_at_zero Go.wp_at_succ

theorem resolve_zero (apx apy avx avy am bpx bpy bvx bvy bm nx ny d e : Int) (w : World) (ha : am = 0) (hb : bm = 0) :
    Calls Try.prog 68 #[.agg #[.int .i64 apx, .int .i64 apy, .int .i64 avx, .int .i64 avy, .int .i64 am], .agg #[.int .i64 bpx, .int .i64 bpy, .int .i64 bvx, .int .i64 bvy, .int .i64 bm], .agg #[.int .i64 nx, .int .i64 ny, .int .i64 d], .int .i64 e] w
      fun r w' => r = .returned (.tuple #[.agg #[.int .i64 apx, .int .i64 apy, .int .i64 avx, .int .i64 avy, .int .i64 am], .agg #[.int .i64 bpx, .int .i64 bpy, .int .i64 bvx, .int .i64 bvy, .int .i64 bm]]) ∧ Below w.heap.size w w' := by
  subst ha hb
  go_enter Try.func68, Try.ntmps68
  go_wp2_with fail
  go_region
  go_wp2_with fail
  exact bodyPost_ret (v := .tuple #[.agg #[.int .i64 apx, .int .i64 apy, .int .i64 avx, .int .i64 avy, .int .i64 0], .agg #[.int .i64 bpx, .int .i64 bpy, .int .i64 bvx, .int .i64 bvy, .int .i64 0]]) (by simp [results, Try.results68, go_sem]) rfl ⟨rfl, (by repeat (first | with_reducible exact Below.refl _ _ | with_reducible refine below_alloc ?_ _ | with_reducible refine Below.drew ?_ | with_reducible refine below_set ?_ (by (first | (simp; done) | (simp; omega))) _ | with_reducible refine below_step (by assumption) ?_))⟩

set_option maxRecDepth 100000 in
set_option maxHeartbeats 8000000 in
theorem resolve_some (apx apy avx avy am bpx bpy bvx bvy bm nx ny d e : Int) (w : World) (hA : RB apx apy avx avy am) (hB : RB bpx bpy bvx bvy bm) (hn : (-1024 ≤ nx ∧ nx ≤ 1024) ∧ (-1024 ≤ ny ∧ ny ≤ 1024)) (hd : 0 ≤ d ∧ d ≤ 1048576) (he : 0 ≤ e ∧ e ≤ 1024) (ht : 1 ≤ am + bm) :
    Calls Try.prog 68 #[.agg #[.int .i64 apx, .int .i64 apy, .int .i64 avx, .int .i64 avy, .int .i64 am], .agg #[.int .i64 bpx, .int .i64 bpy, .int .i64 bvx, .int .i64 bvy, .int .i64 bm], .agg #[.int .i64 nx, .int .i64 ny, .int .i64 d], .int .i64 e] w
      fun r w' => ∃ j, j = rj (dotz (bvx - avx) (bvy - avy) nx ny) e (am + bm) ∧ r = .returned (.tuple #[.agg #[.int .i64 (rpos apx nx d am (am + bm)), .int .i64 (rpos apy ny d am (am + bm)), .int .i64 (rvel avx nx j am), .int .i64 (rvel avy ny j am), .int .i64 am], .agg #[.int .i64 (rpos' bpx nx d bm (am + bm)), .int .i64 (rpos' bpy ny d bm (am + bm)), .int .i64 (rvel' bvx nx j bm), .int .i64 (rvel' bvy ny j bm), .int .i64 bm]]) ∧ Below w.heap.size w w' := by
  obtain ⟨a1, a2, a3, a4, a5⟩ := hA
  obtain ⟨b1, b2, b3, b4, b5⟩ := hB
  obtain ⟨n1, n2⟩ := hn
  obtain ⟨v1, v2, v3⟩ := vn_bd a3 a4 b3 b4 n1 n2
  have ht0 : (am + bm == 0) = false := by simp; omega
  go_enter Try.func68, Try.ntmps68
  go_wp2_with fail
  go_upto_region 4 with fail
  go_cut [11, 12] (fun s11 s12 wx => ∃ gx gy : Nat, s11 = .pointer (some ⟨gx, 0, none⟩) ∧ s12 = .pointer (some ⟨gy, 0, none⟩) ∧ gx ≠ gy ∧ w.heap.size + 5 ≤ gx ∧ w.heap.size + 5 ≤ gy ∧ Bod wx gx apx apy avx avy am ∧ Bod wx gy bpx bpy bvx bvy bm ∧
    Bod wx w.heap.size apx apy avx avy am ∧ Bod wx (w.heap.size + 1) bpx bpy bvx bvy bm ∧ Bod wx (w.heap.size + 3) 0 0 0 0 0 ∧ Bod wx (w.heap.size + 4) 0 0 0 0 0 ∧
    (wx.cell? ⟨w.heap.size + 2, 0, none⟩ = some (.int .i64 nx) ∧ wx.cell? ⟨w.heap.size + 2, 1, none⟩ = some (.int .i64 ny) ∧ wx.cell? ⟨w.heap.size + 2, 2, none⟩ = some (.int .i64 d)) ∧ Below w.heap.size w wx)
  case first =>
    go_region
    all_goals (go_wp2_with fail; go_meet; exact ⟨_, _, rfl, rfl, by omega, by omega, by omega, (by unfold Bod; simp [go_sem]), (by unfold Bod; simp [go_sem]), (by unfold Bod; simp [go_sem]), (by unfold Bod; simp [go_sem]), (by unfold Bod; simp [go_sem]), (by unfold Bod; simp [go_sem]), (by simp [go_sem]), (by repeat (first | with_reducible exact Below.refl _ _ | with_reducible refine below_alloc ?_ _ | with_reducible refine Below.drew ?_ | with_reducible refine below_set ?_ (by (first | (simp; done) | (simp; omega))) _ | with_reducible refine below_step (by assumption) ?_))⟩)
  case rest =>
    rename World => wx
    obtain ⟨gx, gy, rfl, rfl, gne, gl1, gl2, BX, BY, BA, BB, BR, BS, hC, iB⟩ := hcut
    have HBX := Lib.hid BX
    obtain ⟨c0, c1, c2⟩ := hC
    obtain ⟨-, -, ka2, ka3, ka4, -⟩ := id BA
    obtain ⟨-, -, kb2, kb3, kb4, -⟩ := id BB
    go_wp2_with fail
    go_upto_region 5 with fail
    go_cut [13] (fun s13 w5 => s13 = .int .i64 (dotz (bvx - avx) (bvy - avy) nx ny) ∧ Below wx.heap.size wx w5)
    case first =>
      go_region_held3 (fun w' => w'.cell? ⟨w.heap.size, 2, none⟩ = some (.int .i64 avx) ∧ w'.cell? ⟨w.heap.size, 3, none⟩ = some (.int .i64 avy) ∧ w'.cell? ⟨w.heap.size + 1, 2, none⟩ = some (.int .i64 bvx) ∧ w'.cell? ⟨w.heap.size + 1, 3, none⟩ = some (.int .i64 bvy) ∧ w'.cell? ⟨w.heap.size + 2, 0, none⟩ = some (.int .i64 nx) ∧ w'.cell? ⟨w.heap.size + 2, 1, none⟩ = some (.int .i64 ny) ∧ Below wx.heap.size wx w') (first | (go_keep; done) | ((repeat' apply And.intro) <;> (first | (go_keep; done) | (refine keep_cell (by assumption) ?_; go_keep; done) | ((repeat (first | with_reducible exact Below.refl _ _ | with_reducible refine below_alloc ?_ _ | with_reducible refine Below.drew ?_ | with_reducible refine below_set ?_ (by (first | (simp; done) | (simp; omega))) _ | with_reducible refine below_step (by assumption) ?_)); all_goals (simp [*]; done)))))
        (first
          | (go_at_call 51; refine (Sub_any _ _ _ _ _ (by omega) (by omega) (by omega) (by omega)).mono ?_; rintro e w9 ⟨rfl, hb9⟩)
          | (go_at_call 40; refine (Dot_any _ _ _ _ _ (by omega) (by omega) (by omega) (by omega)).mono ?_; rintro e w9 ⟨rfl, hb9⟩))
      go_wp2_with fail
      go_meet
      rename _ ∧ _ ∧ _ ∧ _ ∧ _ ∧ _ ∧ Below wx.heap.size wx _ => hS
      exact ⟨rfl, hS.2.2.2.2.2.2⟩
    case rest =>
      rename World => w5
      obtain ⟨rfl, i5⟩ := hcut
      obtain ⟨J, hJ⟩ : ∃ J, J = rj (dotz (bvx - avx) (bvy - avy) nx ny) e (am + bm) := ⟨_, rfl⟩
      have bJ := rj_bd (vn := dotz (bvx - avx) (bvy - avy) nx ny) (e := e) (t := am + bm) v3 he (by omega)
      rw [← hJ] at bJ
      have HJ := Lib.hid hJ; clear hJ
      have i1 := imp_bd bJ a5 n1
      have i2 := imp_bd bJ a5 n2
      have i3 := imp_bd bJ b5 n1
      have i4 := imp_bd bJ b5 n2
      clear ka2 ka3 ka4 kb2 kb3 kb4
      have sz : w.heap.size + 4 < w5.heap.size := World.block_lt_of_cell? w5 _ (BS.below i5).1
      have gx5 : gx < w5.heap.size := World.block_lt_of_cell? w5 _ (BX.below i5).1
      have gy5 : gy < w5.heap.size := World.block_lt_of_cell? w5 _ (BY.below i5).1
      have d0 := keep_cell i5 c0
      have d1 := keep_cell i5 c1
      go_upto_if 43 with fail
      go_cut [] (fun w6 => Bod w6 gx apx apy (avx - mdv nx (mdv J am 1024) 1024) (avy - mdv ny (mdv J am 1024) 1024) am ∧ Bod w6 gy bpx bpy (bvx + mdv nx (mdv J bm 1024) 1024) (bvy + mdv ny (mdv J bm 1024) 1024) bm ∧
        Bod w6 w.heap.size apx apy avx avy am ∧ Bod w6 (w.heap.size + 1) bpx bpy bvx bvy bm ∧ Bod w6 (w.heap.size + 3) 0 0 0 0 0 ∧ Bod w6 (w.heap.size + 4) 0 0 0 0 0 ∧
        (w6.cell? ⟨w.heap.size + 2, 0, none⟩ = some (.int .i64 nx) ∧ w6.cell? ⟨w.heap.size + 2, 1, none⟩ = some (.int .i64 ny) ∧ w6.cell? ⟨w.heap.size + 2, 2, none⟩ = some (.int .i64 d)) ∧ Below w.heap.size w w6)
      case first =>
        by_cases hv : dotz (bvx - avx) (bvy - avy) nx ny < 0
        · have pj := mul_bd (a := -dotz (bvx - avx) (bvy - avy) nx ny) (b := 1024 + e) (A := 65536) (B := 2048) (by omega) (by omega)
          go_wp2_with fail
          have hm := MulDiv_any (-dotz (bvx - avx) (bvy - avy) nx ny) (1024 + e) (am + bm) w5 (by omega) (by omega)
          rw [← rj_app hv, ← HJ.out] at hm
          refine hm.mono ?_
          rintro r w' ⟨rfl, rfl⟩
          clear hm
          have q2 : w.heap.size + 2 < w5.heap.size := by omega
          go_wp2_with fail
          refine wp_loop_rounds 3 ?_
          rw [rounds_succ]
          go_wp2_with fail
          refine (pull_any gx apx apy avx avy am nx ny J _ ((BX.below i5).alloc _) (by omega) (by omega) (by omega) (by omega) (by omega) (by omega) (by omega) (by omega) (by omega) (by omega)).mono ?_
          rintro r w6 ⟨rfl, o6, x6⟩
          have z6 := o6.size
          simp at z6
          have s1 : w6.cell? ⟨w5.heap.size, 1, none⟩ = some (.func (.func 86) #[.pointer (some ⟨gy, 0, none⟩)] #[]) := o6.cell (by omega) (by simp [go_sem])
          have e0 : w6.cell? ⟨w.heap.size + 2, 0, none⟩ = some (.int .i64 nx) := o6.cell (by omega) (keep_cell (below_alloc (Below.refl _ _) _) d0)
          have e1 : w6.cell? ⟨w.heap.size + 2, 1, none⟩ = some (.int .i64 ny) := o6.cell (by omega) (keep_cell (below_alloc (Below.refl _ _) _) d1)
          have y6 := ((BY.below i5).alloc (Obj.cells #[.func (.func 85) #[.pointer (some ⟨gx, 0, none⟩)] #[], .func (.func 86) #[.pointer (some ⟨gy, 0, none⟩)] #[]] 64)).off o6 (by omega)
          go_wp2_with fail
          rw [rounds_succ]
          go_wp2_with fail
          refine (push_any gy bpx bpy bvx bvy bm nx ny J _ y6 (by omega) (by omega) (by omega) (by omega) (by omega) (by omega) (by omega) (by omega) (by omega) (by omega)).mono ?_
          rintro r w7 ⟨rfl, o7, y7⟩
          have z7 := o7.size
          have s2 : w7.cell? ⟨w5.heap.size, 1, none⟩ = some (.func (.func 86) #[.pointer (some ⟨gy, 0, none⟩)] #[]) := o7.cell (by omega) s1
          go_wp2_with fail
          rw [rounds_succ]
          go_wp2_with fail
          go_meet
          have tr : ∀ {c : Nat} {p1 p2 p3 p4 p5 : Int}, c ≠ gx → c ≠ gy → Bod wx c p1 p2 p3 p4 p5 → Bod w7 c p1 p2 p3 p4 p5 := fun h1 h2 h => (((h.below i5).alloc (Obj.cells #[.func (.func 85) #[.pointer (some ⟨gx, 0, none⟩)] #[], .func (.func 86) #[.pointer (some ⟨gy, 0, none⟩)] #[]] 64)).off o6 h1).off o7 h2
          exact ⟨x6.off o7 gne, y7, tr (by omega) (by omega) BA, tr (by omega) (by omega) BB, tr (by omega) (by omega) BR, tr (by omega) (by omega) BS,
            ⟨o7.cell (by omega) e0, o7.cell (by omega) e1, o7.cell (by omega) (o6.cell (by omega) (keep_cell (below_alloc (Below.refl _ _) _) (keep_cell i5 c2)))⟩,
            o7.below (by omega) (o6.below (by omega) (below_alloc (below_step i5 iB) _))⟩
        · go_wp2_with fail
          go_meet
          have hj0 : J = 0 := HJ.out.trans (rj_sep (by omega))
          subst hj0
          simp only [zero_mdv, mdv_zero_mid, Int.sub_zero, Int.add_zero]
          exact ⟨BX.below i5, BY.below i5, BA.below i5, BB.below i5, BR.below i5, BS.below i5, ⟨d0, d1, keep_cell i5 c2⟩, below_step i5 iB⟩
      case rest =>
        clear d0 d1 sz gx5 gy5 i5 BX BY BA BB BR BS c0 c1 c2 HBX
        rename World => w6
        obtain ⟨BX, BY, BA, BB, BR, BS, ⟨c0, c1, c2⟩, i6⟩ := hcut
        have sz : w.heap.size + 4 < w6.heap.size := World.block_lt_of_cell? w6 _ BS.1
        have q0 : w.heap.size < w6.heap.size := by omega
        have q1 : w.heap.size + 1 < w6.heap.size := by omega
        have q2 : w.heap.size + 2 < w6.heap.size := by omega
        have gx6 : gx < w6.heap.size := World.block_lt_of_cell? w6 _ BX.1
        have gy6 : gy < w6.heap.size := World.block_lt_of_cell? w6 _ BY.1
        have e1 := dep_bd hd a5 n1 (t := am + bm) (by omega)
        have e2 := dep_bd hd a5 n2 (t := am + bm) (by omega)
        have e3 := dep_bd hd b5 n1 (t := am + bm) (by omega)
        have e4 := dep_bd hd b5 n2 (t := am + bm) (by omega)
        clear i1 i2 i3 i4 v1 v2 v3 bJ
        generalize hux : avx - mdv nx (mdv J am 1024) 1024 = ux at *
        have Hux := Lib.hid hux; clear hux
        generalize huy : avy - mdv ny (mdv J am 1024) 1024 = uy at *
        have Huy := Lib.hid huy; clear huy
        generalize htx : bvx + mdv nx (mdv J bm 1024) 1024 = tx at *
        have Htx := Lib.hid htx; clear htx
        generalize hty : bvy + mdv ny (mdv J bm 1024) 1024 = ty at *
        have Hty := Lib.hid hty; clear hty
        go_upto_region 13 with fail
        go_cut [] (fun w7 => Bod w7 gx (apx - mdv nx (mdv d am (am + bm)) 1024) (apy - mdv ny (mdv d am (am + bm)) 1024) ux uy am ∧ Off gx w6 w7)
        case first =>
          obtain ⟨k0, k1, -, -, -, f0, f1, -⟩ := id BX
          obtain ⟨-, -, -, -, m4, -⟩ := id BA
          have K0 := cell_regrown k0
          have K1 := cell_regrown k1
          have K4 := cell_regrown m4
          have C0 := cell_regrown c0
          have C1 := cell_regrown c1
          have C2 := cell_regrown c2
          clear k0 k1 m4 c0 c1 c2
          refine wp_region_tail 19 (by kernel_rfl) (by kernel_rfl) ?_
          simp only [List.take_succ_cons, List.take_zero, List.drop_succ_cons, List.drop_zero]
          repeat (go_big_quiet_step (first
            | (go_at_call 29; exact met_same (MulDiv_any _ _ _ _ (by omega) (by omega)))
            | (go_at_call 54; exact met_below (Scale_any _ _ _ _ (by omega) (by omega) (by omega) (by omega)))
            | (go_at_call 51; exact met_below (Sub_any _ _ _ _ _ (by omega) (by omega) (by omega) (by omega)))))
          refine wpQuiet_nil ?_
          intro _ hw'
          obtain ⟨⟨dq, osq⟩, hw''⟩ := hw'
          subst hw''
          have hbq := below_regrown w6 dq osq
          generalize grow (redrawn w6 dq) osq = wq at hbq ⊢
          clear K0 K1 K4 C0 C1 C2
          have BQ := BX.below hbq
          obtain ⟨k0, k1, -, -, -, f0, f1, -⟩ := id BQ
          go_wp2_with fail
          go_meet
          exact ⟨(BQ.set0 _).set1 _, (by repeat (first | with_reducible exact Off.refl _ _ | with_reducible refine Off.setB ?_ _ _ | with_reducible refine Off.drew ?_ | with_reducible refine Off.alloc ?_ _ | with_reducible refine Off.of_below ?_ (by assumption)))⟩
        case rest =>
          rename World => w7
          obtain ⟨PX, o7⟩ := hcut
          have l7 := o7.size
          have gy7 : gy < w7.heap.size := by omega
          have gx7 : gx < w7.heap.size := by omega
          have q7 : w.heap.size + 4 < w7.heap.size := by omega
          replace BY := BY.off o7 (Ne.symm gne)
          replace BA := BA.off o7 (by omega)
          replace BB := BB.off o7 (by omega)
          replace BR := BR.off o7 (by omega)
          replace BS := BS.off o7 (by omega)
          replace c0 := o7.cell (show w.heap.size + 2 ≠ gx by omega) c0
          replace c1 := o7.cell (show w.heap.size + 2 ≠ gx by omega) c1
          replace c2 := o7.cell (show w.heap.size + 2 ≠ gx by omega) c2
          replace i6 := o7.below (show w.heap.size ≤ gx by omega) i6
          clear o7 BX gx6 gy6 q0 q1 q2 sz
          have q0 : w.heap.size < w7.heap.size := by omega
          have q1 : w.heap.size + 1 < w7.heap.size := by omega
          have q2 : w.heap.size + 2 < w7.heap.size := by omega
          clear l7
          go_upto_region 14 with fail
          go_cut [] (fun w8 => Bod w8 gy (bpx + mdv nx (mdv d bm (am + bm)) 1024) (bpy + mdv ny (mdv d bm (am + bm)) 1024) tx ty bm ∧ Off gy w7 w8)
          case first =>
            obtain ⟨k0, k1, -, -, -, f0, f1, -⟩ := id BY
            obtain ⟨-, -, -, -, m4, -⟩ := id BB
            have K0 := cell_regrown k0
            have K1 := cell_regrown k1
            have K4 := cell_regrown m4
            have C0 := cell_regrown c0
            have C1 := cell_regrown c1
            have C2 := cell_regrown c2
            clear k0 k1 m4 c0 c1 c2
            refine wp_region_tail 19 (by kernel_rfl) (by kernel_rfl) ?_
            simp only [List.take_succ_cons, List.take_zero, List.drop_succ_cons, List.drop_zero]
            repeat (go_big_quiet_step (first
              | (go_at_call 29; exact met_same (MulDiv_any _ _ _ _ (by omega) (by omega)))
              | (go_at_call 54; exact met_below (Scale_any _ _ _ _ (by omega) (by omega) (by omega) (by omega)))
              | (go_at_call 50; exact met_below (Add_any _ _ _ _ _ (by omega) (by omega) (by omega) (by omega)))))
            refine wpQuiet_nil ?_
            intro _ hw'
            obtain ⟨⟨dq, osq⟩, hw''⟩ := hw'
            subst hw''
            have hbq := below_regrown w7 dq osq
            generalize grow (redrawn w7 dq) osq = wq at hbq ⊢
            clear K0 K1 K4 C0 C1 C2
            have BQ := BY.below hbq
            obtain ⟨k0, k1, -, -, -, f0, f1, -⟩ := id BQ
            go_wp2_with fail
            go_meet
            exact ⟨(BQ.set0 _).set1 _, (by repeat (first | with_reducible exact Off.refl _ _ | with_reducible refine Off.setB ?_ _ _ | with_reducible refine Off.drew ?_ | with_reducible refine Off.alloc ?_ _ | with_reducible refine Off.of_below ?_ (by assumption)))⟩
          case rest =>
            rename World => w8
            obtain ⟨PY, o8⟩ := hcut
            replace PX := PX.off o8 gne
            replace BR := BR.off o8 (by omega)
            replace BS := BS.off o8 (by omega)
            replace i6 := o8.below (show w.heap.size ≤ gy by omega) i6
            have l8 := o8.size
            have gx8 : gx < w8.heap.size := by omega
            have gy8 : gy < w8.heap.size := by omega
            have q8 : w.heap.size + 4 < w8.heap.size := by omega
            clear BA BB BY c0 c1 c2 o8 l8 q0 q1 q2 gx7 gy7 q7
            go_wp2_with fail
            refine wp_loop_rounds 3 ?_
            rw [rounds_succ]
            go_wp2_with fail
            refine (clamp_any gx _ _ _ _ _ _ (PX.alloc _)).mono ?_
            rintro r w9 ⟨rfl, o9, x9⟩
            have z9 := o9.size
            simp at z9
            have s1 : w9.cell? ⟨w8.heap.size, 1, none⟩ = some (.func (.func 87) #[.pointer (some ⟨gy, 0, none⟩)] #[]) := o9.cell (by omega) (by simp [go_sem])
            have y9 := (PY.alloc (Obj.cells #[.func (.func 87) #[.pointer (some ⟨gx, 0, none⟩)] #[], .func (.func 87) #[.pointer (some ⟨gy, 0, none⟩)] #[]] 1)).off o9 (Ne.symm gne)
            go_wp2_with fail
            rw [rounds_succ]
            go_wp2_with fail
            refine (clamp_any gy _ _ _ _ _ _ y9).mono ?_
            rintro r w10 ⟨rfl, o10, y10⟩
            have s2 : w10.cell? ⟨w8.heap.size, 1, none⟩ = some (.func (.func 87) #[.pointer (some ⟨gy, 0, none⟩)] #[]) := o10.cell (by omega) s1
            go_wp2_with fail
            rw [rounds_succ]
            go_wp2_with fail
            have x10 := x9.off o10 gne
            have R10 := ((BR.alloc (Obj.cells #[.func (.func 87) #[.pointer (some ⟨gx, 0, none⟩)] #[], .func (.func 87) #[.pointer (some ⟨gy, 0, none⟩)] #[]] 1)).off o9 (by omega)).off o10 (by omega)
            have S10 := ((BS.alloc (Obj.cells #[.func (.func 87) #[.pointer (some ⟨gx, 0, none⟩)] #[], .func (.func 87) #[.pointer (some ⟨gy, 0, none⟩)] #[]] 1)).off o9 (by omega)).off o10 (by omega)
            have i10 := o10.below (show w.heap.size ≤ gy by omega) (o9.below (show w.heap.size ≤ gx by omega) (below_alloc i6 (Obj.cells #[.func (.func 87) #[.pointer (some ⟨gx, 0, none⟩)] #[], .func (.func 87) #[.pointer (some ⟨gy, 0, none⟩)] #[]] 1)))
            obtain ⟨ax0, ax1, ax2, ax3, ax4, -⟩ := x10
            obtain ⟨ay0, ay1, ay2, ay3, ay4, -⟩ := y10
            obtain ⟨ar0, ar1, ar2, ar3, ar4, fr0, fr1, fr2, fr3, fr4⟩ := R10
            obtain ⟨as0, as1, as2, as3, as4, fs0, fs1, fs2, fs3, fs4⟩ := S10
            have ne1 : gx ≠ w.heap.size + 3 := by omega
            have ne2 : gx ≠ w.heap.size + 4 := by omega
            have ne3 : gy ≠ w.heap.size + 3 := by omega
            have ne4 : gy ≠ w.heap.size + 4 := by omega
            go_region
            go_wp2_with fail
            have r1 : rvel avx nx J am = clp ux (-16384) 16384 := by unfold rvel; rw [Hux.out]
            have r2 : rvel avy ny J am = clp uy (-16384) 16384 := by unfold rvel; rw [Huy.out]
            have r3 : rvel' bvx nx J bm = clp tx (-16384) 16384 := by unfold rvel'; rw [Htx.out]
            have r4 : rvel' bvy ny J bm = clp ty (-16384) 16384 := by unfold rvel'; rw [Hty.out]
            have p1 : rpos apx nx d am (am + bm) = clp (apx - mdv nx (mdv d am (am + bm)) 1024) (-1048576) 1048576 := rfl
            have p2 : rpos apy ny d am (am + bm) = clp (apy - mdv ny (mdv d am (am + bm)) 1024) (-1048576) 1048576 := rfl
            have p3 : rpos' bpx nx d bm (am + bm) = clp (bpx + mdv nx (mdv d bm (am + bm)) 1024) (-1048576) 1048576 := rfl
            have p4 : rpos' bpy ny d bm (am + bm) = clp (bpy + mdv ny (mdv d bm (am + bm)) 1024) (-1048576) 1048576 := rfl
            refine bodyPost_ret (v := .tuple #[.agg #[.int .i64 (clp (apx - mdv nx (mdv d am (am + bm)) 1024) (-1048576) 1048576), .int .i64 (clp (apy - mdv ny (mdv d am (am + bm)) 1024) (-1048576) 1048576), .int .i64 (clp ux (-16384) 16384), .int .i64 (clp uy (-16384) 16384), .int .i64 am], .agg #[.int .i64 (clp (bpx + mdv nx (mdv d bm (am + bm)) 1024) (-1048576) 1048576), .int .i64 (clp (bpy + mdv ny (mdv d bm (am + bm)) 1024) (-1048576) 1048576), .int .i64 (clp tx (-16384) 16384), .int .i64 (clp ty (-16384) 16384), .int .i64 bm]]) (by simp [results, Try.results68, go_sem, ar0, ar1, ar2, ar3, ar4, as0, as1, as2, as3, as4]) rfl ⟨J, HJ.out, by rw [r1, r2, r3, r4, p1, p2, p3, p4], ?_⟩
            repeat (first | with_reducible exact i10 | with_reducible refine Below.drew ?_ | with_reducible refine below_set ?_ (by first | (simp; done) | (simp; omega)) _)
end Go.Proofs.Ytcapkmiinehdlaa
