/- ShuntCounts holds: the counts of a plan are in the period, at the end of parts that are longer than settle, in which one leg and two legs are on. No condition. -/
import Derived.Test.YtjeomdfcfbfebaaRows
import Derived.Test.YtjeomdfcfbfebaaFlat
import Derived.Test.YtjeomdfcfbfebaaShF
import Derived.Test.YtjeomdfcfbfebaaPatJ
import Derived.Lib.QuietBelow
namespace Go.Proofs.Ytjeomdfcfbfebaa
open Go.RowKit PM Flat Go.ChangeShapes

@[go_sem] theorem ixI2c0 (a b : Int) (w : World) : (Instr.index 44 (.agg #[.int .i64 a, .int .i64 b]) (.int .i64 0)).run Try.prog w = .ok (.int .i64 a) w := by kernel_rfl
@[go_sem] theorem ixI2c1 (a b : Int) (w : World) : (Instr.index 44 (.agg #[.int .i64 a, .int .i64 b]) (.int .i64 1)).run Try.prog w = .ok (.int .i64 b) w := by kernel_rfl
namespace PM
def one1 (l : Int) (n : B3) : Prop := (l = 0 ∧ n = (true, false, false)) ∨ (l = 1 ∧ n = (false, true, false)) ∨ (l = 2 ∧ n = (false, false, true))
def one2 (l : Int) (n : B3) : Prop := (l = 0 ∧ n = (false, true, true)) ∨ (l = 1 ∧ n = (true, false, true)) ∨ (l = 2 ∧ n = (true, true, false))
theorem one1_of {n : B3} (h : cntOn n = 1) : one1 (oddOf n) n := by
  obtain ⟨a, b, c⟩ := n
  unfold one1
  cases a <;> cases b <;> cases c <;> first | (exact absurd h (by decide)) | decide
theorem one2_of {n : B3} (h : cntOn n = 2) : one2 (oddOf n) n := by
  obtain ⟨a, b, c⟩ := n
  unfold one2
  cases a <;> cases b <;> cases c <;> first | (exact absurd h (by decide)) | decide
end PM
set_option maxHeartbeats 4000000 in
set_option maxRecDepth 100000 in
theorem shuntCounts_err (p : Pt) (per st c : Int) (hP : ∀ W : World, Calls Try.prog 27 #[.agg #[.int .i64 p.l0.a, .int .i64 p.l0.b, .int .i64 p.l1.a, .int .i64 p.l1.b, .int .i64 p.l2.a, .int .i64 p.l2.b], .int .i64 per, .int .i64 st] W fun e w' => e = .returned (.tuple #[.agg #[.int .i64 0, .int .i64 0, .int .i64 0, .int .i64 0], .iface 96 (.int .i64 c)]) ∧ Below W.heap.size W w') (w : World) :
    Calls Try.prog 14 #[.agg #[.int .i64 p.l0.a, .int .i64 p.l0.b, .int .i64 p.l1.a, .int .i64 p.l1.b, .int .i64 p.l2.a, .int .i64 p.l2.b], .int .i64 per, .int .i64 st] w fun e w' => e = .returned (.bool true) ∧ Below w.heap.size w w' := by
  have HP := hide hP
  clear hP
  go_enter Try.func14, Try.ntmps14
  go_wp2_with (first
    | (go_at_call 39; refine (awake25_any _).mono ?_; rintro e w1 ⟨rfl, hb1⟩; have z1 := hb1.size; (try simp at z1); have c1x0 := bstep (b := w.heap.size) hb1 (by first | omega | (simp <;> omega)); have y1x0 : w.heap.size < w1.heap.size := (by omega); have H1 : Below w.heap.size w w1 := Below.trans (by repeat (first | with_reducible assumption | with_reducible refine Below.drew ?_ | with_reducible refine below_drewN ?_ _ | with_reducible refine Below.alloc ?_ (by first | omega | (simp <;> omega)) _ | with_reducible refine Below.setCell ?_ (by first | omega | (simp <;> omega)) _ | with_reducible exact Below.refl _ _)) (hb1.mono (by first | omega | (simp <;> omega))))
    | (go_at_call 27; refine (HP.out _).mono ?_; rintro e w2 ⟨rfl, hb2⟩; have z2 := hb2.size; (try simp at z2); have c2x0 := bstep (b := w.heap.size) hb2 (by first | omega | (simp <;> omega)); have y2x0 : w.heap.size < w2.heap.size := (by omega); have H2 : Below w.heap.size w w2 := Below.trans (by repeat (first | with_reducible assumption | with_reducible refine Below.drew ?_ | with_reducible refine below_drewN ?_ _ | with_reducible refine Below.alloc ?_ (by first | omega | (simp <;> omega)) _ | with_reducible refine Below.setCell ?_ (by first | omega | (simp <;> omega)) _ | with_reducible exact Below.refl _ _)) (hb2.mono (by first | omega | (simp <;> omega)))))
  go_ret
  exact ⟨by simp, by exact (by repeat (first | with_reducible assumption | with_reducible refine Below.drew ?_ | with_reducible refine below_drewN ?_ _ | with_reducible refine Below.alloc ?_ (by first | omega | (simp <;> omega)) _ | with_reducible refine Below.setCell ?_ (by first | omega | (simp <;> omega)) _ | with_reducible exact Below.refl _ _))⟩
set_option maxHeartbeats 16000000 in
set_option maxRecDepth 100000 in
theorem shuntCounts_core (p : Pt) (per st A0 A1 l0 l1 : Int) (n0 n1 : B3) (hper : 64 ≤ per ∧ per ≤ 4096) (hst : 0 ≤ st) (ha0 : st ≤ A0 ∧ A0 < per) (ha1 : st ≤ A1 ∧ A1 < per) (h10 : one1 l0 n0) (h11 : one2 l1 n1) (hne : ¬ l0 = l1)
    (hon0 : ∀ t, A0 - st ≤ t → t ≤ A0 → p.on t = n0) (hon1 : ∀ t, A1 - st ≤ t → t ≤ A1 → p.on t = n1)
    (hP : ∀ W : World, Calls Try.prog 27 #[.agg #[.int .i64 p.l0.a, .int .i64 p.l0.b, .int .i64 p.l1.a, .int .i64 p.l1.b, .int .i64 p.l2.a, .int .i64 p.l2.b], .int .i64 per, .int .i64 st] W fun e w' => e = .returned (.tuple #[.agg #[.int .i64 A0, .int .i64 A1, .int .i64 l0, .int .i64 l1], .nilIface]) ∧ Below W.heap.size W w') (w : World) :
    Calls Try.prog 14 #[.agg #[.int .i64 p.l0.a, .int .i64 p.l0.b, .int .i64 p.l1.a, .int .i64 p.l1.b, .int .i64 p.l2.a, .int .i64 p.l2.b], .int .i64 per, .int .i64 st] w fun e w' => e = .returned (.bool true) ∧ Below w.heap.size w w' := by
  have HP := hide hP
  have HON0 := hide hon0
  have HON1 := hide hon1
  obtain ⟨p1, p2⟩ := hper
  obtain ⟨a01, a02⟩ := ha0
  obtain ⟨a11, a12⟩ := ha1
  have r0 : 0 ≤ l0 ∧ l0 ≤ 2 := by unfold one1 at h10; omega
  have r1 : 0 ≤ l1 ∧ l1 ≤ 2 := by unfold one2 at h11; omega
  obtain ⟨r01, r02⟩ := r0
  obtain ⟨r11, r12⟩ := r1
  have h10 := hide h10
  have h11 := hide h11
  have ga : IntKind.i64.wrap (A0 - st) = A0 - st := IntWalk.i64_in _ (by omega)
  have gb : IntKind.i64.wrap (A1 - st) = A1 - st := IntWalk.i64_in _ (by omega)
  have hneb : (l0 == l1) = false := beq_eq_false_iff_ne.2 hne
  have hnB : (l0 != l1) = true := by simp [hne]
  have hneh := hide hnB
  clear hP hon0 hon1 hne hneb hnB
  go_enter Try.func14, Try.ntmps14
  go_upto_region 6 with (first
    | (go_at_call 39; refine (awake25_any _).mono ?_; rintro e w1 ⟨rfl, hb1⟩; have z1 := hb1.size; (try simp at z1); have c1x0 := bstep (b := w.heap.size) hb1 (by first | omega | (simp <;> omega)); have y1x0 : w.heap.size < w1.heap.size := (by omega); have H1 : Below w.heap.size w w1 := Below.trans (by repeat (first | with_reducible assumption | with_reducible refine Below.drew ?_ | with_reducible refine below_drewN ?_ _ | with_reducible refine Below.alloc ?_ (by first | omega | (simp <;> omega)) _ | with_reducible refine Below.setCell ?_ (by first | omega | (simp <;> omega)) _ | with_reducible exact Below.refl _ _)) (hb1.mono (by first | omega | (simp <;> omega))))
    | (go_at_call 27; refine (HP.out _).mono ?_; rintro e w2 ⟨rfl, hb2⟩; have z2 := hb2.size; (try simp at z2); have c2x0 := bstep (b := w.heap.size) hb2 (by first | omega | (simp <;> omega)); have y2x0 : w.heap.size < w2.heap.size := (by omega); have H2 : Below w.heap.size w w2 := Below.trans (by repeat (first | with_reducible assumption | with_reducible refine Below.drew ?_ | with_reducible refine below_drewN ?_ _ | with_reducible refine Below.alloc ?_ (by first | omega | (simp <;> omega)) _ | with_reducible refine Below.setCell ?_ (by first | omega | (simp <;> omega)) _ | with_reducible exact Below.refl _ _)) (hb2.mono (by first | omega | (simp <;> omega)))))
  have HB : Below w.heap.size w (w2.alloc (.cells #[.int .i64 A0, .int .i64 A1, .int .i64 l0, .int .i64 l1] 46)) := by exact (by repeat (first | with_reducible assumption | with_reducible refine Below.drew ?_ | with_reducible refine below_drewN ?_ _ | with_reducible refine Below.alloc ?_ (by first | omega | (simp <;> omega)) _ | with_reducible refine Below.setCell ?_ (by first | omega | (simp <;> omega)) _ | with_reducible exact Below.refl _ _))
  have b0 : (w2.alloc (.cells #[.int .i64 A0, .int .i64 A1, .int .i64 l0, .int .i64 l1] 46)).cell? ⟨w.heap.size, 0, none⟩ = some (.int .i64 p.l0.a) := by go_simp
  have b1 : (w2.alloc (.cells #[.int .i64 A0, .int .i64 A1, .int .i64 l0, .int .i64 l1] 46)).cell? ⟨w.heap.size, 1, none⟩ = some (.int .i64 p.l0.b) := by go_simp
  have b2 : (w2.alloc (.cells #[.int .i64 A0, .int .i64 A1, .int .i64 l0, .int .i64 l1] 46)).cell? ⟨w.heap.size, 2, none⟩ = some (.int .i64 p.l1.a) := by go_simp
  have b3 : (w2.alloc (.cells #[.int .i64 A0, .int .i64 A1, .int .i64 l0, .int .i64 l1] 46)).cell? ⟨w.heap.size, 3, none⟩ = some (.int .i64 p.l1.b) := by go_simp
  have b4 : (w2.alloc (.cells #[.int .i64 A0, .int .i64 A1, .int .i64 l0, .int .i64 l1] 46)).cell? ⟨w.heap.size, 4, none⟩ = some (.int .i64 p.l2.a) := by go_simp
  have b5 : (w2.alloc (.cells #[.int .i64 A0, .int .i64 A1, .int .i64 l0, .int .i64 l1] 46)).cell? ⟨w.heap.size, 5, none⟩ = some (.int .i64 p.l2.b) := by go_simp
  have s4 : (w2.alloc (.cells #[.int .i64 A0, .int .i64 A1, .int .i64 l0, .int .i64 l1] 46)).cell? ⟨w2.heap.size, 0, none⟩ = some (.int .i64 A0) := by go_simp
  have s5 : (w2.alloc (.cells #[.int .i64 A0, .int .i64 A1, .int .i64 l0, .int .i64 l1] 46)).cell? ⟨w2.heap.size, 1, none⟩ = some (.int .i64 A1) := by go_simp
  have s0 : (w2.alloc (.cells #[.int .i64 A0, .int .i64 A1, .int .i64 l0, .int .i64 l1] 46)).cell? ⟨w2.heap.size, 2, none⟩ = some (.int .i64 l0) := by go_simp
  have s1 : (w2.alloc (.cells #[.int .i64 A0, .int .i64 A1, .int .i64 l0, .int .i64 l1] 46)).cell? ⟨w2.heap.size, 3, none⟩ = some (.int .i64 l1) := by go_simp
  have yb : w.heap.size < (w2.alloc (.cells #[.int .i64 A0, .int .i64 A1, .int .i64 l0, .int .i64 l1] 46)).heap.size := by simp <;> omega
  have ybx : w2.heap.size < (w2.alloc (.cells #[.int .i64 A0, .int .i64 A1, .int .i64 l0, .int .i64 l1] 46)).heap.size := by simp
  generalize (w2.alloc (.cells #[.int .i64 A0, .int .i64 A1, .int .i64 l0, .int .i64 l1] 46)) = wb at HB b0 b1 b2 b3 b4 b5 s0 s1 s4 s5 yb ybx ⊢
  generalize w2.heap.size = bx at s0 s1 s4 s5 ybx ⊢
  clear c1x0 c2x0 hb1 hb2 H1 H2
  go_upto_region 7 with fail
  clear s4 s5
  go_wp2
  go_loopw [31] (fun i wr => ∃ k : Nat, k ≤ 2 ∧ i = .int .i64 (k : Int) ∧ Below wb.heap.size wb wr) (fun i _ => 2 - (intOf i).toNat)
  case atStart =>
    exact ⟨0, by omega, rfl, Below.refl _ _⟩
  case round =>
    rename World => wr
    obtain ⟨k, hk, rfl, HX⟩ := hrel
    have hyr := HX.size
    have yr0 : w.heap.size < wr.heap.size := by omega
    have yr1 : bx < wr.heap.size := by omega
    have cs0 := (HX.cell (p := ⟨bx, 2, none⟩) ybx).trans s0
    have cs1 := (HX.cell (p := ⟨bx, 3, none⟩) ybx).trans s1
    have d0 := (HX.cell (p := ⟨w.heap.size, 0, none⟩) yb).trans b0
    have d1 := (HX.cell (p := ⟨w.heap.size, 1, none⟩) yb).trans b1
    have d2 := (HX.cell (p := ⟨w.heap.size, 2, none⟩) yb).trans b2
    have d3 := (HX.cell (p := ⟨w.heap.size, 3, none⟩) yb).trans b3
    have d4 := (HX.cell (p := ⟨w.heap.size, 4, none⟩) yb).trans b4
    have d5 := (HX.cell (p := ⟨w.heap.size, 5, none⟩) yb).trans b5
    obtain rfl | rfl | rfl : k = 0 ∨ k = 1 ∨ k = 2 := by omega
    · have HAT := hide (fun W => at_any p A0 W)
      rw [show p.l0.on A0 = n0.1 from congrArg (fun b : B3 => b.1) (HON0.out A0 (by omega) (by omega)), show p.l1.on A0 = n0.2.1 from congrArg (fun b : B3 => b.2.1) (HON0.out A0 (by omega) (by omega)), show p.l2.on A0 = n0.2.2 from congrArg (fun b : B3 => b.2.2) (HON0.out A0 (by omega) (by omega))] at HAT
      go_upto_region 12 with (go_at_call 44; with_reducible refine (HAT.out _).mono ?_; rintro e w4 ⟨rfl, hb4⟩)
      have z4 := hb4.size
      have HX4 : Below wb.heap.size wb w4 := HX.trans (hb4.mono (by omega))
      have HX5 : Below wb.heap.size wb (w4.alloc (.cells #[.bool n0.1, .bool n0.2.1, .bool n0.2.2] 67)) := HX4.alloc (by omega) _
      have t0 : (w4.alloc (.cells #[.bool n0.1, .bool n0.2.1, .bool n0.2.2] 67)).cell? ⟨w4.heap.size, 0, none⟩ = some (.bool n0.1) := by go_simp
      have t1 : (w4.alloc (.cells #[.bool n0.1, .bool n0.2.1, .bool n0.2.2] 67)).cell? ⟨w4.heap.size, 1, none⟩ = some (.bool n0.2.1) := by go_simp
      have t2 : (w4.alloc (.cells #[.bool n0.1, .bool n0.2.1, .bool n0.2.2] 67)).cell? ⟨w4.heap.size, 2, none⟩ = some (.bool n0.2.2) := by go_simp
      have y5 : w4.heap.size < (w4.alloc (.cells #[.bool n0.1, .bool n0.2.1, .bool n0.2.2] 67)).heap.size := by simp
      generalize (w4.alloc (.cells #[.bool n0.1, .bool n0.2.1, .bool n0.2.2] 67)) = w5 at HX5 t0 t1 t2 y5 ⊢
      have z5 : wb.heap.size ≤ w5.heap.size := HX5.size
      clear HAT hb4
      go_upto_block 2 with fail
      go_cut [] (fun wz => Below w5.heap.size w5 wz)
      case first =>
        go_wp2
        go_loopw [12] (fun i wx => ∃ t : Int, A0 - st ≤ t ∧ t ≤ A0 + 1 ∧ i = .int .i64 t ∧ Below w5.heap.size w5 wx) (fun i _ => (A0 + 1 - intOf i).toNat)
        case atStart =>
          exact ⟨A0 - st, by omega, by omega, rfl, Below.refl _ _⟩
        case round =>
          rename World => wx
          obtain ⟨t, ht1, ht2, rfl, HXX⟩ := hrel
          by_cases hlt : t ≤ A0
          · have yx := HXX.size
            have HXB : Below wb.heap.size wb wx := HX5.trans (HXX.mono (by omega))
            have HAT := hide (fun W => at_any p t W)
            rw [show p.l0.on t = n0.1 from congrArg (fun b : B3 => b.1) (HON0.out t ht1 hlt), show p.l1.on t = n0.2.1 from congrArg (fun b : B3 => b.2.1) (HON0.out t ht1 hlt), show p.l2.on t = n0.2.2 from congrArg (fun b : B3 => b.2.2) (HON0.out t ht1 hlt)] at HAT
            have gt : IntKind.i64.wrap (t + 1) = t + 1 := IntWalk.i64_in _ (by omega)
            have kb0 := fun d os => cell_regrown ((HXB.cell (p := ⟨w.heap.size, 0, none⟩) yb).trans b0) d os
            have kb1 := fun d os => cell_regrown ((HXB.cell (p := ⟨w.heap.size, 1, none⟩) yb).trans b1) d os
            have kb2 := fun d os => cell_regrown ((HXB.cell (p := ⟨w.heap.size, 2, none⟩) yb).trans b2) d os
            have kb3 := fun d os => cell_regrown ((HXB.cell (p := ⟨w.heap.size, 3, none⟩) yb).trans b3) d os
            have kb4 := fun d os => cell_regrown ((HXB.cell (p := ⟨w.heap.size, 4, none⟩) yb).trans b4) d os
            have kb5 := fun d os => cell_regrown ((HXB.cell (p := ⟨w.heap.size, 5, none⟩) yb).trans b5) d os
            have kt0 := fun d os => cell_regrown ((HXX.cell (p := ⟨w4.heap.size, 0, none⟩) y5).trans t0) d os
            have kt1 := fun d os => cell_regrown ((HXX.cell (p := ⟨w4.heap.size, 1, none⟩) y5).trans t1) d os
            have kt2 := fun d os => cell_regrown ((HXX.cell (p := ⟨w4.heap.size, 2, none⟩) y5).trans t2) d os
            have cM := fun d os => Calls.regrown_of (HAT.out (Go.Sort.grow (redrawn wx d) os))
            go_upto_region 15 with fail
            refine wp_region_quiet_below (by kernel_rfl) (by kernel_rfl) ?_
            repeat (go_big_quiet_step (with_reducible exact cM _ _))
            refine wpQuiet_nil ?_
            rintro wz ⟨⟨dd, os⟩, rfl⟩
            have hz := below_regrown wx dd os
            clear cM kb0 kb1 kb2 kb3 kb4 kb5 kt0 kt1 kt2
            generalize Go.Sort.grow (redrawn wx dd) os = wz at hz ⊢
            go_wp2
            go_roundw
            case rel => exact ⟨t + 1, by omega, by omega, by go_num, HXX.trans (hz.mono (by omega))⟩
            case measure => simp [intOf]; omega
          · go_wp2
            go_meet
            exact HXX
      case rest =>
      have HX6 := hcut
      rename World => w6
      replace t0 := (HX6.cell (p := ⟨w4.heap.size, 0, none⟩) y5).trans t0
      replace t1 := (HX6.cell (p := ⟨w4.heap.size, 1, none⟩) y5).trans t1
      replace t2 := (HX6.cell (p := ⟨w4.heap.size, 2, none⟩) y5).trans t2
      have HX7 : Below wb.heap.size wb w6 := HX5.trans (HX6.mono z5)
      replace s0 := (HX7.cell (p := ⟨bx, 2, none⟩) ybx).trans s0
      replace s1 := (HX7.cell (p := ⟨bx, 3, none⟩) ybx).trans s1
      have z6 := HX7.size
      have y6 : w4.heap.size < w6.heap.size := by have := HX6.size; omega
      have y7 : bx < w6.heap.size := by omega
      clear HX6 hcut
      rcases h10.out with ⟨rfl, rfl⟩ | ⟨rfl, rfl⟩ | ⟨rfl, rfl⟩
      all_goals
        go_upto_block 4 with fail
        go_wp2
        refine wp_loop_rounds 4 ?_
        rw [rounds_succ]
        go_wp2
        rw [rounds_succ]
        go_wp2
        rw [rounds_succ]
        go_wp2
        rw [rounds_succ]
        go_wp2
        go_roundw
        case rel => exact ⟨1, by omega, by go_num, by exact HX7⟩
        case measure => simp [intOf]
    · have HAT := hide (fun W => at_any p A1 W)
      rw [show p.l0.on A1 = n1.1 from congrArg (fun b : B3 => b.1) (HON1.out A1 (by omega) (by omega)), show p.l1.on A1 = n1.2.1 from congrArg (fun b : B3 => b.2.1) (HON1.out A1 (by omega) (by omega)), show p.l2.on A1 = n1.2.2 from congrArg (fun b : B3 => b.2.2) (HON1.out A1 (by omega) (by omega))] at HAT
      go_upto_region 12 with (go_at_call 44; with_reducible refine (HAT.out _).mono ?_; rintro e w4 ⟨rfl, hb4⟩)
      have z4 := hb4.size
      have HX4 : Below wb.heap.size wb w4 := HX.trans (hb4.mono (by omega))
      have HX5 : Below wb.heap.size wb (w4.alloc (.cells #[.bool n1.1, .bool n1.2.1, .bool n1.2.2] 67)) := HX4.alloc (by omega) _
      have t0 : (w4.alloc (.cells #[.bool n1.1, .bool n1.2.1, .bool n1.2.2] 67)).cell? ⟨w4.heap.size, 0, none⟩ = some (.bool n1.1) := by go_simp
      have t1 : (w4.alloc (.cells #[.bool n1.1, .bool n1.2.1, .bool n1.2.2] 67)).cell? ⟨w4.heap.size, 1, none⟩ = some (.bool n1.2.1) := by go_simp
      have t2 : (w4.alloc (.cells #[.bool n1.1, .bool n1.2.1, .bool n1.2.2] 67)).cell? ⟨w4.heap.size, 2, none⟩ = some (.bool n1.2.2) := by go_simp
      have y5 : w4.heap.size < (w4.alloc (.cells #[.bool n1.1, .bool n1.2.1, .bool n1.2.2] 67)).heap.size := by simp
      generalize (w4.alloc (.cells #[.bool n1.1, .bool n1.2.1, .bool n1.2.2] 67)) = w5 at HX5 t0 t1 t2 y5 ⊢
      have z5 : wb.heap.size ≤ w5.heap.size := HX5.size
      clear HAT hb4
      go_upto_block 2 with fail
      go_cut [] (fun wz => Below w5.heap.size w5 wz)
      case first =>
        go_wp2
        go_loopw [12] (fun i wx => ∃ t : Int, A1 - st ≤ t ∧ t ≤ A1 + 1 ∧ i = .int .i64 t ∧ Below w5.heap.size w5 wx) (fun i _ => (A1 + 1 - intOf i).toNat)
        case atStart =>
          exact ⟨A1 - st, by omega, by omega, rfl, Below.refl _ _⟩
        case round =>
          rename World => wx
          obtain ⟨t, ht1, ht2, rfl, HXX⟩ := hrel
          by_cases hlt : t ≤ A1
          · have yx := HXX.size
            have HXB : Below wb.heap.size wb wx := HX5.trans (HXX.mono (by omega))
            have HAT := hide (fun W => at_any p t W)
            rw [show p.l0.on t = n1.1 from congrArg (fun b : B3 => b.1) (HON1.out t ht1 hlt), show p.l1.on t = n1.2.1 from congrArg (fun b : B3 => b.2.1) (HON1.out t ht1 hlt), show p.l2.on t = n1.2.2 from congrArg (fun b : B3 => b.2.2) (HON1.out t ht1 hlt)] at HAT
            have gt : IntKind.i64.wrap (t + 1) = t + 1 := IntWalk.i64_in _ (by omega)
            have kb0 := fun d os => cell_regrown ((HXB.cell (p := ⟨w.heap.size, 0, none⟩) yb).trans b0) d os
            have kb1 := fun d os => cell_regrown ((HXB.cell (p := ⟨w.heap.size, 1, none⟩) yb).trans b1) d os
            have kb2 := fun d os => cell_regrown ((HXB.cell (p := ⟨w.heap.size, 2, none⟩) yb).trans b2) d os
            have kb3 := fun d os => cell_regrown ((HXB.cell (p := ⟨w.heap.size, 3, none⟩) yb).trans b3) d os
            have kb4 := fun d os => cell_regrown ((HXB.cell (p := ⟨w.heap.size, 4, none⟩) yb).trans b4) d os
            have kb5 := fun d os => cell_regrown ((HXB.cell (p := ⟨w.heap.size, 5, none⟩) yb).trans b5) d os
            have kt0 := fun d os => cell_regrown ((HXX.cell (p := ⟨w4.heap.size, 0, none⟩) y5).trans t0) d os
            have kt1 := fun d os => cell_regrown ((HXX.cell (p := ⟨w4.heap.size, 1, none⟩) y5).trans t1) d os
            have kt2 := fun d os => cell_regrown ((HXX.cell (p := ⟨w4.heap.size, 2, none⟩) y5).trans t2) d os
            have cM := fun d os => Calls.regrown_of (HAT.out (Go.Sort.grow (redrawn wx d) os))
            go_upto_region 15 with fail
            refine wp_region_quiet_below (by kernel_rfl) (by kernel_rfl) ?_
            repeat (go_big_quiet_step (with_reducible exact cM _ _))
            refine wpQuiet_nil ?_
            rintro wz ⟨⟨dd, os⟩, rfl⟩
            have hz := below_regrown wx dd os
            clear cM kb0 kb1 kb2 kb3 kb4 kb5 kt0 kt1 kt2
            generalize Go.Sort.grow (redrawn wx dd) os = wz at hz ⊢
            go_wp2
            go_roundw
            case rel => exact ⟨t + 1, by omega, by omega, by go_num, HXX.trans (hz.mono (by omega))⟩
            case measure => simp [intOf]; omega
          · go_wp2
            go_meet
            exact HXX
      case rest =>
      have HX6 := hcut
      rename World => w6
      replace t0 := (HX6.cell (p := ⟨w4.heap.size, 0, none⟩) y5).trans t0
      replace t1 := (HX6.cell (p := ⟨w4.heap.size, 1, none⟩) y5).trans t1
      replace t2 := (HX6.cell (p := ⟨w4.heap.size, 2, none⟩) y5).trans t2
      have HX7 : Below wb.heap.size wb w6 := HX5.trans (HX6.mono z5)
      replace s0 := (HX7.cell (p := ⟨bx, 2, none⟩) ybx).trans s0
      replace s1 := (HX7.cell (p := ⟨bx, 3, none⟩) ybx).trans s1
      have z6 := HX7.size
      have y6 : w4.heap.size < w6.heap.size := by have := HX6.size; omega
      have y7 : bx < w6.heap.size := by omega
      clear HX6 hcut
      rcases h11.out with ⟨rfl, rfl⟩ | ⟨rfl, rfl⟩ | ⟨rfl, rfl⟩
      all_goals
        go_upto_block 4 with fail
        go_wp2
        refine wp_loop_rounds 4 ?_
        rw [rounds_succ]
        go_wp2
        rw [rounds_succ]
        go_wp2
        rw [rounds_succ]
        go_wp2
        rw [rounds_succ]
        go_wp2
        go_roundw
        case rel => exact ⟨2, by omega, by go_num, by exact HX7⟩
        case measure => simp [intOf]
    · have HW : Below w.heap.size w wr := HB.trans (HX.mono (by omega))
      replace hneh := hneh.out
      go_wp2
      go_ret
      exact ⟨by simp, by exact (by repeat (first | with_reducible exact HW | with_reducible refine Below.drew ?_))⟩
theorem shuntCounts_walk (p : Pt) (per st : Int) (w : World) :
    Calls Try.prog 14 #[.agg #[.int .i64 p.l0.a, .int .i64 p.l0.b, .int .i64 p.l1.a, .int .i64 p.l1.b, .int .i64 p.l2.a, .int .i64 p.l2.b], .int .i64 per, .int .i64 st] w fun e w' => e = .returned (.bool true) ∧ Below w.heap.size w w' := by
  rcases plan_kinds p per st with ⟨c, hP⟩ | ⟨hper, hin, R, x, y, hS, hx, hy, hh, hP⟩
  · exact shuntCounts_err p per st c hP w
  · by_cases hst : 0 ≤ st
    · obtain ⟨c1, c2, c3, c4, c5⟩ := hit_iff.1 hh
      obtain ⟨⟨xa, xb, xc⟩, xon⟩ := segs_mem hS x hx
      obtain ⟨⟨ya, yb, yc⟩, yon⟩ := segs_mem hS y hy
      exact shuntCounts_core p per st (x.b - 1) (y.b - 1) (oddOf x.n) (oddOf y.n) x.n y.n hper hst ⟨by omega, by omega⟩ ⟨by omega, by omega⟩ (one1_of c1) (one2_of c2) c5
        (fun t h1 h2 => xon t (by omega) (by omega)) (fun t h1 h2 => yon t (by omega) (by omega)) hP w
    · exact shuntCounts_err p per st 3 (fun W => plan_st p per st hper hin (fun h => hst h.1) W) w

set_option maxRecDepth 100000 in
theorem shuntCounts_lifted (os : Os) (started : os.Started) (H : Type) (enc : TypeId × Value → H) :
    ReturnsInHanded {} Try.checked os 14 .any (Rows.shuntCountsSpec.pre6 enc Try.prog Try.f14 Rows.shuntCountsRow.domain false) (Rows.shuntCountsSpec.post enc Try.prog Try.f14 false true false false) := by
  refine lift (C := Try.checked) (s := Rows.shuntCountsSpec) 4 Try.own started (by kernel_rfl) Try.func14 Try.laidOut rfl rfl Try.underlying4 (by kernel_rfl)
    (fun ds hds => by
      have hl : ds.length = 3 := hds
      match ds, hl with
      | [_, _, _], _ => rfl)
    (ChangeSpec.witness6 (enc := enc) (C := Try.checked) false ⟨#[], #[.agg #[.int .i64 0, .int .i64 0, .int .i64 0, .int .i64 0, .int .i64 0, .int .i64 0], .int .i64 0, .int .i64 0], []⟩ 8 (by kernel_rfl) (by kernel_rfl) (by kernel_rfl) (by kernel_rfl)) ?_
  intro W base args ds p hval0 hA0
  have hval : ∀ (j : Nat) t v, Try.f14.params[j]? = some t → args[j]? = some v → Value.okWide Try.prog W .any base t v := hval0
  have hA : DataW.TrodAll enc Try.prog W 0 (fun _ => true) true Try.f14.params.toList args.toList ds p := hA0
  clear hval0 hA0
  rw [Try.params14] at hA hval
  obtain ⟨v0, vs0, d0, ds0, p0, q0, hargs, rfl, rfl, h0, r0⟩ := trodAll_cons hA
  obtain ⟨v1, vs1, d1, ds1, p1, q1, rfl, rfl, rfl, h1, r1⟩ := trodAll_cons r0
  obtain ⟨v2, vs2, d2, ds2, p2, q2, rfl, rfl, rfl, h2, r2⟩ := trodAll_cons r1
  obtain ⟨rfl, rfl, rfl⟩ := trodAll_nil r2
  obtain rfl : args = #[v0, v1, v2] := by cases args; simp_all
  obtain ⟨l0, rfl, g0⟩ := arg_array 4 Try.underlying39 (ks := [some .i64, some .i64, some .i64, some .i64, some .i64, some .i64]) (by kernel_rfl) (hval 0 39 v0 rfl rfl) h0
  obtain ⟨_, _, rfl, ⟨a0, rfl, wa0⟩, g0x0⟩ := g0
  obtain ⟨_, _, rfl, ⟨a1, rfl, wa1⟩, g0x1⟩ := g0x0
  obtain ⟨_, _, rfl, ⟨a2, rfl, wa2⟩, g0x2⟩ := g0x1
  obtain ⟨_, _, rfl, ⟨a3, rfl, wa3⟩, g0x3⟩ := g0x2
  obtain ⟨_, _, rfl, ⟨a4, rfl, wa4⟩, g0x4⟩ := g0x3
  obtain ⟨_, _, rfl, ⟨a5, rfl, wa5⟩, g0x5⟩ := g0x4
  simp only [Fits] at g0x5
  subst g0x5
  obtain ⟨x, rfl, wx⟩ := arg_int Try.underlying3 (hval 1 3 v1 rfl rfl) h1
  obtain ⟨y, rfl, wy⟩ := arg_int Try.underlying3 (hval 2 3 v2 rfl rfl) h2
  exact shuntCounts_walk ⟨⟨a0, a1⟩, ⟨a2, a3⟩, ⟨a4, a5⟩⟩ x y W

theorem j_lifts' (x : Bool) (h : x = Rows.patternMakesRow.lifted) : (x == Try.prog.liftsFinal) = true := by rw [h]; exact j_lifts
theorem j_make' (x) (h : x = Rows.patternMakesRow.make) : (Try.prog.make == some x) = true := by rw [h]; exact j_make
set_option maxHeartbeats 4000000 in
set_option maxRecDepth 100000 in
theorem shuntCounts_joined : joinedFacts Try.prog 14 Try.f14 Rows.shuntCountsSpec Rows.shuntCountsRow = true := by
  unfold joinedFacts
  repeat' (with_reducible refine and_split ?_ ?_)
  all_goals first | (with_reducible exact j_may) | (with_reducible refine j_lifts' _ ?_; rfl) | (with_reducible refine j_make' _ ?_; rfl) | (as_aux_lemma => kernel_rfl)

theorem shuntCounts_over : Rows.shuntCountsRow.holds Try.pinned (OpenSpec.ofChange Rows.shuntCountsSpec) :=
  OpenClaim.holds_of_wide 14 Try.f14 rfl rfl rfl rfl rfl rfl rfl ⟨rfl, rfl, rfl, rfl, rfl⟩ rfl rfl rfl rfl rfl (by kernel_rfl) Try.func14 shuntCounts_joined
    (of_decide_eq_true (by kernel_rfl)) (by unfold Func.isWrapper; first | (rw [if_pos (by decide +kernel)]; kernel_rfl) | (rw [if_neg (by decide +kernel)]; exact ⟨rfl, rfl⟩))
    (fun os started H enc _ => shuntCounts_lifted os started H enc)

theorem shuntCounts_holds : Rows.ShuntCountsSaid := shuntCounts_over
#print axioms shuntCounts_holds
end Go.Proofs.Ytjeomdfcfbfebaa
