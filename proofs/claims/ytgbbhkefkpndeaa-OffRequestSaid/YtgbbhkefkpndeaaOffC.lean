/- Walks of a tick of the gate stage: the program's. Condition: a checked configuration. -/
import Derived.Test.YtgbbhkefkpndeaaOffB
namespace Go.Proofs.Ytgbbhkefkpndeaa
open Go.RowKit OM

set_option maxRecDepth 100000 in
set_option maxHeartbeats 4000000 in
theorem stage_core (c : Cf) (h : c.Rng) (f0 f1 : Int) (off k0 k1 O1 : Bool) (w : World) (HO : Hid (O1 = decide (c.length < counted f0 (!k0) (c.length + 1)))) :
    Calls Try.prog 21 #[.agg #[.int .i64 c.every, .int .i64 c.length, .int .i64 c.apart], .agg #[.int .i64 f0, .int .i64 f1, .bool off], .agg #[.bool k0, .bool k1]] w
      fun e w' => e = .returned (.tuple #[.agg #[.int .i64 (counted f0 (!k0) (c.length + 1)), .int .i64 (counted f1 (!k1) (c.length + 1)), .bool (O1 || decide (c.length < counted f1 (!k1) (c.length + 1)))], .nilIface]) ∧ Below w.heap.size w w' := by
  have HC := hide (check_ok c h)
  obtain ⟨⟨h1, h2⟩, ⟨h3, h4⟩, _⟩ := h
  have i0 : ∀ w, (Instr.index 27 (.agg #[.bool k0, .bool k1]) (.int .i64 0)).run Try.prog w = .ok (.bool k0) w := fun _ => by kernel_rfl
  have i1 : ∀ w, (Instr.index 27 (.agg #[.bool k0, .bool k1]) (.int .i64 1)).run Try.prog w = .ok (.bool k1) w := fun _ => by kernel_rfl
  go_enter Try.func21, Try.ntmps21
  go_wp2_with (go_at_call 15; refine (HC.out _).mono ?_; rintro e w1 ⟨rfl, hb1⟩; have z1 := hb1.size; (try simp at z1); have c1x0 := bstep (b := w.heap.size) hb1 (by first | omega | (simp <;> omega)); have y1x0 : w.heap.size < w1.heap.size := (by omega); have c1x1 := bstep (b := w.heap.size + 1) hb1 (by first | omega | (simp <;> omega)); have y1x1 : w.heap.size + 1 < w1.heap.size := (by omega); have c1x2 := bstep (b := w.heap.size + 1 + 1) hb1 (by first | omega | (simp <;> omega)); have y1x2 : w.heap.size + 1 + 1 < w1.heap.size := (by omega); have c1x3 := bstep (b := w.heap.size + 1 + 1 + 1) hb1 (by first | omega | (simp <;> omega)); have y1x3 : w.heap.size + 1 + 1 + 1 < w1.heap.size := (by omega); have f1x0 := bfro (b := w.heap.size) hb1 (by first | omega | (simp <;> omega)); have f1x1 := bfro (b := w.heap.size + 1) hb1 (by first | omega | (simp <;> omega)); have f1x2 := bfro (b := w.heap.size + 1 + 1) hb1 (by first | omega | (simp <;> omega)); have f1x3 := bfro (b := w.heap.size + 1 + 1 + 1) hb1 (by first | omega | (simp <;> omega)))
  refine wp_loop_rounds 3 ?_
  rw [rounds_succ]
  go_upto_block 1 with fail
  go_cut [9, 10] (fun s9 s10 wx => s9 = .int .i64 0 ∧ s10 = .bool k0 ∧ wx = (((w1.setCell ⟨w.heap.size + 1, 2, none⟩ (.bool false)).setCell ⟨w.heap.size + 1, 0, none⟩ (.int .i64 (counted f0 (!k0) (c.length + 1)))).setCell ⟨w.heap.size + 1, 2, none⟩ (.bool O1)).drew.drew)
  case first =>
    go_wp2
    refine region_quiet_tail 13 (by kernel_rfl) (by kernel_rfl) ?_
    simp only [List.take_succ_cons, List.take_zero, List.drop_succ_cons, List.drop_zero]
    repeat (first | go_big_quiet_skip | (go_big_quiet_want; go_big_quiet_op; go_big_quiet_on))
    go_big_quiet_want
    go_big_quiet_op
    apply Exists.intro
    refine ⟨(counted_still _ _ _ _ (by omega) (by omega)), ?_⟩
    go_big_quiet_on
    repeat (first | go_big_quiet_skip | (go_big_quiet_want; go_big_quiet_op; go_big_quiet_on))
    refine wpQuiet_nil ?_
    go_wp2
    refine region_quiet_tail 12 (by kernel_rfl) (by kernel_rfl) ?_
    simp only [List.take_succ_cons, List.take_zero, List.drop_succ_cons, List.drop_zero]
    repeat (first | go_big_quiet_skip | (go_big_quiet_want; go_big_quiet_op; go_big_quiet_on))
    refine wpQuiet_nil ?_
    go_wp2
    go_meet
    exact ⟨rfl, rfl, by rw [HO.out]⟩
  case rest =>
  obtain ⟨rfl, rfl, rfl⟩ := hcut
  go_wp2
  rw [rounds_succ]
  go_wp2
  refine region_quiet_tail 13 (by kernel_rfl) (by kernel_rfl) ?_
  simp only [List.take_succ_cons, List.take_zero, List.drop_succ_cons, List.drop_zero]
  repeat (first | go_big_quiet_skip | (go_big_quiet_want; go_big_quiet_op; go_big_quiet_on))
  go_big_quiet_want
  go_big_quiet_op
  apply Exists.intro
  refine ⟨(counted_still _ _ _ _ (by omega) (by omega)), ?_⟩
  go_big_quiet_on
  repeat (first | go_big_quiet_skip | (go_big_quiet_want; go_big_quiet_op; go_big_quiet_on))
  refine wpQuiet_nil ?_
  go_wp2
  cases O1
  · refine region_quiet_tail 12 (by kernel_rfl) (by kernel_rfl) ?_
    simp only [List.take_succ_cons, List.take_zero, List.drop_succ_cons, List.drop_zero]
    repeat (first | go_big_quiet_skip | (go_big_quiet_want; go_big_quiet_op; go_big_quiet_on))
    refine wpQuiet_nil ?_
    go_wp2
    rw [rounds_succ]
    go_wp2
    refine bodyPost_ret (v := .tuple #[.agg #[.int .i64 (counted f0 (!k0) (c.length + 1)), .int .i64 (counted f1 (!k1) (c.length + 1)), .bool (decide (c.length < counted f1 (!k1) (c.length + 1)))], .nilIface]) (by simp only [results, Try.results21]; go_simp) rfl ⟨by simp, ?_⟩
    have H1 : Below w.heap.size w w1 := (below4 w _ _ _ _).trans (hb1.mono (by simp <;> omega))
    repeat (first | with_reducible refine Below.drew ?_ | with_reducible refine Below.alloc ?_ (by simp <;> omega) _ | with_reducible refine Below.setCell ?_ (by simp <;> omega) _)
    exact H1
  · refine region_quiet_tail 12 (by kernel_rfl) (by kernel_rfl) ?_
    simp only [List.take_succ_cons, List.take_zero, List.drop_succ_cons, List.drop_zero]
    repeat (first | go_big_quiet_skip | (go_big_quiet_want; go_big_quiet_op; go_big_quiet_on))
    refine wpQuiet_nil ?_
    go_wp2
    rw [rounds_succ]
    go_wp2
    refine bodyPost_ret (v := .tuple #[.agg #[.int .i64 (counted f0 (!k0) (c.length + 1)), .int .i64 (counted f1 (!k1) (c.length + 1)), .bool (true)], .nilIface]) (by simp only [results, Try.results21]; go_simp) rfl ⟨by simp, ?_⟩
    have H1 : Below w.heap.size w w1 := (below4 w _ _ _ _).trans (hb1.mono (by simp <;> omega))
    repeat (first | with_reducible refine Below.drew ?_ | with_reducible refine Below.alloc ?_ (by simp <;> omega) _ | with_reducible refine Below.setCell ?_ (by simp <;> omega) _)
    exact H1

theorem stage_ok (c : Cf) (h : c.Rng) (g : Sg) (k0 k1 : Bool) (w : World) :
    Calls Try.prog 21 #[.agg #[.int .i64 c.every, .int .i64 c.length, .int .i64 c.apart], .agg #[.int .i64 g.for0, .int .i64 g.for1, .bool g.off], .agg #[.bool k0, .bool k1]] w
      fun e w' => e = .returned (.tuple #[.agg #[.int .i64 (OM.stage c g k0 k1).for0, .int .i64 (OM.stage c g k0 k1).for1, .bool (OM.stage c g k0 k1).off], .nilIface]) ∧ Below w.heap.size w w' :=
  stage_core c h g.for0 g.for1 g.off k0 k1 _ w (hide rfl)
end Go.Proofs.Ytgbbhkefkpndeaa
