/- Walks of the reference's gate stage, and of Step and Stage where the configuration is refused. -/
import Derived.Test.YtgbbhkefkpndeaaOffF
import Derived.Test.YtgbbhkefkpndeaaOffE
namespace Go.Proofs.Ytgbbhkefkpndeaa
open Go.RowKit OM

set_option maxHeartbeats 2000000 in
set_option maxRecDepth 100000 in
theorem step_err (c : Cf) (h : ¬ c.Rng) (s0 s1 s2 s3 : Int) (s4 s5 s6 r0 r1 k0 k1 : Bool) (w : World) : Calls Try.prog 17 #[.agg #[.int .i64 c.every, .int .i64 c.length, .int .i64 c.apart], .agg #[.int .i64 s0, .int .i64 s1, .int .i64 s2, .int .i64 s3, .bool s4, .bool s5, .bool s6], .agg #[.bool r0, .bool r1, .bool k0, .bool k1]] w fun e w' => e = .returned (.tuple #[.agg #[.int .i64 0, .int .i64 0, .int .i64 0, .int .i64 0, .bool false, .bool false, .bool false], .iface 62 (.int .i64 3)]) ∧ Below w.heap.size w w' := by
  have HC := hide (check_err c h)
  clear h
  go_enter Try.func17, Try.ntmps17
  go_wp2_with (first
    | (go_at_call 15; refine (HC.out _).mono ?_; rintro e w1 ⟨rfl, hb1⟩; have z1 := hb1.size; (try simp at z1); have c1x0 := bstep (b := w.heap.size) hb1 (by first | omega | (simp <;> omega)); have y1x0 : w.heap.size < w1.heap.size := (by omega); have c1x1 := bstep (b := w.heap.size + 1) hb1 (by first | omega | (simp <;> omega)); have y1x1 : w.heap.size + 1 < w1.heap.size := (by omega); have c1x2 := bstep (b := w.heap.size + 1 + 1) hb1 (by first | omega | (simp <;> omega)); have y1x2 : w.heap.size + 1 + 1 < w1.heap.size := (by omega); have c1x3 := bstep (b := w.heap.size + 1 + 1 + 1) hb1 (by first | omega | (simp <;> omega)); have y1x3 : w.heap.size + 1 + 1 + 1 < w1.heap.size := (by omega); have f1x0 := bfro (b := w.heap.size) hb1 (by first | omega | (simp <;> omega)); have f1x1 := bfro (b := w.heap.size + 1) hb1 (by first | omega | (simp <;> omega)); have f1x2 := bfro (b := w.heap.size + 1 + 1) hb1 (by first | omega | (simp <;> omega)); have f1x3 := bfro (b := w.heap.size + 1 + 1 + 1) hb1 (by first | omega | (simp <;> omega))))
  refine bodyPost_ret (v := .tuple #[.agg #[.int .i64 0, .int .i64 0, .int .i64 0, .int .i64 0, .bool false, .bool false, .bool false], .iface 62 (.int .i64 3)]) (by simp only [results, Try.results17]; go_simp) rfl ⟨rfl, ?_⟩
  have H1 : Below w.heap.size w w1 := (below4 w _ _ _ _).trans (hb1.mono (by simp <;> omega))
  repeat (first | with_reducible refine Below.drew ?_ | with_reducible refine Below.setCell ?_ (by simp <;> omega) _)
  exact H1

set_option maxHeartbeats 2000000 in
set_option maxRecDepth 100000 in
theorem stage_err (c : Cf) (h : ¬ c.Rng) (f0 f1 : Int) (off k0 k1 : Bool) (w : World) : Calls Try.prog 21 #[.agg #[.int .i64 c.every, .int .i64 c.length, .int .i64 c.apart], .agg #[.int .i64 f0, .int .i64 f1, .bool off], .agg #[.bool k0, .bool k1]] w fun e w' => e = .returned (.tuple #[.agg #[.int .i64 0, .int .i64 0, .bool false], .iface 62 (.int .i64 3)]) ∧ Below w.heap.size w w' := by
  have HC := hide (check_err c h)
  clear h
  go_enter Try.func21, Try.ntmps21
  go_wp2_with (first
    | (go_at_call 15; refine (HC.out _).mono ?_; rintro e w1 ⟨rfl, hb1⟩; have z1 := hb1.size; (try simp at z1); have c1x0 := bstep (b := w.heap.size) hb1 (by first | omega | (simp <;> omega)); have y1x0 : w.heap.size < w1.heap.size := (by omega); have c1x1 := bstep (b := w.heap.size + 1) hb1 (by first | omega | (simp <;> omega)); have y1x1 : w.heap.size + 1 < w1.heap.size := (by omega); have c1x2 := bstep (b := w.heap.size + 1 + 1) hb1 (by first | omega | (simp <;> omega)); have y1x2 : w.heap.size + 1 + 1 < w1.heap.size := (by omega); have c1x3 := bstep (b := w.heap.size + 1 + 1 + 1) hb1 (by first | omega | (simp <;> omega)); have y1x3 : w.heap.size + 1 + 1 + 1 < w1.heap.size := (by omega); have f1x0 := bfro (b := w.heap.size) hb1 (by first | omega | (simp <;> omega)); have f1x1 := bfro (b := w.heap.size + 1) hb1 (by first | omega | (simp <;> omega)); have f1x2 := bfro (b := w.heap.size + 1 + 1) hb1 (by first | omega | (simp <;> omega)); have f1x3 := bfro (b := w.heap.size + 1 + 1 + 1) hb1 (by first | omega | (simp <;> omega))))
  refine bodyPost_ret (v := .tuple #[.agg #[.int .i64 0, .int .i64 0, .bool false], .iface 62 (.int .i64 3)]) (by simp only [results, Try.results21]; go_simp) rfl ⟨rfl, ?_⟩
  have H1 : Below w.heap.size w w1 := (below4 w _ _ _ _).trans (hb1.mono (by simp <;> omega))
  repeat (first | with_reducible refine Below.drew ?_ | with_reducible refine Below.setCell ?_ (by simp <;> omega) _)
  exact H1

set_option maxRecDepth 100000 in
set_option maxHeartbeats 8000000 in
theorem rstage_core (c : Cf) (h : c.Rng) (f0 f1 n0 n1 F0 F1 : Int) (off k0 k1 O0 O1 : Bool) (w : World)
    (HN0 : Hid (n0 = clipI f0 0 (c.length + 1))) (HN1 : Hid (n1 = clipI f1 0 (c.length + 1))) (HF0 : Hid (F0 = if k0 then 0 else min (n0 + 1) (c.length + 1))) (HF1 : Hid (F1 = if k1 then 0 else min (n1 + 1) (c.length + 1)))
    (HO0 : Hid (O0 = decide (F0 = c.length + 1))) (HO1 : Hid (O1 = decide (F1 = c.length + 1))) :
    Calls Try.prog 22 #[.agg #[.int .i64 c.every, .int .i64 c.length, .int .i64 c.apart], .agg #[.int .i64 f0, .int .i64 f1, .bool off], .agg #[.bool k0, .bool k1]] w
      fun e w' => e = .returned (.agg #[.int .i64 F0, .int .i64 F1, .bool (O0 || O1)]) ∧ Below w.heap.size w w' := by
  have HC0 : Hid (∀ W, Calls Try.prog 32 #[.int .i64 f0, .int .i64 0, .int .i64 (c.length + 1)] W fun e w' => e = .returned (.int .i64 n0) ∧ w' = W) := fun W => by rw [HN0.out]; exact clip_still _ _ _ _
  have HC1 : Hid (∀ W, Calls Try.prog 32 #[.int .i64 f1, .int .i64 0, .int .i64 (c.length + 1)] W fun e w' => e = .returned (.int .i64 n1) ∧ w' = W) := fun W => by rw [HN1.out]; exact clip_still _ _ _ _
  obtain ⟨⟨h1, h2⟩, ⟨h3, h4⟩, _⟩ := h
  have j0 : 0 ≤ n0 ∧ n0 ≤ c.length + 1 := by rw [HN0.out]; unfold clipI; omega
  have j1 : 0 ≤ n1 ∧ n1 ≤ c.length + 1 := by rw [HN1.out]; unfold clipI; omega
  obtain ⟨j0a, j0b⟩ := j0
  obtain ⟨j1a, j1b⟩ := j1
  clear HN0 HN1
  go_enter Try.func22, Try.ntmps22
  go_wp2
  refine wp_loop_rounds 3 ?_
  rw [rounds_succ]
  go_upto_block 1 with fail
  go_cut [7] (fun s7 wx => s7 = .int .i64 0 ∧ wx = ((((w.alloc (.cells #[.int .i64 c.every, .int .i64 c.length, .int .i64 c.apart] 23)).alloc (.cells #[.int .i64 F0, .int .i64 f1, .bool O0] 45)).alloc (.cells #[.bool k0, .bool k1] 27)).alloc (.cells #[.int .i64 0, .int .i64 0, .bool false] 45)).drew)
  case first =>
    cases k0
    · rcases (show n0 = c.length + 1 ∨ n0 = c.length ∨ n0 < c.length by omega) with hna | hna | hna
      · subst hna; have e : F0 = c.length + 1 := by (rw [HF0.out]; simp; try omega)
        have eo : O0 = true := by (rw [HO0.out, e]; simp; try omega)
        subst e eo
        go_wp2
        refine region_quiet_tail 8 (by kernel_rfl) (by kernel_rfl) ?_
        simp only [List.take_succ_cons, List.take_zero, List.drop_succ_cons, List.drop_zero]
        repeat (first | go_big_quiet_skip | (go_big_quiet_want; go_big_quiet_op; go_big_quiet_on))
        go_big_quiet_want
        go_big_quiet_op
        apply Exists.intro
        refine ⟨(HC0.out _), ?_⟩
        go_big_quiet_on
        repeat (first | go_big_quiet_skip | (go_big_quiet_want; go_big_quiet_op; go_big_quiet_on))
        refine wpQuiet_nil ?_
        go_wp2
        go_meet
        exact ⟨rfl, rfl⟩
      · subst hna; have e : F0 = c.length + 1 := by (rw [HF0.out]; simp; try omega)
        have eo : O0 = true := by (rw [HO0.out, e]; simp; try omega)
        subst e eo
        go_wp2
        refine region_quiet_tail 8 (by kernel_rfl) (by kernel_rfl) ?_
        simp only [List.take_succ_cons, List.take_zero, List.drop_succ_cons, List.drop_zero]
        repeat (first | go_big_quiet_skip | (go_big_quiet_want; go_big_quiet_op; go_big_quiet_on))
        go_big_quiet_want
        go_big_quiet_op
        apply Exists.intro
        refine ⟨(HC0.out _), ?_⟩
        go_big_quiet_on
        repeat (first | go_big_quiet_skip | (go_big_quiet_want; go_big_quiet_op; go_big_quiet_on))
        refine wpQuiet_nil ?_
        go_wp2
        go_meet
        exact ⟨rfl, rfl⟩
      · have e : F0 = n0 + 1 := by (rw [HF0.out]; simp; try omega)
        have eo : O0 = false := by (rw [HO0.out, e]; simp; try omega)
        subst e eo
        have hbb : (n0 + 1 == c.length + 1) = false := by simp; omega
        go_wp2
        refine region_quiet_tail 8 (by kernel_rfl) (by kernel_rfl) ?_
        simp only [List.take_succ_cons, List.take_zero, List.drop_succ_cons, List.drop_zero]
        repeat (first | go_big_quiet_skip | (go_big_quiet_want; go_big_quiet_op; go_big_quiet_on))
        go_big_quiet_want
        go_big_quiet_op
        apply Exists.intro
        refine ⟨(HC0.out _), ?_⟩
        go_big_quiet_on
        repeat (first | go_big_quiet_skip | (go_big_quiet_want; go_big_quiet_op; go_big_quiet_on))
        refine wpQuiet_nil ?_
        go_wp2
        go_meet
        exact ⟨rfl, rfl⟩
    · have e : F0 = 0 := by (rw [HF0.out]; simp)
      have eo : O0 = false := by (rw [HO0.out, e]; simp; omega)
      subst e eo
      have hbb : ((0 : Int) == c.length + 1) = false := by simp; omega
      go_wp2
      refine region_quiet_tail 8 (by kernel_rfl) (by kernel_rfl) ?_
      simp only [List.take_succ_cons, List.take_zero, List.drop_succ_cons, List.drop_zero]
      repeat (first | go_big_quiet_skip | (go_big_quiet_want; go_big_quiet_op; go_big_quiet_on))
      go_big_quiet_want
      go_big_quiet_op
      apply Exists.intro
      refine ⟨(HC0.out _), ?_⟩
      go_big_quiet_on
      repeat (first | go_big_quiet_skip | (go_big_quiet_want; go_big_quiet_op; go_big_quiet_on))
      refine wpQuiet_nil ?_
      go_wp2
      go_meet
      exact ⟨rfl, rfl⟩
  case rest =>
  obtain ⟨rfl, rfl⟩ := hcut
  clear HF0 HC0
  go_wp2
  rw [rounds_succ]
  go_upto_block 1 with fail
  go_cut [7] (fun s7 wx => s7 = .int .i64 1 ∧ wx = ((((w.alloc (.cells #[.int .i64 c.every, .int .i64 c.length, .int .i64 c.apart] 23)).alloc (.cells #[.int .i64 F0, .int .i64 F1, .bool (O0 || O1)] 45)).alloc (.cells #[.bool k0, .bool k1] 27)).alloc (.cells #[.int .i64 0, .int .i64 0, .bool false] 45)).drew.drew)
  case first =>
    clear HO0
    cases k1
    · rcases (show n1 = c.length + 1 ∨ n1 = c.length ∨ n1 < c.length by omega) with hna | hna | hna
      · subst hna; have e : F1 = c.length + 1 := by (rw [HF1.out]; simp; try omega)
        have eo : O1 = true := by (rw [HO1.out, e]; simp; try omega)
        subst e eo
        cases O0
        · go_wp2
          refine region_quiet_tail 8 (by kernel_rfl) (by kernel_rfl) ?_
          simp only [List.take_succ_cons, List.take_zero, List.drop_succ_cons, List.drop_zero]
          repeat (first | go_big_quiet_skip | (go_big_quiet_want; go_big_quiet_op; go_big_quiet_on))
          go_big_quiet_want
          go_big_quiet_op
          apply Exists.intro
          refine ⟨(HC1.out _), ?_⟩
          go_big_quiet_on
          repeat (first | go_big_quiet_skip | (go_big_quiet_want; go_big_quiet_op; go_big_quiet_on))
          refine wpQuiet_nil ?_
          go_wp2
          go_meet
          exact ⟨rfl, rfl⟩
        · go_wp2
          refine region_quiet_tail 8 (by kernel_rfl) (by kernel_rfl) ?_
          simp only [List.take_succ_cons, List.take_zero, List.drop_succ_cons, List.drop_zero]
          repeat (first | go_big_quiet_skip | (go_big_quiet_want; go_big_quiet_op; go_big_quiet_on))
          go_big_quiet_want
          go_big_quiet_op
          apply Exists.intro
          refine ⟨(HC1.out _), ?_⟩
          go_big_quiet_on
          repeat (first | go_big_quiet_skip | (go_big_quiet_want; go_big_quiet_op; go_big_quiet_on))
          refine wpQuiet_nil ?_
          go_wp2
          go_meet
          exact ⟨rfl, rfl⟩
      · subst hna; have e : F1 = c.length + 1 := by (rw [HF1.out]; simp; try omega)
        have eo : O1 = true := by (rw [HO1.out, e]; simp; try omega)
        subst e eo
        cases O0
        · go_wp2
          refine region_quiet_tail 8 (by kernel_rfl) (by kernel_rfl) ?_
          simp only [List.take_succ_cons, List.take_zero, List.drop_succ_cons, List.drop_zero]
          repeat (first | go_big_quiet_skip | (go_big_quiet_want; go_big_quiet_op; go_big_quiet_on))
          go_big_quiet_want
          go_big_quiet_op
          apply Exists.intro
          refine ⟨(HC1.out _), ?_⟩
          go_big_quiet_on
          repeat (first | go_big_quiet_skip | (go_big_quiet_want; go_big_quiet_op; go_big_quiet_on))
          refine wpQuiet_nil ?_
          go_wp2
          go_meet
          exact ⟨rfl, rfl⟩
        · go_wp2
          refine region_quiet_tail 8 (by kernel_rfl) (by kernel_rfl) ?_
          simp only [List.take_succ_cons, List.take_zero, List.drop_succ_cons, List.drop_zero]
          repeat (first | go_big_quiet_skip | (go_big_quiet_want; go_big_quiet_op; go_big_quiet_on))
          go_big_quiet_want
          go_big_quiet_op
          apply Exists.intro
          refine ⟨(HC1.out _), ?_⟩
          go_big_quiet_on
          repeat (first | go_big_quiet_skip | (go_big_quiet_want; go_big_quiet_op; go_big_quiet_on))
          refine wpQuiet_nil ?_
          go_wp2
          go_meet
          exact ⟨rfl, rfl⟩
      · have e : F1 = n1 + 1 := by (rw [HF1.out]; simp; try omega)
        have eo : O1 = false := by (rw [HO1.out, e]; simp; try omega)
        subst e eo
        have hbb : (n1 + 1 == c.length + 1) = false := by simp; omega
        cases O0
        · go_wp2
          refine region_quiet_tail 8 (by kernel_rfl) (by kernel_rfl) ?_
          simp only [List.take_succ_cons, List.take_zero, List.drop_succ_cons, List.drop_zero]
          repeat (first | go_big_quiet_skip | (go_big_quiet_want; go_big_quiet_op; go_big_quiet_on))
          go_big_quiet_want
          go_big_quiet_op
          apply Exists.intro
          refine ⟨(HC1.out _), ?_⟩
          go_big_quiet_on
          repeat (first | go_big_quiet_skip | (go_big_quiet_want; go_big_quiet_op; go_big_quiet_on))
          refine wpQuiet_nil ?_
          go_wp2
          go_meet
          exact ⟨rfl, rfl⟩
        · go_wp2
          refine region_quiet_tail 8 (by kernel_rfl) (by kernel_rfl) ?_
          simp only [List.take_succ_cons, List.take_zero, List.drop_succ_cons, List.drop_zero]
          repeat (first | go_big_quiet_skip | (go_big_quiet_want; go_big_quiet_op; go_big_quiet_on))
          go_big_quiet_want
          go_big_quiet_op
          apply Exists.intro
          refine ⟨(HC1.out _), ?_⟩
          go_big_quiet_on
          repeat (first | go_big_quiet_skip | (go_big_quiet_want; go_big_quiet_op; go_big_quiet_on))
          refine wpQuiet_nil ?_
          go_wp2
          go_meet
          exact ⟨rfl, rfl⟩
    · have e : F1 = 0 := by (rw [HF1.out]; simp)
      have eo : O1 = false := by (rw [HO1.out, e]; simp; omega)
      subst e eo
      have hbb : ((0 : Int) == c.length + 1) = false := by simp; omega
      cases O0
      · go_wp2
        refine region_quiet_tail 8 (by kernel_rfl) (by kernel_rfl) ?_
        simp only [List.take_succ_cons, List.take_zero, List.drop_succ_cons, List.drop_zero]
        repeat (first | go_big_quiet_skip | (go_big_quiet_want; go_big_quiet_op; go_big_quiet_on))
        go_big_quiet_want
        go_big_quiet_op
        apply Exists.intro
        refine ⟨(HC1.out _), ?_⟩
        go_big_quiet_on
        repeat (first | go_big_quiet_skip | (go_big_quiet_want; go_big_quiet_op; go_big_quiet_on))
        refine wpQuiet_nil ?_
        go_wp2
        go_meet
        exact ⟨rfl, rfl⟩
      · go_wp2
        refine region_quiet_tail 8 (by kernel_rfl) (by kernel_rfl) ?_
        simp only [List.take_succ_cons, List.take_zero, List.drop_succ_cons, List.drop_zero]
        repeat (first | go_big_quiet_skip | (go_big_quiet_want; go_big_quiet_op; go_big_quiet_on))
        go_big_quiet_want
        go_big_quiet_op
        apply Exists.intro
        refine ⟨(HC1.out _), ?_⟩
        go_big_quiet_on
        repeat (first | go_big_quiet_skip | (go_big_quiet_want; go_big_quiet_op; go_big_quiet_on))
        refine wpQuiet_nil ?_
        go_wp2
        go_meet
        exact ⟨rfl, rfl⟩
  case rest =>
  obtain ⟨rfl, rfl⟩ := hcut
  go_wp2
  rw [rounds_succ]
  go_wp2
  refine bodyPost_ret (v := .agg #[.int .i64 F0, .int .i64 F1, .bool (O0 || O1)]) (by simp only [results, Try.results22]; go_simp) rfl ⟨rfl, ?_⟩
  exact (by repeat (first | with_reducible assumption | with_reducible refine Below.drew ?_ | with_reducible refine below_drewN ?_ _ | with_reducible refine Below.alloc ?_ (by first | omega | (simp <;> omega)) _ | with_reducible refine Below.setCell ?_ (by first | omega | (simp <;> omega)) _ | with_reducible exact Below.refl _ _))

theorem rstage_ok (c : Cf) (h : c.Rng) (g : Sg) (k0 k1 : Bool) (w : World) :
    Calls Try.prog 22 #[.agg #[.int .i64 c.every, .int .i64 c.length, .int .i64 c.apart], .agg #[.int .i64 g.for0, .int .i64 g.for1, .bool g.off], .agg #[.bool k0, .bool k1]] w
      fun e w' => e = .returned (.agg #[.int .i64 (OM.stage c g k0 k1).for0, .int .i64 (OM.stage c g k0 k1).for1, .bool (OM.stage c g k0 k1).off]) ∧ Below w.heap.size w w' := by
  have e : ∀ (n : Int) (k : Bool), (if k then 0 else min (clipI n 0 (c.length + 1) + 1) (c.length + 1)) = counted n (!k) (c.length + 1) := by
    intro n k
    obtain ⟨⟨h1, h2⟩, _⟩ := h
    unfold counted clipI
    cases k
    · simp only [Bool.not_false, if_true, Bool.false_eq_true, if_false]
      omega
    · rfl
  have f : ∀ (n : Int) (k : Bool), decide (counted n (!k) (c.length + 1) = c.length + 1) = decide (c.length < counted n (!k) (c.length + 1)) := by
    intro n k
    obtain ⟨⟨h1, h2⟩, _⟩ := h
    have b := counted_bd (n := n) (is := !k) (show 0 ≤ c.length + 1 by omega)
    rw [decide_eq_decide]
    omega
  refine (rstage_core c h g.for0 g.for1 _ _ (counted g.for0 (!k0) (c.length + 1)) (counted g.for1 (!k1) (c.length + 1)) g.off k0 k1 _ _ w (hide rfl) (hide rfl) (hide (e _ _).symm) (hide (e _ _).symm) (hide (f _ _).symm) (hide (f _ _).symm)).mono ?_
  rintro e' w' ⟨rfl, hb⟩
  exact ⟨rfl, hb⟩
end Go.Proofs.Ytgbbhkefkpndeaa
