/- Walks of Make, of the program and of the reference: the pulses of three counts, or the number of the error. -/
import Derived.Test.YtjeomdfcfbfebaaPatB
namespace Go.Proofs.Ytjeomdfcfbfebaa
open Go.RowKit PM

def okCnt (d0 d1 d2 per : Int) : Prop := (0 ≤ d0 ∧ d0 ≤ per) ∧ (0 ≤ d1 ∧ d1 ≤ per) ∧ (0 ≤ d2 ∧ d2 ≤ per)
instance (d0 d1 d2 per : Int) : Decidable (okCnt d0 d1 d2 per) := by unfold okCnt; infer_instance
theorem cnt_cases {d0 d1 d2 per : Int} (h : ¬ okCnt d0 d1 d2 per) : ¬ (0 ≤ d0 ∧ d0 ≤ per) ∨ ((0 ≤ d0 ∧ d0 ≤ per) ∧ ¬ (0 ≤ d1 ∧ d1 ≤ per)) ∨ ((0 ≤ d0 ∧ d0 ≤ per) ∧ (0 ≤ d1 ∧ d1 ≤ per) ∧ ¬ (0 ≤ d2 ∧ d2 ≤ per)) := by
  unfold okCnt at h
  omega
set_option maxHeartbeats 4000000 in
set_option maxRecDepth 100000 in
theorem make_ok (d0 d1 d2 per least : Int) (hr : okRng per least) (hd : okCnt d0 d1 d2 per) (w : World) :
    Calls Try.prog 25 #[.agg #[.int .i64 d0, .int .i64 d1, .int .i64 d2], .int .i64 per, .int .i64 least] w fun e w' => e = .returned (.tuple #[.agg #[.int .i64 (pulse d0 per least).a, .int .i64 (pulse d0 per least).b, .int .i64 (pulse d1 per least).a, .int .i64 (pulse d1 per least).b, .int .i64 (pulse d2 per least).a, .int .i64 (pulse d2 per least).b], .nilIface]) ∧ Below w.heap.size w w' := by
  have HR := hide (ranges_ok per least hr)
  have HU0 := hide (pulse_any d0 per least hr hd.1.1 hd.1.2)
  have HU1 := hide (pulse_any d1 per least hr hd.2.1.1 hd.2.1.2)
  have HU2 := hide (pulse_any d2 per least hr hd.2.2.1 hd.2.2.2)
  obtain ⟨⟨a1, a2⟩, ⟨a3, a4⟩, ⟨a5, a6⟩⟩ := hd
  generalize pulse d0 per least = q0 at HU0 ⊢
  generalize pulse d1 per least = q1 at HU1 ⊢
  generalize pulse d2 per least = q2 at HU2 ⊢
  clear hr
  go_enter Try.func25, Try.ntmps25
  go_wp2_with (first | (go_at_call 58; refine (HR.out _).mono ?_; rintro e w8 ⟨rfl, rfl⟩) | (go_at_call 59; first | (refine (pwithin_yes _ _ _ _ (by omega) (by omega)).mono ?_; rintro e w8 ⟨rfl, rfl⟩) | (refine (pwithin_no _ _ _ _ (by omega)).mono ?_; rintro e w8 ⟨rfl, rfl⟩)))
  refine wp_loop_rounds 4 ?_
  rw [rounds_succ]
  go_wp2_with (go_at_call 59; first | (refine (pwithin_yes _ _ _ _ (by omega) (by omega)).mono ?_; rintro e w8 ⟨rfl, rfl⟩) | (refine (pwithin_no _ _ _ _ (by omega)).mono ?_; rintro e w8 ⟨rfl, rfl⟩))
  rw [rounds_succ]
  go_wp2_with (go_at_call 59; first | (refine (pwithin_yes _ _ _ _ (by omega) (by omega)).mono ?_; rintro e w8 ⟨rfl, rfl⟩) | (refine (pwithin_no _ _ _ _ (by omega)).mono ?_; rintro e w8 ⟨rfl, rfl⟩))
  rw [rounds_succ]
  go_wp2_with (go_at_call 59; first | (refine (pwithin_yes _ _ _ _ (by omega) (by omega)).mono ?_; rintro e w8 ⟨rfl, rfl⟩) | (refine (pwithin_no _ _ _ _ (by omega)).mono ?_; rintro e w8 ⟨rfl, rfl⟩))
  rw [rounds_succ]
  go_wp2
  refine wp_loop_rounds 4 ?_
  rw [rounds_succ]
  go_wp2_with (go_at_call 60; refine (HU0.out _).mono ?_; rintro e w1 ⟨rfl, hb1⟩; have z1 := hb1.size; (try simp at z1); have c1x0 := bstep (b := w.heap.size) hb1 (by first | omega | (simp <;> omega)); have y1x0 : w.heap.size < w1.heap.size := (by omega); have c1x1 := bstep (b := w.heap.size + 1) hb1 (by first | omega | (simp <;> omega)); have y1x1 : w.heap.size + 1 < w1.heap.size := (by omega); have c1x2 := bstep (b := w.heap.size + 1 + 1) hb1 (by first | omega | (simp <;> omega)); have y1x2 : w.heap.size + 1 + 1 < w1.heap.size := (by omega); have f1x0 := bfro (b := w.heap.size) hb1 (by first | omega | (simp <;> omega)); have f1x1 := bfro (b := w.heap.size + 1) hb1 (by first | omega | (simp <;> omega)); have f1x2 := bfro (b := w.heap.size + 1 + 1) hb1 (by first | omega | (simp <;> omega)))
  rw [rounds_succ]
  go_wp2_with (go_at_call 60; refine (HU1.out _).mono ?_; rintro e w2 ⟨rfl, hb2⟩; have z2 := hb2.size; (try simp at z2); have c2x0 := bstep (b := w.heap.size) hb2 (by first | omega | (simp <;> omega)); have y2x0 : w.heap.size < w2.heap.size := (by omega); have c2x1 := bstep (b := w.heap.size + 1) hb2 (by first | omega | (simp <;> omega)); have y2x1 : w.heap.size + 1 < w2.heap.size := (by omega); have c2x2 := bstep (b := w.heap.size + 1 + 1) hb2 (by first | omega | (simp <;> omega)); have y2x2 : w.heap.size + 1 + 1 < w2.heap.size := (by omega); have f2x0 := bfro (b := w.heap.size) hb2 (by first | omega | (simp <;> omega)); have f2x1 := bfro (b := w.heap.size + 1) hb2 (by first | omega | (simp <;> omega)); have f2x2 := bfro (b := w.heap.size + 1 + 1) hb2 (by first | omega | (simp <;> omega)))
  rw [rounds_succ]
  go_wp2_with (go_at_call 60; refine (HU2.out _).mono ?_; rintro e w3 ⟨rfl, hb3⟩; have z3 := hb3.size; (try simp at z3); have c3x0 := bstep (b := w.heap.size) hb3 (by first | omega | (simp <;> omega)); have y3x0 : w.heap.size < w3.heap.size := (by omega); have c3x1 := bstep (b := w.heap.size + 1) hb3 (by first | omega | (simp <;> omega)); have y3x1 : w.heap.size + 1 < w3.heap.size := (by omega); have c3x2 := bstep (b := w.heap.size + 1 + 1) hb3 (by first | omega | (simp <;> omega)); have y3x2 : w.heap.size + 1 + 1 < w3.heap.size := (by omega); have f3x0 := bfro (b := w.heap.size) hb3 (by first | omega | (simp <;> omega)); have f3x1 := bfro (b := w.heap.size + 1) hb3 (by first | omega | (simp <;> omega)); have f3x2 := bfro (b := w.heap.size + 1 + 1) hb3 (by first | omega | (simp <;> omega)))
  rw [rounds_succ]
  go_wp2
  have H1 : Below w.heap.size w w1 := ((((Below.refl _ _).alloc (Nat.le_refl _) _).alloc (by first | omega | (simp <;> omega)) _).alloc (by first | omega | (simp <;> omega)) _).trans (hb1.mono (by first | omega | (simp <;> omega)))
  have H2 : Below w.heap.size w w2 := Below.trans (by repeat (first | with_reducible assumption | with_reducible refine Below.drew ?_ | with_reducible refine below_drewN ?_ _ | with_reducible refine Below.alloc ?_ (by first | omega | (simp <;> omega)) _ | with_reducible refine Below.setCell ?_ (by first | omega | (simp <;> omega)) _ | with_reducible exact Below.refl _ _)) (hb2.mono (by simp <;> omega))
  have H3 : Below w.heap.size w w3 := Below.trans (by repeat (first | with_reducible assumption | with_reducible refine Below.drew ?_ | with_reducible refine below_drewN ?_ _ | with_reducible refine Below.alloc ?_ (by first | omega | (simp <;> omega)) _ | with_reducible refine Below.setCell ?_ (by first | omega | (simp <;> omega)) _ | with_reducible exact Below.refl _ _)) (hb3.mono (by simp <;> omega))
  refine bodyPost_ret (v := .tuple #[.agg #[.int .i64 q0.a, .int .i64 q0.b, .int .i64 q1.a, .int .i64 q1.b, .int .i64 q2.a, .int .i64 q2.b], .nilIface]) (by simp only [results, Try.results25]; go_simp) rfl ⟨rfl, by exact (by repeat (first | with_reducible assumption | with_reducible refine Below.drew ?_ | with_reducible refine below_drewN ?_ _ | with_reducible refine Below.alloc ?_ (by first | omega | (simp <;> omega)) _ | with_reducible refine Below.setCell ?_ (by first | omega | (simp <;> omega)) _ | with_reducible exact Below.refl _ _))⟩

set_option maxHeartbeats 4000000 in
set_option maxRecDepth 100000 in
theorem make_err (d0 d1 d2 per least : Int) (h : ¬ (okRng per least ∧ okCnt d0 d1 d2 per)) (w : World) :
    Calls Try.prog 25 #[.agg #[.int .i64 d0, .int .i64 d1, .int .i64 d2], .int .i64 per, .int .i64 least] w fun e w' => e = .returned (.tuple #[.agg #[.int .i64 0, .int .i64 0, .int .i64 0, .int .i64 0, .int .i64 0, .int .i64 0], .iface 96 (.int .i64 3)]) ∧ Below w.heap.size w w' := by
  by_cases hr : okRng per least
  · have HR := hide (ranges_ok per least hr)
    rcases cnt_cases (fun k => h ⟨hr, k⟩) with a | ⟨⟨a1, a2⟩, a⟩ | ⟨⟨a1, a2⟩, ⟨a3, a4⟩, a⟩
    all_goals clear hr h
    · go_enter Try.func25, Try.ntmps25
      go_wp2_with (first | (go_at_call 58; refine (HR.out _).mono ?_; rintro e w8 ⟨rfl, rfl⟩) | (go_at_call 59; first | (refine (pwithin_yes _ _ _ _ (by omega) (by omega)).mono ?_; rintro e w8 ⟨rfl, rfl⟩) | (refine (pwithin_no _ _ _ _ (by omega)).mono ?_; rintro e w8 ⟨rfl, rfl⟩)))
      refine wp_loop_rounds 4 ?_
      rw [rounds_succ]
      go_wp2_with (go_at_call 59; first | (refine (pwithin_yes _ _ _ _ (by omega) (by omega)).mono ?_; rintro e w8 ⟨rfl, rfl⟩) | (refine (pwithin_no _ _ _ _ (by omega)).mono ?_; rintro e w8 ⟨rfl, rfl⟩))
      refine bodyPost_ret (v := .tuple #[.agg #[.int .i64 0, .int .i64 0, .int .i64 0, .int .i64 0, .int .i64 0, .int .i64 0], .iface 96 (.int .i64 3)]) (by simp only [results, Try.results25]; go_simp) rfl ⟨rfl, by exact (by repeat (first | with_reducible assumption | with_reducible refine Below.drew ?_ | with_reducible refine below_drewN ?_ _ | with_reducible refine Below.alloc ?_ (by first | omega | (simp <;> omega)) _ | with_reducible refine Below.setCell ?_ (by first | omega | (simp <;> omega)) _ | with_reducible exact Below.refl _ _))⟩
    · go_enter Try.func25, Try.ntmps25
      go_wp2_with (first | (go_at_call 58; refine (HR.out _).mono ?_; rintro e w8 ⟨rfl, rfl⟩) | (go_at_call 59; first | (refine (pwithin_yes _ _ _ _ (by omega) (by omega)).mono ?_; rintro e w8 ⟨rfl, rfl⟩) | (refine (pwithin_no _ _ _ _ (by omega)).mono ?_; rintro e w8 ⟨rfl, rfl⟩)))
      refine wp_loop_rounds 4 ?_
      rw [rounds_succ]
      go_wp2_with (go_at_call 59; first | (refine (pwithin_yes _ _ _ _ (by omega) (by omega)).mono ?_; rintro e w8 ⟨rfl, rfl⟩) | (refine (pwithin_no _ _ _ _ (by omega)).mono ?_; rintro e w8 ⟨rfl, rfl⟩))
      rw [rounds_succ]
      go_wp2_with (go_at_call 59; first | (refine (pwithin_yes _ _ _ _ (by omega) (by omega)).mono ?_; rintro e w8 ⟨rfl, rfl⟩) | (refine (pwithin_no _ _ _ _ (by omega)).mono ?_; rintro e w8 ⟨rfl, rfl⟩))
      refine bodyPost_ret (v := .tuple #[.agg #[.int .i64 0, .int .i64 0, .int .i64 0, .int .i64 0, .int .i64 0, .int .i64 0], .iface 96 (.int .i64 3)]) (by simp only [results, Try.results25]; go_simp) rfl ⟨rfl, by exact (by repeat (first | with_reducible assumption | with_reducible refine Below.drew ?_ | with_reducible refine below_drewN ?_ _ | with_reducible refine Below.alloc ?_ (by first | omega | (simp <;> omega)) _ | with_reducible refine Below.setCell ?_ (by first | omega | (simp <;> omega)) _ | with_reducible exact Below.refl _ _))⟩
    · go_enter Try.func25, Try.ntmps25
      go_wp2_with (first | (go_at_call 58; refine (HR.out _).mono ?_; rintro e w8 ⟨rfl, rfl⟩) | (go_at_call 59; first | (refine (pwithin_yes _ _ _ _ (by omega) (by omega)).mono ?_; rintro e w8 ⟨rfl, rfl⟩) | (refine (pwithin_no _ _ _ _ (by omega)).mono ?_; rintro e w8 ⟨rfl, rfl⟩)))
      refine wp_loop_rounds 4 ?_
      rw [rounds_succ]
      go_wp2_with (go_at_call 59; first | (refine (pwithin_yes _ _ _ _ (by omega) (by omega)).mono ?_; rintro e w8 ⟨rfl, rfl⟩) | (refine (pwithin_no _ _ _ _ (by omega)).mono ?_; rintro e w8 ⟨rfl, rfl⟩))
      rw [rounds_succ]
      go_wp2_with (go_at_call 59; first | (refine (pwithin_yes _ _ _ _ (by omega) (by omega)).mono ?_; rintro e w8 ⟨rfl, rfl⟩) | (refine (pwithin_no _ _ _ _ (by omega)).mono ?_; rintro e w8 ⟨rfl, rfl⟩))
      rw [rounds_succ]
      go_wp2_with (go_at_call 59; first | (refine (pwithin_yes _ _ _ _ (by omega) (by omega)).mono ?_; rintro e w8 ⟨rfl, rfl⟩) | (refine (pwithin_no _ _ _ _ (by omega)).mono ?_; rintro e w8 ⟨rfl, rfl⟩))
      refine bodyPost_ret (v := .tuple #[.agg #[.int .i64 0, .int .i64 0, .int .i64 0, .int .i64 0, .int .i64 0, .int .i64 0], .iface 96 (.int .i64 3)]) (by simp only [results, Try.results25]; go_simp) rfl ⟨rfl, by exact (by repeat (first | with_reducible assumption | with_reducible refine Below.drew ?_ | with_reducible refine below_drewN ?_ _ | with_reducible refine Below.alloc ?_ (by first | omega | (simp <;> omega)) _ | with_reducible refine Below.setCell ?_ (by first | omega | (simp <;> omega)) _ | with_reducible exact Below.refl _ _))⟩
  · have HR := hide (ranges_err per least hr)
    clear h hr
    go_enter Try.func25, Try.ntmps25
    go_wp2_with (go_at_call 58; refine (HR.out _).mono ?_; rintro e w8 ⟨rfl, rfl⟩)
    refine bodyPost_ret (v := .tuple #[.agg #[.int .i64 0, .int .i64 0, .int .i64 0, .int .i64 0, .int .i64 0, .int .i64 0], .iface 96 (.int .i64 3)]) (by simp only [results, Try.results25]; go_simp) rfl ⟨rfl, by exact (by repeat (first | with_reducible assumption | with_reducible refine Below.drew ?_ | with_reducible refine below_drewN ?_ _ | with_reducible refine Below.alloc ?_ (by first | omega | (simp <;> omega)) _ | with_reducible refine Below.setCell ?_ (by first | omega | (simp <;> omega)) _ | with_reducible exact Below.refl _ _))⟩

set_option maxHeartbeats 4000000 in
set_option maxRecDepth 100000 in
theorem rmake_ok (d0 d1 d2 per least : Int) (hr : okRng per least) (hd : okCnt d0 d1 d2 per) (w : World) :
    Calls Try.prog 31 #[.agg #[.int .i64 d0, .int .i64 d1, .int .i64 d2], .int .i64 per, .int .i64 least] w fun e w' => e = .returned (.tuple #[.agg #[.int .i64 (pulse d0 per least).a, .int .i64 (pulse d0 per least).b, .int .i64 (pulse d1 per least).a, .int .i64 (pulse d1 per least).b, .int .i64 (pulse d2 per least).a, .int .i64 (pulse d2 per least).b], .int .i64 0]) ∧ Below w.heap.size w w' := by
  have HR := hide (rranges_ok per least hr)
  obtain ⟨⟨r1, r2⟩, r3, r4⟩ := hr
  obtain ⟨⟨a1, a2⟩, ⟨a3, a4⟩, ⟨a5, a6⟩⟩ := hd
  generalize hq0 : pulse d0 per least = q0
  generalize hq1 : pulse d1 per least = q1
  generalize hq2 : pulse d2 per least = q2
  have HQ0 := hide hq0.symm
  have HQ1 := hide hq1.symm
  have HQ2 := hide hq2.symm
  clear hq0 hq1 hq2
  go_enter Try.func31, Try.ntmps31
  go_wp2_with (go_at_call 68; refine (HR.out _).mono ?_; rintro e w8 ⟨rfl, rfl⟩)
  refine wp_loop_rounds 4 ?_
  rw [rounds_succ]
  go_upto_block 1 with fail
  go_cut [10, 11] (fun _ _ wx => wx = ((w.alloc (.cells #[.int .i64 d0, .int .i64 d1, .int .i64 d2] 26)).alloc (.cells #[.int .i64 0, .int .i64 0, .int .i64 0, .int .i64 0, .int .i64 0, .int .i64 0] 39)).alloc (.cells #[.int .i64 q0.a, .int .i64 q0.b, .int .i64 0, .int .i64 0, .int .i64 0, .int .i64 0] 39))
  case first =>
    by_cases k1 : d0 < least
    · have e : q0 = ⟨0, 0⟩ := by rw [HQ0.out]; unfold pulse; rw [if_pos k1]
      clear HQ0
      subst e
      go_wp2
      go_meet
      rfl
    · by_cases k2 : per - 2 * least < d0
      · have e : q0 = ⟨0, per⟩ := by rw [HQ0.out]; unfold pulse; rw [if_neg k1, if_pos k2]
        clear HQ0
        subst e
        go_wp2
        go_meet
        rfl
      · have e : q0 = ⟨(per - d0) / 2, (per - d0) / 2 + d0⟩ := by rw [HQ0.out]; unfold pulse; rw [if_neg k1, if_neg k2]
        clear HQ0
        subst e
        go_wp2
        go_meet
        rfl
  case rest =>
  obtain rfl := hcut
  clear HQ0
  go_wp2
  rw [rounds_succ]
  go_upto_block 1 with fail
  go_cut [10, 11] (fun _ _ wx => wx = ((w.alloc (.cells #[.int .i64 d0, .int .i64 d1, .int .i64 d2] 26)).alloc (.cells #[.int .i64 0, .int .i64 0, .int .i64 0, .int .i64 0, .int .i64 0, .int .i64 0] 39)).alloc (.cells #[.int .i64 q0.a, .int .i64 q0.b, .int .i64 q1.a, .int .i64 q1.b, .int .i64 0, .int .i64 0] 39))
  case first =>
    by_cases k1 : d1 < least
    · have e : q1 = ⟨0, 0⟩ := by rw [HQ1.out]; unfold pulse; rw [if_pos k1]
      clear HQ1
      subst e
      go_wp2
      go_meet
      rfl
    · by_cases k2 : per - 2 * least < d1
      · have e : q1 = ⟨0, per⟩ := by rw [HQ1.out]; unfold pulse; rw [if_neg k1, if_pos k2]
        clear HQ1
        subst e
        go_wp2
        go_meet
        rfl
      · have e : q1 = ⟨(per - d1) / 2, (per - d1) / 2 + d1⟩ := by rw [HQ1.out]; unfold pulse; rw [if_neg k1, if_neg k2]
        clear HQ1
        subst e
        go_wp2
        go_meet
        rfl
  case rest =>
  obtain rfl := hcut
  clear HQ1
  go_wp2
  rw [rounds_succ]
  go_upto_block 1 with fail
  go_cut [10, 11] (fun _ _ wx => wx = ((w.alloc (.cells #[.int .i64 d0, .int .i64 d1, .int .i64 d2] 26)).alloc (.cells #[.int .i64 0, .int .i64 0, .int .i64 0, .int .i64 0, .int .i64 0, .int .i64 0] 39)).alloc (.cells #[.int .i64 q0.a, .int .i64 q0.b, .int .i64 q1.a, .int .i64 q1.b, .int .i64 q2.a, .int .i64 q2.b] 39))
  case first =>
    by_cases k1 : d2 < least
    · have e : q2 = ⟨0, 0⟩ := by rw [HQ2.out]; unfold pulse; rw [if_pos k1]
      clear HQ2
      subst e
      go_wp2
      go_meet
      rfl
    · by_cases k2 : per - 2 * least < d2
      · have e : q2 = ⟨0, per⟩ := by rw [HQ2.out]; unfold pulse; rw [if_neg k1, if_pos k2]
        clear HQ2
        subst e
        go_wp2
        go_meet
        rfl
      · have e : q2 = ⟨(per - d2) / 2, (per - d2) / 2 + d2⟩ := by rw [HQ2.out]; unfold pulse; rw [if_neg k1, if_neg k2]
        clear HQ2
        subst e
        go_wp2
        go_meet
        rfl
  case rest =>
  obtain rfl := hcut
  clear HQ2
  go_wp2
  rw [rounds_succ]
  go_wp2
  refine bodyPost_ret (v := .tuple #[.agg #[.int .i64 q0.a, .int .i64 q0.b, .int .i64 q1.a, .int .i64 q1.b, .int .i64 q2.a, .int .i64 q2.b], .int .i64 0]) (by simp only [results, Try.results31]; go_simp) rfl ⟨rfl, by exact (by repeat (first | with_reducible assumption | with_reducible refine Below.drew ?_ | with_reducible refine below_drewN ?_ _ | with_reducible refine Below.alloc ?_ (by first | omega | (simp <;> omega)) _ | with_reducible refine Below.setCell ?_ (by first | omega | (simp <;> omega)) _ | with_reducible exact Below.refl _ _))⟩

theorem neg_cases {d per : Int} (h : ¬ (0 ≤ d ∧ d ≤ per)) : d < 0 ∨ (0 ≤ d ∧ per < d) := by omega
set_option maxHeartbeats 8000000 in
set_option maxRecDepth 100000 in
theorem rmake_err (d0 d1 d2 per least : Int) (h : ¬ (okRng per least ∧ okCnt d0 d1 d2 per)) (w : World) :
    Calls Try.prog 31 #[.agg #[.int .i64 d0, .int .i64 d1, .int .i64 d2], .int .i64 per, .int .i64 least] w fun e w' => e = .returned (.tuple #[.agg #[.int .i64 0, .int .i64 0, .int .i64 0, .int .i64 0, .int .i64 0, .int .i64 0], .int .i64 3]) ∧ Below w.heap.size w w' := by
  by_cases hr : okRng per least
  · have HR := hide (rranges_ok per least hr)
    have hc := cnt_cases (fun k => h ⟨hr, k⟩)
    obtain ⟨⟨r1, r2⟩, r3, r4⟩ := hr
    generalize hq0 : pulse d0 per least = q0
    generalize hq1 : pulse d1 per least = q1
    have HQ0 := hide hq0.symm
    have HQ1 := hide hq1.symm
    clear hq0 hq1 h
    rcases hc with a | ⟨⟨a1, a2⟩, a⟩ | ⟨⟨a1, a2⟩, ⟨a3, a4⟩, a⟩
    · rcases neg_cases a with b | ⟨b1, b2⟩
      all_goals clear a
      all_goals
        go_enter Try.func31, Try.ntmps31
        go_wp2_with (go_at_call 68; refine (HR.out _).mono ?_; rintro e w8 ⟨rfl, rfl⟩)
        refine wp_loop_rounds 4 ?_
        rw [rounds_succ]
        go_wp2
        refine bodyPost_ret (v := .tuple #[.agg #[.int .i64 0, .int .i64 0, .int .i64 0, .int .i64 0, .int .i64 0, .int .i64 0], .int .i64 3]) (by simp only [results, Try.results31]; go_simp) rfl ⟨rfl, by exact (by repeat (first | with_reducible assumption | with_reducible refine Below.drew ?_ | with_reducible refine below_drewN ?_ _ | with_reducible refine Below.alloc ?_ (by first | omega | (simp <;> omega)) _ | with_reducible refine Below.setCell ?_ (by first | omega | (simp <;> omega)) _ | with_reducible exact Below.refl _ _))⟩
    · rcases neg_cases a with b | ⟨b1, b2⟩
      all_goals clear a
      all_goals
        go_enter Try.func31, Try.ntmps31
        go_wp2_with (go_at_call 68; refine (HR.out _).mono ?_; rintro e w8 ⟨rfl, rfl⟩)
        refine wp_loop_rounds 4 ?_
        rw [rounds_succ]
        go_upto_block 1 with fail
        go_cut [10, 11] (fun _ _ wx => wx = ((w.alloc (.cells #[.int .i64 d0, .int .i64 d1, .int .i64 d2] 26)).alloc (.cells #[.int .i64 0, .int .i64 0, .int .i64 0, .int .i64 0, .int .i64 0, .int .i64 0] 39)).alloc (.cells #[.int .i64 q0.a, .int .i64 q0.b, .int .i64 0, .int .i64 0, .int .i64 0, .int .i64 0] 39))
        case first =>
          by_cases k1 : d0 < least
          · have e : q0 = ⟨0, 0⟩ := by rw [HQ0.out]; unfold pulse; rw [if_pos k1]
            clear HQ0
            subst e
            go_wp2
            go_meet
            rfl
          · by_cases k2 : per - 2 * least < d0
            · have e : q0 = ⟨0, per⟩ := by rw [HQ0.out]; unfold pulse; rw [if_neg k1, if_pos k2]
              clear HQ0
              subst e
              go_wp2
              go_meet
              rfl
            · have e : q0 = ⟨(per - d0) / 2, (per - d0) / 2 + d0⟩ := by rw [HQ0.out]; unfold pulse; rw [if_neg k1, if_neg k2]
              clear HQ0
              subst e
              go_wp2
              go_meet
              rfl
        case rest =>
        obtain rfl := hcut
        clear HQ0
        go_wp2
        rw [rounds_succ]
        go_wp2
        refine bodyPost_ret (v := .tuple #[.agg #[.int .i64 0, .int .i64 0, .int .i64 0, .int .i64 0, .int .i64 0, .int .i64 0], .int .i64 3]) (by simp only [results, Try.results31]; go_simp) rfl ⟨rfl, by exact (by repeat (first | with_reducible assumption | with_reducible refine Below.drew ?_ | with_reducible refine below_drewN ?_ _ | with_reducible refine Below.alloc ?_ (by first | omega | (simp <;> omega)) _ | with_reducible refine Below.setCell ?_ (by first | omega | (simp <;> omega)) _ | with_reducible exact Below.refl _ _))⟩
    · rcases neg_cases a with b | ⟨b1, b2⟩
      all_goals clear a
      all_goals
        go_enter Try.func31, Try.ntmps31
        go_wp2_with (go_at_call 68; refine (HR.out _).mono ?_; rintro e w8 ⟨rfl, rfl⟩)
        refine wp_loop_rounds 4 ?_
        rw [rounds_succ]
        go_upto_block 1 with fail
        go_cut [10, 11] (fun _ _ wx => wx = ((w.alloc (.cells #[.int .i64 d0, .int .i64 d1, .int .i64 d2] 26)).alloc (.cells #[.int .i64 0, .int .i64 0, .int .i64 0, .int .i64 0, .int .i64 0, .int .i64 0] 39)).alloc (.cells #[.int .i64 q0.a, .int .i64 q0.b, .int .i64 0, .int .i64 0, .int .i64 0, .int .i64 0] 39))
        case first =>
          by_cases k1 : d0 < least
          · have e : q0 = ⟨0, 0⟩ := by rw [HQ0.out]; unfold pulse; rw [if_pos k1]
            clear HQ0
            subst e
            go_wp2
            go_meet
            rfl
          · by_cases k2 : per - 2 * least < d0
            · have e : q0 = ⟨0, per⟩ := by rw [HQ0.out]; unfold pulse; rw [if_neg k1, if_pos k2]
              clear HQ0
              subst e
              go_wp2
              go_meet
              rfl
            · have e : q0 = ⟨(per - d0) / 2, (per - d0) / 2 + d0⟩ := by rw [HQ0.out]; unfold pulse; rw [if_neg k1, if_neg k2]
              clear HQ0
              subst e
              go_wp2
              go_meet
              rfl
        case rest =>
        obtain rfl := hcut
        clear HQ0
        go_wp2
        rw [rounds_succ]
        go_upto_block 1 with fail
        go_cut [10, 11] (fun _ _ wx => wx = ((w.alloc (.cells #[.int .i64 d0, .int .i64 d1, .int .i64 d2] 26)).alloc (.cells #[.int .i64 0, .int .i64 0, .int .i64 0, .int .i64 0, .int .i64 0, .int .i64 0] 39)).alloc (.cells #[.int .i64 q0.a, .int .i64 q0.b, .int .i64 q1.a, .int .i64 q1.b, .int .i64 0, .int .i64 0] 39))
        case first =>
          by_cases k1 : d1 < least
          · have e : q1 = ⟨0, 0⟩ := by rw [HQ1.out]; unfold pulse; rw [if_pos k1]
            clear HQ1
            subst e
            go_wp2
            go_meet
            rfl
          · by_cases k2 : per - 2 * least < d1
            · have e : q1 = ⟨0, per⟩ := by rw [HQ1.out]; unfold pulse; rw [if_neg k1, if_pos k2]
              clear HQ1
              subst e
              go_wp2
              go_meet
              rfl
            · have e : q1 = ⟨(per - d1) / 2, (per - d1) / 2 + d1⟩ := by rw [HQ1.out]; unfold pulse; rw [if_neg k1, if_neg k2]
              clear HQ1
              subst e
              go_wp2
              go_meet
              rfl
        case rest =>
        obtain rfl := hcut
        clear HQ1
        go_wp2
        rw [rounds_succ]
        go_wp2
        refine bodyPost_ret (v := .tuple #[.agg #[.int .i64 0, .int .i64 0, .int .i64 0, .int .i64 0, .int .i64 0, .int .i64 0], .int .i64 3]) (by simp only [results, Try.results31]; go_simp) rfl ⟨rfl, by exact (by repeat (first | with_reducible assumption | with_reducible refine Below.drew ?_ | with_reducible refine below_drewN ?_ _ | with_reducible refine Below.alloc ?_ (by first | omega | (simp <;> omega)) _ | with_reducible refine Below.setCell ?_ (by first | omega | (simp <;> omega)) _ | with_reducible exact Below.refl _ _))⟩
  · have HR := hide (rranges_err per least hr)
    clear h hr
    go_enter Try.func31, Try.ntmps31
    go_wp2_with (go_at_call 68; refine (HR.out _).mono ?_; rintro e w8 ⟨rfl, rfl⟩)
    refine bodyPost_ret (v := .tuple #[.agg #[.int .i64 0, .int .i64 0, .int .i64 0, .int .i64 0, .int .i64 0, .int .i64 0], .int .i64 3]) (by simp only [results, Try.results31]; go_simp) rfl ⟨rfl, by exact (by repeat (first | with_reducible assumption | with_reducible refine Below.drew ?_ | with_reducible refine below_drewN ?_ _ | with_reducible refine Below.alloc ?_ (by first | omega | (simp <;> omega)) _ | with_reducible refine Below.setCell ?_ (by first | omega | (simp <;> omega)) _ | with_reducible exact Below.refl _ _))⟩
end Go.Proofs.Ytjeomdfcfbfebaa
