/- Contracts of the link's bounds over ticks: Climb, Fall and the reference's, for every configuration and argument. -/
import Derived.Test.YtahhebeceehbeaaLinkE
namespace Go.Proofs.Ytahhebeceehbeaa
open Go.RowKit LM

theorem size_after {w w1 : World} {o : Obj} (h : Below (w.alloc o).drew.heap.size (w.alloc o).drew w1) : w.heap.size < w1.heap.size := by
  have h1 := h.size
  have e : (w.alloc o).drew.heap.size = w.heap.size + 1 := by simp [World.drew]
  omega

set_option maxHeartbeats 2000000 in
theorem span_err (c : Cfg) (h : c.code ≠ 0) (v draw ticks : Int) (w : World) :
    Calls Try.prog 36 #[.agg #[.int .i64 c.num, .int .i64 c.den, .int .i64 c.supply, .int .i64 c.feed, .int .i64 c.ohm, .int .i64 c.on, .int .i64 c.off, .int .i64 c.bohm], .int .i64 v, .int .i64 draw, .int .i64 ticks] w fun e w' => e = .returned (.iface 50 (.int .i64 c.code)) ∧ Below w.heap.size w w' := by
  have HC := hide (fun W => check_err c W h)
  clear h
  all_goals
    go_enter Try.func36, Try.ntmps36
    go_wp2_with (first
    | (go_at_call 16; refine (HC.out _).mono ?_; rintro e w1 ⟨rfl, hb1⟩; have z1 := hb1.size; (try simp at z1); have c1x0 := bstep (b := w.heap.size) hb1 (by first | omega | (simp <;> omega)); have y1x0 : w.heap.size < w1.heap.size := (by omega))
    | (go_at_call 34; first | (refine (within_yes _ _ _ _ (by omega) (by omega)).mono ?_; rintro e w9 ⟨rfl, rfl⟩) | (refine (within_no _ _ _ _ (by omega)).mono ?_; rintro e w9 ⟨rfl, rfl⟩)))
    go_ret
    exact ⟨rfl, ((Below.refl _ _).alloc (Nat.le_refl _) _).trans (hb1.mono (by simp <;> omega))⟩

set_option maxHeartbeats 2000000 in
theorem span_ok (c : Cfg) (h : c.Ok) (v draw ticks : Int) (hr : (0 ≤ v ∧ v ≤ 1048576) ∧ (0 ≤ draw ∧ draw ≤ 4194304) ∧ (0 ≤ ticks ∧ ticks ≤ 1048576)) (w : World) :
    Calls Try.prog 36 #[.agg #[.int .i64 c.num, .int .i64 c.den, .int .i64 c.supply, .int .i64 c.feed, .int .i64 c.ohm, .int .i64 c.on, .int .i64 c.off, .int .i64 c.bohm], .int .i64 v, .int .i64 draw, .int .i64 ticks] w fun e w' => e = .returned (.nilIface) ∧ Below w.heap.size w w' := by
  have HC := hide (fun W => check_ok c W h)
  clear h
  obtain ⟨j1, j2, j3⟩ := hr
  all_goals
    go_enter Try.func36, Try.ntmps36
    go_wp2_with (first
    | (go_at_call 16; refine (HC.out _).mono ?_; rintro e w1 ⟨rfl, hb1⟩; have z1 := hb1.size; (try simp at z1); have c1x0 := bstep (b := w.heap.size) hb1 (by first | omega | (simp <;> omega)); have y1x0 : w.heap.size < w1.heap.size := (by omega))
    | (go_at_call 34; first | (refine (within_yes _ _ _ _ (by omega) (by omega)).mono ?_; rintro e w9 ⟨rfl, rfl⟩) | (refine (within_no _ _ _ _ (by omega)).mono ?_; rintro e w9 ⟨rfl, rfl⟩)))
    go_ret
    exact ⟨rfl, ((Below.refl _ _).alloc (Nat.le_refl _) _).trans (hb1.mono (by simp <;> omega))⟩

set_option maxHeartbeats 2000000 in
theorem span_out (c : Cfg) (h : c.Ok) (v draw ticks : Int) (hr : ¬ ((0 ≤ v ∧ v ≤ 1048576) ∧ (0 ≤ draw ∧ draw ≤ 4194304) ∧ (0 ≤ ticks ∧ ticks ≤ 1048576))) (w : World) :
    Calls Try.prog 36 #[.agg #[.int .i64 c.num, .int .i64 c.den, .int .i64 c.supply, .int .i64 c.feed, .int .i64 c.ohm, .int .i64 c.on, .int .i64 c.off, .int .i64 c.bohm], .int .i64 v, .int .i64 draw, .int .i64 ticks] w fun e w' => e = .returned (.iface 50 (.int .i64 3)) ∧ Below w.heap.size w w' := by
  have HC := hide (fun W => check_ok c W h)
  clear h
  have hcase : ¬ (0 ≤ v ∧ v ≤ 1048576) ∨ ((0 ≤ v ∧ v ≤ 1048576) ∧ (¬ (0 ≤ draw ∧ draw ≤ 4194304) ∨ ((0 ≤ draw ∧ draw ≤ 4194304) ∧ ¬ (0 ≤ ticks ∧ ticks ≤ 1048576)))) := by omega
  clear hr
  rcases hcase with j1 | ⟨j1, j2 | ⟨j2, j3⟩⟩
  all_goals
    go_enter Try.func36, Try.ntmps36
    go_wp2_with (first
    | (go_at_call 16; refine (HC.out _).mono ?_; rintro e w1 ⟨rfl, hb1⟩; have z1 := hb1.size; (try simp at z1); have c1x0 := bstep (b := w.heap.size) hb1 (by first | omega | (simp <;> omega)); have y1x0 : w.heap.size < w1.heap.size := (by omega))
    | (go_at_call 34; first | (refine (within_yes _ _ _ _ (by omega) (by omega)).mono ?_; rintro e w9 ⟨rfl, rfl⟩) | (refine (within_no _ _ _ _ (by omega)).mono ?_; rintro e w9 ⟨rfl, rfl⟩)))
    go_ret
    exact ⟨rfl, ((Below.refl _ _).alloc (Nat.le_refl _) _).trans (hb1.mono (by simp <;> omega))⟩

set_option maxHeartbeats 2000000 in
theorem rspan_ok (v draw ticks : Int) (hr : (0 ≤ v ∧ v ≤ 1048576) ∧ (0 ≤ draw ∧ draw ≤ 4194304) ∧ (0 ≤ ticks ∧ ticks ≤ 1048576)) (w : World) :
    Calls Try.prog 27 #[.int .i64 v, .int .i64 draw, .int .i64 ticks] w fun e w' => e = .returned (.int .i64 0) ∧ w = w' := by
  obtain ⟨j1, j2, j3⟩ := hr
  all_goals
    go_enter Try.func27, Try.ntmps27
    go_wp2_with (go_at_call 32; first | (refine (rwithin_yes _ _ _ _ (by omega) (by omega)).mono ?_; rintro e w9 ⟨rfl, rfl⟩) | (refine (rwithin_no _ _ _ _ (by omega)).mono ?_; rintro e w9 ⟨rfl, rfl⟩))
    go_ret
    exact ⟨rfl, rfl⟩

set_option maxHeartbeats 2000000 in
theorem rspan_out (v draw ticks : Int) (hr : ¬ ((0 ≤ v ∧ v ≤ 1048576) ∧ (0 ≤ draw ∧ draw ≤ 4194304) ∧ (0 ≤ ticks ∧ ticks ≤ 1048576))) (w : World) :
    Calls Try.prog 27 #[.int .i64 v, .int .i64 draw, .int .i64 ticks] w fun e w' => e = .returned (.int .i64 3) ∧ w = w' := by
  have hcase : ¬ (0 ≤ v ∧ v ≤ 1048576) ∨ ((0 ≤ v ∧ v ≤ 1048576) ∧ (¬ (0 ≤ draw ∧ draw ≤ 4194304) ∨ ((0 ≤ draw ∧ draw ≤ 4194304) ∧ ¬ (0 ≤ ticks ∧ ticks ≤ 1048576)))) := by omega
  clear hr
  rcases hcase with j1 | ⟨j1, j2 | ⟨j2, j3⟩⟩
  all_goals
    go_enter Try.func27, Try.ntmps27
    go_wp2_with (go_at_call 32; first | (refine (rwithin_yes _ _ _ _ (by omega) (by omega)).mono ?_; rintro e w9 ⟨rfl, rfl⟩) | (refine (rwithin_no _ _ _ _ (by omega)).mono ?_; rintro e w9 ⟨rfl, rfl⟩))
    go_ret
    exact ⟨rfl, rfl⟩

set_option maxHeartbeats 2000000 in
theorem climb_err (c : Cfg) (h : c.code ≠ 0) (v draw ticks : Int) (w : World) :
    Calls Try.prog 25 #[.agg #[.int .i64 c.num, .int .i64 c.den, .int .i64 c.supply, .int .i64 c.feed, .int .i64 c.ohm, .int .i64 c.on, .int .i64 c.off, .int .i64 c.bohm], .int .i64 v, .int .i64 draw, .int .i64 ticks] w fun e w' => e = .returned (.tuple #[.int .i64 0, .iface 50 (.int .i64 c.code)]) ∧ Below w.heap.size w w' := by
  have HC := hide (span_err c h v draw ticks)
  clear h
  go_enter Try.func25, Try.ntmps25
  go_wp2_with (go_at_call 36; refine (HC.out _).mono ?_; rintro e w1 ⟨rfl, hb1⟩; have z1 := hb1.size; (try simp at z1); have c1x0 := bstep (b := w.heap.size) hb1 (by first | omega | (simp <;> omega)); have y1x0 : w.heap.size < w1.heap.size := (by omega))
  go_ret2
  exact ⟨rfl, ((Below.refl _ _).alloc (Nat.le_refl _) _).trans (hb1.mono (by simp <;> omega))⟩

set_option maxHeartbeats 2000000 in
theorem climb_out (c : Cfg) (h : c.Ok) (v draw ticks : Int) (hr : ¬ ((0 ≤ v ∧ v ≤ 1048576) ∧ (0 ≤ draw ∧ draw ≤ 4194304) ∧ (0 ≤ ticks ∧ ticks ≤ 1048576))) (w : World) :
    Calls Try.prog 25 #[.agg #[.int .i64 c.num, .int .i64 c.den, .int .i64 c.supply, .int .i64 c.feed, .int .i64 c.ohm, .int .i64 c.on, .int .i64 c.off, .int .i64 c.bohm], .int .i64 v, .int .i64 draw, .int .i64 ticks] w fun e w' => e = .returned (.tuple #[.int .i64 0, .iface 50 (.int .i64 3)]) ∧ Below w.heap.size w w' := by
  have HC := hide (span_out c h v draw ticks hr)
  clear h hr
  go_enter Try.func25, Try.ntmps25
  go_wp2_with (go_at_call 36; refine (HC.out _).mono ?_; rintro e w1 ⟨rfl, hb1⟩; have z1 := hb1.size; (try simp at z1); have c1x0 := bstep (b := w.heap.size) hb1 (by first | omega | (simp <;> omega)); have y1x0 : w.heap.size < w1.heap.size := (by omega))
  go_ret2
  exact ⟨rfl, ((Below.refl _ _).alloc (Nat.le_refl _) _).trans (hb1.mono (by simp <;> omega))⟩

set_option maxHeartbeats 2000000 in
theorem fall_err (c : Cfg) (h : c.code ≠ 0) (v draw ticks : Int) (w : World) :
    Calls Try.prog 26 #[.agg #[.int .i64 c.num, .int .i64 c.den, .int .i64 c.supply, .int .i64 c.feed, .int .i64 c.ohm, .int .i64 c.on, .int .i64 c.off, .int .i64 c.bohm], .int .i64 v, .int .i64 draw, .int .i64 ticks] w fun e w' => e = .returned (.tuple #[.int .i64 0, .iface 50 (.int .i64 c.code)]) ∧ Below w.heap.size w w' := by
  have HC := hide (span_err c h v draw ticks)
  clear h
  go_enter Try.func26, Try.ntmps26
  go_wp2_with (go_at_call 36; refine (HC.out _).mono ?_; rintro e w1 ⟨rfl, hb1⟩; have z1 := hb1.size; (try simp at z1); have c1x0 := bstep (b := w.heap.size) hb1 (by first | omega | (simp <;> omega)); have y1x0 : w.heap.size < w1.heap.size := (by omega))
  go_ret2
  exact ⟨rfl, ((Below.refl _ _).alloc (Nat.le_refl _) _).trans (hb1.mono (by simp <;> omega))⟩

set_option maxHeartbeats 2000000 in
theorem fall_out (c : Cfg) (h : c.Ok) (v draw ticks : Int) (hr : ¬ ((0 ≤ v ∧ v ≤ 1048576) ∧ (0 ≤ draw ∧ draw ≤ 4194304) ∧ (0 ≤ ticks ∧ ticks ≤ 1048576))) (w : World) :
    Calls Try.prog 26 #[.agg #[.int .i64 c.num, .int .i64 c.den, .int .i64 c.supply, .int .i64 c.feed, .int .i64 c.ohm, .int .i64 c.on, .int .i64 c.off, .int .i64 c.bohm], .int .i64 v, .int .i64 draw, .int .i64 ticks] w fun e w' => e = .returned (.tuple #[.int .i64 0, .iface 50 (.int .i64 3)]) ∧ Below w.heap.size w w' := by
  have HC := hide (span_out c h v draw ticks hr)
  clear h hr
  go_enter Try.func26, Try.ntmps26
  go_wp2_with (go_at_call 36; refine (HC.out _).mono ?_; rintro e w1 ⟨rfl, hb1⟩; have z1 := hb1.size; (try simp at z1); have c1x0 := bstep (b := w.heap.size) hb1 (by first | omega | (simp <;> omega)); have y1x0 : w.heap.size < w1.heap.size := (by omega))
  go_ret2
  exact ⟨rfl, ((Below.refl _ _).alloc (Nat.le_refl _) _).trans (hb1.mono (by simp <;> omega))⟩

set_option maxHeartbeats 2000000 in
theorem climb_ok (c : Cfg) (h : c.Ok) (v draw ticks : Int) (hr : (0 ≤ v ∧ v ≤ 1048576) ∧ (0 ≤ draw ∧ draw ≤ 4194304) ∧ (0 ≤ ticks ∧ ticks ≤ 1048576)) (w : World) :
    Calls Try.prog 25 #[.agg #[.int .i64 c.num, .int .i64 c.den, .int .i64 c.supply, .int .i64 c.feed, .int .i64 c.ohm, .int .i64 c.on, .int .i64 c.off, .int .i64 c.bohm], .int .i64 v, .int .i64 draw, .int .i64 ticks] w fun e w' => e = .returned (.tuple #[.int .i64 (climb c v draw ticks), .nilIface]) ∧ Below w.heap.size w w' := by
  have HC := hide (span_ok c h v draw ticks hr)
  have HR := hide (rise_div h.rng hr.2.1.1)
  obtain ⟨⟨k1, k2, k3, k4, k5, k6, k7, k8⟩, ⟨o1, o2⟩, hl⟩ := h
  obtain ⟨⟨v0, v1⟩, ⟨d0, d1⟩, ⟨t0, t1⟩⟩ := hr
  clear hl
  obtain ⟨m0, m1⟩ := mul_nn d0 d1 k1.1 k1.2
  obtain ⟨e0, e1⟩ := div_le m0 m1 k2.1
  obtain ⟨p0, p1⟩ := mul_nn t0 t1 e0 e1
  have g1 : IntKind.i64.wrap (draw * c.num) = draw * c.num := IntWalk.i64_in _ (by omega)
  have g2 : IntKind.i64.wrap ((draw * c.num).tdiv c.den) = draw * c.num / c.den := IntWalk.i64_quo _ _ (by omega)
  have g3 : IntKind.i64.wrap (ticks * (draw * c.num / c.den)) = ticks * (draw * c.num / c.den) := IntWalk.i64_in _ (by omega)
  have hne : (c.den == 0) = false := by simp; omega
  rcases Int.lt_or_le v c.supply with hm | hm
  · have g4 : IntKind.i64.wrap (c.supply + ticks * (draw * c.num / c.den)) = c.supply + ticks * (draw * c.num / c.den) := IntWalk.i64_in _ (by omega)
    rcases Int.lt_or_le 1048576 (c.supply + ticks * (draw * c.num / c.den)) with hm2 | hm2
    all_goals
      go_enter Try.func25, Try.ntmps25
      go_wp2_with (go_at_call 36; refine (HC.out _).mono ?_; rintro e w1 ⟨rfl, hb1⟩; have z1 := hb1.size; (try simp at z1); have c1x0 := bstep (b := w.heap.size) hb1 (by first | omega | (simp <;> omega)); have y1x0 : w.heap.size < w1.heap.size := (by omega))
      go_quiet (fail)
      clear g1 g2 g3 g4
      go_wp2
      go_ret2
      exact ⟨ret_ii (by unfold climb; rw [← HR.out]; omega), below_drewN (((Below.refl _ _).alloc (Nat.le_refl _) _).trans (hb1.mono (by simp <;> omega))) _⟩
  · have g4 : IntKind.i64.wrap (v + ticks * (draw * c.num / c.den)) = v + ticks * (draw * c.num / c.den) := IntWalk.i64_in _ (by omega)
    rcases Int.lt_or_le 1048576 (v + ticks * (draw * c.num / c.den)) with hm2 | hm2
    all_goals
      go_enter Try.func25, Try.ntmps25
      go_wp2_with (go_at_call 36; refine (HC.out _).mono ?_; rintro e w1 ⟨rfl, hb1⟩; have z1 := hb1.size; (try simp at z1); have c1x0 := bstep (b := w.heap.size) hb1 (by first | omega | (simp <;> omega)); have y1x0 : w.heap.size < w1.heap.size := (by omega))
      go_quiet (fail)
      clear g1 g2 g3 g4
      go_wp2
      go_ret2
      exact ⟨ret_ii (by unfold climb; rw [← HR.out]; omega), below_drewN (((Below.refl _ _).alloc (Nat.le_refl _) _).trans (hb1.mono (by simp <;> omega))) _⟩

set_option maxHeartbeats 2000000 in
theorem fall_ok (c : Cfg) (h : c.Ok) (v draw ticks : Int) (hr : (0 ≤ v ∧ v ≤ 1048576) ∧ (0 ≤ draw ∧ draw ≤ 4194304) ∧ (0 ≤ ticks ∧ ticks ≤ 1048576)) (w : World) :
    Calls Try.prog 26 #[.agg #[.int .i64 c.num, .int .i64 c.den, .int .i64 c.supply, .int .i64 c.feed, .int .i64 c.ohm, .int .i64 c.on, .int .i64 c.off, .int .i64 c.bohm], .int .i64 v, .int .i64 draw, .int .i64 ticks] w fun e w' => e = .returned (.tuple #[.int .i64 (fall c v draw ticks), .nilIface]) ∧ Below w.heap.size w w' := by
  have HC := hide (span_ok c h v draw ticks hr)
  have hfr := fallR_bd h.rng
  have HF := hide (fallR_div (c := c))
  have HD := hide (rise_div h.rng (d := draw + fallR c) (by omega))
  have HR := hide (rise_div h.rng hr.2.1.1)
  obtain ⟨⟨k1, k2, k3, k4, k5, k6, k7, k8⟩, ⟨o1, o2⟩, hl⟩ := h
  obtain ⟨⟨v0, v1⟩, ⟨d0, d1⟩, ⟨t0, t1⟩⟩ := hr
  clear hl
  obtain ⟨m0, m1⟩ := mul_nn d0 d1 k1.1 k1.2
  obtain ⟨e0, e1⟩ := div_le m0 m1 k2.1
  obtain ⟨p0, p1⟩ := mul_nn t0 t1 e0 e1
  have g1 : IntKind.i64.wrap (draw * c.num) = draw * c.num := IntWalk.i64_in _ (by omega)
  have g2 : IntKind.i64.wrap ((draw * c.num).tdiv c.den) = draw * c.num / c.den := IntWalk.i64_quo _ _ (by omega)
  have g3 : IntKind.i64.wrap (ticks * (draw * c.num / c.den)) = ticks * (draw * c.num / c.den) := IntWalk.i64_in _ (by omega)
  have hne : (c.den == 0) = false := by simp; omega
  obtain ⟨x0, x1⟩ := div_le (a := 1048576000) (B := 1048576000) (by omega) (by omega) k8.1
  have hfr' : 0 ≤ draw + 1048576000 / c.bohm := by omega
  obtain ⟨y0, y1⟩ := mul_nn (a := draw + 1048576000 / c.bohm) (A := 2147483648) hfr' (by omega) k1.1 k1.2
  obtain ⟨z0, z1⟩ := div_le y0 y1 k2.1
  have g5 : IntKind.i64.wrap (draw + 1048576000 / c.bohm) = draw + 1048576000 / c.bohm := IntWalk.i64_in _ (by omega)
  have g6 : IntKind.i64.wrap ((draw + 1048576000 / c.bohm) * c.num) = (draw + 1048576000 / c.bohm) * c.num := IntWalk.i64_in _ (by omega)
  have g7 : IntKind.i64.wrap (((draw + 1048576000 / c.bohm) * c.num).tdiv c.den) = (draw + 1048576000 / c.bohm) * c.num / c.den := IntWalk.i64_quo _ _ (by omega)
  have g8 : IntKind.i64.wrap (c.off - (draw + 1048576000 / c.bohm) * c.num / c.den) = c.off - (draw + 1048576000 / c.bohm) * c.num / c.den := IntWalk.i64_in _ (by omega)
  have HX : Hid (fall c v draw ticks = max (min v (c.off - (draw + 1048576000 / c.bohm) * c.num / c.den) - ticks * (draw * c.num / c.den)) 0) := by
    have a := HF.out
    have b := HD.out
    rw [← a] at b
    unfold fall
    rw [← HR.out, ← a, ← b]
    rfl
  have gA : IntKind.i64.wrap (v - ticks * (draw * c.num / c.den)) = v - ticks * (draw * c.num / c.den) := IntWalk.i64_in _ (by omega)
  have gB : IntKind.i64.wrap (c.off - (draw + 1048576000 / c.bohm) * c.num / c.den - ticks * (draw * c.num / c.den)) = c.off - (draw + 1048576000 / c.bohm) * c.num / c.den - ticks * (draw * c.num / c.den) := IntWalk.i64_in _ (by omega)
  clear hfr HF HD HR
  rcases Int.lt_or_le (c.off - (draw + 1048576000 / c.bohm) * c.num / c.den) v with hm | hm
  · rcases Int.lt_or_le (c.off - (draw + 1048576000 / c.bohm) * c.num / c.den - ticks * (draw * c.num / c.den)) 0 with hm2 | hm2
    all_goals
      go_enter Try.func26, Try.ntmps26
      go_wp2_with (go_at_call 36; refine (HC.out _).mono ?_; rintro e w1 ⟨rfl, hb1⟩; have z1 := hb1.size; (try simp at z1); have c1x0 := bstep (b := w.heap.size) hb1 (by first | omega | (simp <;> omega)); have y1x0 : w.heap.size < w1.heap.size := (by omega))
      go_quiet (fail)
      clear g1 g2 g3 g5 g6 g7 g8 gA gB
      go_wp2
      go_ret2
      exact ⟨ret_ii (by rw [HX.out]; omega), below_drewN (((Below.refl _ _).alloc (Nat.le_refl _) _).trans (hb1.mono (by simp <;> omega))) _⟩
  · rcases Int.lt_or_le (v - ticks * (draw * c.num / c.den)) 0 with hm2 | hm2
    all_goals
      go_enter Try.func26, Try.ntmps26
      go_wp2_with (go_at_call 36; refine (HC.out _).mono ?_; rintro e w1 ⟨rfl, hb1⟩; have z1 := hb1.size; (try simp at z1); have c1x0 := bstep (b := w.heap.size) hb1 (by first | omega | (simp <;> omega)); have y1x0 : w.heap.size < w1.heap.size := (by omega))
      go_quiet (fail)
      clear g1 g2 g3 g5 g6 g7 g8 gA gB
      go_wp2
      go_ret2
      exact ⟨ret_ii (by rw [HX.out]; omega), below_drewN (((Below.refl _ _).alloc (Nat.le_refl _) _).trans (hb1.mono (by simp <;> omega))) _⟩

set_option maxHeartbeats 2000000 in
theorem rclimb_any (c : Cfg) (h : c.Rng) (v draw ticks : Int) (hr : (0 ≤ v ∧ v ≤ 1048576) ∧ (0 ≤ draw ∧ draw ≤ 4194304) ∧ (0 ≤ ticks ∧ ticks ≤ 1048576)) (w : World) :
    Calls Try.prog 28 #[.agg #[.int .i64 c.num, .int .i64 c.den, .int .i64 c.supply, .int .i64 c.feed, .int .i64 c.ohm, .int .i64 c.on, .int .i64 c.off, .int .i64 c.bohm], .int .i64 v, .int .i64 draw, .int .i64 ticks] w fun e w' => e = .returned (.int .i64 (climb c v draw ticks)) ∧ Below w.heap.size w w' := by
  obtain ⟨⟨v0, v1⟩, ⟨d0, d1⟩, ⟨t0, t1⟩⟩ := hr
  have HR := hide (rrise_any c h draw d0 (by omega))
  have hbd := rise_bd h d0 d1
  obtain ⟨p0, p1⟩ := mul_nn t0 t1 hbd.1 hbd.2
  obtain ⟨k1, k2, k3, k4, k5, k6, k7, k8⟩ := h
  have g1 : IntKind.i64.wrap (ticks * rise c draw) = ticks * rise c draw := IntWalk.i64_in _ (by omega)
  have g2 : IntKind.i64.wrap (v + ticks * rise c draw) = v + ticks * rise c draw := IntWalk.i64_in _ (by omega)
  have g3 : IntKind.i64.wrap (c.supply + ticks * rise c draw) = c.supply + ticks * rise c draw := IntWalk.i64_in _ (by omega)
  rcases Int.lt_or_le v c.supply with hm | hm
  · have hmi : (if v < c.supply then c.supply else v) = c.supply := if_pos hm
    rcases Int.lt_or_le 1048576 (c.supply + ticks * rise c draw) with hm2 | hm2
    all_goals
      go_enter Try.func28, Try.ntmps28
      go_wp2_with fail
      have q0 : (w.alloc (.cells #[.int .i64 c.num, .int .i64 c.den, .int .i64 c.supply, .int .i64 c.feed, .int .i64 c.ohm, .int .i64 c.on, .int .i64 c.off, .int .i64 c.bohm] 23)).cell? ⟨w.heap.size, 0, none⟩ = some (.int .i64 c.num) := by go_simp
      have q1 : (w.alloc (.cells #[.int .i64 c.num, .int .i64 c.den, .int .i64 c.supply, .int .i64 c.feed, .int .i64 c.ohm, .int .i64 c.on, .int .i64 c.off, .int .i64 c.bohm] 23)).cell? ⟨w.heap.size, 1, none⟩ = some (.int .i64 c.den) := by go_simp
      have q2 : (w.alloc (.cells #[.int .i64 c.num, .int .i64 c.den, .int .i64 c.supply, .int .i64 c.feed, .int .i64 c.ohm, .int .i64 c.on, .int .i64 c.off, .int .i64 c.bohm] 23)).cell? ⟨w.heap.size, 2, none⟩ = some (.int .i64 c.supply) := by go_simp
      have q3 : (w.alloc (.cells #[.int .i64 c.num, .int .i64 c.den, .int .i64 c.supply, .int .i64 c.feed, .int .i64 c.ohm, .int .i64 c.on, .int .i64 c.off, .int .i64 c.bohm] 23)).cell? ⟨w.heap.size, 3, none⟩ = some (.int .i64 c.feed) := by go_simp
      have q4 : (w.alloc (.cells #[.int .i64 c.num, .int .i64 c.den, .int .i64 c.supply, .int .i64 c.feed, .int .i64 c.ohm, .int .i64 c.on, .int .i64 c.off, .int .i64 c.bohm] 23)).cell? ⟨w.heap.size, 4, none⟩ = some (.int .i64 c.ohm) := by go_simp
      have q5 : (w.alloc (.cells #[.int .i64 c.num, .int .i64 c.den, .int .i64 c.supply, .int .i64 c.feed, .int .i64 c.ohm, .int .i64 c.on, .int .i64 c.off, .int .i64 c.bohm] 23)).cell? ⟨w.heap.size, 5, none⟩ = some (.int .i64 c.on) := by go_simp
      have q6 : (w.alloc (.cells #[.int .i64 c.num, .int .i64 c.den, .int .i64 c.supply, .int .i64 c.feed, .int .i64 c.ohm, .int .i64 c.on, .int .i64 c.off, .int .i64 c.bohm] 23)).cell? ⟨w.heap.size, 6, none⟩ = some (.int .i64 c.off) := by go_simp
      have q7 : (w.alloc (.cells #[.int .i64 c.num, .int .i64 c.den, .int .i64 c.supply, .int .i64 c.feed, .int .i64 c.ohm, .int .i64 c.on, .int .i64 c.off, .int .i64 c.bohm] 23)).cell? ⟨w.heap.size, 7, none⟩ = some (.int .i64 c.bohm) := by go_simp
      go_region_held3 (fun w' => w'.cell? ⟨w.heap.size, 0, none⟩ = some (.int .i64 c.num) ∧ w'.cell? ⟨w.heap.size, 1, none⟩ = some (.int .i64 c.den) ∧ w'.cell? ⟨w.heap.size, 2, none⟩ = some (.int .i64 c.supply) ∧ w'.cell? ⟨w.heap.size, 3, none⟩ = some (.int .i64 c.feed) ∧ w'.cell? ⟨w.heap.size, 4, none⟩ = some (.int .i64 c.ohm) ∧ w'.cell? ⟨w.heap.size, 5, none⟩ = some (.int .i64 c.on) ∧ w'.cell? ⟨w.heap.size, 6, none⟩ = some (.int .i64 c.off) ∧ w'.cell? ⟨w.heap.size, 7, none⟩ = some (.int .i64 c.bohm)) ((first | exact ⟨q0, q1, q2, q3, q4, q5, q6, q7⟩ | exact ⟨(hb1.cell (p := ⟨w.heap.size, 0, none⟩) (by simp)).trans q0, (hb1.cell (p := ⟨w.heap.size, 1, none⟩) (by simp)).trans q1, (hb1.cell (p := ⟨w.heap.size, 2, none⟩) (by simp)).trans q2, (hb1.cell (p := ⟨w.heap.size, 3, none⟩) (by simp)).trans q3, (hb1.cell (p := ⟨w.heap.size, 4, none⟩) (by simp)).trans q4, (hb1.cell (p := ⟨w.heap.size, 5, none⟩) (by simp)).trans q5, (hb1.cell (p := ⟨w.heap.size, 6, none⟩) (by simp)).trans q6, (hb1.cell (p := ⟨w.heap.size, 7, none⟩) (by simp)).trans q7⟩)) (first | (go_at_call 35; refine (HR.out _).mono ?_; rintro e w1 ⟨rfl, hb1⟩; have z1 := hb1.size; (try simp at z1)))
      all_goals go_wp2
      all_goals go_ret
      all_goals exact ⟨ret_int (by unfold climb; omega), below_drew_trans hb1⟩
  · have hmi : (if v < c.supply then c.supply else v) = v := if_neg (by omega)
    rcases Int.lt_or_le 1048576 (v + ticks * rise c draw) with hm2 | hm2
    all_goals
      go_enter Try.func28, Try.ntmps28
      go_wp2_with fail
      have q0 : (w.alloc (.cells #[.int .i64 c.num, .int .i64 c.den, .int .i64 c.supply, .int .i64 c.feed, .int .i64 c.ohm, .int .i64 c.on, .int .i64 c.off, .int .i64 c.bohm] 23)).cell? ⟨w.heap.size, 0, none⟩ = some (.int .i64 c.num) := by go_simp
      have q1 : (w.alloc (.cells #[.int .i64 c.num, .int .i64 c.den, .int .i64 c.supply, .int .i64 c.feed, .int .i64 c.ohm, .int .i64 c.on, .int .i64 c.off, .int .i64 c.bohm] 23)).cell? ⟨w.heap.size, 1, none⟩ = some (.int .i64 c.den) := by go_simp
      have q2 : (w.alloc (.cells #[.int .i64 c.num, .int .i64 c.den, .int .i64 c.supply, .int .i64 c.feed, .int .i64 c.ohm, .int .i64 c.on, .int .i64 c.off, .int .i64 c.bohm] 23)).cell? ⟨w.heap.size, 2, none⟩ = some (.int .i64 c.supply) := by go_simp
      have q3 : (w.alloc (.cells #[.int .i64 c.num, .int .i64 c.den, .int .i64 c.supply, .int .i64 c.feed, .int .i64 c.ohm, .int .i64 c.on, .int .i64 c.off, .int .i64 c.bohm] 23)).cell? ⟨w.heap.size, 3, none⟩ = some (.int .i64 c.feed) := by go_simp
      have q4 : (w.alloc (.cells #[.int .i64 c.num, .int .i64 c.den, .int .i64 c.supply, .int .i64 c.feed, .int .i64 c.ohm, .int .i64 c.on, .int .i64 c.off, .int .i64 c.bohm] 23)).cell? ⟨w.heap.size, 4, none⟩ = some (.int .i64 c.ohm) := by go_simp
      have q5 : (w.alloc (.cells #[.int .i64 c.num, .int .i64 c.den, .int .i64 c.supply, .int .i64 c.feed, .int .i64 c.ohm, .int .i64 c.on, .int .i64 c.off, .int .i64 c.bohm] 23)).cell? ⟨w.heap.size, 5, none⟩ = some (.int .i64 c.on) := by go_simp
      have q6 : (w.alloc (.cells #[.int .i64 c.num, .int .i64 c.den, .int .i64 c.supply, .int .i64 c.feed, .int .i64 c.ohm, .int .i64 c.on, .int .i64 c.off, .int .i64 c.bohm] 23)).cell? ⟨w.heap.size, 6, none⟩ = some (.int .i64 c.off) := by go_simp
      have q7 : (w.alloc (.cells #[.int .i64 c.num, .int .i64 c.den, .int .i64 c.supply, .int .i64 c.feed, .int .i64 c.ohm, .int .i64 c.on, .int .i64 c.off, .int .i64 c.bohm] 23)).cell? ⟨w.heap.size, 7, none⟩ = some (.int .i64 c.bohm) := by go_simp
      go_region_held3 (fun w' => w'.cell? ⟨w.heap.size, 0, none⟩ = some (.int .i64 c.num) ∧ w'.cell? ⟨w.heap.size, 1, none⟩ = some (.int .i64 c.den) ∧ w'.cell? ⟨w.heap.size, 2, none⟩ = some (.int .i64 c.supply) ∧ w'.cell? ⟨w.heap.size, 3, none⟩ = some (.int .i64 c.feed) ∧ w'.cell? ⟨w.heap.size, 4, none⟩ = some (.int .i64 c.ohm) ∧ w'.cell? ⟨w.heap.size, 5, none⟩ = some (.int .i64 c.on) ∧ w'.cell? ⟨w.heap.size, 6, none⟩ = some (.int .i64 c.off) ∧ w'.cell? ⟨w.heap.size, 7, none⟩ = some (.int .i64 c.bohm)) ((first | exact ⟨q0, q1, q2, q3, q4, q5, q6, q7⟩ | exact ⟨(hb1.cell (p := ⟨w.heap.size, 0, none⟩) (by simp)).trans q0, (hb1.cell (p := ⟨w.heap.size, 1, none⟩) (by simp)).trans q1, (hb1.cell (p := ⟨w.heap.size, 2, none⟩) (by simp)).trans q2, (hb1.cell (p := ⟨w.heap.size, 3, none⟩) (by simp)).trans q3, (hb1.cell (p := ⟨w.heap.size, 4, none⟩) (by simp)).trans q4, (hb1.cell (p := ⟨w.heap.size, 5, none⟩) (by simp)).trans q5, (hb1.cell (p := ⟨w.heap.size, 6, none⟩) (by simp)).trans q6, (hb1.cell (p := ⟨w.heap.size, 7, none⟩) (by simp)).trans q7⟩)) (first | (go_at_call 35; refine (HR.out _).mono ?_; rintro e w1 ⟨rfl, hb1⟩; have z1 := hb1.size; (try simp at z1)))
      all_goals go_wp2
      all_goals go_ret
      all_goals exact ⟨ret_int (by unfold climb; omega), below_drew_trans hb1⟩

set_option maxHeartbeats 2000000 in
theorem rfall_any (c : Cfg) (h : c.Rng) (v draw ticks : Int) (hr : (0 ≤ v ∧ v ≤ 1048576) ∧ (0 ≤ draw ∧ draw ≤ 4194304) ∧ (0 ≤ ticks ∧ ticks ≤ 1048576)) (w : World) :
    Calls Try.prog 29 #[.agg #[.int .i64 c.num, .int .i64 c.den, .int .i64 c.supply, .int .i64 c.feed, .int .i64 c.ohm, .int .i64 c.on, .int .i64 c.off, .int .i64 c.bohm], .int .i64 v, .int .i64 draw, .int .i64 ticks] w fun e w' => e = .returned (.int .i64 (fall c v draw ticks)) ∧ Below w.heap.size w w' := by
  obtain ⟨⟨v0, v1⟩, ⟨d0, d1⟩, ⟨t0, t1⟩⟩ := hr
  have hfr := fallR_bd h
  have HF := hide (fallR_div (c := c))
  have hq : 0 ≤ draw + 1048576000 / c.bohm ∧ draw + 1048576000 / c.bohm ≤ 2147483648 := by rw [HF.out]; omega
  have HR := hide (rrise_any c h draw d0 (by omega))
  have HD := hide (rrise_any c h (draw + 1048576000 / c.bohm) hq.1 hq.2)
  have hbd := rise_bd h d0 d1
  have hbd2 := rise_bd h hq.1 hq.2
  obtain ⟨p0, p1⟩ := mul_nn t0 t1 hbd.1 hbd.2
  obtain ⟨k1, k2, k3, k4, k5, k6, k7, k8⟩ := h
  obtain ⟨x0, x1⟩ := div_le (a := 1048576000) (B := 1048576000) (by omega) (by omega) k8.1
  have HX : Hid (fall c v draw ticks = max (min v (c.off - rise c (draw + 1048576000 / c.bohm)) - ticks * rise c draw) 0) := by
    have a := HF.out
    unfold fall
    rw [← a]
    rfl
  have g1 : IntKind.i64.wrap (ticks * rise c draw) = ticks * rise c draw := IntWalk.i64_in _ (by omega)
  have g2 : IntKind.i64.wrap (v - ticks * rise c draw) = v - ticks * rise c draw := IntWalk.i64_in _ (by omega)
  have g3 : IntKind.i64.wrap (c.off - rise c (draw + 1048576000 / c.bohm)) = c.off - rise c (draw + 1048576000 / c.bohm) := IntWalk.i64_in _ (by omega)
  have g4 : IntKind.i64.wrap (c.off - rise c (draw + 1048576000 / c.bohm) - ticks * rise c draw) = c.off - rise c (draw + 1048576000 / c.bohm) - ticks * rise c draw := IntWalk.i64_in _ (by omega)
  have g5 : IntKind.i64.wrap (draw + 1048576000 / c.bohm) = draw + 1048576000 / c.bohm := IntWalk.i64_in _ (by omega)
  have gq : IntKind.i64.wrap ((1048576000 : Int).tdiv c.bohm) = 1048576000 / c.bohm := IntWalk.i64_quo _ _ (by omega)
  have gq2 : IntKind.i64.wrap (1048576000 / c.bohm) = 1048576000 / c.bohm := IntWalk.i64_in _ (by omega)
  have hne : ¬ c.bohm = 0 := by omega
  clear hfr HF
  clear hq
  have hbd2' : rise c (draw + 1048576000 / c.bohm) ≤ 2251799813685248 := by omega
  rcases Int.lt_or_le (c.off - rise c (draw + 1048576000 / c.bohm)) v with hm | hm
  · have hmi : (if c.off - rise c (draw + 1048576000 / c.bohm) < v then c.off - rise c (draw + 1048576000 / c.bohm) else v) = c.off - rise c (draw + 1048576000 / c.bohm) := if_pos hm
    go_enter Try.func29, Try.ntmps29
    go_wp2_with fail
    have q0 : (w.alloc (.cells #[.int .i64 c.num, .int .i64 c.den, .int .i64 c.supply, .int .i64 c.feed, .int .i64 c.ohm, .int .i64 c.on, .int .i64 c.off, .int .i64 c.bohm] 23)).cell? ⟨w.heap.size, 0, none⟩ = some (.int .i64 c.num) := by go_simp
    have q1 : (w.alloc (.cells #[.int .i64 c.num, .int .i64 c.den, .int .i64 c.supply, .int .i64 c.feed, .int .i64 c.ohm, .int .i64 c.on, .int .i64 c.off, .int .i64 c.bohm] 23)).cell? ⟨w.heap.size, 1, none⟩ = some (.int .i64 c.den) := by go_simp
    have q2 : (w.alloc (.cells #[.int .i64 c.num, .int .i64 c.den, .int .i64 c.supply, .int .i64 c.feed, .int .i64 c.ohm, .int .i64 c.on, .int .i64 c.off, .int .i64 c.bohm] 23)).cell? ⟨w.heap.size, 2, none⟩ = some (.int .i64 c.supply) := by go_simp
    have q3 : (w.alloc (.cells #[.int .i64 c.num, .int .i64 c.den, .int .i64 c.supply, .int .i64 c.feed, .int .i64 c.ohm, .int .i64 c.on, .int .i64 c.off, .int .i64 c.bohm] 23)).cell? ⟨w.heap.size, 3, none⟩ = some (.int .i64 c.feed) := by go_simp
    have q4 : (w.alloc (.cells #[.int .i64 c.num, .int .i64 c.den, .int .i64 c.supply, .int .i64 c.feed, .int .i64 c.ohm, .int .i64 c.on, .int .i64 c.off, .int .i64 c.bohm] 23)).cell? ⟨w.heap.size, 4, none⟩ = some (.int .i64 c.ohm) := by go_simp
    have q5 : (w.alloc (.cells #[.int .i64 c.num, .int .i64 c.den, .int .i64 c.supply, .int .i64 c.feed, .int .i64 c.ohm, .int .i64 c.on, .int .i64 c.off, .int .i64 c.bohm] 23)).cell? ⟨w.heap.size, 5, none⟩ = some (.int .i64 c.on) := by go_simp
    have q6 : (w.alloc (.cells #[.int .i64 c.num, .int .i64 c.den, .int .i64 c.supply, .int .i64 c.feed, .int .i64 c.ohm, .int .i64 c.on, .int .i64 c.off, .int .i64 c.bohm] 23)).cell? ⟨w.heap.size, 6, none⟩ = some (.int .i64 c.off) := by go_simp
    have q7 : (w.alloc (.cells #[.int .i64 c.num, .int .i64 c.den, .int .i64 c.supply, .int .i64 c.feed, .int .i64 c.ohm, .int .i64 c.on, .int .i64 c.off, .int .i64 c.bohm] 23)).cell? ⟨w.heap.size, 7, none⟩ = some (.int .i64 c.bohm) := by go_simp
    go_region_held3 (fun w' => w'.cell? ⟨w.heap.size, 0, none⟩ = some (.int .i64 c.num) ∧ w'.cell? ⟨w.heap.size, 1, none⟩ = some (.int .i64 c.den) ∧ w'.cell? ⟨w.heap.size, 2, none⟩ = some (.int .i64 c.supply) ∧ w'.cell? ⟨w.heap.size, 3, none⟩ = some (.int .i64 c.feed) ∧ w'.cell? ⟨w.heap.size, 4, none⟩ = some (.int .i64 c.ohm) ∧ w'.cell? ⟨w.heap.size, 5, none⟩ = some (.int .i64 c.on) ∧ w'.cell? ⟨w.heap.size, 6, none⟩ = some (.int .i64 c.off) ∧ w'.cell? ⟨w.heap.size, 7, none⟩ = some (.int .i64 c.bohm)) ((first | exact ⟨q0, q1, q2, q3, q4, q5, q6, q7⟩ | exact ⟨(hb1.cell (p := ⟨w.heap.size, 0, none⟩) (by simp)).trans q0, (hb1.cell (p := ⟨w.heap.size, 1, none⟩) (by simp)).trans q1, (hb1.cell (p := ⟨w.heap.size, 2, none⟩) (by simp)).trans q2, (hb1.cell (p := ⟨w.heap.size, 3, none⟩) (by simp)).trans q3, (hb1.cell (p := ⟨w.heap.size, 4, none⟩) (by simp)).trans q4, (hb1.cell (p := ⟨w.heap.size, 5, none⟩) (by simp)).trans q5, (hb1.cell (p := ⟨w.heap.size, 6, none⟩) (by simp)).trans q6, (hb1.cell (p := ⟨w.heap.size, 7, none⟩) (by simp)).trans q7⟩)) (first | (go_at_call 35; refine (HD.out _).mono ?_; rintro e w1 ⟨rfl, hb1⟩; have z1 := hb1.size; (try simp at z1)))
    go_wp2_with fail
    have q0 : w1.cell? ⟨w.heap.size, 0, none⟩ = some (.int .i64 c.num) := by go_simp
    have q1 : w1.cell? ⟨w.heap.size, 1, none⟩ = some (.int .i64 c.den) := by go_simp
    have q2 : w1.cell? ⟨w.heap.size, 2, none⟩ = some (.int .i64 c.supply) := by go_simp
    have q3 : w1.cell? ⟨w.heap.size, 3, none⟩ = some (.int .i64 c.feed) := by go_simp
    have q4 : w1.cell? ⟨w.heap.size, 4, none⟩ = some (.int .i64 c.ohm) := by go_simp
    have q5 : w1.cell? ⟨w.heap.size, 5, none⟩ = some (.int .i64 c.on) := by go_simp
    have q6 : w1.cell? ⟨w.heap.size, 6, none⟩ = some (.int .i64 c.off) := by go_simp
    have q7 : w1.cell? ⟨w.heap.size, 7, none⟩ = some (.int .i64 c.bohm) := by go_simp
    have y1 : w.heap.size < w1.heap.size := size_after hb1
    go_region_held3 (fun w' => w'.cell? ⟨w.heap.size, 0, none⟩ = some (.int .i64 c.num) ∧ w'.cell? ⟨w.heap.size, 1, none⟩ = some (.int .i64 c.den) ∧ w'.cell? ⟨w.heap.size, 2, none⟩ = some (.int .i64 c.supply) ∧ w'.cell? ⟨w.heap.size, 3, none⟩ = some (.int .i64 c.feed) ∧ w'.cell? ⟨w.heap.size, 4, none⟩ = some (.int .i64 c.ohm) ∧ w'.cell? ⟨w.heap.size, 5, none⟩ = some (.int .i64 c.on) ∧ w'.cell? ⟨w.heap.size, 6, none⟩ = some (.int .i64 c.off) ∧ w'.cell? ⟨w.heap.size, 7, none⟩ = some (.int .i64 c.bohm)) ((first | exact ⟨q0, q1, q2, q3, q4, q5, q6, q7⟩ | exact ⟨(hb2.cell (p := ⟨w.heap.size, 0, none⟩) y1).trans q0, (hb2.cell (p := ⟨w.heap.size, 1, none⟩) y1).trans q1, (hb2.cell (p := ⟨w.heap.size, 2, none⟩) y1).trans q2, (hb2.cell (p := ⟨w.heap.size, 3, none⟩) y1).trans q3, (hb2.cell (p := ⟨w.heap.size, 4, none⟩) y1).trans q4, (hb2.cell (p := ⟨w.heap.size, 5, none⟩) y1).trans q5, (hb2.cell (p := ⟨w.heap.size, 6, none⟩) y1).trans q6, (hb2.cell (p := ⟨w.heap.size, 7, none⟩) y1).trans q7⟩)) (first | (go_at_call 35; refine (HR.out _).mono ?_; rintro e w2 ⟨rfl, hb2⟩; have z2 := hb2.size; (try simp at z2)))
    all_goals go_wp2
    all_goals go_ret
    all_goals exact ⟨ret_int (by rw [HX.out]; omega), (below_drew_trans hb1).drew.trans (hb2.mono (Nat.le_of_lt y1))⟩
  · have hmi : (if c.off - rise c (draw + 1048576000 / c.bohm) < v then c.off - rise c (draw + 1048576000 / c.bohm) else v) = v := if_neg (by omega)
    go_enter Try.func29, Try.ntmps29
    go_wp2_with fail
    have q0 : (w.alloc (.cells #[.int .i64 c.num, .int .i64 c.den, .int .i64 c.supply, .int .i64 c.feed, .int .i64 c.ohm, .int .i64 c.on, .int .i64 c.off, .int .i64 c.bohm] 23)).cell? ⟨w.heap.size, 0, none⟩ = some (.int .i64 c.num) := by go_simp
    have q1 : (w.alloc (.cells #[.int .i64 c.num, .int .i64 c.den, .int .i64 c.supply, .int .i64 c.feed, .int .i64 c.ohm, .int .i64 c.on, .int .i64 c.off, .int .i64 c.bohm] 23)).cell? ⟨w.heap.size, 1, none⟩ = some (.int .i64 c.den) := by go_simp
    have q2 : (w.alloc (.cells #[.int .i64 c.num, .int .i64 c.den, .int .i64 c.supply, .int .i64 c.feed, .int .i64 c.ohm, .int .i64 c.on, .int .i64 c.off, .int .i64 c.bohm] 23)).cell? ⟨w.heap.size, 2, none⟩ = some (.int .i64 c.supply) := by go_simp
    have q3 : (w.alloc (.cells #[.int .i64 c.num, .int .i64 c.den, .int .i64 c.supply, .int .i64 c.feed, .int .i64 c.ohm, .int .i64 c.on, .int .i64 c.off, .int .i64 c.bohm] 23)).cell? ⟨w.heap.size, 3, none⟩ = some (.int .i64 c.feed) := by go_simp
    have q4 : (w.alloc (.cells #[.int .i64 c.num, .int .i64 c.den, .int .i64 c.supply, .int .i64 c.feed, .int .i64 c.ohm, .int .i64 c.on, .int .i64 c.off, .int .i64 c.bohm] 23)).cell? ⟨w.heap.size, 4, none⟩ = some (.int .i64 c.ohm) := by go_simp
    have q5 : (w.alloc (.cells #[.int .i64 c.num, .int .i64 c.den, .int .i64 c.supply, .int .i64 c.feed, .int .i64 c.ohm, .int .i64 c.on, .int .i64 c.off, .int .i64 c.bohm] 23)).cell? ⟨w.heap.size, 5, none⟩ = some (.int .i64 c.on) := by go_simp
    have q6 : (w.alloc (.cells #[.int .i64 c.num, .int .i64 c.den, .int .i64 c.supply, .int .i64 c.feed, .int .i64 c.ohm, .int .i64 c.on, .int .i64 c.off, .int .i64 c.bohm] 23)).cell? ⟨w.heap.size, 6, none⟩ = some (.int .i64 c.off) := by go_simp
    have q7 : (w.alloc (.cells #[.int .i64 c.num, .int .i64 c.den, .int .i64 c.supply, .int .i64 c.feed, .int .i64 c.ohm, .int .i64 c.on, .int .i64 c.off, .int .i64 c.bohm] 23)).cell? ⟨w.heap.size, 7, none⟩ = some (.int .i64 c.bohm) := by go_simp
    go_region_held3 (fun w' => w'.cell? ⟨w.heap.size, 0, none⟩ = some (.int .i64 c.num) ∧ w'.cell? ⟨w.heap.size, 1, none⟩ = some (.int .i64 c.den) ∧ w'.cell? ⟨w.heap.size, 2, none⟩ = some (.int .i64 c.supply) ∧ w'.cell? ⟨w.heap.size, 3, none⟩ = some (.int .i64 c.feed) ∧ w'.cell? ⟨w.heap.size, 4, none⟩ = some (.int .i64 c.ohm) ∧ w'.cell? ⟨w.heap.size, 5, none⟩ = some (.int .i64 c.on) ∧ w'.cell? ⟨w.heap.size, 6, none⟩ = some (.int .i64 c.off) ∧ w'.cell? ⟨w.heap.size, 7, none⟩ = some (.int .i64 c.bohm)) ((first | exact ⟨q0, q1, q2, q3, q4, q5, q6, q7⟩ | exact ⟨(hb1.cell (p := ⟨w.heap.size, 0, none⟩) (by simp)).trans q0, (hb1.cell (p := ⟨w.heap.size, 1, none⟩) (by simp)).trans q1, (hb1.cell (p := ⟨w.heap.size, 2, none⟩) (by simp)).trans q2, (hb1.cell (p := ⟨w.heap.size, 3, none⟩) (by simp)).trans q3, (hb1.cell (p := ⟨w.heap.size, 4, none⟩) (by simp)).trans q4, (hb1.cell (p := ⟨w.heap.size, 5, none⟩) (by simp)).trans q5, (hb1.cell (p := ⟨w.heap.size, 6, none⟩) (by simp)).trans q6, (hb1.cell (p := ⟨w.heap.size, 7, none⟩) (by simp)).trans q7⟩)) (first | (go_at_call 35; refine (HD.out _).mono ?_; rintro e w1 ⟨rfl, hb1⟩; have z1 := hb1.size; (try simp at z1)))
    go_wp2_with fail
    have q0 : w1.cell? ⟨w.heap.size, 0, none⟩ = some (.int .i64 c.num) := by go_simp
    have q1 : w1.cell? ⟨w.heap.size, 1, none⟩ = some (.int .i64 c.den) := by go_simp
    have q2 : w1.cell? ⟨w.heap.size, 2, none⟩ = some (.int .i64 c.supply) := by go_simp
    have q3 : w1.cell? ⟨w.heap.size, 3, none⟩ = some (.int .i64 c.feed) := by go_simp
    have q4 : w1.cell? ⟨w.heap.size, 4, none⟩ = some (.int .i64 c.ohm) := by go_simp
    have q5 : w1.cell? ⟨w.heap.size, 5, none⟩ = some (.int .i64 c.on) := by go_simp
    have q6 : w1.cell? ⟨w.heap.size, 6, none⟩ = some (.int .i64 c.off) := by go_simp
    have q7 : w1.cell? ⟨w.heap.size, 7, none⟩ = some (.int .i64 c.bohm) := by go_simp
    have y1 : w.heap.size < w1.heap.size := size_after hb1
    go_region_held3 (fun w' => w'.cell? ⟨w.heap.size, 0, none⟩ = some (.int .i64 c.num) ∧ w'.cell? ⟨w.heap.size, 1, none⟩ = some (.int .i64 c.den) ∧ w'.cell? ⟨w.heap.size, 2, none⟩ = some (.int .i64 c.supply) ∧ w'.cell? ⟨w.heap.size, 3, none⟩ = some (.int .i64 c.feed) ∧ w'.cell? ⟨w.heap.size, 4, none⟩ = some (.int .i64 c.ohm) ∧ w'.cell? ⟨w.heap.size, 5, none⟩ = some (.int .i64 c.on) ∧ w'.cell? ⟨w.heap.size, 6, none⟩ = some (.int .i64 c.off) ∧ w'.cell? ⟨w.heap.size, 7, none⟩ = some (.int .i64 c.bohm)) ((first | exact ⟨q0, q1, q2, q3, q4, q5, q6, q7⟩ | exact ⟨(hb2.cell (p := ⟨w.heap.size, 0, none⟩) y1).trans q0, (hb2.cell (p := ⟨w.heap.size, 1, none⟩) y1).trans q1, (hb2.cell (p := ⟨w.heap.size, 2, none⟩) y1).trans q2, (hb2.cell (p := ⟨w.heap.size, 3, none⟩) y1).trans q3, (hb2.cell (p := ⟨w.heap.size, 4, none⟩) y1).trans q4, (hb2.cell (p := ⟨w.heap.size, 5, none⟩) y1).trans q5, (hb2.cell (p := ⟨w.heap.size, 6, none⟩) y1).trans q6, (hb2.cell (p := ⟨w.heap.size, 7, none⟩) y1).trans q7⟩)) (first | (go_at_call 35; refine (HR.out _).mono ?_; rintro e w2 ⟨rfl, hb2⟩; have z2 := hb2.size; (try simp at z2)))
    all_goals go_wp2
    all_goals go_ret
    all_goals exact ⟨ret_int (by rw [HX.out]; omega), (below_drew_trans hb1).drew.trans (hb2.mono (Nat.le_of_lt y1))⟩
end Go.Proofs.Ytahhebeceehbeaa
