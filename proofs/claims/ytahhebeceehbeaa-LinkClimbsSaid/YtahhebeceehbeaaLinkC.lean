/- Walks of the reference's tick of the link, for every state and input. Condition: a checked configuration. -/
import Derived.Test.YtahhebeceehbeaaLinkB
namespace Go.Proofs.Ytahhebeceehbeaa
open Go.RowKit LM

theorem rclip_v (n : Int) (w : World) :
    Calls Try.prog 33 #[.int .i64 n, .int .i64 0, .int .i64 1048576] w fun e w' => e = .returned (.int .i64 (vclip n)) ∧ w = w' :=
  (rclip_any n 0 1048576 w).mono fun _ _ ⟨a, b⟩ => ⟨a.trans (ret_int (by unfold vclip; omega)), b⟩
theorem rclip_d (n : Int) (w : World) :
    Calls Try.prog 33 #[.int .i64 n, .int .i64 (-4194304), .int .i64 4194304] w fun e w' => e = .returned (.int .i64 (dclip n)) ∧ w = w' :=
  (rclip_any n (-4194304) 4194304 w).mono fun _ _ ⟨a, b⟩ => ⟨a.trans (ret_int (by unfold dclip; omega)), b⟩
theorem rclip_f (n f : Int) (w : World) :
    Calls Try.prog 33 #[.int .i64 n, .int .i64 0, .int .i64 f] w fun e w' => e = .returned (.int .i64 (fclip n f)) ∧ w = w' :=
  (rclip_any n 0 f w).mono fun _ _ ⟨a, b⟩ => ⟨a.trans (ret_int (by unfold fclip; omega)), b⟩
theorem below4 (w : World) (a b c d : Obj) : Below w.heap.size w ((((w.alloc a).alloc b).alloc c).alloc d) :=
  ((((Below.refl _ _).alloc (Nat.le_refl _) _).alloc (by simp) _).alloc (by simp; omega) _).alloc (by simp; omega) _
theorem ret_s {X X' : Int} {b b' : Bool} (h : X = X') (h' : b = b') : Ending.returned (.agg #[.int .i64 X, .bool b]) = .returned (.agg #[.int .i64 X', .bool b']) := by rw [h, h']

set_option maxHeartbeats 4000000 in
theorem rstep_Ann (c : Cfg) (h : c.Ok) (V d : Int) (b : Bool) (w : World) (q1 : c.on ≤ vclip V) :
    Calls Try.prog 15 #[cfgV c, stV V b, inV d false false] w fun e w' => e = .returned (stV (stepV c V b d false false) (stepB c V b)) ∧ Below w.heap.size w w' := by
  obtain ⟨hr, ho, hl⟩ := h
  obtain ⟨k1, k2, k3, k4, k5, k6, k7, k8⟩ := hr
  unfold Cfg.Ord at ho
  obtain ⟨o1, o2⟩ := ho
  obtain ⟨v0, v1⟩ := vclip_bd V
  obtain ⟨d0, d1⟩ := dclip_bd d
  have hB : brakeB c (vclip V) b = true := by simp [brakeB, q1]
  have HV : Hid (∀ N : Int, N = fclip (((c.supply - vclip V) * 1000).tdiv c.ohm) c.feed - dclip d - vclip V * 1000 / c.bohm → vclip (vclip V + (N * c.num).tdiv c.den) = stepV c V b d false false) := fun N hN =>
    step_val hB (srcV_live c _) (resV_on c (by omega)) hN
  have HB : Hid (true = stepB c V b) := hB.symm
  clear hB
  obtain ⟨f0, f1⟩ := fclip_bd (q := ((c.supply - vclip V) * 1000).tdiv c.ohm) k4.1
  obtain ⟨r0, r1⟩ := ediv_bd (a := vclip V * 1000) (b := c.bohm) (by omega) k8.1
  obtain ⟨n0, n1⟩ := mul_bd (a := fclip (((c.supply - vclip V) * 1000).tdiv c.ohm) c.feed - dclip d - vclip V * 1000 / c.bohm) (A := 2147483648) (by omega) (by omega) k1.1 k1.2 (by omega)
  obtain ⟨t0, t1⟩ := tdiv_abs (b := c.den) (by omega) n0 n1
  clear hl
  have g1 : IntKind.i64.wrap (c.supply - vclip V) = c.supply - vclip V := IntWalk.i64_in _ (by omega)
  have g2 : IntKind.i64.wrap ((c.supply - vclip V) * 1000) = (c.supply - vclip V) * 1000 := IntWalk.i64_in _ (by omega)
  have g3 : IntKind.i64.wrap (((c.supply - vclip V) * 1000).tdiv c.ohm) = ((c.supply - vclip V) * 1000).tdiv c.ohm := IntWalk.i64_quo' _ _ (by omega)
  have hne : (c.ohm == 0) = false := by simp; omega
  unfold cfgV stV inV
  go_enter Try.func15, Try.ntmps15
  go_wp2_with (go_at_call 33; first | (with_reducible refine (rclip_v _ _).mono ?_; rintro e w' ⟨rfl, rfl⟩) | (with_reducible refine (rclip_d _ _).mono ?_; rintro e w' ⟨rfl, rfl⟩) | (with_reducible refine (rclip_f _ _ _).mono ?_; rintro e w' ⟨rfl, rfl⟩))
  go_quiet ((go_at_call 33; exact quiet_left (rclip_f _ _ _)))
  clear g1 g2 g3
  go_wp2_with (go_at_call 33; first | (with_reducible refine (rclip_v _ _).mono ?_; rintro e w' ⟨rfl, rfl⟩) | (with_reducible refine (rclip_d _ _).mono ?_; rintro e w' ⟨rfl, rfl⟩) | (with_reducible refine (rclip_f _ _ _).mono ?_; rintro e w' ⟨rfl, rfl⟩))
  refine bodyPost_ret (v := .agg #[.int .i64 (vclip (vclip V + ((fclip (((c.supply - vclip V) * 1000).tdiv c.ohm) c.feed - dclip d - vclip V * 1000 / c.bohm) * c.num).tdiv c.den)), .bool true]) (by simp [results, Try.results15, go_sem]) rfl ⟨ret_s (HV.out _ (by omega)) HB.out, ?_⟩
  exact ((below_drewN (below4 w _ _ _ _) _).setCell (by simp; omega) _).setCell (by simp; omega) _

set_option maxHeartbeats 4000000 in
theorem rstep_Anb (c : Cfg) (h : c.Ok) (V d : Int) (b : Bool) (w : World) (q1 : c.on ≤ vclip V) :
    Calls Try.prog 15 #[cfgV c, stV V b, inV d false true] w fun e w' => e = .returned (stV (stepV c V b d false true) (stepB c V b)) ∧ Below w.heap.size w w' := by
  obtain ⟨hr, ho, hl⟩ := h
  obtain ⟨k1, k2, k3, k4, k5, k6, k7, k8⟩ := hr
  unfold Cfg.Ord at ho
  obtain ⟨o1, o2⟩ := ho
  obtain ⟨v0, v1⟩ := vclip_bd V
  obtain ⟨d0, d1⟩ := dclip_bd d
  have hB : brakeB c (vclip V) b = true := by simp [brakeB, q1]
  have HV : Hid (∀ N : Int, N = fclip (((c.supply - vclip V) * 1000).tdiv c.ohm) c.feed - dclip d - 0 → vclip (vclip V + (N * c.num).tdiv c.den) = stepV c V b d false true) := fun N hN =>
    step_val hB (srcV_live c _) (resV_off c _ _ (by simp)) hN
  have HB : Hid (true = stepB c V b) := hB.symm
  clear hB
  obtain ⟨f0, f1⟩ := fclip_bd (q := ((c.supply - vclip V) * 1000).tdiv c.ohm) k4.1
  obtain ⟨r0, r1⟩ := ediv_bd (a := vclip V * 1000) (b := c.bohm) (by omega) k8.1
  obtain ⟨n0, n1⟩ := mul_bd (a := fclip (((c.supply - vclip V) * 1000).tdiv c.ohm) c.feed - dclip d) (A := 2147483648) (by omega) (by omega) k1.1 k1.2 (by omega)
  obtain ⟨t0, t1⟩ := tdiv_abs (b := c.den) (by omega) n0 n1
  clear hl
  have g1 : IntKind.i64.wrap (c.supply - vclip V) = c.supply - vclip V := IntWalk.i64_in _ (by omega)
  have g2 : IntKind.i64.wrap ((c.supply - vclip V) * 1000) = (c.supply - vclip V) * 1000 := IntWalk.i64_in _ (by omega)
  have g3 : IntKind.i64.wrap (((c.supply - vclip V) * 1000).tdiv c.ohm) = ((c.supply - vclip V) * 1000).tdiv c.ohm := IntWalk.i64_quo' _ _ (by omega)
  have hne : (c.ohm == 0) = false := by simp; omega
  unfold cfgV stV inV
  go_enter Try.func15, Try.ntmps15
  go_wp2_with (go_at_call 33; first | (with_reducible refine (rclip_v _ _).mono ?_; rintro e w' ⟨rfl, rfl⟩) | (with_reducible refine (rclip_d _ _).mono ?_; rintro e w' ⟨rfl, rfl⟩) | (with_reducible refine (rclip_f _ _ _).mono ?_; rintro e w' ⟨rfl, rfl⟩))
  go_quiet ((go_at_call 33; exact quiet_left (rclip_f _ _ _)))
  clear g1 g2 g3
  go_wp2_with (go_at_call 33; first | (with_reducible refine (rclip_v _ _).mono ?_; rintro e w' ⟨rfl, rfl⟩) | (with_reducible refine (rclip_d _ _).mono ?_; rintro e w' ⟨rfl, rfl⟩) | (with_reducible refine (rclip_f _ _ _).mono ?_; rintro e w' ⟨rfl, rfl⟩))
  refine bodyPost_ret (v := .agg #[.int .i64 (vclip (vclip V + ((fclip (((c.supply - vclip V) * 1000).tdiv c.ohm) c.feed - dclip d) * c.num).tdiv c.den)), .bool true]) (by simp [results, Try.results15, go_sem]) rfl ⟨ret_s (HV.out _ (by omega)) HB.out, ?_⟩
  exact ((below_drewN (below4 w _ _ _ _) _).setCell (by simp; omega) _).setCell (by simp; omega) _

set_option maxHeartbeats 4000000 in
theorem rstep_Adn (c : Cfg) (h : c.Ok) (V d : Int) (b : Bool) (w : World) (q1 : c.on ≤ vclip V) :
    Calls Try.prog 15 #[cfgV c, stV V b, inV d true false] w fun e w' => e = .returned (stV (stepV c V b d true false) (stepB c V b)) ∧ Below w.heap.size w w' := by
  obtain ⟨hr, ho, hl⟩ := h
  obtain ⟨k1, k2, k3, k4, k5, k6, k7, k8⟩ := hr
  unfold Cfg.Ord at ho
  obtain ⟨o1, o2⟩ := ho
  obtain ⟨v0, v1⟩ := vclip_bd V
  obtain ⟨d0, d1⟩ := dclip_bd d
  have hB : brakeB c (vclip V) b = true := by simp [brakeB, q1]
  have HV : Hid (∀ N : Int, N = 0 - dclip d - vclip V * 1000 / c.bohm → vclip (vclip V + (N * c.num).tdiv c.den) = stepV c V b d true false) := fun N hN =>
    step_val hB (srcV_dead c _) (resV_on c (by omega)) hN
  have HB : Hid (true = stepB c V b) := hB.symm
  clear hB
  obtain ⟨f0, f1⟩ := fclip_bd (q := ((c.supply - vclip V) * 1000).tdiv c.ohm) k4.1
  obtain ⟨r0, r1⟩ := ediv_bd (a := vclip V * 1000) (b := c.bohm) (by omega) k8.1
  obtain ⟨n0, n1⟩ := mul_bd (a := -dclip d - vclip V * 1000 / c.bohm) (A := 2147483648) (by omega) (by omega) k1.1 k1.2 (by omega)
  obtain ⟨t0, t1⟩ := tdiv_abs (b := c.den) (by omega) n0 n1
  clear hl
  have g1 : IntKind.i64.wrap (c.supply - vclip V) = c.supply - vclip V := IntWalk.i64_in _ (by omega)
  have g2 : IntKind.i64.wrap ((c.supply - vclip V) * 1000) = (c.supply - vclip V) * 1000 := IntWalk.i64_in _ (by omega)
  have g3 : IntKind.i64.wrap (((c.supply - vclip V) * 1000).tdiv c.ohm) = ((c.supply - vclip V) * 1000).tdiv c.ohm := IntWalk.i64_quo' _ _ (by omega)
  have hne : (c.ohm == 0) = false := by simp; omega
  unfold cfgV stV inV
  go_enter Try.func15, Try.ntmps15
  go_wp2_with (go_at_call 33; first | (with_reducible refine (rclip_v _ _).mono ?_; rintro e w' ⟨rfl, rfl⟩) | (with_reducible refine (rclip_d _ _).mono ?_; rintro e w' ⟨rfl, rfl⟩) | (with_reducible refine (rclip_f _ _ _).mono ?_; rintro e w' ⟨rfl, rfl⟩))
  go_quiet ((go_at_call 33; exact quiet_left (rclip_f _ _ _)))
  clear g1 g2 g3
  go_wp2_with (go_at_call 33; first | (with_reducible refine (rclip_v _ _).mono ?_; rintro e w' ⟨rfl, rfl⟩) | (with_reducible refine (rclip_d _ _).mono ?_; rintro e w' ⟨rfl, rfl⟩) | (with_reducible refine (rclip_f _ _ _).mono ?_; rintro e w' ⟨rfl, rfl⟩))
  refine bodyPost_ret (v := .agg #[.int .i64 (vclip (vclip V + ((-dclip d - vclip V * 1000 / c.bohm) * c.num).tdiv c.den)), .bool true]) (by simp [results, Try.results15, go_sem]) rfl ⟨ret_s (HV.out _ (by omega)) HB.out, ?_⟩
  exact ((below_drewN (below4 w _ _ _ _) _).setCell (by simp; omega) _).setCell (by simp; omega) _

set_option maxHeartbeats 4000000 in
theorem rstep_Adb (c : Cfg) (h : c.Ok) (V d : Int) (b : Bool) (w : World) (q1 : c.on ≤ vclip V) :
    Calls Try.prog 15 #[cfgV c, stV V b, inV d true true] w fun e w' => e = .returned (stV (stepV c V b d true true) (stepB c V b)) ∧ Below w.heap.size w w' := by
  obtain ⟨hr, ho, hl⟩ := h
  obtain ⟨k1, k2, k3, k4, k5, k6, k7, k8⟩ := hr
  unfold Cfg.Ord at ho
  obtain ⟨o1, o2⟩ := ho
  obtain ⟨v0, v1⟩ := vclip_bd V
  obtain ⟨d0, d1⟩ := dclip_bd d
  have hB : brakeB c (vclip V) b = true := by simp [brakeB, q1]
  have HV : Hid (∀ N : Int, N = 0 - dclip d - 0 → vclip (vclip V + (N * c.num).tdiv c.den) = stepV c V b d true true) := fun N hN =>
    step_val hB (srcV_dead c _) (resV_off c _ _ (by simp)) hN
  have HB : Hid (true = stepB c V b) := hB.symm
  clear hB
  obtain ⟨f0, f1⟩ := fclip_bd (q := ((c.supply - vclip V) * 1000).tdiv c.ohm) k4.1
  obtain ⟨r0, r1⟩ := ediv_bd (a := vclip V * 1000) (b := c.bohm) (by omega) k8.1
  obtain ⟨n0, n1⟩ := mul_bd (a := -dclip d) (A := 2147483648) (by omega) (by omega) k1.1 k1.2 (by omega)
  obtain ⟨t0, t1⟩ := tdiv_abs (b := c.den) (by omega) n0 n1
  clear hl
  have g1 : IntKind.i64.wrap (c.supply - vclip V) = c.supply - vclip V := IntWalk.i64_in _ (by omega)
  have g2 : IntKind.i64.wrap ((c.supply - vclip V) * 1000) = (c.supply - vclip V) * 1000 := IntWalk.i64_in _ (by omega)
  have g3 : IntKind.i64.wrap (((c.supply - vclip V) * 1000).tdiv c.ohm) = ((c.supply - vclip V) * 1000).tdiv c.ohm := IntWalk.i64_quo' _ _ (by omega)
  have hne : (c.ohm == 0) = false := by simp; omega
  unfold cfgV stV inV
  go_enter Try.func15, Try.ntmps15
  go_wp2_with (go_at_call 33; first | (with_reducible refine (rclip_v _ _).mono ?_; rintro e w' ⟨rfl, rfl⟩) | (with_reducible refine (rclip_d _ _).mono ?_; rintro e w' ⟨rfl, rfl⟩) | (with_reducible refine (rclip_f _ _ _).mono ?_; rintro e w' ⟨rfl, rfl⟩))
  go_quiet ((go_at_call 33; exact quiet_left (rclip_f _ _ _)))
  clear g1 g2 g3
  go_wp2_with (go_at_call 33; first | (with_reducible refine (rclip_v _ _).mono ?_; rintro e w' ⟨rfl, rfl⟩) | (with_reducible refine (rclip_d _ _).mono ?_; rintro e w' ⟨rfl, rfl⟩) | (with_reducible refine (rclip_f _ _ _).mono ?_; rintro e w' ⟨rfl, rfl⟩))
  refine bodyPost_ret (v := .agg #[.int .i64 (vclip (vclip V + ((-dclip d) * c.num).tdiv c.den)), .bool true]) (by simp [results, Try.results15, go_sem]) rfl ⟨ret_s (HV.out _ (by omega)) HB.out, ?_⟩
  exact ((below_drewN (below4 w _ _ _ _) _).setCell (by simp; omega) _).setCell (by simp; omega) _

set_option maxHeartbeats 4000000 in
theorem rstep_Bnn (c : Cfg) (h : c.Ok) (V d : Int) (w : World) (q1 : vclip V < c.on) (q2 : c.off ≤ vclip V) :
    Calls Try.prog 15 #[cfgV c, stV V true, inV d false false] w fun e w' => e = .returned (stV (stepV c V true d false false) (stepB c V true)) ∧ Below w.heap.size w w' := by
  obtain ⟨hr, ho, hl⟩ := h
  obtain ⟨k1, k2, k3, k4, k5, k6, k7, k8⟩ := hr
  unfold Cfg.Ord at ho
  obtain ⟨o1, o2⟩ := ho
  obtain ⟨v0, v1⟩ := vclip_bd V
  obtain ⟨d0, d1⟩ := dclip_bd d
  have hB : brakeB c (vclip V) true = true := by simp [brakeB, q2]
  have HV : Hid (∀ N : Int, N = fclip (((c.supply - vclip V) * 1000).tdiv c.ohm) c.feed - dclip d - vclip V * 1000 / c.bohm → vclip (vclip V + (N * c.num).tdiv c.den) = stepV c V true d false false) := fun N hN =>
    step_val hB (srcV_live c _) (resV_on c (by omega)) hN
  have HB : Hid (true = stepB c V true) := hB.symm
  clear hB
  obtain ⟨f0, f1⟩ := fclip_bd (q := ((c.supply - vclip V) * 1000).tdiv c.ohm) k4.1
  obtain ⟨r0, r1⟩ := ediv_bd (a := vclip V * 1000) (b := c.bohm) (by omega) k8.1
  obtain ⟨n0, n1⟩ := mul_bd (a := fclip (((c.supply - vclip V) * 1000).tdiv c.ohm) c.feed - dclip d - vclip V * 1000 / c.bohm) (A := 2147483648) (by omega) (by omega) k1.1 k1.2 (by omega)
  obtain ⟨t0, t1⟩ := tdiv_abs (b := c.den) (by omega) n0 n1
  clear hl
  have g1 : IntKind.i64.wrap (c.supply - vclip V) = c.supply - vclip V := IntWalk.i64_in _ (by omega)
  have g2 : IntKind.i64.wrap ((c.supply - vclip V) * 1000) = (c.supply - vclip V) * 1000 := IntWalk.i64_in _ (by omega)
  have g3 : IntKind.i64.wrap (((c.supply - vclip V) * 1000).tdiv c.ohm) = ((c.supply - vclip V) * 1000).tdiv c.ohm := IntWalk.i64_quo' _ _ (by omega)
  have hne : (c.ohm == 0) = false := by simp; omega
  unfold cfgV stV inV
  go_enter Try.func15, Try.ntmps15
  go_wp2_with (go_at_call 33; first | (with_reducible refine (rclip_v _ _).mono ?_; rintro e w' ⟨rfl, rfl⟩) | (with_reducible refine (rclip_d _ _).mono ?_; rintro e w' ⟨rfl, rfl⟩) | (with_reducible refine (rclip_f _ _ _).mono ?_; rintro e w' ⟨rfl, rfl⟩))
  go_quiet ((go_at_call 33; exact quiet_left (rclip_f _ _ _)))
  clear g1 g2 g3
  go_wp2_with (go_at_call 33; first | (with_reducible refine (rclip_v _ _).mono ?_; rintro e w' ⟨rfl, rfl⟩) | (with_reducible refine (rclip_d _ _).mono ?_; rintro e w' ⟨rfl, rfl⟩) | (with_reducible refine (rclip_f _ _ _).mono ?_; rintro e w' ⟨rfl, rfl⟩))
  refine bodyPost_ret (v := .agg #[.int .i64 (vclip (vclip V + ((fclip (((c.supply - vclip V) * 1000).tdiv c.ohm) c.feed - dclip d - vclip V * 1000 / c.bohm) * c.num).tdiv c.den)), .bool true]) (by simp [results, Try.results15, go_sem]) rfl ⟨ret_s (HV.out _ (by omega)) HB.out, ?_⟩
  exact ((below_drewN (below4 w _ _ _ _) _).setCell (by simp; omega) _).setCell (by simp; omega) _

set_option maxHeartbeats 4000000 in
theorem rstep_Bnb (c : Cfg) (h : c.Ok) (V d : Int) (w : World) (q1 : vclip V < c.on) (q2 : c.off ≤ vclip V) :
    Calls Try.prog 15 #[cfgV c, stV V true, inV d false true] w fun e w' => e = .returned (stV (stepV c V true d false true) (stepB c V true)) ∧ Below w.heap.size w w' := by
  obtain ⟨hr, ho, hl⟩ := h
  obtain ⟨k1, k2, k3, k4, k5, k6, k7, k8⟩ := hr
  unfold Cfg.Ord at ho
  obtain ⟨o1, o2⟩ := ho
  obtain ⟨v0, v1⟩ := vclip_bd V
  obtain ⟨d0, d1⟩ := dclip_bd d
  have hB : brakeB c (vclip V) true = true := by simp [brakeB, q2]
  have HV : Hid (∀ N : Int, N = fclip (((c.supply - vclip V) * 1000).tdiv c.ohm) c.feed - dclip d - 0 → vclip (vclip V + (N * c.num).tdiv c.den) = stepV c V true d false true) := fun N hN =>
    step_val hB (srcV_live c _) (resV_off c _ _ (by simp)) hN
  have HB : Hid (true = stepB c V true) := hB.symm
  clear hB
  obtain ⟨f0, f1⟩ := fclip_bd (q := ((c.supply - vclip V) * 1000).tdiv c.ohm) k4.1
  obtain ⟨r0, r1⟩ := ediv_bd (a := vclip V * 1000) (b := c.bohm) (by omega) k8.1
  obtain ⟨n0, n1⟩ := mul_bd (a := fclip (((c.supply - vclip V) * 1000).tdiv c.ohm) c.feed - dclip d) (A := 2147483648) (by omega) (by omega) k1.1 k1.2 (by omega)
  obtain ⟨t0, t1⟩ := tdiv_abs (b := c.den) (by omega) n0 n1
  clear hl
  have g1 : IntKind.i64.wrap (c.supply - vclip V) = c.supply - vclip V := IntWalk.i64_in _ (by omega)
  have g2 : IntKind.i64.wrap ((c.supply - vclip V) * 1000) = (c.supply - vclip V) * 1000 := IntWalk.i64_in _ (by omega)
  have g3 : IntKind.i64.wrap (((c.supply - vclip V) * 1000).tdiv c.ohm) = ((c.supply - vclip V) * 1000).tdiv c.ohm := IntWalk.i64_quo' _ _ (by omega)
  have hne : (c.ohm == 0) = false := by simp; omega
  unfold cfgV stV inV
  go_enter Try.func15, Try.ntmps15
  go_wp2_with (go_at_call 33; first | (with_reducible refine (rclip_v _ _).mono ?_; rintro e w' ⟨rfl, rfl⟩) | (with_reducible refine (rclip_d _ _).mono ?_; rintro e w' ⟨rfl, rfl⟩) | (with_reducible refine (rclip_f _ _ _).mono ?_; rintro e w' ⟨rfl, rfl⟩))
  go_quiet ((go_at_call 33; exact quiet_left (rclip_f _ _ _)))
  clear g1 g2 g3
  go_wp2_with (go_at_call 33; first | (with_reducible refine (rclip_v _ _).mono ?_; rintro e w' ⟨rfl, rfl⟩) | (with_reducible refine (rclip_d _ _).mono ?_; rintro e w' ⟨rfl, rfl⟩) | (with_reducible refine (rclip_f _ _ _).mono ?_; rintro e w' ⟨rfl, rfl⟩))
  refine bodyPost_ret (v := .agg #[.int .i64 (vclip (vclip V + ((fclip (((c.supply - vclip V) * 1000).tdiv c.ohm) c.feed - dclip d) * c.num).tdiv c.den)), .bool true]) (by simp [results, Try.results15, go_sem]) rfl ⟨ret_s (HV.out _ (by omega)) HB.out, ?_⟩
  exact ((below_drewN (below4 w _ _ _ _) _).setCell (by simp; omega) _).setCell (by simp; omega) _

set_option maxHeartbeats 4000000 in
theorem rstep_Bdn (c : Cfg) (h : c.Ok) (V d : Int) (w : World) (q1 : vclip V < c.on) (q2 : c.off ≤ vclip V) :
    Calls Try.prog 15 #[cfgV c, stV V true, inV d true false] w fun e w' => e = .returned (stV (stepV c V true d true false) (stepB c V true)) ∧ Below w.heap.size w w' := by
  obtain ⟨hr, ho, hl⟩ := h
  obtain ⟨k1, k2, k3, k4, k5, k6, k7, k8⟩ := hr
  unfold Cfg.Ord at ho
  obtain ⟨o1, o2⟩ := ho
  obtain ⟨v0, v1⟩ := vclip_bd V
  obtain ⟨d0, d1⟩ := dclip_bd d
  have hB : brakeB c (vclip V) true = true := by simp [brakeB, q2]
  have HV : Hid (∀ N : Int, N = 0 - dclip d - vclip V * 1000 / c.bohm → vclip (vclip V + (N * c.num).tdiv c.den) = stepV c V true d true false) := fun N hN =>
    step_val hB (srcV_dead c _) (resV_on c (by omega)) hN
  have HB : Hid (true = stepB c V true) := hB.symm
  clear hB
  obtain ⟨f0, f1⟩ := fclip_bd (q := ((c.supply - vclip V) * 1000).tdiv c.ohm) k4.1
  obtain ⟨r0, r1⟩ := ediv_bd (a := vclip V * 1000) (b := c.bohm) (by omega) k8.1
  obtain ⟨n0, n1⟩ := mul_bd (a := -dclip d - vclip V * 1000 / c.bohm) (A := 2147483648) (by omega) (by omega) k1.1 k1.2 (by omega)
  obtain ⟨t0, t1⟩ := tdiv_abs (b := c.den) (by omega) n0 n1
  clear hl
  have g1 : IntKind.i64.wrap (c.supply - vclip V) = c.supply - vclip V := IntWalk.i64_in _ (by omega)
  have g2 : IntKind.i64.wrap ((c.supply - vclip V) * 1000) = (c.supply - vclip V) * 1000 := IntWalk.i64_in _ (by omega)
  have g3 : IntKind.i64.wrap (((c.supply - vclip V) * 1000).tdiv c.ohm) = ((c.supply - vclip V) * 1000).tdiv c.ohm := IntWalk.i64_quo' _ _ (by omega)
  have hne : (c.ohm == 0) = false := by simp; omega
  unfold cfgV stV inV
  go_enter Try.func15, Try.ntmps15
  go_wp2_with (go_at_call 33; first | (with_reducible refine (rclip_v _ _).mono ?_; rintro e w' ⟨rfl, rfl⟩) | (with_reducible refine (rclip_d _ _).mono ?_; rintro e w' ⟨rfl, rfl⟩) | (with_reducible refine (rclip_f _ _ _).mono ?_; rintro e w' ⟨rfl, rfl⟩))
  go_quiet ((go_at_call 33; exact quiet_left (rclip_f _ _ _)))
  clear g1 g2 g3
  go_wp2_with (go_at_call 33; first | (with_reducible refine (rclip_v _ _).mono ?_; rintro e w' ⟨rfl, rfl⟩) | (with_reducible refine (rclip_d _ _).mono ?_; rintro e w' ⟨rfl, rfl⟩) | (with_reducible refine (rclip_f _ _ _).mono ?_; rintro e w' ⟨rfl, rfl⟩))
  refine bodyPost_ret (v := .agg #[.int .i64 (vclip (vclip V + ((-dclip d - vclip V * 1000 / c.bohm) * c.num).tdiv c.den)), .bool true]) (by simp [results, Try.results15, go_sem]) rfl ⟨ret_s (HV.out _ (by omega)) HB.out, ?_⟩
  exact ((below_drewN (below4 w _ _ _ _) _).setCell (by simp; omega) _).setCell (by simp; omega) _

set_option maxHeartbeats 4000000 in
theorem rstep_Bdb (c : Cfg) (h : c.Ok) (V d : Int) (w : World) (q1 : vclip V < c.on) (q2 : c.off ≤ vclip V) :
    Calls Try.prog 15 #[cfgV c, stV V true, inV d true true] w fun e w' => e = .returned (stV (stepV c V true d true true) (stepB c V true)) ∧ Below w.heap.size w w' := by
  obtain ⟨hr, ho, hl⟩ := h
  obtain ⟨k1, k2, k3, k4, k5, k6, k7, k8⟩ := hr
  unfold Cfg.Ord at ho
  obtain ⟨o1, o2⟩ := ho
  obtain ⟨v0, v1⟩ := vclip_bd V
  obtain ⟨d0, d1⟩ := dclip_bd d
  have hB : brakeB c (vclip V) true = true := by simp [brakeB, q2]
  have HV : Hid (∀ N : Int, N = 0 - dclip d - 0 → vclip (vclip V + (N * c.num).tdiv c.den) = stepV c V true d true true) := fun N hN =>
    step_val hB (srcV_dead c _) (resV_off c _ _ (by simp)) hN
  have HB : Hid (true = stepB c V true) := hB.symm
  clear hB
  obtain ⟨f0, f1⟩ := fclip_bd (q := ((c.supply - vclip V) * 1000).tdiv c.ohm) k4.1
  obtain ⟨r0, r1⟩ := ediv_bd (a := vclip V * 1000) (b := c.bohm) (by omega) k8.1
  obtain ⟨n0, n1⟩ := mul_bd (a := -dclip d) (A := 2147483648) (by omega) (by omega) k1.1 k1.2 (by omega)
  obtain ⟨t0, t1⟩ := tdiv_abs (b := c.den) (by omega) n0 n1
  clear hl
  have g1 : IntKind.i64.wrap (c.supply - vclip V) = c.supply - vclip V := IntWalk.i64_in _ (by omega)
  have g2 : IntKind.i64.wrap ((c.supply - vclip V) * 1000) = (c.supply - vclip V) * 1000 := IntWalk.i64_in _ (by omega)
  have g3 : IntKind.i64.wrap (((c.supply - vclip V) * 1000).tdiv c.ohm) = ((c.supply - vclip V) * 1000).tdiv c.ohm := IntWalk.i64_quo' _ _ (by omega)
  have hne : (c.ohm == 0) = false := by simp; omega
  unfold cfgV stV inV
  go_enter Try.func15, Try.ntmps15
  go_wp2_with (go_at_call 33; first | (with_reducible refine (rclip_v _ _).mono ?_; rintro e w' ⟨rfl, rfl⟩) | (with_reducible refine (rclip_d _ _).mono ?_; rintro e w' ⟨rfl, rfl⟩) | (with_reducible refine (rclip_f _ _ _).mono ?_; rintro e w' ⟨rfl, rfl⟩))
  go_quiet ((go_at_call 33; exact quiet_left (rclip_f _ _ _)))
  clear g1 g2 g3
  go_wp2_with (go_at_call 33; first | (with_reducible refine (rclip_v _ _).mono ?_; rintro e w' ⟨rfl, rfl⟩) | (with_reducible refine (rclip_d _ _).mono ?_; rintro e w' ⟨rfl, rfl⟩) | (with_reducible refine (rclip_f _ _ _).mono ?_; rintro e w' ⟨rfl, rfl⟩))
  refine bodyPost_ret (v := .agg #[.int .i64 (vclip (vclip V + ((-dclip d) * c.num).tdiv c.den)), .bool true]) (by simp [results, Try.results15, go_sem]) rfl ⟨ret_s (HV.out _ (by omega)) HB.out, ?_⟩
  exact ((below_drewN (below4 w _ _ _ _) _).setCell (by simp; omega) _).setCell (by simp; omega) _

set_option maxHeartbeats 4000000 in
theorem rstep_Cnn (c : Cfg) (h : c.Ok) (V d : Int) (w : World) (q1 : vclip V < c.on) (q2 : c.off ≤ vclip V) :
    Calls Try.prog 15 #[cfgV c, stV V false, inV d false false] w fun e w' => e = .returned (stV (stepV c V false d false false) (stepB c V false)) ∧ Below w.heap.size w w' := by
  obtain ⟨hr, ho, hl⟩ := h
  obtain ⟨k1, k2, k3, k4, k5, k6, k7, k8⟩ := hr
  unfold Cfg.Ord at ho
  obtain ⟨o1, o2⟩ := ho
  obtain ⟨v0, v1⟩ := vclip_bd V
  obtain ⟨d0, d1⟩ := dclip_bd d
  have hB : brakeB c (vclip V) false = false := by simp [brakeB, q1]
  have HV : Hid (∀ N : Int, N = fclip (((c.supply - vclip V) * 1000).tdiv c.ohm) c.feed - dclip d - 0 → vclip (vclip V + (N * c.num).tdiv c.den) = stepV c V false d false false) := fun N hN =>
    step_val hB (srcV_live c _) (resV_off c _ _ (by simp)) hN
  have HB : Hid (false = stepB c V false) := hB.symm
  clear hB
  obtain ⟨f0, f1⟩ := fclip_bd (q := ((c.supply - vclip V) * 1000).tdiv c.ohm) k4.1
  obtain ⟨r0, r1⟩ := ediv_bd (a := vclip V * 1000) (b := c.bohm) (by omega) k8.1
  obtain ⟨n0, n1⟩ := mul_bd (a := fclip (((c.supply - vclip V) * 1000).tdiv c.ohm) c.feed - dclip d) (A := 2147483648) (by omega) (by omega) k1.1 k1.2 (by omega)
  obtain ⟨t0, t1⟩ := tdiv_abs (b := c.den) (by omega) n0 n1
  clear hl
  have g1 : IntKind.i64.wrap (c.supply - vclip V) = c.supply - vclip V := IntWalk.i64_in _ (by omega)
  have g2 : IntKind.i64.wrap ((c.supply - vclip V) * 1000) = (c.supply - vclip V) * 1000 := IntWalk.i64_in _ (by omega)
  have g3 : IntKind.i64.wrap (((c.supply - vclip V) * 1000).tdiv c.ohm) = ((c.supply - vclip V) * 1000).tdiv c.ohm := IntWalk.i64_quo' _ _ (by omega)
  have hne : (c.ohm == 0) = false := by simp; omega
  unfold cfgV stV inV
  go_enter Try.func15, Try.ntmps15
  go_wp2_with (go_at_call 33; first | (with_reducible refine (rclip_v _ _).mono ?_; rintro e w' ⟨rfl, rfl⟩) | (with_reducible refine (rclip_d _ _).mono ?_; rintro e w' ⟨rfl, rfl⟩) | (with_reducible refine (rclip_f _ _ _).mono ?_; rintro e w' ⟨rfl, rfl⟩))
  go_quiet ((go_at_call 33; exact quiet_left (rclip_f _ _ _)))
  clear g1 g2 g3
  go_wp2_with (go_at_call 33; first | (with_reducible refine (rclip_v _ _).mono ?_; rintro e w' ⟨rfl, rfl⟩) | (with_reducible refine (rclip_d _ _).mono ?_; rintro e w' ⟨rfl, rfl⟩) | (with_reducible refine (rclip_f _ _ _).mono ?_; rintro e w' ⟨rfl, rfl⟩))
  refine bodyPost_ret (v := .agg #[.int .i64 (vclip (vclip V + ((fclip (((c.supply - vclip V) * 1000).tdiv c.ohm) c.feed - dclip d) * c.num).tdiv c.den)), .bool false]) (by simp [results, Try.results15, go_sem]) rfl ⟨ret_s (HV.out _ (by omega)) HB.out, ?_⟩
  exact ((below_drewN (below4 w _ _ _ _) _).setCell (by simp; omega) _).setCell (by simp; omega) _

set_option maxHeartbeats 4000000 in
theorem rstep_Cnb (c : Cfg) (h : c.Ok) (V d : Int) (w : World) (q1 : vclip V < c.on) (q2 : c.off ≤ vclip V) :
    Calls Try.prog 15 #[cfgV c, stV V false, inV d false true] w fun e w' => e = .returned (stV (stepV c V false d false true) (stepB c V false)) ∧ Below w.heap.size w w' := by
  obtain ⟨hr, ho, hl⟩ := h
  obtain ⟨k1, k2, k3, k4, k5, k6, k7, k8⟩ := hr
  unfold Cfg.Ord at ho
  obtain ⟨o1, o2⟩ := ho
  obtain ⟨v0, v1⟩ := vclip_bd V
  obtain ⟨d0, d1⟩ := dclip_bd d
  have hB : brakeB c (vclip V) false = false := by simp [brakeB, q1]
  have HV : Hid (∀ N : Int, N = fclip (((c.supply - vclip V) * 1000).tdiv c.ohm) c.feed - dclip d - 0 → vclip (vclip V + (N * c.num).tdiv c.den) = stepV c V false d false true) := fun N hN =>
    step_val hB (srcV_live c _) (resV_off c _ _ (by simp)) hN
  have HB : Hid (false = stepB c V false) := hB.symm
  clear hB
  obtain ⟨f0, f1⟩ := fclip_bd (q := ((c.supply - vclip V) * 1000).tdiv c.ohm) k4.1
  obtain ⟨r0, r1⟩ := ediv_bd (a := vclip V * 1000) (b := c.bohm) (by omega) k8.1
  obtain ⟨n0, n1⟩ := mul_bd (a := fclip (((c.supply - vclip V) * 1000).tdiv c.ohm) c.feed - dclip d) (A := 2147483648) (by omega) (by omega) k1.1 k1.2 (by omega)
  obtain ⟨t0, t1⟩ := tdiv_abs (b := c.den) (by omega) n0 n1
  clear hl
  have g1 : IntKind.i64.wrap (c.supply - vclip V) = c.supply - vclip V := IntWalk.i64_in _ (by omega)
  have g2 : IntKind.i64.wrap ((c.supply - vclip V) * 1000) = (c.supply - vclip V) * 1000 := IntWalk.i64_in _ (by omega)
  have g3 : IntKind.i64.wrap (((c.supply - vclip V) * 1000).tdiv c.ohm) = ((c.supply - vclip V) * 1000).tdiv c.ohm := IntWalk.i64_quo' _ _ (by omega)
  have hne : (c.ohm == 0) = false := by simp; omega
  unfold cfgV stV inV
  go_enter Try.func15, Try.ntmps15
  go_wp2_with (go_at_call 33; first | (with_reducible refine (rclip_v _ _).mono ?_; rintro e w' ⟨rfl, rfl⟩) | (with_reducible refine (rclip_d _ _).mono ?_; rintro e w' ⟨rfl, rfl⟩) | (with_reducible refine (rclip_f _ _ _).mono ?_; rintro e w' ⟨rfl, rfl⟩))
  go_quiet ((go_at_call 33; exact quiet_left (rclip_f _ _ _)))
  clear g1 g2 g3
  go_wp2_with (go_at_call 33; first | (with_reducible refine (rclip_v _ _).mono ?_; rintro e w' ⟨rfl, rfl⟩) | (with_reducible refine (rclip_d _ _).mono ?_; rintro e w' ⟨rfl, rfl⟩) | (with_reducible refine (rclip_f _ _ _).mono ?_; rintro e w' ⟨rfl, rfl⟩))
  refine bodyPost_ret (v := .agg #[.int .i64 (vclip (vclip V + ((fclip (((c.supply - vclip V) * 1000).tdiv c.ohm) c.feed - dclip d) * c.num).tdiv c.den)), .bool false]) (by simp [results, Try.results15, go_sem]) rfl ⟨ret_s (HV.out _ (by omega)) HB.out, ?_⟩
  exact ((below_drewN (below4 w _ _ _ _) _).setCell (by simp; omega) _).setCell (by simp; omega) _

set_option maxHeartbeats 4000000 in
theorem rstep_Cdn (c : Cfg) (h : c.Ok) (V d : Int) (w : World) (q1 : vclip V < c.on) (q2 : c.off ≤ vclip V) :
    Calls Try.prog 15 #[cfgV c, stV V false, inV d true false] w fun e w' => e = .returned (stV (stepV c V false d true false) (stepB c V false)) ∧ Below w.heap.size w w' := by
  obtain ⟨hr, ho, hl⟩ := h
  obtain ⟨k1, k2, k3, k4, k5, k6, k7, k8⟩ := hr
  unfold Cfg.Ord at ho
  obtain ⟨o1, o2⟩ := ho
  obtain ⟨v0, v1⟩ := vclip_bd V
  obtain ⟨d0, d1⟩ := dclip_bd d
  have hB : brakeB c (vclip V) false = false := by simp [brakeB, q1]
  have HV : Hid (∀ N : Int, N = 0 - dclip d - 0 → vclip (vclip V + (N * c.num).tdiv c.den) = stepV c V false d true false) := fun N hN =>
    step_val hB (srcV_dead c _) (resV_off c _ _ (by simp)) hN
  have HB : Hid (false = stepB c V false) := hB.symm
  clear hB
  obtain ⟨f0, f1⟩ := fclip_bd (q := ((c.supply - vclip V) * 1000).tdiv c.ohm) k4.1
  obtain ⟨r0, r1⟩ := ediv_bd (a := vclip V * 1000) (b := c.bohm) (by omega) k8.1
  obtain ⟨n0, n1⟩ := mul_bd (a := -dclip d) (A := 2147483648) (by omega) (by omega) k1.1 k1.2 (by omega)
  obtain ⟨t0, t1⟩ := tdiv_abs (b := c.den) (by omega) n0 n1
  clear hl
  have g1 : IntKind.i64.wrap (c.supply - vclip V) = c.supply - vclip V := IntWalk.i64_in _ (by omega)
  have g2 : IntKind.i64.wrap ((c.supply - vclip V) * 1000) = (c.supply - vclip V) * 1000 := IntWalk.i64_in _ (by omega)
  have g3 : IntKind.i64.wrap (((c.supply - vclip V) * 1000).tdiv c.ohm) = ((c.supply - vclip V) * 1000).tdiv c.ohm := IntWalk.i64_quo' _ _ (by omega)
  have hne : (c.ohm == 0) = false := by simp; omega
  unfold cfgV stV inV
  go_enter Try.func15, Try.ntmps15
  go_wp2_with (go_at_call 33; first | (with_reducible refine (rclip_v _ _).mono ?_; rintro e w' ⟨rfl, rfl⟩) | (with_reducible refine (rclip_d _ _).mono ?_; rintro e w' ⟨rfl, rfl⟩) | (with_reducible refine (rclip_f _ _ _).mono ?_; rintro e w' ⟨rfl, rfl⟩))
  go_quiet ((go_at_call 33; exact quiet_left (rclip_f _ _ _)))
  clear g1 g2 g3
  go_wp2_with (go_at_call 33; first | (with_reducible refine (rclip_v _ _).mono ?_; rintro e w' ⟨rfl, rfl⟩) | (with_reducible refine (rclip_d _ _).mono ?_; rintro e w' ⟨rfl, rfl⟩) | (with_reducible refine (rclip_f _ _ _).mono ?_; rintro e w' ⟨rfl, rfl⟩))
  refine bodyPost_ret (v := .agg #[.int .i64 (vclip (vclip V + ((-dclip d) * c.num).tdiv c.den)), .bool false]) (by simp [results, Try.results15, go_sem]) rfl ⟨ret_s (HV.out _ (by omega)) HB.out, ?_⟩
  exact ((below_drewN (below4 w _ _ _ _) _).setCell (by simp; omega) _).setCell (by simp; omega) _

set_option maxHeartbeats 4000000 in
theorem rstep_Cdb (c : Cfg) (h : c.Ok) (V d : Int) (w : World) (q1 : vclip V < c.on) (q2 : c.off ≤ vclip V) :
    Calls Try.prog 15 #[cfgV c, stV V false, inV d true true] w fun e w' => e = .returned (stV (stepV c V false d true true) (stepB c V false)) ∧ Below w.heap.size w w' := by
  obtain ⟨hr, ho, hl⟩ := h
  obtain ⟨k1, k2, k3, k4, k5, k6, k7, k8⟩ := hr
  unfold Cfg.Ord at ho
  obtain ⟨o1, o2⟩ := ho
  obtain ⟨v0, v1⟩ := vclip_bd V
  obtain ⟨d0, d1⟩ := dclip_bd d
  have hB : brakeB c (vclip V) false = false := by simp [brakeB, q1]
  have HV : Hid (∀ N : Int, N = 0 - dclip d - 0 → vclip (vclip V + (N * c.num).tdiv c.den) = stepV c V false d true true) := fun N hN =>
    step_val hB (srcV_dead c _) (resV_off c _ _ (by simp)) hN
  have HB : Hid (false = stepB c V false) := hB.symm
  clear hB
  obtain ⟨f0, f1⟩ := fclip_bd (q := ((c.supply - vclip V) * 1000).tdiv c.ohm) k4.1
  obtain ⟨r0, r1⟩ := ediv_bd (a := vclip V * 1000) (b := c.bohm) (by omega) k8.1
  obtain ⟨n0, n1⟩ := mul_bd (a := -dclip d) (A := 2147483648) (by omega) (by omega) k1.1 k1.2 (by omega)
  obtain ⟨t0, t1⟩ := tdiv_abs (b := c.den) (by omega) n0 n1
  clear hl
  have g1 : IntKind.i64.wrap (c.supply - vclip V) = c.supply - vclip V := IntWalk.i64_in _ (by omega)
  have g2 : IntKind.i64.wrap ((c.supply - vclip V) * 1000) = (c.supply - vclip V) * 1000 := IntWalk.i64_in _ (by omega)
  have g3 : IntKind.i64.wrap (((c.supply - vclip V) * 1000).tdiv c.ohm) = ((c.supply - vclip V) * 1000).tdiv c.ohm := IntWalk.i64_quo' _ _ (by omega)
  have hne : (c.ohm == 0) = false := by simp; omega
  unfold cfgV stV inV
  go_enter Try.func15, Try.ntmps15
  go_wp2_with (go_at_call 33; first | (with_reducible refine (rclip_v _ _).mono ?_; rintro e w' ⟨rfl, rfl⟩) | (with_reducible refine (rclip_d _ _).mono ?_; rintro e w' ⟨rfl, rfl⟩) | (with_reducible refine (rclip_f _ _ _).mono ?_; rintro e w' ⟨rfl, rfl⟩))
  go_quiet ((go_at_call 33; exact quiet_left (rclip_f _ _ _)))
  clear g1 g2 g3
  go_wp2_with (go_at_call 33; first | (with_reducible refine (rclip_v _ _).mono ?_; rintro e w' ⟨rfl, rfl⟩) | (with_reducible refine (rclip_d _ _).mono ?_; rintro e w' ⟨rfl, rfl⟩) | (with_reducible refine (rclip_f _ _ _).mono ?_; rintro e w' ⟨rfl, rfl⟩))
  refine bodyPost_ret (v := .agg #[.int .i64 (vclip (vclip V + ((-dclip d) * c.num).tdiv c.den)), .bool false]) (by simp [results, Try.results15, go_sem]) rfl ⟨ret_s (HV.out _ (by omega)) HB.out, ?_⟩
  exact ((below_drewN (below4 w _ _ _ _) _).setCell (by simp; omega) _).setCell (by simp; omega) _

set_option maxHeartbeats 4000000 in
theorem rstep_Dnn (c : Cfg) (h : c.Ok) (V d : Int) (b : Bool) (w : World) (q1 : vclip V < c.on) (q2 : vclip V < c.off) :
    Calls Try.prog 15 #[cfgV c, stV V b, inV d false false] w fun e w' => e = .returned (stV (stepV c V b d false false) (stepB c V b)) ∧ Below w.heap.size w w' := by
  obtain ⟨hr, ho, hl⟩ := h
  obtain ⟨k1, k2, k3, k4, k5, k6, k7, k8⟩ := hr
  unfold Cfg.Ord at ho
  obtain ⟨o1, o2⟩ := ho
  obtain ⟨v0, v1⟩ := vclip_bd V
  obtain ⟨d0, d1⟩ := dclip_bd d
  have hB : brakeB c (vclip V) b = false := by simp [brakeB]; omega
  have HV : Hid (∀ N : Int, N = fclip (((c.supply - vclip V) * 1000).tdiv c.ohm) c.feed - dclip d - 0 → vclip (vclip V + (N * c.num).tdiv c.den) = stepV c V b d false false) := fun N hN =>
    step_val hB (srcV_live c _) (resV_off c _ _ (by simp)) hN
  have HB : Hid (false = stepB c V b) := hB.symm
  clear hB
  obtain ⟨f0, f1⟩ := fclip_bd (q := ((c.supply - vclip V) * 1000).tdiv c.ohm) k4.1
  obtain ⟨r0, r1⟩ := ediv_bd (a := vclip V * 1000) (b := c.bohm) (by omega) k8.1
  obtain ⟨n0, n1⟩ := mul_bd (a := fclip (((c.supply - vclip V) * 1000).tdiv c.ohm) c.feed - dclip d) (A := 2147483648) (by omega) (by omega) k1.1 k1.2 (by omega)
  obtain ⟨t0, t1⟩ := tdiv_abs (b := c.den) (by omega) n0 n1
  clear hl
  have g1 : IntKind.i64.wrap (c.supply - vclip V) = c.supply - vclip V := IntWalk.i64_in _ (by omega)
  have g2 : IntKind.i64.wrap ((c.supply - vclip V) * 1000) = (c.supply - vclip V) * 1000 := IntWalk.i64_in _ (by omega)
  have g3 : IntKind.i64.wrap (((c.supply - vclip V) * 1000).tdiv c.ohm) = ((c.supply - vclip V) * 1000).tdiv c.ohm := IntWalk.i64_quo' _ _ (by omega)
  have hne : (c.ohm == 0) = false := by simp; omega
  unfold cfgV stV inV
  go_enter Try.func15, Try.ntmps15
  go_wp2_with (go_at_call 33; first | (with_reducible refine (rclip_v _ _).mono ?_; rintro e w' ⟨rfl, rfl⟩) | (with_reducible refine (rclip_d _ _).mono ?_; rintro e w' ⟨rfl, rfl⟩) | (with_reducible refine (rclip_f _ _ _).mono ?_; rintro e w' ⟨rfl, rfl⟩))
  go_quiet ((go_at_call 33; exact quiet_left (rclip_f _ _ _)))
  clear g1 g2 g3
  go_wp2_with (go_at_call 33; first | (with_reducible refine (rclip_v _ _).mono ?_; rintro e w' ⟨rfl, rfl⟩) | (with_reducible refine (rclip_d _ _).mono ?_; rintro e w' ⟨rfl, rfl⟩) | (with_reducible refine (rclip_f _ _ _).mono ?_; rintro e w' ⟨rfl, rfl⟩))
  refine bodyPost_ret (v := .agg #[.int .i64 (vclip (vclip V + ((fclip (((c.supply - vclip V) * 1000).tdiv c.ohm) c.feed - dclip d) * c.num).tdiv c.den)), .bool false]) (by simp [results, Try.results15, go_sem]) rfl ⟨ret_s (HV.out _ (by omega)) HB.out, ?_⟩
  exact ((below_drewN (below4 w _ _ _ _) _).setCell (by simp; omega) _).setCell (by simp; omega) _

set_option maxHeartbeats 4000000 in
theorem rstep_Dnb (c : Cfg) (h : c.Ok) (V d : Int) (b : Bool) (w : World) (q1 : vclip V < c.on) (q2 : vclip V < c.off) :
    Calls Try.prog 15 #[cfgV c, stV V b, inV d false true] w fun e w' => e = .returned (stV (stepV c V b d false true) (stepB c V b)) ∧ Below w.heap.size w w' := by
  obtain ⟨hr, ho, hl⟩ := h
  obtain ⟨k1, k2, k3, k4, k5, k6, k7, k8⟩ := hr
  unfold Cfg.Ord at ho
  obtain ⟨o1, o2⟩ := ho
  obtain ⟨v0, v1⟩ := vclip_bd V
  obtain ⟨d0, d1⟩ := dclip_bd d
  have hB : brakeB c (vclip V) b = false := by simp [brakeB]; omega
  have HV : Hid (∀ N : Int, N = fclip (((c.supply - vclip V) * 1000).tdiv c.ohm) c.feed - dclip d - 0 → vclip (vclip V + (N * c.num).tdiv c.den) = stepV c V b d false true) := fun N hN =>
    step_val hB (srcV_live c _) (resV_off c _ _ (by simp)) hN
  have HB : Hid (false = stepB c V b) := hB.symm
  clear hB
  obtain ⟨f0, f1⟩ := fclip_bd (q := ((c.supply - vclip V) * 1000).tdiv c.ohm) k4.1
  obtain ⟨r0, r1⟩ := ediv_bd (a := vclip V * 1000) (b := c.bohm) (by omega) k8.1
  obtain ⟨n0, n1⟩ := mul_bd (a := fclip (((c.supply - vclip V) * 1000).tdiv c.ohm) c.feed - dclip d) (A := 2147483648) (by omega) (by omega) k1.1 k1.2 (by omega)
  obtain ⟨t0, t1⟩ := tdiv_abs (b := c.den) (by omega) n0 n1
  clear hl
  have g1 : IntKind.i64.wrap (c.supply - vclip V) = c.supply - vclip V := IntWalk.i64_in _ (by omega)
  have g2 : IntKind.i64.wrap ((c.supply - vclip V) * 1000) = (c.supply - vclip V) * 1000 := IntWalk.i64_in _ (by omega)
  have g3 : IntKind.i64.wrap (((c.supply - vclip V) * 1000).tdiv c.ohm) = ((c.supply - vclip V) * 1000).tdiv c.ohm := IntWalk.i64_quo' _ _ (by omega)
  have hne : (c.ohm == 0) = false := by simp; omega
  unfold cfgV stV inV
  go_enter Try.func15, Try.ntmps15
  go_wp2_with (go_at_call 33; first | (with_reducible refine (rclip_v _ _).mono ?_; rintro e w' ⟨rfl, rfl⟩) | (with_reducible refine (rclip_d _ _).mono ?_; rintro e w' ⟨rfl, rfl⟩) | (with_reducible refine (rclip_f _ _ _).mono ?_; rintro e w' ⟨rfl, rfl⟩))
  go_quiet ((go_at_call 33; exact quiet_left (rclip_f _ _ _)))
  clear g1 g2 g3
  go_wp2_with (go_at_call 33; first | (with_reducible refine (rclip_v _ _).mono ?_; rintro e w' ⟨rfl, rfl⟩) | (with_reducible refine (rclip_d _ _).mono ?_; rintro e w' ⟨rfl, rfl⟩) | (with_reducible refine (rclip_f _ _ _).mono ?_; rintro e w' ⟨rfl, rfl⟩))
  refine bodyPost_ret (v := .agg #[.int .i64 (vclip (vclip V + ((fclip (((c.supply - vclip V) * 1000).tdiv c.ohm) c.feed - dclip d) * c.num).tdiv c.den)), .bool false]) (by simp [results, Try.results15, go_sem]) rfl ⟨ret_s (HV.out _ (by omega)) HB.out, ?_⟩
  exact ((below_drewN (below4 w _ _ _ _) _).setCell (by simp; omega) _).setCell (by simp; omega) _

set_option maxHeartbeats 4000000 in
theorem rstep_Ddn (c : Cfg) (h : c.Ok) (V d : Int) (b : Bool) (w : World) (q1 : vclip V < c.on) (q2 : vclip V < c.off) :
    Calls Try.prog 15 #[cfgV c, stV V b, inV d true false] w fun e w' => e = .returned (stV (stepV c V b d true false) (stepB c V b)) ∧ Below w.heap.size w w' := by
  obtain ⟨hr, ho, hl⟩ := h
  obtain ⟨k1, k2, k3, k4, k5, k6, k7, k8⟩ := hr
  unfold Cfg.Ord at ho
  obtain ⟨o1, o2⟩ := ho
  obtain ⟨v0, v1⟩ := vclip_bd V
  obtain ⟨d0, d1⟩ := dclip_bd d
  have hB : brakeB c (vclip V) b = false := by simp [brakeB]; omega
  have HV : Hid (∀ N : Int, N = 0 - dclip d - 0 → vclip (vclip V + (N * c.num).tdiv c.den) = stepV c V b d true false) := fun N hN =>
    step_val hB (srcV_dead c _) (resV_off c _ _ (by simp)) hN
  have HB : Hid (false = stepB c V b) := hB.symm
  clear hB
  obtain ⟨f0, f1⟩ := fclip_bd (q := ((c.supply - vclip V) * 1000).tdiv c.ohm) k4.1
  obtain ⟨r0, r1⟩ := ediv_bd (a := vclip V * 1000) (b := c.bohm) (by omega) k8.1
  obtain ⟨n0, n1⟩ := mul_bd (a := -dclip d) (A := 2147483648) (by omega) (by omega) k1.1 k1.2 (by omega)
  obtain ⟨t0, t1⟩ := tdiv_abs (b := c.den) (by omega) n0 n1
  clear hl
  have g1 : IntKind.i64.wrap (c.supply - vclip V) = c.supply - vclip V := IntWalk.i64_in _ (by omega)
  have g2 : IntKind.i64.wrap ((c.supply - vclip V) * 1000) = (c.supply - vclip V) * 1000 := IntWalk.i64_in _ (by omega)
  have g3 : IntKind.i64.wrap (((c.supply - vclip V) * 1000).tdiv c.ohm) = ((c.supply - vclip V) * 1000).tdiv c.ohm := IntWalk.i64_quo' _ _ (by omega)
  have hne : (c.ohm == 0) = false := by simp; omega
  unfold cfgV stV inV
  go_enter Try.func15, Try.ntmps15
  go_wp2_with (go_at_call 33; first | (with_reducible refine (rclip_v _ _).mono ?_; rintro e w' ⟨rfl, rfl⟩) | (with_reducible refine (rclip_d _ _).mono ?_; rintro e w' ⟨rfl, rfl⟩) | (with_reducible refine (rclip_f _ _ _).mono ?_; rintro e w' ⟨rfl, rfl⟩))
  go_quiet ((go_at_call 33; exact quiet_left (rclip_f _ _ _)))
  clear g1 g2 g3
  go_wp2_with (go_at_call 33; first | (with_reducible refine (rclip_v _ _).mono ?_; rintro e w' ⟨rfl, rfl⟩) | (with_reducible refine (rclip_d _ _).mono ?_; rintro e w' ⟨rfl, rfl⟩) | (with_reducible refine (rclip_f _ _ _).mono ?_; rintro e w' ⟨rfl, rfl⟩))
  refine bodyPost_ret (v := .agg #[.int .i64 (vclip (vclip V + ((-dclip d) * c.num).tdiv c.den)), .bool false]) (by simp [results, Try.results15, go_sem]) rfl ⟨ret_s (HV.out _ (by omega)) HB.out, ?_⟩
  exact ((below_drewN (below4 w _ _ _ _) _).setCell (by simp; omega) _).setCell (by simp; omega) _

set_option maxHeartbeats 4000000 in
theorem rstep_Ddb (c : Cfg) (h : c.Ok) (V d : Int) (b : Bool) (w : World) (q1 : vclip V < c.on) (q2 : vclip V < c.off) :
    Calls Try.prog 15 #[cfgV c, stV V b, inV d true true] w fun e w' => e = .returned (stV (stepV c V b d true true) (stepB c V b)) ∧ Below w.heap.size w w' := by
  obtain ⟨hr, ho, hl⟩ := h
  obtain ⟨k1, k2, k3, k4, k5, k6, k7, k8⟩ := hr
  unfold Cfg.Ord at ho
  obtain ⟨o1, o2⟩ := ho
  obtain ⟨v0, v1⟩ := vclip_bd V
  obtain ⟨d0, d1⟩ := dclip_bd d
  have hB : brakeB c (vclip V) b = false := by simp [brakeB]; omega
  have HV : Hid (∀ N : Int, N = 0 - dclip d - 0 → vclip (vclip V + (N * c.num).tdiv c.den) = stepV c V b d true true) := fun N hN =>
    step_val hB (srcV_dead c _) (resV_off c _ _ (by simp)) hN
  have HB : Hid (false = stepB c V b) := hB.symm
  clear hB
  obtain ⟨f0, f1⟩ := fclip_bd (q := ((c.supply - vclip V) * 1000).tdiv c.ohm) k4.1
  obtain ⟨r0, r1⟩ := ediv_bd (a := vclip V * 1000) (b := c.bohm) (by omega) k8.1
  obtain ⟨n0, n1⟩ := mul_bd (a := -dclip d) (A := 2147483648) (by omega) (by omega) k1.1 k1.2 (by omega)
  obtain ⟨t0, t1⟩ := tdiv_abs (b := c.den) (by omega) n0 n1
  clear hl
  have g1 : IntKind.i64.wrap (c.supply - vclip V) = c.supply - vclip V := IntWalk.i64_in _ (by omega)
  have g2 : IntKind.i64.wrap ((c.supply - vclip V) * 1000) = (c.supply - vclip V) * 1000 := IntWalk.i64_in _ (by omega)
  have g3 : IntKind.i64.wrap (((c.supply - vclip V) * 1000).tdiv c.ohm) = ((c.supply - vclip V) * 1000).tdiv c.ohm := IntWalk.i64_quo' _ _ (by omega)
  have hne : (c.ohm == 0) = false := by simp; omega
  unfold cfgV stV inV
  go_enter Try.func15, Try.ntmps15
  go_wp2_with (go_at_call 33; first | (with_reducible refine (rclip_v _ _).mono ?_; rintro e w' ⟨rfl, rfl⟩) | (with_reducible refine (rclip_d _ _).mono ?_; rintro e w' ⟨rfl, rfl⟩) | (with_reducible refine (rclip_f _ _ _).mono ?_; rintro e w' ⟨rfl, rfl⟩))
  go_quiet ((go_at_call 33; exact quiet_left (rclip_f _ _ _)))
  clear g1 g2 g3
  go_wp2_with (go_at_call 33; first | (with_reducible refine (rclip_v _ _).mono ?_; rintro e w' ⟨rfl, rfl⟩) | (with_reducible refine (rclip_d _ _).mono ?_; rintro e w' ⟨rfl, rfl⟩) | (with_reducible refine (rclip_f _ _ _).mono ?_; rintro e w' ⟨rfl, rfl⟩))
  refine bodyPost_ret (v := .agg #[.int .i64 (vclip (vclip V + ((-dclip d) * c.num).tdiv c.den)), .bool false]) (by simp [results, Try.results15, go_sem]) rfl ⟨ret_s (HV.out _ (by omega)) HB.out, ?_⟩
  exact ((below_drewN (below4 w _ _ _ _) _).setCell (by simp; omega) _).setCell (by simp; omega) _

end Go.Proofs.Ytahhebeceehbeaa
