/- Contracts of the link's other functions: Start, Holds, Ceiling, Climb, Fall and the reference's, for every configuration and argument. -/
import Derived.Test.YtahhebeceehbeaaLinkD
import Derived.Deep.RegionWith
import Derived.Deep.RegionHeld3
namespace Go.Proofs.Ytahhebeceehbeaa
open Go.RowKit LM

theorem rise_div {c : Cfg} (h : c.Rng) {d : Int} (hd : 0 ≤ d) : d * c.num / c.den = rise c d := by
  obtain ⟨⟨h1, _⟩, _⟩ := h
  unfold rise
  rw [Int.tdiv_eq_ediv_of_nonneg (Int.mul_nonneg hd h1)]

theorem fallR_div {c : Cfg} : 1048576000 / c.bohm = fallR c := by
  unfold fallR
  rw [Int.tdiv_eq_ediv_of_nonneg (by omega)]

theorem holds_div {c : Cfg} (h : c.Rng) : c.on * 1000 / c.bohm = (c.on * 1000).tdiv c.bohm := by
  obtain ⟨_, _, _, _, _, ⟨h1, _⟩, _⟩ := h
  rw [Int.tdiv_eq_ediv_of_nonneg (by omega)]

theorem div_le {a b B : Int} (h0 : 0 ≤ a) (h1 : a ≤ B) (hb : 1 ≤ b) : 0 ≤ a / b ∧ a / b ≤ B := by
  have := ediv_bd h0 hb
  omega

theorem below_drew_trans {w w1 : World} {o : Obj} (h : Below (w.alloc o).drew.heap.size (w.alloc o).drew w1) : Below w.heap.size w w1 :=
  (((Below.refl _ _).alloc (Nat.le_refl _) _).drew).trans (h.mono (by show w.heap.size ≤ (w.alloc o).heap.size; simp))

theorem mul_nn {a n A B : Int} (h1 : 0 ≤ a) (h2 : a ≤ A) (h3 : 0 ≤ n) (h4 : n ≤ B) : 0 ≤ a * n ∧ a * n ≤ A * B := by
  have e1 : a * n ≤ A * n := Int.mul_le_mul_of_nonneg_right h2 h3
  have e2 : A * n ≤ A * B := Int.mul_le_mul_of_nonneg_left h4 (by omega)
  exact ⟨Int.mul_nonneg h1 h3, by omega⟩

theorem ret_bi {b b' : Bool} {v : Value} (h : b = b') : Ending.returned (.tuple #[.bool b, v]) = .returned (.tuple #[.bool b', v]) := by rw [h]
theorem ret_ii {b b' : Int} {v : Value} (h : b = b') : Ending.returned (.tuple #[.int .i64 b, v]) = .returned (.tuple #[.int .i64 b', v]) := by rw [h]

set_option maxHeartbeats 2000000 in
theorem start_ok (c : Cfg) (h : c.Ok) (w : World) :
    Calls Try.prog 18 #[.agg #[.int .i64 c.num, .int .i64 c.den, .int .i64 c.supply, .int .i64 c.feed, .int .i64 c.ohm, .int .i64 c.on, .int .i64 c.off, .int .i64 c.bohm]] w fun e w' => e = .returned (.tuple #[.agg #[.int .i64 c.supply, .bool false], .nilIface]) ∧ Below w.heap.size w w' := by
  have HC := hide (fun W => check_ok c W h)
  obtain ⟨⟨k1, k2, k3, k4, k5, k6, k7, k8⟩, ⟨o1, o2⟩, hl⟩ := h
  clear hl
  go_enter Try.func18, Try.ntmps18
  go_wp2_with (first
    | (go_at_call 16; refine (HC.out _).mono ?_; rintro e w1 ⟨rfl, hb1⟩; have z1 := hb1.size; (try simp at z1); have c1x0 := bstep (b := w.heap.size) hb1 (by first | omega | (simp <;> omega)); have y1x0 : w.heap.size < w1.heap.size := (by omega); have c1x1 := bstep (b := w.heap.size + 1) hb1 (by first | omega | (simp <;> omega)); have y1x1 : w.heap.size + 1 < w1.heap.size := (by omega); have f1x0 := bfro (b := w.heap.size + 1) hb1 (by first | omega | (simp <;> omega))))
  refine bodyPost_ret (v := .tuple #[.agg #[.int .i64 c.supply, .bool false], .nilIface]) (by simp [results, Try.results18, go_sem, c1x1]) rfl ⟨rfl, ?_⟩
  have h0 : Below w.heap.size w w1 := (((Below.refl _ _).alloc (Nat.le_refl _) _).alloc (by simp) _).trans (hb1.mono (by simp <;> omega))
  exact (h0.setCell (by simp <;> omega) _).setCell (by simp <;> omega) _

set_option maxHeartbeats 2000000 in
theorem start_err (c : Cfg) (h : c.code ≠ 0) (w : World) :
    Calls Try.prog 18 #[.agg #[.int .i64 c.num, .int .i64 c.den, .int .i64 c.supply, .int .i64 c.feed, .int .i64 c.ohm, .int .i64 c.on, .int .i64 c.off, .int .i64 c.bohm]] w fun e w' => e = .returned (.tuple #[.agg #[.int .i64 0, .bool false], .iface 50 (.int .i64 c.code)]) ∧ Below w.heap.size w w' := by
  have HC := hide (fun W => check_err c W h)
  clear h
  go_enter Try.func18, Try.ntmps18
  go_wp2_with (first
    | (go_at_call 16; refine (HC.out _).mono ?_; rintro e w1 ⟨rfl, hb1⟩; have z1 := hb1.size; (try simp at z1); have c1x0 := bstep (b := w.heap.size) hb1 (by first | omega | (simp <;> omega)); have y1x0 : w.heap.size < w1.heap.size := (by omega); have c1x1 := bstep (b := w.heap.size + 1) hb1 (by first | omega | (simp <;> omega)); have y1x1 : w.heap.size + 1 < w1.heap.size := (by omega); have f1x0 := bfro (b := w.heap.size + 1) hb1 (by first | omega | (simp <;> omega))))
  refine bodyPost_ret (v := .tuple #[.agg #[.int .i64 0, .bool false], .iface 50 (.int .i64 c.code)]) (by simp [results, Try.results18, go_sem, c1x1]) rfl ⟨rfl, ?_⟩
  have h0 : Below w.heap.size w w1 := (((Below.refl _ _).alloc (Nat.le_refl _) _).alloc (by simp) _).trans (hb1.mono (by simp <;> omega))
  exact (h0.setCell (by simp <;> omega) _).setCell (by simp <;> omega) _

set_option maxHeartbeats 2000000 in
theorem holds_ok (c : Cfg) (h : c.Ok) (draw : Int) (d0 : 0 ≤ draw) (d1 : draw ≤ 4194304) (w : World) :
    Calls Try.prog 19 #[.agg #[.int .i64 c.num, .int .i64 c.den, .int .i64 c.supply, .int .i64 c.feed, .int .i64 c.ohm, .int .i64 c.on, .int .i64 c.off, .int .i64 c.bohm], .int .i64 draw] w fun e w' => e = .returned (.tuple #[.bool (holdsB c draw), .nilIface]) ∧ Below w.heap.size w w' := by
  have HR := hide (holds_div h.rng)
  have HC := hide (fun W => check_ok c W h)
  obtain ⟨⟨k1, k2, k3, k4, k5, k6, k7, k8⟩, ⟨o1, o2⟩, hl⟩ := h
  clear hl
  go_enter Try.func19, Try.ntmps19
  go_wp2_with (first
    | (go_at_call 16; refine (HC.out _).mono ?_; rintro e w1 ⟨rfl, hb1⟩; have z1 := hb1.size; (try simp at z1); have c1x0 := bstep (b := w.heap.size) hb1 (by first | omega | (simp <;> omega)); have y1x0 : w.heap.size < w1.heap.size := (by omega))
    | (go_at_call 34; first | (refine (within_yes _ _ _ _ (by omega) (by omega)).mono ?_; rintro e w9 ⟨rfl, rfl⟩) | (refine (within_no _ _ _ _ (by omega)).mono ?_; rintro e w9 ⟨rfl, rfl⟩)))
  go_ret2
  exact ⟨ret_bi (by rw [HR.out]; simp [holdsB]), ((Below.refl _ _).alloc (Nat.le_refl _) _).trans (hb1.mono (by simp <;> omega))⟩

set_option maxHeartbeats 2000000 in
theorem holds_out (c : Cfg) (h : c.Ok) (draw : Int) (d0 : ¬ (0 ≤ draw ∧ draw ≤ 4194304)) (w : World) :
    Calls Try.prog 19 #[.agg #[.int .i64 c.num, .int .i64 c.den, .int .i64 c.supply, .int .i64 c.feed, .int .i64 c.ohm, .int .i64 c.on, .int .i64 c.off, .int .i64 c.bohm], .int .i64 draw] w fun e w' => e = .returned (.tuple #[.bool false, .iface 50 (.int .i64 3)]) ∧ Below w.heap.size w w' := by
  have HC := hide (fun W => check_ok c W h)
  obtain ⟨⟨k1, k2, k3, k4, k5, k6, k7, k8⟩, ⟨o1, o2⟩, hl⟩ := h
  clear hl
  go_enter Try.func19, Try.ntmps19
  go_wp2_with (first
    | (go_at_call 16; refine (HC.out _).mono ?_; rintro e w1 ⟨rfl, hb1⟩; have z1 := hb1.size; (try simp at z1); have c1x0 := bstep (b := w.heap.size) hb1 (by first | omega | (simp <;> omega)); have y1x0 : w.heap.size < w1.heap.size := (by omega))
    | (go_at_call 34; first | (refine (within_yes _ _ _ _ (by omega) (by omega)).mono ?_; rintro e w9 ⟨rfl, rfl⟩) | (refine (within_no _ _ _ _ (by omega)).mono ?_; rintro e w9 ⟨rfl, rfl⟩)))
  go_ret2
  exact ⟨rfl, ((Below.refl _ _).alloc (Nat.le_refl _) _).trans (hb1.mono (by simp <;> omega))⟩

set_option maxHeartbeats 2000000 in
theorem holds_err (c : Cfg) (h : c.code ≠ 0) (draw : Int) (w : World) :
    Calls Try.prog 19 #[.agg #[.int .i64 c.num, .int .i64 c.den, .int .i64 c.supply, .int .i64 c.feed, .int .i64 c.ohm, .int .i64 c.on, .int .i64 c.off, .int .i64 c.bohm], .int .i64 draw] w fun e w' => e = .returned (.tuple #[.bool false, .iface 50 (.int .i64 c.code)]) ∧ Below w.heap.size w w' := by
  have HC := hide (fun W => check_err c W h)
  clear h
  go_enter Try.func19, Try.ntmps19
  go_wp2_with (first
    | (go_at_call 16; refine (HC.out _).mono ?_; rintro e w1 ⟨rfl, hb1⟩; have z1 := hb1.size; (try simp at z1); have c1x0 := bstep (b := w.heap.size) hb1 (by first | omega | (simp <;> omega)); have y1x0 : w.heap.size < w1.heap.size := (by omega))
    | (go_at_call 34; first | (refine (within_yes _ _ _ _ (by omega) (by omega)).mono ?_; rintro e w9 ⟨rfl, rfl⟩) | (refine (within_no _ _ _ _ (by omega)).mono ?_; rintro e w9 ⟨rfl, rfl⟩)))
  go_ret2
  exact ⟨rfl, ((Below.refl _ _).alloc (Nat.le_refl _) _).trans (hb1.mono (by simp <;> omega))⟩

set_option maxHeartbeats 2000000 in
theorem ceiling_err (c : Cfg) (h : c.code ≠ 0) (draw : Int) (w : World) :
    Calls Try.prog 20 #[.agg #[.int .i64 c.num, .int .i64 c.den, .int .i64 c.supply, .int .i64 c.feed, .int .i64 c.ohm, .int .i64 c.on, .int .i64 c.off, .int .i64 c.bohm], .int .i64 draw] w fun e w' => e = .returned (.tuple #[.int .i64 0, .iface 50 (.int .i64 c.code)]) ∧ Below w.heap.size w w' := by
  have HC := hide (holds_err c h draw)
  go_enter Try.func20, Try.ntmps20
  go_wp2_with (go_at_call 19; refine (HC.out _).mono ?_; rintro e w1 ⟨rfl, hb1⟩; have z1 := hb1.size; (try simp at z1); have c1x0 := bstep (b := w.heap.size) hb1 (by first | omega | (simp <;> omega)); have y1x0 : w.heap.size < w1.heap.size := (by omega))
  go_ret2
  exact ⟨rfl, ((Below.refl _ _).alloc (Nat.le_refl _) _).trans (hb1.mono (by simp <;> omega))⟩

set_option maxHeartbeats 2000000 in
theorem ceiling_out (c : Cfg) (h : c.Ok) (draw : Int) (d0 : ¬ (0 ≤ draw ∧ draw ≤ 4194304)) (w : World) :
    Calls Try.prog 20 #[.agg #[.int .i64 c.num, .int .i64 c.den, .int .i64 c.supply, .int .i64 c.feed, .int .i64 c.ohm, .int .i64 c.on, .int .i64 c.off, .int .i64 c.bohm], .int .i64 draw] w fun e w' => e = .returned (.tuple #[.int .i64 0, .iface 50 (.int .i64 3)]) ∧ Below w.heap.size w w' := by
  have HC := hide (holds_out c h draw d0)
  go_enter Try.func20, Try.ntmps20
  go_wp2_with (go_at_call 19; refine (HC.out _).mono ?_; rintro e w1 ⟨rfl, hb1⟩; have z1 := hb1.size; (try simp at z1); have c1x0 := bstep (b := w.heap.size) hb1 (by first | omega | (simp <;> omega)); have y1x0 : w.heap.size < w1.heap.size := (by omega))
  go_ret2
  exact ⟨rfl, ((Below.refl _ _).alloc (Nat.le_refl _) _).trans (hb1.mono (by simp <;> omega))⟩

set_option maxHeartbeats 2000000 in
theorem ceiling_no (c : Cfg) (h : c.Ok) (draw : Int) (d0 : 0 ≤ draw) (d1 : draw ≤ 4194304) (hh : holdsB c draw = false) (w : World) :
    Calls Try.prog 20 #[.agg #[.int .i64 c.num, .int .i64 c.den, .int .i64 c.supply, .int .i64 c.feed, .int .i64 c.ohm, .int .i64 c.on, .int .i64 c.off, .int .i64 c.bohm], .int .i64 draw] w fun e w' => e = .returned (.tuple #[.int .i64 0, .iface 50 (.int .i64 16)]) ∧ Below w.heap.size w w' := by
  have HC := hide (hh ▸ holds_ok c h draw d0 d1)
  go_enter Try.func20, Try.ntmps20
  go_wp2_with (go_at_call 19; refine (HC.out _).mono ?_; rintro e w1 ⟨rfl, hb1⟩; have z1 := hb1.size; (try simp at z1); have c1x0 := bstep (b := w.heap.size) hb1 (by first | omega | (simp <;> omega)); have y1x0 : w.heap.size < w1.heap.size := (by omega))
  go_ret2
  exact ⟨rfl, ((Below.refl _ _).alloc (Nat.le_refl _) _).trans (hb1.mono (by simp <;> omega))⟩

set_option maxHeartbeats 2000000 in
theorem ceiling_ok (c : Cfg) (h : c.Ok) (draw : Int) (d0 : 0 ≤ draw) (d1 : draw ≤ 4194304) (hh : holdsB c draw = true) (w : World) :
    Calls Try.prog 20 #[.agg #[.int .i64 c.num, .int .i64 c.den, .int .i64 c.supply, .int .i64 c.feed, .int .i64 c.ohm, .int .i64 c.on, .int .i64 c.off, .int .i64 c.bohm], .int .i64 draw] w fun e w' => e = .returned (.tuple #[.int .i64 (ceil c draw), .nilIface]) ∧ Below w.heap.size w w' := by
  have HR := hide (rise_div h.rng d0)
  have HC := hide (hh ▸ holds_ok c h draw d0 d1)
  obtain ⟨⟨k1, k2, k3, k4, k5, k6, k7, k8⟩, ⟨o1, o2⟩, hl⟩ := h
  obtain ⟨m0, m1⟩ := mul_nn d0 d1 k1.1 k1.2
  obtain ⟨e0, e1⟩ := div_le m0 m1 k2.1
  clear hl hh
  have g1 : IntKind.i64.wrap (c.on - 1) = c.on - 1 := IntWalk.i64_in _ (by omega)
  have g2 : IntKind.i64.wrap (draw * c.num) = draw * c.num := IntWalk.i64_in _ (by omega)
  have g3 : IntKind.i64.wrap ((draw * c.num).tdiv c.den) = draw * c.num / c.den := IntWalk.i64_quo _ _ (by omega)
  have g4 : IntKind.i64.wrap (c.on - 1 + draw * c.num / c.den) = c.on - 1 + draw * c.num / c.den := IntWalk.i64_in _ (by omega)
  have hne : (c.den == 0) = false := by simp; omega
  go_enter Try.func20, Try.ntmps20
  go_wp2_with (go_at_call 19; refine (HC.out _).mono ?_; rintro e w1 ⟨rfl, hb1⟩; have z1 := hb1.size; (try simp at z1); have c1x0 := bstep (b := w.heap.size) hb1 (by first | omega | (simp <;> omega)); have y1x0 : w.heap.size < w1.heap.size := (by omega))
  go_quiet (fail)
  clear g1 g2 g3 g4
  go_wp2
  all_goals go_ret2
  all_goals exact ⟨ret_ii (by unfold ceil; rw [← HR.out]; omega), below_drewN (((Below.refl _ _).alloc (Nat.le_refl _) _).trans (hb1.mono (by simp <;> omega))) _⟩

theorem rrise_any (c : Cfg) (h : c.Rng) (draw : Int) (d0 : 0 ≤ draw) (d1 : draw ≤ 2147483648) (w : World) :
    Calls Try.prog 35 #[.agg #[.int .i64 c.num, .int .i64 c.den, .int .i64 c.supply, .int .i64 c.feed, .int .i64 c.ohm, .int .i64 c.on, .int .i64 c.off, .int .i64 c.bohm], .int .i64 draw] w fun e w' => e = .returned (.int .i64 (rise c draw)) ∧ Below w.heap.size w w' := by
  have HR := hide (rise_div h d0)
  obtain ⟨k1, k2, k3, k4, k5, k6, k7, k8⟩ := h
  obtain ⟨m0, m1⟩ := mul_nn d0 d1 k1.1 k1.2
  obtain ⟨e0, e1⟩ := div_le m0 m1 k2.1
  go_enter Try.func35, Try.ntmps35
  go_wp2
  go_ret
  exact ⟨ret_int HR.out, (Below.refl _ _).alloc (Nat.le_refl _) _⟩

theorem rholds_any (c : Cfg) (h : c.Rng) (draw : Int) (w : World) :
    Calls Try.prog 21 #[.agg #[.int .i64 c.num, .int .i64 c.den, .int .i64 c.supply, .int .i64 c.feed, .int .i64 c.ohm, .int .i64 c.on, .int .i64 c.off, .int .i64 c.bohm], .int .i64 draw] w fun e w' => e = .returned (.bool (holdsB c draw)) ∧ Below w.heap.size w w' := by
  have HR := hide (holds_div h)
  obtain ⟨k1, k2, k3, k4, k5, k6, k7, k8⟩ := h
  go_enter Try.func21, Try.ntmps21
  go_wp2
  go_ret
  exact ⟨ret_bool (by rw [HR.out]; simp [holdsB]), (Below.refl _ _).alloc (Nat.le_refl _) _⟩

theorem rise_bd {c : Cfg} (h : c.Rng) {d D : Int} (h0 : 0 ≤ d) (h1 : d ≤ D) : 0 ≤ rise c d ∧ rise c d ≤ D * 1048576 := by
  obtain ⟨k1, k2, _⟩ := h
  obtain ⟨m0, m1⟩ := mul_nn h0 h1 k1.1 k1.2
  have e := div_le m0 m1 k2.1
  rw [rise, Int.tdiv_eq_ediv_of_nonneg m0]
  exact e

set_option maxHeartbeats 2000000 in
theorem rceiling_any (c : Cfg) (h : c.Rng) (draw : Int) (d0 : 0 ≤ draw) (d1 : draw ≤ 4194304) (w : World) :
    Calls Try.prog 23 #[.agg #[.int .i64 c.num, .int .i64 c.den, .int .i64 c.supply, .int .i64 c.feed, .int .i64 c.ohm, .int .i64 c.on, .int .i64 c.off, .int .i64 c.bohm], .int .i64 draw] w fun e w' => e = .returned (.int .i64 (ceil c draw)) ∧ Below w.heap.size w w' := by
  have HR := hide (rrise_any c h draw d0 (by omega))
  have hbd := rise_bd h d0 d1
  obtain ⟨k1, k2, k3, k4, k5, k6, k7, k8⟩ := h
  have g1 : IntKind.i64.wrap (c.on - 1) = c.on - 1 := IntWalk.i64_in _ (by omega)
  have g4 : IntKind.i64.wrap (c.on - 1 + rise c draw) = c.on - 1 + rise c draw := IntWalk.i64_in _ (by omega)
  rcases Int.lt_or_le 1048576 (c.on - 1 + rise c draw) with hm | hm
  all_goals
    go_enter Try.func23, Try.ntmps23
    go_wp2_with fail
    have q0 : (w.alloc (.cells #[.int .i64 c.num, .int .i64 c.den, .int .i64 c.supply, .int .i64 c.feed, .int .i64 c.ohm, .int .i64 c.on, .int .i64 c.off, .int .i64 c.bohm] 23)).cell? ⟨w.heap.size, 0, none⟩ = some (.int .i64 c.num) := by go_simp
    have q1 : (w.alloc (.cells #[.int .i64 c.num, .int .i64 c.den, .int .i64 c.supply, .int .i64 c.feed, .int .i64 c.ohm, .int .i64 c.on, .int .i64 c.off, .int .i64 c.bohm] 23)).cell? ⟨w.heap.size, 1, none⟩ = some (.int .i64 c.den) := by go_simp
    have q2 : (w.alloc (.cells #[.int .i64 c.num, .int .i64 c.den, .int .i64 c.supply, .int .i64 c.feed, .int .i64 c.ohm, .int .i64 c.on, .int .i64 c.off, .int .i64 c.bohm] 23)).cell? ⟨w.heap.size, 2, none⟩ = some (.int .i64 c.supply) := by go_simp
    have q3 : (w.alloc (.cells #[.int .i64 c.num, .int .i64 c.den, .int .i64 c.supply, .int .i64 c.feed, .int .i64 c.ohm, .int .i64 c.on, .int .i64 c.off, .int .i64 c.bohm] 23)).cell? ⟨w.heap.size, 3, none⟩ = some (.int .i64 c.feed) := by go_simp
    have q4 : (w.alloc (.cells #[.int .i64 c.num, .int .i64 c.den, .int .i64 c.supply, .int .i64 c.feed, .int .i64 c.ohm, .int .i64 c.on, .int .i64 c.off, .int .i64 c.bohm] 23)).cell? ⟨w.heap.size, 4, none⟩ = some (.int .i64 c.ohm) := by go_simp
    have q5 : (w.alloc (.cells #[.int .i64 c.num, .int .i64 c.den, .int .i64 c.supply, .int .i64 c.feed, .int .i64 c.ohm, .int .i64 c.on, .int .i64 c.off, .int .i64 c.bohm] 23)).cell? ⟨w.heap.size, 5, none⟩ = some (.int .i64 c.on) := by go_simp
    have q6 : (w.alloc (.cells #[.int .i64 c.num, .int .i64 c.den, .int .i64 c.supply, .int .i64 c.feed, .int .i64 c.ohm, .int .i64 c.on, .int .i64 c.off, .int .i64 c.bohm] 23)).cell? ⟨w.heap.size, 6, none⟩ = some (.int .i64 c.off) := by go_simp
    have q7 : (w.alloc (.cells #[.int .i64 c.num, .int .i64 c.den, .int .i64 c.supply, .int .i64 c.feed, .int .i64 c.ohm, .int .i64 c.on, .int .i64 c.off, .int .i64 c.bohm] 23)).cell? ⟨w.heap.size, 7, none⟩ = some (.int .i64 c.bohm) := by go_simp
    go_region_held3 (fun w' => w'.cell? ⟨w.heap.size, 0, none⟩ = some (.int .i64 c.num) ∧ w'.cell? ⟨w.heap.size, 1, none⟩ = some (.int .i64 c.den) ∧ w'.cell? ⟨w.heap.size, 2, none⟩ = some (.int .i64 c.supply) ∧ w'.cell? ⟨w.heap.size, 3, none⟩ = some (.int .i64 c.feed) ∧ w'.cell? ⟨w.heap.size, 4, none⟩ = some (.int .i64 c.ohm) ∧ w'.cell? ⟨w.heap.size, 5, none⟩ = some (.int .i64 c.on) ∧ w'.cell? ⟨w.heap.size, 6, none⟩ = some (.int .i64 c.off) ∧ w'.cell? ⟨w.heap.size, 7, none⟩ = some (.int .i64 c.bohm)) ((first | exact ⟨q0, q1, q2, q3, q4, q5, q6, q7⟩ | exact ⟨(hb1.cell (p := ⟨w.heap.size, 0, none⟩) (by simp)).trans q0, (hb1.cell (p := ⟨w.heap.size, 1, none⟩) (by simp)).trans q1, (hb1.cell (p := ⟨w.heap.size, 2, none⟩) (by simp)).trans q2, (hb1.cell (p := ⟨w.heap.size, 3, none⟩) (by simp)).trans q3, (hb1.cell (p := ⟨w.heap.size, 4, none⟩) (by simp)).trans q4, (hb1.cell (p := ⟨w.heap.size, 5, none⟩) (by simp)).trans q5, (hb1.cell (p := ⟨w.heap.size, 6, none⟩) (by simp)).trans q6, (hb1.cell (p := ⟨w.heap.size, 7, none⟩) (by simp)).trans q7⟩)) (first | (go_at_call 35; refine (HR.out _).mono ?_; rintro e w1 ⟨rfl, hb1⟩; have z1 := hb1.size; (try simp at z1)))
    all_goals go_wp2
    all_goals go_ret
    all_goals exact ⟨ret_int (by unfold ceil; omega), below_drew_trans hb1⟩
end Go.Proofs.Ytahhebeceehbeaa
