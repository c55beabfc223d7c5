/- Walks of a tick of the link: the program's Step and the reference's, for every state and input. Condition: a checked configuration. -/
import Derived.Test.YtahhebeceehbeaaLinkA
import Derived.Deep.QuietTactic
import Derived.BigQuiet
namespace Go.Proofs.Ytahhebeceehbeaa
open Go.RowKit LM

def stV (V : Int) (b : Bool) : Value := .agg #[.int .i64 V, .bool b]
def inV (d : Int) (dead broken : Bool) : Value := .agg #[.int .i64 d, .bool dead, .bool broken]

def fclip (q f : Int) : Int := max 0 (min q f)

theorem bcell {W w1 : World} (hb : Below W.heap.size W w1) : (∀ b o, b < W.heap.size → w1.cell? ⟨b, o, none⟩ = W.cell? ⟨b, o, none⟩) ∧ (∀ b o, b < W.heap.size → w1.frozen? ⟨b, o, none⟩ = W.frozen? ⟨b, o, none⟩) :=
  ⟨fun b o h => hb.cell (p := ⟨b, o, none⟩) h, fun b o h => hb.frozen (p := ⟨b, o, none⟩) h⟩

theorem bstep {W w1 : World} {b : Nat} (h : Below W.heap.size W w1) (hb : b < W.heap.size) : ∀ o, w1.cell? ⟨b, o, none⟩ = W.cell? ⟨b, o, none⟩ := fun o => h.cell (p := ⟨b, o, none⟩) hb
theorem bfro {W w1 : World} {b : Nat} (h : Below W.heap.size W w1) (hb : b < W.heap.size) : ∀ o, w1.frozen? ⟨b, o, none⟩ = W.frozen? ⟨b, o, none⟩ := fun o => h.frozen (p := ⟨b, o, none⟩) hb

theorem clip_v (n : Int) (w : World) :
    Calls Try.prog 31 #[.int .i64 n, .int .i64 0, .int .i64 1048576] w fun e w' => e = .returned (.int .i64 (vclip n)) ∧ w = w' :=
  (clip_any n 0 1048576 w).mono fun _ _ ⟨a, b⟩ => ⟨a.trans (ret_int (by unfold vclip; omega)), b⟩
theorem clip_d (n : Int) (w : World) :
    Calls Try.prog 31 #[.int .i64 n, .int .i64 (-4194304), .int .i64 4194304] w fun e w' => e = .returned (.int .i64 (dclip n)) ∧ w = w' :=
  (clip_any n (-4194304) 4194304 w).mono fun _ _ ⟨a, b⟩ => ⟨a.trans (ret_int (by unfold dclip; omega)), b⟩
theorem clip_f (n f : Int) (w : World) (h : 0 ≤ f) :
    Calls Try.prog 31 #[.int .i64 n, .int .i64 0, .int .i64 f] w fun e w' => e = .returned (.int .i64 (fclip n f)) ∧ w = w' :=
  (clip_any n 0 f w).mono fun _ _ ⟨a, b⟩ => ⟨a.trans (ret_int (by unfold fclip; omega)), b⟩

theorem quiet_left {P : Program} {f : FuncId} {args : Array Value} {w : World} {n : Nat} {v : Value}
    (h : Calls P f args (w.drewN n) fun e w' => e = .returned v ∧ w.drewN n = w') : Calls P f args (w.drewN n) fun e w'' => e = .returned v ∧ ∃ m, w'' = w.drewN m :=
  h.mono fun _ _ ⟨he, hm⟩ => ⟨he, n, hm.symm⟩

theorem fclip_bd {q f : Int} (h : 0 ≤ f) : 0 ≤ fclip q f ∧ fclip q f ≤ f := by unfold fclip; omega

theorem mul_bd {a n A B : Int} (h1 : -A ≤ a) (h2 : a ≤ A) (h3 : 0 ≤ n) (h4 : n ≤ B) (hA : 0 ≤ A) : -(A * B) ≤ a * n ∧ a * n ≤ A * B := by
  have e1 : a * n ≤ A * n := Int.mul_le_mul_of_nonneg_right h2 h3
  have e2 : A * n ≤ A * B := Int.mul_le_mul_of_nonneg_left h4 hA
  have e3 : -A * n ≤ a * n := Int.mul_le_mul_of_nonneg_right h1 h3
  rw [Int.neg_mul] at e3
  omega

theorem ediv_bd {a b : Int} (h0 : 0 ≤ a) (hb : 1 ≤ b) : 0 ≤ a / b ∧ a / b ≤ a := ⟨Int.ediv_nonneg h0 (by omega), Int.ediv_le_self b h0⟩

theorem below_drewN {B : Nat} {a w : World} (h : Below B a w) (n : Nat) : Below B a (w.drewN n) := ⟨h.os, h.tape, h.output, h.size, h.block⟩

theorem ret_st {X X' : Int} {b b' : Bool} (h : X = X') (h' : b = b') : Ending.returned (.tuple #[.agg #[.int .i64 X, .bool b], .nilIface]) = .returned (.tuple #[.agg #[.int .i64 X', .bool b'], .nilIface]) := by rw [h, h']

theorem step_val {c : Cfg} {V d s r N : Int} {b dead broken on : Bool} (hB : brakeB c (vclip V) b = on) (hs : srcV c (vclip V) dead = s) (hr : resV c (vclip V) on broken = r) (hN : N = s - dclip d - r) :
    vclip (vclip V + (N * c.num).tdiv c.den) = stepV c V b d dead broken := by
  unfold stepV netV
  rw [hB, hs, hr, hN]
theorem srcV_dead (c : Cfg) (v : Int) : srcV c v true = 0 := rfl
theorem srcV_live (c : Cfg) (v : Int) : srcV c v false = fclip (((c.supply - v) * 1000).tdiv c.ohm) c.feed := rfl
theorem resV_on (c : Cfg) {v : Int} (h : 0 ≤ v) : resV c v true false = v * 1000 / c.bohm := by
  show (v * 1000).tdiv c.bohm = _
  rw [Int.tdiv_eq_ediv_of_nonneg (by omega)]
theorem resV_off (c : Cfg) (v : Int) (on : Bool) {broken : Bool} (h : (on && !broken) = false) : resV c v on broken = 0 := by
  unfold resV
  rw [h]
  rfl

set_option maxHeartbeats 4000000 in
theorem step_Ann (c : Cfg) (h : c.Ok) (V d : Int) (b : Bool) (w : World) (q1 : c.on ≤ vclip V) :
    Calls Try.prog 12 #[cfgV c, stV V b, inV d false false] w fun e w' => e = .returned (.tuple #[stV (stepV c V b d false false) (stepB c V b), .nilIface]) ∧ Below w.heap.size w w' := by
  have hc := fun W => check_ok c W h
  obtain ⟨hr, ho, hl⟩ := h
  obtain ⟨k1, k2, k3, k4, k5, k6, k7, k8⟩ := hr
  unfold Cfg.Ord at ho
  obtain ⟨o1, o2⟩ := ho
  obtain ⟨v0, v1⟩ := vclip_bd V
  obtain ⟨d0, d1⟩ := dclip_bd d
  have hB : brakeB c (vclip V) b = true := by simp [brakeB, q1]
  have HV : Hid (∀ N : Int, N = fclip (((c.supply - vclip V) * 1000).tdiv c.ohm) c.feed - dclip d - vclip V * 1000 / c.bohm → vclip (vclip V + (N * c.num).tdiv c.den) = stepV c V b d false false) := fun N hN =>
    step_val hB (srcV_live c _) (resV_on c (by omega)) hN
  have HB : Hid (true = stepB c V b) := hB.symm
  clear hB
  obtain ⟨f0, f1⟩ := fclip_bd (q := ((c.supply - vclip V) * 1000).tdiv c.ohm) k4.1
  have g1 : IntKind.i64.wrap (c.supply - vclip V) = c.supply - vclip V := IntWalk.i64_in _ (by omega)
  have g2 : IntKind.i64.wrap ((c.supply - vclip V) * 1000) = (c.supply - vclip V) * 1000 := IntWalk.i64_in _ (by omega)
  have g3 : IntKind.i64.wrap (((c.supply - vclip V) * 1000).tdiv c.ohm) = ((c.supply - vclip V) * 1000).tdiv c.ohm := IntWalk.i64_quo' _ _ (by omega)
  have g4 : IntKind.i64.wrap (-dclip d + fclip (((c.supply - vclip V) * 1000).tdiv c.ohm) c.feed) = -dclip d + fclip (((c.supply - vclip V) * 1000).tdiv c.ohm) c.feed := IntWalk.i64_in _ (by omega)
  have hne : (c.ohm == 0) = false := by simp; omega
  obtain ⟨r0, r1⟩ := ediv_bd (a := vclip V * 1000) (b := c.bohm) (by omega) k8.1
  obtain ⟨n0, n1⟩ := mul_bd (a := -dclip d + fclip (((c.supply - vclip V) * 1000).tdiv c.ohm) c.feed - vclip V * 1000 / c.bohm) (A := 2147483648) (by omega) (by omega) k1.1 k1.2 (by omega)
  obtain ⟨t0, t1⟩ := tdiv_abs (b := c.den) (by omega) n0 n1
  clear hl
  have HC := hide hc
  clear hc
  unfold cfgV stV inV
  go_enter Try.func12, Try.ntmps12
  go_wp2_with (first
    | (go_at_call 16; refine (HC.out _).mono ?_; rintro e w1 ⟨rfl, hb⟩; obtain ⟨hbc, hbf⟩ := bcell hb)
    | (go_at_call 31; first | (with_reducible refine (clip_v _ _).mono ?_; rintro e w' ⟨rfl, rfl⟩) | (with_reducible refine (clip_d _ _).mono ?_; rintro e w' ⟨rfl, rfl⟩)))
  go_quiet ((go_at_call 31; exact quiet_left (clip_f _ _ _ (by omega))))
  clear g1 g2 g3 g4
  have hz : w.heap.size + 1 + 1 + 1 < w1.heap.size := by have := hb.size; simp at this; omega
  go_wp2_with (go_at_call 31; refine (clip_v _ _).mono ?_; rintro e w' ⟨rfl, rfl⟩)
  refine bodyPost_ret (v := .tuple #[.agg #[.int .i64 (vclip (vclip V + ((-dclip d + fclip (((c.supply - vclip V) * 1000).tdiv c.ohm) c.feed - vclip V * 1000 / c.bohm) * c.num).tdiv c.den)), .bool true], .nilIface]) (by simp [results, Try.results12, go_sem, hbc]) rfl ⟨ret_st (HV.out _ (by omega)) HB.out, ?_⟩
  have hb0 : Below w.heap.size w w1 := Below.trans (((((Below.refl _ _).alloc (Nat.le_refl _) _).alloc (by simp) _).alloc (by simp; omega) _).alloc (by simp; omega) _) (hb.mono (by simp; omega))
  exact ((below_drewN hb0 _ : Below _ _ _).setCell (by simp; omega) _).setCell (by simp; omega) _

set_option maxHeartbeats 4000000 in
theorem step_Anb (c : Cfg) (h : c.Ok) (V d : Int) (b : Bool) (w : World) (q1 : c.on ≤ vclip V) :
    Calls Try.prog 12 #[cfgV c, stV V b, inV d false true] w fun e w' => e = .returned (.tuple #[stV (stepV c V b d false true) (stepB c V b), .nilIface]) ∧ Below w.heap.size w w' := by
  have hc := fun W => check_ok c W h
  obtain ⟨hr, ho, hl⟩ := h
  obtain ⟨k1, k2, k3, k4, k5, k6, k7, k8⟩ := hr
  unfold Cfg.Ord at ho
  obtain ⟨o1, o2⟩ := ho
  obtain ⟨v0, v1⟩ := vclip_bd V
  obtain ⟨d0, d1⟩ := dclip_bd d
  have hB : brakeB c (vclip V) b = true := by simp [brakeB, q1]
  have HV : Hid (∀ N : Int, N = fclip (((c.supply - vclip V) * 1000).tdiv c.ohm) c.feed - dclip d - 0 → vclip (vclip V + (N * c.num).tdiv c.den) = stepV c V b d false true) := fun N hN =>
    step_val hB (srcV_live c _) (resV_off c _ _ (by simp)) hN
  have HB : Hid (true = stepB c V b) := hB.symm
  clear hB
  obtain ⟨f0, f1⟩ := fclip_bd (q := ((c.supply - vclip V) * 1000).tdiv c.ohm) k4.1
  have g1 : IntKind.i64.wrap (c.supply - vclip V) = c.supply - vclip V := IntWalk.i64_in _ (by omega)
  have g2 : IntKind.i64.wrap ((c.supply - vclip V) * 1000) = (c.supply - vclip V) * 1000 := IntWalk.i64_in _ (by omega)
  have g3 : IntKind.i64.wrap (((c.supply - vclip V) * 1000).tdiv c.ohm) = ((c.supply - vclip V) * 1000).tdiv c.ohm := IntWalk.i64_quo' _ _ (by omega)
  have g4 : IntKind.i64.wrap (-dclip d + fclip (((c.supply - vclip V) * 1000).tdiv c.ohm) c.feed) = -dclip d + fclip (((c.supply - vclip V) * 1000).tdiv c.ohm) c.feed := IntWalk.i64_in _ (by omega)
  have hne : (c.ohm == 0) = false := by simp; omega
  obtain ⟨n0, n1⟩ := mul_bd (a := -dclip d + fclip (((c.supply - vclip V) * 1000).tdiv c.ohm) c.feed) (A := 2147483648) (by omega) (by omega) k1.1 k1.2 (by omega)
  obtain ⟨t0, t1⟩ := tdiv_abs (b := c.den) (by omega) n0 n1
  clear hl
  have HC := hide hc
  clear hc
  unfold cfgV stV inV
  go_enter Try.func12, Try.ntmps12
  go_wp2_with (first
    | (go_at_call 16; refine (HC.out _).mono ?_; rintro e w1 ⟨rfl, hb⟩; obtain ⟨hbc, hbf⟩ := bcell hb)
    | (go_at_call 31; first | (with_reducible refine (clip_v _ _).mono ?_; rintro e w' ⟨rfl, rfl⟩) | (with_reducible refine (clip_d _ _).mono ?_; rintro e w' ⟨rfl, rfl⟩)))
  go_quiet ((go_at_call 31; exact quiet_left (clip_f _ _ _ (by omega))))
  clear g1 g2 g3 g4
  have hz : w.heap.size + 1 + 1 + 1 < w1.heap.size := by have := hb.size; simp at this; omega
  go_wp2_with (go_at_call 31; refine (clip_v _ _).mono ?_; rintro e w' ⟨rfl, rfl⟩)
  refine bodyPost_ret (v := .tuple #[.agg #[.int .i64 (vclip (vclip V + ((-dclip d + fclip (((c.supply - vclip V) * 1000).tdiv c.ohm) c.feed) * c.num).tdiv c.den)), .bool true], .nilIface]) (by simp [results, Try.results12, go_sem, hbc]) rfl ⟨ret_st (HV.out _ (by omega)) HB.out, ?_⟩
  have hb0 : Below w.heap.size w w1 := Below.trans (((((Below.refl _ _).alloc (Nat.le_refl _) _).alloc (by simp) _).alloc (by simp; omega) _).alloc (by simp; omega) _) (hb.mono (by simp; omega))
  exact ((below_drewN hb0 _ : Below _ _ _).setCell (by simp; omega) _).setCell (by simp; omega) _

set_option maxHeartbeats 4000000 in
theorem step_Adn (c : Cfg) (h : c.Ok) (V d : Int) (b : Bool) (w : World) (q1 : c.on ≤ vclip V) :
    Calls Try.prog 12 #[cfgV c, stV V b, inV d true false] w fun e w' => e = .returned (.tuple #[stV (stepV c V b d true false) (stepB c V b), .nilIface]) ∧ Below w.heap.size w w' := by
  have hc := fun W => check_ok c W h
  obtain ⟨hr, ho, hl⟩ := h
  obtain ⟨k1, k2, k3, k4, k5, k6, k7, k8⟩ := hr
  unfold Cfg.Ord at ho
  obtain ⟨o1, o2⟩ := ho
  obtain ⟨v0, v1⟩ := vclip_bd V
  obtain ⟨d0, d1⟩ := dclip_bd d
  have hB : brakeB c (vclip V) b = true := by simp [brakeB, q1]
  have HV : Hid (∀ N : Int, N = 0 - dclip d - vclip V * 1000 / c.bohm → vclip (vclip V + (N * c.num).tdiv c.den) = stepV c V b d true false) := fun N hN =>
    step_val hB (srcV_dead c _) (resV_on c (by omega)) hN
  have HB : Hid (true = stepB c V b) := hB.symm
  clear hB
  obtain ⟨r0, r1⟩ := ediv_bd (a := vclip V * 1000) (b := c.bohm) (by omega) k8.1
  obtain ⟨n0, n1⟩ := mul_bd (a := -dclip d - vclip V * 1000 / c.bohm) (A := 2147483648) (by omega) (by omega) k1.1 k1.2 (by omega)
  obtain ⟨t0, t1⟩ := tdiv_abs (b := c.den) (by omega) n0 n1
  clear hl
  have HC := hide hc
  clear hc
  unfold cfgV stV inV
  go_enter Try.func12, Try.ntmps12
  go_wp2_with (first
    | (go_at_call 16; refine (HC.out _).mono ?_; rintro e w1 ⟨rfl, hb⟩; obtain ⟨hbc, hbf⟩ := bcell hb)
    | (go_at_call 31; first | (with_reducible refine (clip_v _ _).mono ?_; rintro e w' ⟨rfl, rfl⟩) | (with_reducible refine (clip_d _ _).mono ?_; rintro e w' ⟨rfl, rfl⟩)))
  have hz : w.heap.size + 1 + 1 + 1 < w1.heap.size := by have := hb.size; simp at this; omega
  go_wp2
  refine bodyPost_ret (v := .tuple #[.agg #[.int .i64 (vclip (vclip V + ((-dclip d - vclip V * 1000 / c.bohm) * c.num).tdiv c.den)), .bool true], .nilIface]) (by simp [results, Try.results12, go_sem, hbc]) rfl ⟨ret_st (HV.out _ (by omega)) HB.out, ?_⟩
  have hb0 : Below w.heap.size w w1 := Below.trans (((((Below.refl _ _).alloc (Nat.le_refl _) _).alloc (by simp) _).alloc (by simp; omega) _).alloc (by simp; omega) _) (hb.mono (by simp; omega))
  exact ((hb0 : Below _ _ _).setCell (by simp; omega) _).setCell (by simp; omega) _

set_option maxHeartbeats 4000000 in
theorem step_Adb (c : Cfg) (h : c.Ok) (V d : Int) (b : Bool) (w : World) (q1 : c.on ≤ vclip V) :
    Calls Try.prog 12 #[cfgV c, stV V b, inV d true true] w fun e w' => e = .returned (.tuple #[stV (stepV c V b d true true) (stepB c V b), .nilIface]) ∧ Below w.heap.size w w' := by
  have hc := fun W => check_ok c W h
  obtain ⟨hr, ho, hl⟩ := h
  obtain ⟨k1, k2, k3, k4, k5, k6, k7, k8⟩ := hr
  unfold Cfg.Ord at ho
  obtain ⟨o1, o2⟩ := ho
  obtain ⟨v0, v1⟩ := vclip_bd V
  obtain ⟨d0, d1⟩ := dclip_bd d
  have hB : brakeB c (vclip V) b = true := by simp [brakeB, q1]
  have HV : Hid (∀ N : Int, N = 0 - dclip d - 0 → vclip (vclip V + (N * c.num).tdiv c.den) = stepV c V b d true true) := fun N hN =>
    step_val hB (srcV_dead c _) (resV_off c _ _ (by simp)) hN
  have HB : Hid (true = stepB c V b) := hB.symm
  clear hB
  obtain ⟨n0, n1⟩ := mul_bd (a := -dclip d) (A := 2147483648) (by omega) (by omega) k1.1 k1.2 (by omega)
  obtain ⟨t0, t1⟩ := tdiv_abs (b := c.den) (by omega) n0 n1
  clear hl
  have HC := hide hc
  clear hc
  unfold cfgV stV inV
  go_enter Try.func12, Try.ntmps12
  go_wp2_with (first
    | (go_at_call 16; refine (HC.out _).mono ?_; rintro e w1 ⟨rfl, hb⟩; obtain ⟨hbc, hbf⟩ := bcell hb)
    | (go_at_call 31; first | (with_reducible refine (clip_v _ _).mono ?_; rintro e w' ⟨rfl, rfl⟩) | (with_reducible refine (clip_d _ _).mono ?_; rintro e w' ⟨rfl, rfl⟩)))
  have hz : w.heap.size + 1 + 1 + 1 < w1.heap.size := by have := hb.size; simp at this; omega
  go_wp2
  refine bodyPost_ret (v := .tuple #[.agg #[.int .i64 (vclip (vclip V + ((-dclip d) * c.num).tdiv c.den)), .bool true], .nilIface]) (by simp [results, Try.results12, go_sem, hbc]) rfl ⟨ret_st (HV.out _ (by omega)) HB.out, ?_⟩
  have hb0 : Below w.heap.size w w1 := Below.trans (((((Below.refl _ _).alloc (Nat.le_refl _) _).alloc (by simp) _).alloc (by simp; omega) _).alloc (by simp; omega) _) (hb.mono (by simp; omega))
  exact ((hb0 : Below _ _ _).setCell (by simp; omega) _).setCell (by simp; omega) _

set_option maxHeartbeats 4000000 in
theorem step_Bnn (c : Cfg) (h : c.Ok) (V d : Int) (w : World) (q1 : vclip V < c.on) (q2 : c.off ≤ vclip V) :
    Calls Try.prog 12 #[cfgV c, stV V true, inV d false false] w fun e w' => e = .returned (.tuple #[stV (stepV c V true d false false) (stepB c V true), .nilIface]) ∧ Below w.heap.size w w' := by
  have hc := fun W => check_ok c W h
  obtain ⟨hr, ho, hl⟩ := h
  obtain ⟨k1, k2, k3, k4, k5, k6, k7, k8⟩ := hr
  unfold Cfg.Ord at ho
  obtain ⟨o1, o2⟩ := ho
  obtain ⟨v0, v1⟩ := vclip_bd V
  obtain ⟨d0, d1⟩ := dclip_bd d
  have hB : brakeB c (vclip V) true = true := by simp [brakeB, q2]
  have HV : Hid (∀ N : Int, N = fclip (((c.supply - vclip V) * 1000).tdiv c.ohm) c.feed - dclip d - vclip V * 1000 / c.bohm → vclip (vclip V + (N * c.num).tdiv c.den) = stepV c V true d false false) := fun N hN =>
    step_val hB (srcV_live c _) (resV_on c (by omega)) hN
  have HB : Hid (true = stepB c V true) := hB.symm
  clear hB
  obtain ⟨f0, f1⟩ := fclip_bd (q := ((c.supply - vclip V) * 1000).tdiv c.ohm) k4.1
  have g1 : IntKind.i64.wrap (c.supply - vclip V) = c.supply - vclip V := IntWalk.i64_in _ (by omega)
  have g2 : IntKind.i64.wrap ((c.supply - vclip V) * 1000) = (c.supply - vclip V) * 1000 := IntWalk.i64_in _ (by omega)
  have g3 : IntKind.i64.wrap (((c.supply - vclip V) * 1000).tdiv c.ohm) = ((c.supply - vclip V) * 1000).tdiv c.ohm := IntWalk.i64_quo' _ _ (by omega)
  have g4 : IntKind.i64.wrap (-dclip d + fclip (((c.supply - vclip V) * 1000).tdiv c.ohm) c.feed) = -dclip d + fclip (((c.supply - vclip V) * 1000).tdiv c.ohm) c.feed := IntWalk.i64_in _ (by omega)
  have hne : (c.ohm == 0) = false := by simp; omega
  obtain ⟨r0, r1⟩ := ediv_bd (a := vclip V * 1000) (b := c.bohm) (by omega) k8.1
  obtain ⟨n0, n1⟩ := mul_bd (a := -dclip d + fclip (((c.supply - vclip V) * 1000).tdiv c.ohm) c.feed - vclip V * 1000 / c.bohm) (A := 2147483648) (by omega) (by omega) k1.1 k1.2 (by omega)
  obtain ⟨t0, t1⟩ := tdiv_abs (b := c.den) (by omega) n0 n1
  clear hl
  have HC := hide hc
  clear hc
  unfold cfgV stV inV
  go_enter Try.func12, Try.ntmps12
  go_wp2_with (first
    | (go_at_call 16; refine (HC.out _).mono ?_; rintro e w1 ⟨rfl, hb⟩; obtain ⟨hbc, hbf⟩ := bcell hb)
    | (go_at_call 31; first | (with_reducible refine (clip_v _ _).mono ?_; rintro e w' ⟨rfl, rfl⟩) | (with_reducible refine (clip_d _ _).mono ?_; rintro e w' ⟨rfl, rfl⟩)))
  go_quiet ((go_at_call 31; exact quiet_left (clip_f _ _ _ (by omega))))
  clear g1 g2 g3 g4
  have hz : w.heap.size + 1 + 1 + 1 < w1.heap.size := by have := hb.size; simp at this; omega
  go_wp2_with (go_at_call 31; refine (clip_v _ _).mono ?_; rintro e w' ⟨rfl, rfl⟩)
  refine bodyPost_ret (v := .tuple #[.agg #[.int .i64 (vclip (vclip V + ((-dclip d + fclip (((c.supply - vclip V) * 1000).tdiv c.ohm) c.feed - vclip V * 1000 / c.bohm) * c.num).tdiv c.den)), .bool true], .nilIface]) (by simp [results, Try.results12, go_sem, hbc]) rfl ⟨ret_st (HV.out _ (by omega)) HB.out, ?_⟩
  have hb0 : Below w.heap.size w w1 := Below.trans (((((Below.refl _ _).alloc (Nat.le_refl _) _).alloc (by simp) _).alloc (by simp; omega) _).alloc (by simp; omega) _) (hb.mono (by simp; omega))
  exact ((below_drewN hb0 _ : Below _ _ _).setCell (by simp; omega) _).setCell (by simp; omega) _

set_option maxHeartbeats 4000000 in
theorem step_Bnb (c : Cfg) (h : c.Ok) (V d : Int) (w : World) (q1 : vclip V < c.on) (q2 : c.off ≤ vclip V) :
    Calls Try.prog 12 #[cfgV c, stV V true, inV d false true] w fun e w' => e = .returned (.tuple #[stV (stepV c V true d false true) (stepB c V true), .nilIface]) ∧ Below w.heap.size w w' := by
  have hc := fun W => check_ok c W h
  obtain ⟨hr, ho, hl⟩ := h
  obtain ⟨k1, k2, k3, k4, k5, k6, k7, k8⟩ := hr
  unfold Cfg.Ord at ho
  obtain ⟨o1, o2⟩ := ho
  obtain ⟨v0, v1⟩ := vclip_bd V
  obtain ⟨d0, d1⟩ := dclip_bd d
  have hB : brakeB c (vclip V) true = true := by simp [brakeB, q2]
  have HV : Hid (∀ N : Int, N = fclip (((c.supply - vclip V) * 1000).tdiv c.ohm) c.feed - dclip d - 0 → vclip (vclip V + (N * c.num).tdiv c.den) = stepV c V true d false true) := fun N hN =>
    step_val hB (srcV_live c _) (resV_off c _ _ (by simp)) hN
  have HB : Hid (true = stepB c V true) := hB.symm
  clear hB
  obtain ⟨f0, f1⟩ := fclip_bd (q := ((c.supply - vclip V) * 1000).tdiv c.ohm) k4.1
  have g1 : IntKind.i64.wrap (c.supply - vclip V) = c.supply - vclip V := IntWalk.i64_in _ (by omega)
  have g2 : IntKind.i64.wrap ((c.supply - vclip V) * 1000) = (c.supply - vclip V) * 1000 := IntWalk.i64_in _ (by omega)
  have g3 : IntKind.i64.wrap (((c.supply - vclip V) * 1000).tdiv c.ohm) = ((c.supply - vclip V) * 1000).tdiv c.ohm := IntWalk.i64_quo' _ _ (by omega)
  have g4 : IntKind.i64.wrap (-dclip d + fclip (((c.supply - vclip V) * 1000).tdiv c.ohm) c.feed) = -dclip d + fclip (((c.supply - vclip V) * 1000).tdiv c.ohm) c.feed := IntWalk.i64_in _ (by omega)
  have hne : (c.ohm == 0) = false := by simp; omega
  obtain ⟨n0, n1⟩ := mul_bd (a := -dclip d + fclip (((c.supply - vclip V) * 1000).tdiv c.ohm) c.feed) (A := 2147483648) (by omega) (by omega) k1.1 k1.2 (by omega)
  obtain ⟨t0, t1⟩ := tdiv_abs (b := c.den) (by omega) n0 n1
  clear hl
  have HC := hide hc
  clear hc
  unfold cfgV stV inV
  go_enter Try.func12, Try.ntmps12
  go_wp2_with (first
    | (go_at_call 16; refine (HC.out _).mono ?_; rintro e w1 ⟨rfl, hb⟩; obtain ⟨hbc, hbf⟩ := bcell hb)
    | (go_at_call 31; first | (with_reducible refine (clip_v _ _).mono ?_; rintro e w' ⟨rfl, rfl⟩) | (with_reducible refine (clip_d _ _).mono ?_; rintro e w' ⟨rfl, rfl⟩)))
  go_quiet ((go_at_call 31; exact quiet_left (clip_f _ _ _ (by omega))))
  clear g1 g2 g3 g4
  have hz : w.heap.size + 1 + 1 + 1 < w1.heap.size := by have := hb.size; simp at this; omega
  go_wp2_with (go_at_call 31; refine (clip_v _ _).mono ?_; rintro e w' ⟨rfl, rfl⟩)
  refine bodyPost_ret (v := .tuple #[.agg #[.int .i64 (vclip (vclip V + ((-dclip d + fclip (((c.supply - vclip V) * 1000).tdiv c.ohm) c.feed) * c.num).tdiv c.den)), .bool true], .nilIface]) (by simp [results, Try.results12, go_sem, hbc]) rfl ⟨ret_st (HV.out _ (by omega)) HB.out, ?_⟩
  have hb0 : Below w.heap.size w w1 := Below.trans (((((Below.refl _ _).alloc (Nat.le_refl _) _).alloc (by simp) _).alloc (by simp; omega) _).alloc (by simp; omega) _) (hb.mono (by simp; omega))
  exact ((below_drewN hb0 _ : Below _ _ _).setCell (by simp; omega) _).setCell (by simp; omega) _

set_option maxHeartbeats 4000000 in
theorem step_Bdn (c : Cfg) (h : c.Ok) (V d : Int) (w : World) (q1 : vclip V < c.on) (q2 : c.off ≤ vclip V) :
    Calls Try.prog 12 #[cfgV c, stV V true, inV d true false] w fun e w' => e = .returned (.tuple #[stV (stepV c V true d true false) (stepB c V true), .nilIface]) ∧ Below w.heap.size w w' := by
  have hc := fun W => check_ok c W h
  obtain ⟨hr, ho, hl⟩ := h
  obtain ⟨k1, k2, k3, k4, k5, k6, k7, k8⟩ := hr
  unfold Cfg.Ord at ho
  obtain ⟨o1, o2⟩ := ho
  obtain ⟨v0, v1⟩ := vclip_bd V
  obtain ⟨d0, d1⟩ := dclip_bd d
  have hB : brakeB c (vclip V) true = true := by simp [brakeB, q2]
  have HV : Hid (∀ N : Int, N = 0 - dclip d - vclip V * 1000 / c.bohm → vclip (vclip V + (N * c.num).tdiv c.den) = stepV c V true d true false) := fun N hN =>
    step_val hB (srcV_dead c _) (resV_on c (by omega)) hN
  have HB : Hid (true = stepB c V true) := hB.symm
  clear hB
  obtain ⟨r0, r1⟩ := ediv_bd (a := vclip V * 1000) (b := c.bohm) (by omega) k8.1
  obtain ⟨n0, n1⟩ := mul_bd (a := -dclip d - vclip V * 1000 / c.bohm) (A := 2147483648) (by omega) (by omega) k1.1 k1.2 (by omega)
  obtain ⟨t0, t1⟩ := tdiv_abs (b := c.den) (by omega) n0 n1
  clear hl
  have HC := hide hc
  clear hc
  unfold cfgV stV inV
  go_enter Try.func12, Try.ntmps12
  go_wp2_with (first
    | (go_at_call 16; refine (HC.out _).mono ?_; rintro e w1 ⟨rfl, hb⟩; obtain ⟨hbc, hbf⟩ := bcell hb)
    | (go_at_call 31; first | (with_reducible refine (clip_v _ _).mono ?_; rintro e w' ⟨rfl, rfl⟩) | (with_reducible refine (clip_d _ _).mono ?_; rintro e w' ⟨rfl, rfl⟩)))
  have hz : w.heap.size + 1 + 1 + 1 < w1.heap.size := by have := hb.size; simp at this; omega
  go_wp2
  refine bodyPost_ret (v := .tuple #[.agg #[.int .i64 (vclip (vclip V + ((-dclip d - vclip V * 1000 / c.bohm) * c.num).tdiv c.den)), .bool true], .nilIface]) (by simp [results, Try.results12, go_sem, hbc]) rfl ⟨ret_st (HV.out _ (by omega)) HB.out, ?_⟩
  have hb0 : Below w.heap.size w w1 := Below.trans (((((Below.refl _ _).alloc (Nat.le_refl _) _).alloc (by simp) _).alloc (by simp; omega) _).alloc (by simp; omega) _) (hb.mono (by simp; omega))
  exact ((hb0 : Below _ _ _).setCell (by simp; omega) _).setCell (by simp; omega) _

set_option maxHeartbeats 4000000 in
theorem step_Bdb (c : Cfg) (h : c.Ok) (V d : Int) (w : World) (q1 : vclip V < c.on) (q2 : c.off ≤ vclip V) :
    Calls Try.prog 12 #[cfgV c, stV V true, inV d true true] w fun e w' => e = .returned (.tuple #[stV (stepV c V true d true true) (stepB c V true), .nilIface]) ∧ Below w.heap.size w w' := by
  have hc := fun W => check_ok c W h
  obtain ⟨hr, ho, hl⟩ := h
  obtain ⟨k1, k2, k3, k4, k5, k6, k7, k8⟩ := hr
  unfold Cfg.Ord at ho
  obtain ⟨o1, o2⟩ := ho
  obtain ⟨v0, v1⟩ := vclip_bd V
  obtain ⟨d0, d1⟩ := dclip_bd d
  have hB : brakeB c (vclip V) true = true := by simp [brakeB, q2]
  have HV : Hid (∀ N : Int, N = 0 - dclip d - 0 → vclip (vclip V + (N * c.num).tdiv c.den) = stepV c V true d true true) := fun N hN =>
    step_val hB (srcV_dead c _) (resV_off c _ _ (by simp)) hN
  have HB : Hid (true = stepB c V true) := hB.symm
  clear hB
  obtain ⟨n0, n1⟩ := mul_bd (a := -dclip d) (A := 2147483648) (by omega) (by omega) k1.1 k1.2 (by omega)
  obtain ⟨t0, t1⟩ := tdiv_abs (b := c.den) (by omega) n0 n1
  clear hl
  have HC := hide hc
  clear hc
  unfold cfgV stV inV
  go_enter Try.func12, Try.ntmps12
  go_wp2_with (first
    | (go_at_call 16; refine (HC.out _).mono ?_; rintro e w1 ⟨rfl, hb⟩; obtain ⟨hbc, hbf⟩ := bcell hb)
    | (go_at_call 31; first | (with_reducible refine (clip_v _ _).mono ?_; rintro e w' ⟨rfl, rfl⟩) | (with_reducible refine (clip_d _ _).mono ?_; rintro e w' ⟨rfl, rfl⟩)))
  have hz : w.heap.size + 1 + 1 + 1 < w1.heap.size := by have := hb.size; simp at this; omega
  go_wp2
  refine bodyPost_ret (v := .tuple #[.agg #[.int .i64 (vclip (vclip V + ((-dclip d) * c.num).tdiv c.den)), .bool true], .nilIface]) (by simp [results, Try.results12, go_sem, hbc]) rfl ⟨ret_st (HV.out _ (by omega)) HB.out, ?_⟩
  have hb0 : Below w.heap.size w w1 := Below.trans (((((Below.refl _ _).alloc (Nat.le_refl _) _).alloc (by simp) _).alloc (by simp; omega) _).alloc (by simp; omega) _) (hb.mono (by simp; omega))
  exact ((hb0 : Below _ _ _).setCell (by simp; omega) _).setCell (by simp; omega) _

set_option maxHeartbeats 4000000 in
theorem step_Cnn (c : Cfg) (h : c.Ok) (V d : Int) (w : World) (q1 : vclip V < c.on) (q2 : c.off ≤ vclip V) :
    Calls Try.prog 12 #[cfgV c, stV V false, inV d false false] w fun e w' => e = .returned (.tuple #[stV (stepV c V false d false false) (stepB c V false), .nilIface]) ∧ Below w.heap.size w w' := by
  have hc := fun W => check_ok c W h
  obtain ⟨hr, ho, hl⟩ := h
  obtain ⟨k1, k2, k3, k4, k5, k6, k7, k8⟩ := hr
  unfold Cfg.Ord at ho
  obtain ⟨o1, o2⟩ := ho
  obtain ⟨v0, v1⟩ := vclip_bd V
  obtain ⟨d0, d1⟩ := dclip_bd d
  have hB : brakeB c (vclip V) false = false := by simp [brakeB, q1]
  have HV : Hid (∀ N : Int, N = fclip (((c.supply - vclip V) * 1000).tdiv c.ohm) c.feed - dclip d - 0 → vclip (vclip V + (N * c.num).tdiv c.den) = stepV c V false d false false) := fun N hN =>
    step_val hB (srcV_live c _) (resV_off c _ _ (by simp)) hN
  have HB : Hid (false = stepB c V false) := hB.symm
  clear hB
  obtain ⟨f0, f1⟩ := fclip_bd (q := ((c.supply - vclip V) * 1000).tdiv c.ohm) k4.1
  have g1 : IntKind.i64.wrap (c.supply - vclip V) = c.supply - vclip V := IntWalk.i64_in _ (by omega)
  have g2 : IntKind.i64.wrap ((c.supply - vclip V) * 1000) = (c.supply - vclip V) * 1000 := IntWalk.i64_in _ (by omega)
  have g3 : IntKind.i64.wrap (((c.supply - vclip V) * 1000).tdiv c.ohm) = ((c.supply - vclip V) * 1000).tdiv c.ohm := IntWalk.i64_quo' _ _ (by omega)
  have g4 : IntKind.i64.wrap (-dclip d + fclip (((c.supply - vclip V) * 1000).tdiv c.ohm) c.feed) = -dclip d + fclip (((c.supply - vclip V) * 1000).tdiv c.ohm) c.feed := IntWalk.i64_in _ (by omega)
  have hne : (c.ohm == 0) = false := by simp; omega
  obtain ⟨n0, n1⟩ := mul_bd (a := -dclip d + fclip (((c.supply - vclip V) * 1000).tdiv c.ohm) c.feed) (A := 2147483648) (by omega) (by omega) k1.1 k1.2 (by omega)
  obtain ⟨t0, t1⟩ := tdiv_abs (b := c.den) (by omega) n0 n1
  clear hl
  have HC := hide hc
  clear hc
  unfold cfgV stV inV
  go_enter Try.func12, Try.ntmps12
  go_wp2_with (first
    | (go_at_call 16; refine (HC.out _).mono ?_; rintro e w1 ⟨rfl, hb⟩; obtain ⟨hbc, hbf⟩ := bcell hb)
    | (go_at_call 31; first | (with_reducible refine (clip_v _ _).mono ?_; rintro e w' ⟨rfl, rfl⟩) | (with_reducible refine (clip_d _ _).mono ?_; rintro e w' ⟨rfl, rfl⟩)))
  go_quiet ((go_at_call 31; exact quiet_left (clip_f _ _ _ (by omega))))
  clear g1 g2 g3 g4
  have hz : w.heap.size + 1 + 1 + 1 < w1.heap.size := by have := hb.size; simp at this; omega
  go_wp2_with (go_at_call 31; refine (clip_v _ _).mono ?_; rintro e w' ⟨rfl, rfl⟩)
  refine bodyPost_ret (v := .tuple #[.agg #[.int .i64 (vclip (vclip V + ((-dclip d + fclip (((c.supply - vclip V) * 1000).tdiv c.ohm) c.feed) * c.num).tdiv c.den)), .bool false], .nilIface]) (by simp [results, Try.results12, go_sem, hbc]) rfl ⟨ret_st (HV.out _ (by omega)) HB.out, ?_⟩
  have hb0 : Below w.heap.size w w1 := Below.trans (((((Below.refl _ _).alloc (Nat.le_refl _) _).alloc (by simp) _).alloc (by simp; omega) _).alloc (by simp; omega) _) (hb.mono (by simp; omega))
  exact ((below_drewN hb0 _ : Below _ _ _).setCell (by simp; omega) _).setCell (by simp; omega) _

set_option maxHeartbeats 4000000 in
theorem step_Cnb (c : Cfg) (h : c.Ok) (V d : Int) (w : World) (q1 : vclip V < c.on) (q2 : c.off ≤ vclip V) :
    Calls Try.prog 12 #[cfgV c, stV V false, inV d false true] w fun e w' => e = .returned (.tuple #[stV (stepV c V false d false true) (stepB c V false), .nilIface]) ∧ Below w.heap.size w w' := by
  have hc := fun W => check_ok c W h
  obtain ⟨hr, ho, hl⟩ := h
  obtain ⟨k1, k2, k3, k4, k5, k6, k7, k8⟩ := hr
  unfold Cfg.Ord at ho
  obtain ⟨o1, o2⟩ := ho
  obtain ⟨v0, v1⟩ := vclip_bd V
  obtain ⟨d0, d1⟩ := dclip_bd d
  have hB : brakeB c (vclip V) false = false := by simp [brakeB, q1]
  have HV : Hid (∀ N : Int, N = fclip (((c.supply - vclip V) * 1000).tdiv c.ohm) c.feed - dclip d - 0 → vclip (vclip V + (N * c.num).tdiv c.den) = stepV c V false d false true) := fun N hN =>
    step_val hB (srcV_live c _) (resV_off c _ _ (by simp)) hN
  have HB : Hid (false = stepB c V false) := hB.symm
  clear hB
  obtain ⟨f0, f1⟩ := fclip_bd (q := ((c.supply - vclip V) * 1000).tdiv c.ohm) k4.1
  have g1 : IntKind.i64.wrap (c.supply - vclip V) = c.supply - vclip V := IntWalk.i64_in _ (by omega)
  have g2 : IntKind.i64.wrap ((c.supply - vclip V) * 1000) = (c.supply - vclip V) * 1000 := IntWalk.i64_in _ (by omega)
  have g3 : IntKind.i64.wrap (((c.supply - vclip V) * 1000).tdiv c.ohm) = ((c.supply - vclip V) * 1000).tdiv c.ohm := IntWalk.i64_quo' _ _ (by omega)
  have g4 : IntKind.i64.wrap (-dclip d + fclip (((c.supply - vclip V) * 1000).tdiv c.ohm) c.feed) = -dclip d + fclip (((c.supply - vclip V) * 1000).tdiv c.ohm) c.feed := IntWalk.i64_in _ (by omega)
  have hne : (c.ohm == 0) = false := by simp; omega
  obtain ⟨n0, n1⟩ := mul_bd (a := -dclip d + fclip (((c.supply - vclip V) * 1000).tdiv c.ohm) c.feed) (A := 2147483648) (by omega) (by omega) k1.1 k1.2 (by omega)
  obtain ⟨t0, t1⟩ := tdiv_abs (b := c.den) (by omega) n0 n1
  clear hl
  have HC := hide hc
  clear hc
  unfold cfgV stV inV
  go_enter Try.func12, Try.ntmps12
  go_wp2_with (first
    | (go_at_call 16; refine (HC.out _).mono ?_; rintro e w1 ⟨rfl, hb⟩; obtain ⟨hbc, hbf⟩ := bcell hb)
    | (go_at_call 31; first | (with_reducible refine (clip_v _ _).mono ?_; rintro e w' ⟨rfl, rfl⟩) | (with_reducible refine (clip_d _ _).mono ?_; rintro e w' ⟨rfl, rfl⟩)))
  go_quiet ((go_at_call 31; exact quiet_left (clip_f _ _ _ (by omega))))
  clear g1 g2 g3 g4
  have hz : w.heap.size + 1 + 1 + 1 < w1.heap.size := by have := hb.size; simp at this; omega
  go_wp2_with (go_at_call 31; refine (clip_v _ _).mono ?_; rintro e w' ⟨rfl, rfl⟩)
  refine bodyPost_ret (v := .tuple #[.agg #[.int .i64 (vclip (vclip V + ((-dclip d + fclip (((c.supply - vclip V) * 1000).tdiv c.ohm) c.feed) * c.num).tdiv c.den)), .bool false], .nilIface]) (by simp [results, Try.results12, go_sem, hbc]) rfl ⟨ret_st (HV.out _ (by omega)) HB.out, ?_⟩
  have hb0 : Below w.heap.size w w1 := Below.trans (((((Below.refl _ _).alloc (Nat.le_refl _) _).alloc (by simp) _).alloc (by simp; omega) _).alloc (by simp; omega) _) (hb.mono (by simp; omega))
  exact ((below_drewN hb0 _ : Below _ _ _).setCell (by simp; omega) _).setCell (by simp; omega) _

set_option maxHeartbeats 4000000 in
theorem step_Cdn (c : Cfg) (h : c.Ok) (V d : Int) (w : World) (q1 : vclip V < c.on) (q2 : c.off ≤ vclip V) :
    Calls Try.prog 12 #[cfgV c, stV V false, inV d true false] w fun e w' => e = .returned (.tuple #[stV (stepV c V false d true false) (stepB c V false), .nilIface]) ∧ Below w.heap.size w w' := by
  have hc := fun W => check_ok c W h
  obtain ⟨hr, ho, hl⟩ := h
  obtain ⟨k1, k2, k3, k4, k5, k6, k7, k8⟩ := hr
  unfold Cfg.Ord at ho
  obtain ⟨o1, o2⟩ := ho
  obtain ⟨v0, v1⟩ := vclip_bd V
  obtain ⟨d0, d1⟩ := dclip_bd d
  have hB : brakeB c (vclip V) false = false := by simp [brakeB, q1]
  have HV : Hid (∀ N : Int, N = 0 - dclip d - 0 → vclip (vclip V + (N * c.num).tdiv c.den) = stepV c V false d true false) := fun N hN =>
    step_val hB (srcV_dead c _) (resV_off c _ _ (by simp)) hN
  have HB : Hid (false = stepB c V false) := hB.symm
  clear hB
  obtain ⟨n0, n1⟩ := mul_bd (a := -dclip d) (A := 2147483648) (by omega) (by omega) k1.1 k1.2 (by omega)
  obtain ⟨t0, t1⟩ := tdiv_abs (b := c.den) (by omega) n0 n1
  clear hl
  have HC := hide hc
  clear hc
  unfold cfgV stV inV
  go_enter Try.func12, Try.ntmps12
  go_wp2_with (first
    | (go_at_call 16; refine (HC.out _).mono ?_; rintro e w1 ⟨rfl, hb⟩; obtain ⟨hbc, hbf⟩ := bcell hb)
    | (go_at_call 31; first | (with_reducible refine (clip_v _ _).mono ?_; rintro e w' ⟨rfl, rfl⟩) | (with_reducible refine (clip_d _ _).mono ?_; rintro e w' ⟨rfl, rfl⟩)))
  have hz : w.heap.size + 1 + 1 + 1 < w1.heap.size := by have := hb.size; simp at this; omega
  go_wp2
  refine bodyPost_ret (v := .tuple #[.agg #[.int .i64 (vclip (vclip V + ((-dclip d) * c.num).tdiv c.den)), .bool false], .nilIface]) (by simp [results, Try.results12, go_sem, hbc]) rfl ⟨ret_st (HV.out _ (by omega)) HB.out, ?_⟩
  have hb0 : Below w.heap.size w w1 := Below.trans (((((Below.refl _ _).alloc (Nat.le_refl _) _).alloc (by simp) _).alloc (by simp; omega) _).alloc (by simp; omega) _) (hb.mono (by simp; omega))
  exact ((hb0 : Below _ _ _).setCell (by simp; omega) _).setCell (by simp; omega) _

set_option maxHeartbeats 4000000 in
theorem step_Cdb (c : Cfg) (h : c.Ok) (V d : Int) (w : World) (q1 : vclip V < c.on) (q2 : c.off ≤ vclip V) :
    Calls Try.prog 12 #[cfgV c, stV V false, inV d true true] w fun e w' => e = .returned (.tuple #[stV (stepV c V false d true true) (stepB c V false), .nilIface]) ∧ Below w.heap.size w w' := by
  have hc := fun W => check_ok c W h
  obtain ⟨hr, ho, hl⟩ := h
  obtain ⟨k1, k2, k3, k4, k5, k6, k7, k8⟩ := hr
  unfold Cfg.Ord at ho
  obtain ⟨o1, o2⟩ := ho
  obtain ⟨v0, v1⟩ := vclip_bd V
  obtain ⟨d0, d1⟩ := dclip_bd d
  have hB : brakeB c (vclip V) false = false := by simp [brakeB, q1]
  have HV : Hid (∀ N : Int, N = 0 - dclip d - 0 → vclip (vclip V + (N * c.num).tdiv c.den) = stepV c V false d true true) := fun N hN =>
    step_val hB (srcV_dead c _) (resV_off c _ _ (by simp)) hN
  have HB : Hid (false = stepB c V false) := hB.symm
  clear hB
  obtain ⟨n0, n1⟩ := mul_bd (a := -dclip d) (A := 2147483648) (by omega) (by omega) k1.1 k1.2 (by omega)
  obtain ⟨t0, t1⟩ := tdiv_abs (b := c.den) (by omega) n0 n1
  clear hl
  have HC := hide hc
  clear hc
  unfold cfgV stV inV
  go_enter Try.func12, Try.ntmps12
  go_wp2_with (first
    | (go_at_call 16; refine (HC.out _).mono ?_; rintro e w1 ⟨rfl, hb⟩; obtain ⟨hbc, hbf⟩ := bcell hb)
    | (go_at_call 31; first | (with_reducible refine (clip_v _ _).mono ?_; rintro e w' ⟨rfl, rfl⟩) | (with_reducible refine (clip_d _ _).mono ?_; rintro e w' ⟨rfl, rfl⟩)))
  have hz : w.heap.size + 1 + 1 + 1 < w1.heap.size := by have := hb.size; simp at this; omega
  go_wp2
  refine bodyPost_ret (v := .tuple #[.agg #[.int .i64 (vclip (vclip V + ((-dclip d) * c.num).tdiv c.den)), .bool false], .nilIface]) (by simp [results, Try.results12, go_sem, hbc]) rfl ⟨ret_st (HV.out _ (by omega)) HB.out, ?_⟩
  have hb0 : Below w.heap.size w w1 := Below.trans (((((Below.refl _ _).alloc (Nat.le_refl _) _).alloc (by simp) _).alloc (by simp; omega) _).alloc (by simp; omega) _) (hb.mono (by simp; omega))
  exact ((hb0 : Below _ _ _).setCell (by simp; omega) _).setCell (by simp; omega) _

set_option maxHeartbeats 4000000 in
theorem step_Dnn (c : Cfg) (h : c.Ok) (V d : Int) (b : Bool) (w : World) (q1 : vclip V < c.on) (q2 : vclip V < c.off) :
    Calls Try.prog 12 #[cfgV c, stV V b, inV d false false] w fun e w' => e = .returned (.tuple #[stV (stepV c V b d false false) (stepB c V b), .nilIface]) ∧ Below w.heap.size w w' := by
  have hc := fun W => check_ok c W h
  obtain ⟨hr, ho, hl⟩ := h
  obtain ⟨k1, k2, k3, k4, k5, k6, k7, k8⟩ := hr
  unfold Cfg.Ord at ho
  obtain ⟨o1, o2⟩ := ho
  obtain ⟨v0, v1⟩ := vclip_bd V
  obtain ⟨d0, d1⟩ := dclip_bd d
  have hB : brakeB c (vclip V) b = false := by simp [brakeB]; omega
  have HV : Hid (∀ N : Int, N = fclip (((c.supply - vclip V) * 1000).tdiv c.ohm) c.feed - dclip d - 0 → vclip (vclip V + (N * c.num).tdiv c.den) = stepV c V b d false false) := fun N hN =>
    step_val hB (srcV_live c _) (resV_off c _ _ (by simp)) hN
  have HB : Hid (false = stepB c V b) := hB.symm
  clear hB
  obtain ⟨f0, f1⟩ := fclip_bd (q := ((c.supply - vclip V) * 1000).tdiv c.ohm) k4.1
  have g1 : IntKind.i64.wrap (c.supply - vclip V) = c.supply - vclip V := IntWalk.i64_in _ (by omega)
  have g2 : IntKind.i64.wrap ((c.supply - vclip V) * 1000) = (c.supply - vclip V) * 1000 := IntWalk.i64_in _ (by omega)
  have g3 : IntKind.i64.wrap (((c.supply - vclip V) * 1000).tdiv c.ohm) = ((c.supply - vclip V) * 1000).tdiv c.ohm := IntWalk.i64_quo' _ _ (by omega)
  have g4 : IntKind.i64.wrap (-dclip d + fclip (((c.supply - vclip V) * 1000).tdiv c.ohm) c.feed) = -dclip d + fclip (((c.supply - vclip V) * 1000).tdiv c.ohm) c.feed := IntWalk.i64_in _ (by omega)
  have hne : (c.ohm == 0) = false := by simp; omega
  obtain ⟨n0, n1⟩ := mul_bd (a := -dclip d + fclip (((c.supply - vclip V) * 1000).tdiv c.ohm) c.feed) (A := 2147483648) (by omega) (by omega) k1.1 k1.2 (by omega)
  obtain ⟨t0, t1⟩ := tdiv_abs (b := c.den) (by omega) n0 n1
  clear hl
  have HC := hide hc
  clear hc
  unfold cfgV stV inV
  go_enter Try.func12, Try.ntmps12
  go_wp2_with (first
    | (go_at_call 16; refine (HC.out _).mono ?_; rintro e w1 ⟨rfl, hb⟩; obtain ⟨hbc, hbf⟩ := bcell hb)
    | (go_at_call 31; first | (with_reducible refine (clip_v _ _).mono ?_; rintro e w' ⟨rfl, rfl⟩) | (with_reducible refine (clip_d _ _).mono ?_; rintro e w' ⟨rfl, rfl⟩)))
  go_quiet ((go_at_call 31; exact quiet_left (clip_f _ _ _ (by omega))))
  clear g1 g2 g3 g4
  have hz : w.heap.size + 1 + 1 + 1 < w1.heap.size := by have := hb.size; simp at this; omega
  go_wp2_with (go_at_call 31; refine (clip_v _ _).mono ?_; rintro e w' ⟨rfl, rfl⟩)
  refine bodyPost_ret (v := .tuple #[.agg #[.int .i64 (vclip (vclip V + ((-dclip d + fclip (((c.supply - vclip V) * 1000).tdiv c.ohm) c.feed) * c.num).tdiv c.den)), .bool false], .nilIface]) (by simp [results, Try.results12, go_sem, hbc]) rfl ⟨ret_st (HV.out _ (by omega)) HB.out, ?_⟩
  have hb0 : Below w.heap.size w w1 := Below.trans (((((Below.refl _ _).alloc (Nat.le_refl _) _).alloc (by simp) _).alloc (by simp; omega) _).alloc (by simp; omega) _) (hb.mono (by simp; omega))
  exact ((below_drewN hb0 _ : Below _ _ _).setCell (by simp; omega) _).setCell (by simp; omega) _

set_option maxHeartbeats 4000000 in
theorem step_Dnb (c : Cfg) (h : c.Ok) (V d : Int) (b : Bool) (w : World) (q1 : vclip V < c.on) (q2 : vclip V < c.off) :
    Calls Try.prog 12 #[cfgV c, stV V b, inV d false true] w fun e w' => e = .returned (.tuple #[stV (stepV c V b d false true) (stepB c V b), .nilIface]) ∧ Below w.heap.size w w' := by
  have hc := fun W => check_ok c W h
  obtain ⟨hr, ho, hl⟩ := h
  obtain ⟨k1, k2, k3, k4, k5, k6, k7, k8⟩ := hr
  unfold Cfg.Ord at ho
  obtain ⟨o1, o2⟩ := ho
  obtain ⟨v0, v1⟩ := vclip_bd V
  obtain ⟨d0, d1⟩ := dclip_bd d
  have hB : brakeB c (vclip V) b = false := by simp [brakeB]; omega
  have HV : Hid (∀ N : Int, N = fclip (((c.supply - vclip V) * 1000).tdiv c.ohm) c.feed - dclip d - 0 → vclip (vclip V + (N * c.num).tdiv c.den) = stepV c V b d false true) := fun N hN =>
    step_val hB (srcV_live c _) (resV_off c _ _ (by simp)) hN
  have HB : Hid (false = stepB c V b) := hB.symm
  clear hB
  obtain ⟨f0, f1⟩ := fclip_bd (q := ((c.supply - vclip V) * 1000).tdiv c.ohm) k4.1
  have g1 : IntKind.i64.wrap (c.supply - vclip V) = c.supply - vclip V := IntWalk.i64_in _ (by omega)
  have g2 : IntKind.i64.wrap ((c.supply - vclip V) * 1000) = (c.supply - vclip V) * 1000 := IntWalk.i64_in _ (by omega)
  have g3 : IntKind.i64.wrap (((c.supply - vclip V) * 1000).tdiv c.ohm) = ((c.supply - vclip V) * 1000).tdiv c.ohm := IntWalk.i64_quo' _ _ (by omega)
  have g4 : IntKind.i64.wrap (-dclip d + fclip (((c.supply - vclip V) * 1000).tdiv c.ohm) c.feed) = -dclip d + fclip (((c.supply - vclip V) * 1000).tdiv c.ohm) c.feed := IntWalk.i64_in _ (by omega)
  have hne : (c.ohm == 0) = false := by simp; omega
  obtain ⟨n0, n1⟩ := mul_bd (a := -dclip d + fclip (((c.supply - vclip V) * 1000).tdiv c.ohm) c.feed) (A := 2147483648) (by omega) (by omega) k1.1 k1.2 (by omega)
  obtain ⟨t0, t1⟩ := tdiv_abs (b := c.den) (by omega) n0 n1
  clear hl
  have HC := hide hc
  clear hc
  unfold cfgV stV inV
  go_enter Try.func12, Try.ntmps12
  go_wp2_with (first
    | (go_at_call 16; refine (HC.out _).mono ?_; rintro e w1 ⟨rfl, hb⟩; obtain ⟨hbc, hbf⟩ := bcell hb)
    | (go_at_call 31; first | (with_reducible refine (clip_v _ _).mono ?_; rintro e w' ⟨rfl, rfl⟩) | (with_reducible refine (clip_d _ _).mono ?_; rintro e w' ⟨rfl, rfl⟩)))
  go_quiet ((go_at_call 31; exact quiet_left (clip_f _ _ _ (by omega))))
  clear g1 g2 g3 g4
  have hz : w.heap.size + 1 + 1 + 1 < w1.heap.size := by have := hb.size; simp at this; omega
  go_wp2_with (go_at_call 31; refine (clip_v _ _).mono ?_; rintro e w' ⟨rfl, rfl⟩)
  refine bodyPost_ret (v := .tuple #[.agg #[.int .i64 (vclip (vclip V + ((-dclip d + fclip (((c.supply - vclip V) * 1000).tdiv c.ohm) c.feed) * c.num).tdiv c.den)), .bool false], .nilIface]) (by simp [results, Try.results12, go_sem, hbc]) rfl ⟨ret_st (HV.out _ (by omega)) HB.out, ?_⟩
  have hb0 : Below w.heap.size w w1 := Below.trans (((((Below.refl _ _).alloc (Nat.le_refl _) _).alloc (by simp) _).alloc (by simp; omega) _).alloc (by simp; omega) _) (hb.mono (by simp; omega))
  exact ((below_drewN hb0 _ : Below _ _ _).setCell (by simp; omega) _).setCell (by simp; omega) _

set_option maxHeartbeats 4000000 in
theorem step_Ddn (c : Cfg) (h : c.Ok) (V d : Int) (b : Bool) (w : World) (q1 : vclip V < c.on) (q2 : vclip V < c.off) :
    Calls Try.prog 12 #[cfgV c, stV V b, inV d true false] w fun e w' => e = .returned (.tuple #[stV (stepV c V b d true false) (stepB c V b), .nilIface]) ∧ Below w.heap.size w w' := by
  have hc := fun W => check_ok c W h
  obtain ⟨hr, ho, hl⟩ := h
  obtain ⟨k1, k2, k3, k4, k5, k6, k7, k8⟩ := hr
  unfold Cfg.Ord at ho
  obtain ⟨o1, o2⟩ := ho
  obtain ⟨v0, v1⟩ := vclip_bd V
  obtain ⟨d0, d1⟩ := dclip_bd d
  have hB : brakeB c (vclip V) b = false := by simp [brakeB]; omega
  have HV : Hid (∀ N : Int, N = 0 - dclip d - 0 → vclip (vclip V + (N * c.num).tdiv c.den) = stepV c V b d true false) := fun N hN =>
    step_val hB (srcV_dead c _) (resV_off c _ _ (by simp)) hN
  have HB : Hid (false = stepB c V b) := hB.symm
  clear hB
  obtain ⟨n0, n1⟩ := mul_bd (a := -dclip d) (A := 2147483648) (by omega) (by omega) k1.1 k1.2 (by omega)
  obtain ⟨t0, t1⟩ := tdiv_abs (b := c.den) (by omega) n0 n1
  clear hl
  have HC := hide hc
  clear hc
  unfold cfgV stV inV
  go_enter Try.func12, Try.ntmps12
  go_wp2_with (first
    | (go_at_call 16; refine (HC.out _).mono ?_; rintro e w1 ⟨rfl, hb⟩; obtain ⟨hbc, hbf⟩ := bcell hb)
    | (go_at_call 31; first | (with_reducible refine (clip_v _ _).mono ?_; rintro e w' ⟨rfl, rfl⟩) | (with_reducible refine (clip_d _ _).mono ?_; rintro e w' ⟨rfl, rfl⟩)))
  have hz : w.heap.size + 1 + 1 + 1 < w1.heap.size := by have := hb.size; simp at this; omega
  go_wp2
  refine bodyPost_ret (v := .tuple #[.agg #[.int .i64 (vclip (vclip V + ((-dclip d) * c.num).tdiv c.den)), .bool false], .nilIface]) (by simp [results, Try.results12, go_sem, hbc]) rfl ⟨ret_st (HV.out _ (by omega)) HB.out, ?_⟩
  have hb0 : Below w.heap.size w w1 := Below.trans (((((Below.refl _ _).alloc (Nat.le_refl _) _).alloc (by simp) _).alloc (by simp; omega) _).alloc (by simp; omega) _) (hb.mono (by simp; omega))
  exact ((hb0 : Below _ _ _).setCell (by simp; omega) _).setCell (by simp; omega) _

set_option maxHeartbeats 4000000 in
theorem step_Ddb (c : Cfg) (h : c.Ok) (V d : Int) (b : Bool) (w : World) (q1 : vclip V < c.on) (q2 : vclip V < c.off) :
    Calls Try.prog 12 #[cfgV c, stV V b, inV d true true] w fun e w' => e = .returned (.tuple #[stV (stepV c V b d true true) (stepB c V b), .nilIface]) ∧ Below w.heap.size w w' := by
  have hc := fun W => check_ok c W h
  obtain ⟨hr, ho, hl⟩ := h
  obtain ⟨k1, k2, k3, k4, k5, k6, k7, k8⟩ := hr
  unfold Cfg.Ord at ho
  obtain ⟨o1, o2⟩ := ho
  obtain ⟨v0, v1⟩ := vclip_bd V
  obtain ⟨d0, d1⟩ := dclip_bd d
  have hB : brakeB c (vclip V) b = false := by simp [brakeB]; omega
  have HV : Hid (∀ N : Int, N = 0 - dclip d - 0 → vclip (vclip V + (N * c.num).tdiv c.den) = stepV c V b d true true) := fun N hN =>
    step_val hB (srcV_dead c _) (resV_off c _ _ (by simp)) hN
  have HB : Hid (false = stepB c V b) := hB.symm
  clear hB
  obtain ⟨n0, n1⟩ := mul_bd (a := -dclip d) (A := 2147483648) (by omega) (by omega) k1.1 k1.2 (by omega)
  obtain ⟨t0, t1⟩ := tdiv_abs (b := c.den) (by omega) n0 n1
  clear hl
  have HC := hide hc
  clear hc
  unfold cfgV stV inV
  go_enter Try.func12, Try.ntmps12
  go_wp2_with (first
    | (go_at_call 16; refine (HC.out _).mono ?_; rintro e w1 ⟨rfl, hb⟩; obtain ⟨hbc, hbf⟩ := bcell hb)
    | (go_at_call 31; first | (with_reducible refine (clip_v _ _).mono ?_; rintro e w' ⟨rfl, rfl⟩) | (with_reducible refine (clip_d _ _).mono ?_; rintro e w' ⟨rfl, rfl⟩)))
  have hz : w.heap.size + 1 + 1 + 1 < w1.heap.size := by have := hb.size; simp at this; omega
  go_wp2
  refine bodyPost_ret (v := .tuple #[.agg #[.int .i64 (vclip (vclip V + ((-dclip d) * c.num).tdiv c.den)), .bool false], .nilIface]) (by simp [results, Try.results12, go_sem, hbc]) rfl ⟨ret_st (HV.out _ (by omega)) HB.out, ?_⟩
  have hb0 : Below w.heap.size w w1 := Below.trans (((((Below.refl _ _).alloc (Nat.le_refl _) _).alloc (by simp) _).alloc (by simp; omega) _).alloc (by simp; omega) _) (hb.mono (by simp; omega))
  exact ((hb0 : Below _ _ _).setCell (by simp; omega) _).setCell (by simp; omega) _

end Go.Proofs.Ytahhebeceehbeaa
