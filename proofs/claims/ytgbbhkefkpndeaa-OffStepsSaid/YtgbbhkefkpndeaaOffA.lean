/- Walks of the small functions of safe torque off: within, counted, tested, Check, start, Start, Num, for every input. -/
import Derived.Test.YtgbbhkefkpndeaaProg
import Derived.Test.YtgbbhkefkpndeaaOffMath
import Derived.WalkKit
import Derived.WalkSpells
import Derived.WalkLawsBesides
import Derived.Deep.QuietTactic
import Derived.BigQuiet
import Derived.Deep.RegionHeld3
import Derived.ProofKit
namespace Go.Proofs.Ytgbbhkefkpndeaa
open Go.RowKit OM

theorem Try.own : ownKnob Try.prog.godebug = none := by kernel_rfl
theorem Try.laidOut : laidOutB Try.prog = true := by kernel_rfl

theorem hide {p : Prop} (h : p) : Hid p := h
theorem ret_bool {a b : Bool} (h : a = b) : Ending.returned (.bool a) = .returned (.bool b) := by rw [h]
theorem ret_int {k : IntKind} {a b : Int} (h : a = b) : Ending.returned (.int k a) = .returned (.int k b) := by rw [h]
theorem below_drewN {B : Nat} {a w : World} (h : Below B a w) (n : Nat) : Below B a (w.drewN n) := ⟨h.os, h.tape, h.output, h.size, h.block⟩
theorem bstep {W w1 : World} {b : Nat} (h : Below W.heap.size W w1) (hb : b < W.heap.size) : ∀ o, w1.cell? ⟨b, o, none⟩ = W.cell? ⟨b, o, none⟩ := fun o => h.cell (p := ⟨b, o, none⟩) hb
theorem bfro {W w1 : World} {b : Nat} (h : Below W.heap.size W w1) (hb : b < W.heap.size) : ∀ o, w1.frozen? ⟨b, o, none⟩ = W.frozen? ⟨b, o, none⟩ := fun o => h.frozen (p := ⟨b, o, none⟩) hb
theorem quiet_left {P : Program} {f : FuncId} {args : Array Value} {w : World} {n : Nat} {v : Value}
    (h : Calls P f args (w.drewN n) fun e w' => e = .returned v ∧ w.drewN n = w') : Calls P f args (w.drewN n) fun e w'' => e = .returned v ∧ ∃ m, w'' = w.drewN m :=
  h.mono fun _ _ ⟨he, hm⟩ => ⟨he, n, hm.symm⟩

theorem within_any (n lo hi : Int) (w : World) :
    Calls Try.prog 27 #[.int .i64 n, .int .i64 lo, .int .i64 hi] w fun e w' => e = .returned (.bool (decide (lo ≤ n ∧ n ≤ hi))) ∧ w = w' := by
  go_enter Try.func27, Try.ntmps27
  go_wp2
  all_goals go_ret
  all_goals exact ⟨ret_bool (by simp; try omega), rfl⟩
theorem within_yes (n lo hi : Int) (w : World) (h1 : lo ≤ n) (h2 : n ≤ hi) :
    Calls Try.prog 27 #[.int .i64 n, .int .i64 lo, .int .i64 hi] w fun e w' => e = .returned (.bool true) ∧ w = w' :=
  (within_any n lo hi w).mono fun _ _ ⟨a, b⟩ => ⟨a.trans (ret_bool (by simp; omega)), b⟩
theorem within_no (n lo hi : Int) (w : World) (h : ¬ (lo ≤ n ∧ n ≤ hi)) :
    Calls Try.prog 27 #[.int .i64 n, .int .i64 lo, .int .i64 hi] w fun e w' => e = .returned (.bool false) ∧ w = w' :=
  (within_any n lo hi w).mono fun _ _ ⟨a, b⟩ => ⟨a.trans (ret_bool (by simp; omega)), b⟩
theorem clip_any (n lo hi : Int) (w : World) :
    Calls Try.prog 32 #[.int .i64 n, .int .i64 lo, .int .i64 hi] w fun e w' => e = .returned (.int .i64 (max lo (min n hi))) ∧ w = w' := by
  go_enter Try.func32, Try.ntmps32
  go_wp2
  all_goals go_ret
  all_goals exact ⟨ret_int (by omega), rfl⟩

theorem counted_any (n most : Int) (is : Bool) (w : World) (h0 : 0 ≤ most) (h1 : most ≤ 2000) :
    Calls Try.prog 28 #[.int .i64 n, .bool is, .int .i64 most] w fun e w' => e = .returned (.int .i64 (counted n is most)) ∧ w = w' := by
  cases is
  all_goals
    go_enter Try.func28, Try.ntmps28
    go_wp2
    all_goals go_ret
    all_goals exact ⟨ret_int (by simp only [counted, if_true, Bool.false_eq_true, if_false]; try omega), rfl⟩

set_option maxHeartbeats 1000000 in
theorem tested_any (c : Cf) (h : c.Rng) (t : Int) (ch : Bool) (w : World) :
    Calls Try.prog 29 #[.agg #[.int .i64 c.every, .int .i64 c.length, .int .i64 c.apart], .int .i64 (if ch then 1 else 0), .int .i64 t] w fun e w' => e = .returned (.bool (tested c ch t)) ∧ Below w.heap.size w w' := by
  obtain ⟨⟨h1, h2⟩, ⟨h3, h4⟩, _⟩ := h
  cases ch
  all_goals
    simp only [if_true, Bool.false_eq_true, if_false]
    go_enter Try.func29, Try.ntmps29
    go_wp2_with (go_at_call 27; refine (within_any _ _ _ _).mono ?_; rintro e w' ⟨rfl, rfl⟩)
    go_ret
    exact ⟨ret_bool (by rw [Bool.eq_iff_iff]; simp [tested]; omega), (Below.refl _ _).alloc (Nat.le_refl _) _⟩

set_option maxHeartbeats 1000000 in
theorem rtested_any (c : Cf) (h : c.Rng) (t : Int) (ch : Bool) (w : World) :
    Calls Try.prog 31 #[.agg #[.int .i64 c.every, .int .i64 c.length, .int .i64 c.apart], .int .i64 (if ch then 1 else 0), .int .i64 t] w fun e w' => e = .returned (.bool (tested c ch t)) ∧ Below w.heap.size w w' := by
  obtain ⟨⟨h1, h2⟩, ⟨h3, h4⟩, _⟩ := h
  cases ch
  all_goals
    simp only [if_true, Bool.false_eq_true, if_false]
    go_enter Try.func31, Try.ntmps31
    go_wp2
    all_goals go_ret
    all_goals exact ⟨ret_bool (by simp [tested]; try omega), (Below.refl _ _).alloc (Nat.le_refl _) _⟩

theorem bad_cases {c : Cf} (h : ¬ c.Rng) : (¬ (1 ≤ c.length ∧ c.length ≤ 8)) ∨ ((1 ≤ c.length ∧ c.length ≤ 8) ∧ ((¬ (4 * c.length ≤ c.every ∧ c.every ≤ 65536)) ∨ ((4 * c.length ≤ c.every ∧ c.every ≤ 65536) ∧ ¬ (1 ≤ c.apart ∧ c.apart ≤ 1024)))) := by
  unfold Cf.Rng at h
  omega

set_option maxHeartbeats 2000000 in
theorem check_ok (c : Cf) (h : c.Rng) (w : World) :
    Calls Try.prog 15 #[.agg #[.int .i64 c.every, .int .i64 c.length, .int .i64 c.apart]] w fun e w' => e = .returned .nilIface ∧ Below w.heap.size w w' := by
  obtain ⟨k1, k2, k3⟩ := h
  go_enter Try.func15, Try.ntmps15
  go_wp2_with (go_at_call 27; refine (within_yes _ _ _ _ (by omega) (by omega)).mono ?_; rintro e w' ⟨rfl, rfl⟩)
  go_ret
  exact ⟨rfl, (Below.refl _ _).alloc (Nat.le_refl _) _⟩

set_option maxHeartbeats 2000000 in
theorem check_err (c : Cf) (h : ¬ c.Rng) (w : World) :
    Calls Try.prog 15 #[.agg #[.int .i64 c.every, .int .i64 c.length, .int .i64 c.apart]] w fun e w' => e = .returned (.iface 62 (.int .i64 3)) ∧ Below w.heap.size w w' := by
  rcases bad_cases h with k1 | ⟨k1, k2 | ⟨k2, k3⟩⟩
  all_goals clear h
  all_goals
    go_enter Try.func15, Try.ntmps15
    go_wp2_with (go_at_call 27; first | (refine (within_yes _ _ _ _ (by omega) (by omega)).mono ?_; rintro e w' ⟨rfl, rfl⟩) | (refine (within_no _ _ _ _ (by omega)).mono ?_; rintro e w' ⟨rfl, rfl⟩))
    go_ret
    exact ⟨rfl, (Below.refl _ _).alloc (Nat.le_refl _) _⟩

end Go.Proofs.Ytgbbhkefkpndeaa
