/- Walks of the small functions of the shunt: which leg is on alone, how many are on, Join, of the program and of the reference, for every input. -/
import Derived.Test.YtjeomdfcfbfebaaPatD
import Derived.Test.YtjeomdfcfbfebaaShuntMath
namespace Go.Proofs.Ytjeomdfcfbfebaa
open Go.RowKit PM

@[go_sem] theorem ixB0 (a b c : Bool) (w : World) : (Instr.index 67 (.agg #[.bool a, .bool b, .bool c]) (.int .i64 0)).run Try.prog w = .ok (.bool a) w := by kernel_rfl
@[go_sem] theorem ixB1 (a b c : Bool) (w : World) : (Instr.index 67 (.agg #[.bool a, .bool b, .bool c]) (.int .i64 1)).run Try.prog w = .ok (.bool b) w := by kernel_rfl
@[go_sem] theorem ixB2 (a b c : Bool) (w : World) : (Instr.index 67 (.agg #[.bool a, .bool b, .bool c]) (.int .i64 2)).run Try.prog w = .ok (.bool c) w := by kernel_rfl
namespace PM
def lastOn (n : B3) : Int := if n.2.2 then 2 else if n.2.1 then 1 else 0
def lastOff (n : B3) : Int := if n.2.2 then (if n.2.1 then 0 else 1) else 2
theorem lastOn_odd {n : B3} (h : cntOn n = 1) : lastOn n = oddOf n := by
  obtain ⟨a, b, c⟩ := n
  cases a <;> cases b <;> cases c <;> first | rfl | (exact absurd h (by decide))
theorem lastOff_odd {n : B3} (h : cntOn n = 2) : lastOff n = oddOf n := by
  obtain ⟨a, b, c⟩ := n
  cases a <;> cases b <;> cases c <;> first | rfl | (exact absurd h (by decide))
end PM
set_option maxHeartbeats 4000000 in
set_option maxRecDepth 100000 in
theorem alone_on' (a b : Int) (n0 n1 n2 : Bool) (w : World) :
    Calls Try.prog 67 #[.agg #[.int .i64 a, .int .i64 b, .bool n0, .bool n1, .bool n2], .bool true] w fun e w' => (∃ leg, e = .returned (.tuple #[.int .i64 leg, .bool (decide (cntOn (n0, n1, n2) = 1))]) ∧ (cntOn (n0, n1, n2) = 1 → leg = oddOf (n0, n1, n2)) ∧ 0 ≤ leg ∧ leg ≤ 2) ∧ Below w.heap.size w w' := by
  cases n0 <;> cases n1 <;> cases n2
  all_goals
    go_enter Try.func67, Try.ntmps67
    go_wp2
    refine wp_loop_rounds 4 ?_
    rw [rounds_succ]
    go_wp2
    rw [rounds_succ]
    go_wp2
    rw [rounds_succ]
    go_wp2
    rw [rounds_succ]
    go_wp2
    refine bodyPost_ret (results_tmp2 rfl _ _ _) rfl ?_
    exact ⟨⟨_, rfl, by decide, by decide, by decide⟩, by exact (by repeat (first | with_reducible assumption | with_reducible refine Below.drew ?_ | with_reducible refine below_drewN ?_ _ | with_reducible refine Below.alloc ?_ (by first | omega | (simp <;> omega)) _ | with_reducible refine Below.setCell ?_ (by first | omega | (simp <;> omega)) _ | with_reducible exact Below.refl _ _))⟩
theorem alone_on (x : Prt) (w : World) :
    Calls Try.prog 67 #[.agg #[.int .i64 x.a, .int .i64 x.b, .bool x.n.1, .bool x.n.2.1, .bool x.n.2.2], .bool true] w fun e w' => (∃ leg, e = .returned (.tuple #[.int .i64 leg, .bool (decide (cntOn x.n = 1))]) ∧ (cntOn x.n = 1 → leg = oddOf x.n) ∧ 0 ≤ leg ∧ leg ≤ 2) ∧ Below w.heap.size w w' := alone_on' x.a x.b x.n.1 x.n.2.1 x.n.2.2 w
set_option maxHeartbeats 4000000 in
set_option maxRecDepth 100000 in
theorem alone_off' (a b : Int) (n0 n1 n2 : Bool) (w : World) :
    Calls Try.prog 67 #[.agg #[.int .i64 a, .int .i64 b, .bool n0, .bool n1, .bool n2], .bool false] w fun e w' => (∃ leg, e = .returned (.tuple #[.int .i64 leg, .bool (decide (cntOn (n0, n1, n2) = 2))]) ∧ (cntOn (n0, n1, n2) = 2 → leg = oddOf (n0, n1, n2)) ∧ 0 ≤ leg ∧ leg ≤ 2) ∧ Below w.heap.size w w' := by
  cases n0 <;> cases n1 <;> cases n2
  all_goals
    go_enter Try.func67, Try.ntmps67
    go_wp2
    refine wp_loop_rounds 4 ?_
    rw [rounds_succ]
    go_wp2
    rw [rounds_succ]
    go_wp2
    rw [rounds_succ]
    go_wp2
    rw [rounds_succ]
    go_wp2
    refine bodyPost_ret (results_tmp2 rfl _ _ _) rfl ?_
    exact ⟨⟨_, rfl, by decide, by decide, by decide⟩, by exact (by repeat (first | with_reducible assumption | with_reducible refine Below.drew ?_ | with_reducible refine below_drewN ?_ _ | with_reducible refine Below.alloc ?_ (by first | omega | (simp <;> omega)) _ | with_reducible refine Below.setCell ?_ (by first | omega | (simp <;> omega)) _ | with_reducible exact Below.refl _ _))⟩
theorem alone_off (x : Prt) (w : World) :
    Calls Try.prog 67 #[.agg #[.int .i64 x.a, .int .i64 x.b, .bool x.n.1, .bool x.n.2.1, .bool x.n.2.2], .bool false] w fun e w' => (∃ leg, e = .returned (.tuple #[.int .i64 leg, .bool (decide (cntOn x.n = 2))]) ∧ (cntOn x.n = 2 → leg = oddOf x.n) ∧ 0 ≤ leg ∧ leg ≤ 2) ∧ Below w.heap.size w w' := alone_off' x.a x.b x.n.1 x.n.2.1 x.n.2.2 w
set_option maxHeartbeats 4000000 in
set_option maxRecDepth 100000 in
theorem count_b (n0 n1 n2 : Bool) (w : World) :
    Calls Try.prog 76 #[.agg #[.bool n0, .bool n1, .bool n2]] w fun e w' => e = .returned (.int .i64 (cntOn (n0, n1, n2))) ∧ Below w.heap.size w w' := by
  cases n0 <;> cases n1 <;> cases n2
  all_goals
    go_enter Try.func76, Try.ntmps76
    go_wp2
    refine wp_loop_rounds 4 ?_
    rw [rounds_succ]
    go_wp2
    rw [rounds_succ]
    go_wp2
    rw [rounds_succ]
    go_wp2
    rw [rounds_succ]
    go_wp2
    go_ret
    exact ⟨rfl, by exact (by repeat (first | with_reducible assumption | with_reducible refine Below.drew ?_ | with_reducible refine below_drewN ?_ _ | with_reducible refine Below.alloc ?_ (by first | omega | (simp <;> omega)) _ | with_reducible refine Below.setCell ?_ (by first | omega | (simp <;> omega)) _ | with_reducible exact Below.refl _ _))⟩
set_option maxHeartbeats 8000000 in
set_option maxRecDepth 100000 in
theorem odd_b (n0 n1 n2 : Bool) (w : World) :
    Calls Try.prog 77 #[.agg #[.bool n0, .bool n1, .bool n2]] w fun e w' => e = .returned (.int .i64 (oddOf (n0, n1, n2))) ∧ Below w.heap.size w w' := by
  cases n0 <;> cases n1 <;> cases n2
  all_goals
    go_enter Try.func77, Try.ntmps77
    go_wp2
    refine wp_loop_rounds 4 ?_
    rw [rounds_succ]
    go_wp2_with (go_at_call 76; refine (count_b _ _ _ _).mono ?_; rintro e w1 ⟨rfl, hb1⟩; have z1 := hb1.size; (try simp at z1); have c1x0 := bstep (b := w.heap.size) hb1 (by first | omega | (simp <;> omega)); have y1x0 : w.heap.size < w1.heap.size := (by omega); have H1 : Below w.heap.size w w1 := Below.trans (by repeat (first | with_reducible assumption | with_reducible refine Below.drew ?_ | with_reducible refine below_drewN ?_ _ | with_reducible refine Below.alloc ?_ (by first | omega | (simp <;> omega)) _ | with_reducible refine Below.setCell ?_ (by first | omega | (simp <;> omega)) _ | with_reducible exact Below.refl _ _)) (hb1.mono (by first | omega | (simp <;> omega))))
    first | (go_ret; exact ⟨rfl, by exact (by repeat (first | with_reducible assumption | with_reducible refine Below.drew ?_ | with_reducible refine below_drewN ?_ _ | with_reducible refine Below.alloc ?_ (by first | omega | (simp <;> omega)) _ | with_reducible refine Below.setCell ?_ (by first | omega | (simp <;> omega)) _ | with_reducible exact Below.refl _ _))⟩) | skip
  all_goals
    rw [rounds_succ]
    go_wp2_with (go_at_call 76; refine (count_b _ _ _ _).mono ?_; rintro e w2 ⟨rfl, hb2⟩; have z2 := hb2.size; (try simp at z2); have c2x0 := bstep (b := w.heap.size) hb2 (by first | omega | (simp <;> omega)); have y2x0 : w.heap.size < w2.heap.size := (by omega); have H2 : Below w.heap.size w w2 := Below.trans (by repeat (first | with_reducible assumption | with_reducible refine Below.drew ?_ | with_reducible refine below_drewN ?_ _ | with_reducible refine Below.alloc ?_ (by first | omega | (simp <;> omega)) _ | with_reducible refine Below.setCell ?_ (by first | omega | (simp <;> omega)) _ | with_reducible exact Below.refl _ _)) (hb2.mono (by first | omega | (simp <;> omega))))
    first | (go_ret; exact ⟨rfl, by exact (by repeat (first | with_reducible assumption | with_reducible refine Below.drew ?_ | with_reducible refine below_drewN ?_ _ | with_reducible refine Below.alloc ?_ (by first | omega | (simp <;> omega)) _ | with_reducible refine Below.setCell ?_ (by first | omega | (simp <;> omega)) _ | with_reducible exact Below.refl _ _))⟩) | skip
  all_goals
    rw [rounds_succ]
    go_wp2_with (go_at_call 76; refine (count_b _ _ _ _).mono ?_; rintro e w3 ⟨rfl, hb3⟩; have z3 := hb3.size; (try simp at z3); have c3x0 := bstep (b := w.heap.size) hb3 (by first | omega | (simp <;> omega)); have y3x0 : w.heap.size < w3.heap.size := (by omega); have H3 : Below w.heap.size w w3 := Below.trans (by repeat (first | with_reducible assumption | with_reducible refine Below.drew ?_ | with_reducible refine below_drewN ?_ _ | with_reducible refine Below.alloc ?_ (by first | omega | (simp <;> omega)) _ | with_reducible refine Below.setCell ?_ (by first | omega | (simp <;> omega)) _ | with_reducible exact Below.refl _ _)) (hb3.mono (by first | omega | (simp <;> omega))))
    first | (go_ret; exact ⟨rfl, by exact (by repeat (first | with_reducible assumption | with_reducible refine Below.drew ?_ | with_reducible refine below_drewN ?_ _ | with_reducible refine Below.alloc ?_ (by first | omega | (simp <;> omega)) _ | with_reducible refine Below.setCell ?_ (by first | omega | (simp <;> omega)) _ | with_reducible exact Below.refl _ _))⟩) | skip
  all_goals
    rw [rounds_succ]
    go_wp2
    go_ret
    exact ⟨rfl, by exact (by repeat (first | with_reducible assumption | with_reducible refine Below.drew ?_ | with_reducible refine below_drewN ?_ _ | with_reducible refine Below.alloc ?_ (by first | omega | (simp <;> omega)) _ | with_reducible refine Below.setCell ?_ (by first | omega | (simp <;> omega)) _ | with_reducible exact Below.refl _ _))⟩
def small (x : Int) : Prop := -1073741824 ≤ x ∧ x ≤ 1073741824
instance (x : Int) : Decidable (small x) := by unfold small; infer_instance
theorem small_any (x : Int) (w : World) : Calls Try.prog 78 #[.int .i64 x] w fun e w' => e = .returned (.bool (decide (-1073741824 ≤ x ∧ x ≤ 1073741824))) ∧ w = w' := by
  go_enter Try.func78, Try.ntmps78
  go_wp2
  all_goals go_ret
  all_goals exact ⟨ret_bool (by simp; try omega), rfl⟩
theorem swithin_any (n lo hi : Int) (w : World) :
    Calls Try.prog 66 #[.int .i64 n, .int .i64 lo, .int .i64 hi] w fun e w' => e = .returned (.bool (decide (lo ≤ n ∧ n ≤ hi))) ∧ w = w' := by
  go_enter Try.func66, Try.ntmps66
  go_wp2
  all_goals go_ret
  all_goals exact ⟨ret_bool (by simp; try omega), rfl⟩
theorem swithin_yes (n lo hi : Int) (w : World) (h1 : lo ≤ n) (h2 : n ≤ hi) :
    Calls Try.prog 66 #[.int .i64 n, .int .i64 lo, .int .i64 hi] w fun e w' => e = .returned (.bool true) ∧ w = w' :=
  (swithin_any n lo hi w).mono fun _ _ ⟨a, b⟩ => ⟨a.trans (ret_bool (by simp; omega)), b⟩
theorem swithin_no (n lo hi : Int) (w : World) (h : ¬ (lo ≤ n ∧ n ≤ hi)) :
    Calls Try.prog 66 #[.int .i64 n, .int .i64 lo, .int .i64 hi] w fun e w' => e = .returned (.bool false) ∧ w = w' :=
  (swithin_any n lo hi w).mono fun _ _ ⟨a, b⟩ => ⟨a.trans (ret_bool (by simp; omega)), b⟩
theorem small_yes (x : Int) (w : World) (h : small x) : Calls Try.prog 78 #[.int .i64 x] w fun e w' => e = .returned (.bool true) ∧ w = w' :=
  (small_any x w).mono fun _ _ ⟨a, b⟩ => ⟨a.trans (ret_bool (by simp; unfold small at h; omega)), b⟩
theorem small_no (x : Int) (w : World) (h : ¬ small x) : Calls Try.prog 78 #[.int .i64 x] w fun e w' => e = .returned (.bool false) ∧ w = w' :=
  (small_any x w).mono fun _ _ ⟨a, b⟩ => ⟨a.trans (ret_bool (by simp; unfold small at h; omega)), b⟩
end Go.Proofs.Ytjeomdfcfbfebaa
