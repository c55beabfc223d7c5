/- Walks of the small functions of the gates. Condition: what each theorem names. -/
import Derived.Test.YtjeomdfcfbfebaaPatB
import Derived.Test.YtjeomdfcfbfebaaQTail
import Derived.ChangeKeysEq
import Derived.BigQuiet
import Derived.Deep.AppendLies
namespace Go.Proofs.Ytjeomdfcfbfebaa
open Go.RowKit PM
@[go_sem] theorem ixGl0 (a b c d e f : Int) (w : World) : (Instr.index 115 (.agg #[.int .i64 a, .int .i64 b, .int .i64 c, .int .i64 d, .int .i64 e, .int .i64 f]) (.int .i64 0)).run Try.prog w = .ok (.agg #[.int .i64 a, .int .i64 b]) w := by kernel_rfl
@[go_sem] theorem ixGl1 (a b c d e f : Int) (w : World) : (Instr.index 115 (.agg #[.int .i64 a, .int .i64 b, .int .i64 c, .int .i64 d, .int .i64 e, .int .i64 f]) (.int .i64 1)).run Try.prog w = .ok (.agg #[.int .i64 c, .int .i64 d]) w := by kernel_rfl
@[go_sem] theorem ixGl2 (a b c d e f : Int) (w : World) : (Instr.index 115 (.agg #[.int .i64 a, .int .i64 b, .int .i64 c, .int .i64 d, .int .i64 e, .int .i64 f]) (.int .i64 2)).run Try.prog w = .ok (.agg #[.int .i64 e, .int .i64 f]) w := by kernel_rfl
set_option maxHeartbeats 4000000 in
theorem fresh_any (w : World) : Calls Try.prog 48 #[] w fun e w' => e = .returned (.agg #[.int .i64 0, .int .i64 4096, .int .i64 0, .int .i64 4096, .int .i64 0, .int .i64 4096]) ∧ Below w.heap.size w w' := by
  go_enter Try.func48, Try.ntmps48
  go_wp2
  refine bodyPost_ret (v := .agg #[.int .i64 0, .int .i64 4096, .int .i64 0, .int .i64 4096, .int .i64 0, .int .i64 4096]) (by simp only [results, Try.results48]; go_simp) rfl ⟨rfl, by exact (by repeat (first | with_reducible assumption | with_reducible refine Below.drew ?_ | with_reducible refine below_drewN ?_ _ | with_reducible refine Below.alloc ?_ (by first | omega | (simp <;> omega)) _ | with_reducible refine Below.setCell ?_ (by first | omega | (simp <;> omega)) _ | with_reducible exact Below.refl _ _))⟩
set_option maxHeartbeats 4000000 in
theorem gwithin_yes (n lo hi : Int) (w : World) (h1 : lo ≤ n) (h2 : n ≤ hi) :
    Calls Try.prog 80 #[.int .i64 n, .int .i64 lo, .int .i64 hi] w fun e w' => e = .returned (.bool true) ∧ w = w' := by
  go_enter Try.func80, Try.ntmps80
  go_wp2
  go_ret
  exact ⟨rfl, rfl⟩
set_option maxHeartbeats 4000000 in
theorem gisPeriod_yes (n : Int) (w : World) (h : 64 ≤ n ∧ n ≤ 4096) : Calls Try.prog 94 #[.int .i64 n] w fun e w' => e = .returned (.bool true) ∧ w = w' := by
  go_enter Try.func94, Try.ntmps94
  go_wp2_with (go_at_call 80; refine (gwithin_yes _ _ _ _ (by omega) (by omega)).mono ?_; rintro e w8 ⟨rfl, rfl⟩)
  go_ret
  exact ⟨rfl, rfl⟩
set_option maxHeartbeats 4000000 in
theorem granges_yes (w : World) : Calls Try.prog 79 #[.agg #[.int .i64 0, .int .i64 4096, .int .i64 0, .int .i64 4096, .int .i64 0, .int .i64 4096], .int .i64 100, .int .i64 4] w fun e w' => e = .returned (.bool true) ∧ Below w.heap.size w w' := by
  go_enter Try.func79, Try.ntmps79
  go_wp2
  refine wp_loop_rounds 4 ?_
  rw [rounds_succ]
  go_wp2_with (go_at_call 80; refine (gwithin_yes _ _ _ _ (by omega) (by omega)).mono ?_; rintro e w8 ⟨rfl, rfl⟩)
  rw [rounds_succ]
  go_wp2_with (go_at_call 80; refine (gwithin_yes _ _ _ _ (by omega) (by omega)).mono ?_; rintro e w8 ⟨rfl, rfl⟩)
  rw [rounds_succ]
  go_wp2_with (go_at_call 80; refine (gwithin_yes _ _ _ _ (by omega) (by omega)).mono ?_; rintro e w8 ⟨rfl, rfl⟩)
  rw [rounds_succ]
  go_wp2_with (first | (go_at_call 80; refine (gwithin_yes _ _ _ _ (by omega) (by omega)).mono ?_; rintro e w8 ⟨rfl, rfl⟩) | (go_at_call 94; refine (gisPeriod_yes _ _ (by decide)).mono ?_; rintro e w8 ⟨rfl, rfl⟩))
  go_ret
  exact ⟨rfl, by exact (by repeat (first | with_reducible assumption | with_reducible refine Below.drew ?_ | with_reducible refine below_drewN ?_ _ | with_reducible refine Below.alloc ?_ (by first | omega | (simp <;> omega)) _ | with_reducible refine Below.setCell ?_ (by first | omega | (simp <;> omega)) _ | with_reducible exact Below.refl _ _))⟩
set_option maxHeartbeats 4000000 in
theorem wanted_any (t : Int) (h0 : 0 ≤ t ∧ t < 100) (w : World) : Calls Try.prog 82 #[.agg #[.int .i64 25, .int .i64 75], .int .i64 t, .int .i64 100] w fun e w' => e = .returned (.int .i64 (if 25 ≤ t ∧ t < 75 then 2 else 1)) ∧ Below w.heap.size w w' := by
  obtain ⟨h1, h2⟩ := h0
  by_cases h3 : 25 ≤ t
  · by_cases h4 : t < 75
    · rw [if_pos ⟨h3, h4⟩]
      go_enter Try.func82, Try.ntmps82
      go_wp2
      go_ret
      exact ⟨rfl, by exact (by repeat (first | with_reducible assumption | with_reducible refine Below.drew ?_ | with_reducible refine below_drewN ?_ _ | with_reducible refine Below.alloc ?_ (by first | omega | (simp <;> omega)) _ | with_reducible refine Below.setCell ?_ (by first | omega | (simp <;> omega)) _ | with_reducible exact Below.refl _ _))⟩
    · rw [if_neg (fun h => h4 h.2)]
      replace h4 : 75 ≤ t := by omega
      go_enter Try.func82, Try.ntmps82
      go_wp2
      go_ret
      exact ⟨rfl, by exact (by repeat (first | with_reducible assumption | with_reducible refine Below.drew ?_ | with_reducible refine below_drewN ?_ _ | with_reducible refine Below.alloc ?_ (by first | omega | (simp <;> omega)) _ | with_reducible refine Below.setCell ?_ (by first | omega | (simp <;> omega)) _ | with_reducible exact Below.refl _ _))⟩
  · rw [if_neg (fun h => h3 h.1)]
    replace h3 : t < 25 := by omega
    go_enter Try.func82, Try.ntmps82
    go_wp2
    go_ret
    exact ⟨rfl, by exact (by repeat (first | with_reducible assumption | with_reducible refine Below.drew ?_ | with_reducible refine below_drewN ?_ _ | with_reducible refine Below.alloc ?_ (by first | omega | (simp <;> omega)) _ | with_reducible refine Below.setCell ?_ (by first | omega | (simp <;> omega)) _ | with_reducible exact Below.refl _ _))⟩
set_option maxHeartbeats 4000000 in
theorem number_any (leg side : Int) (h0 : 0 ≤ leg ∧ leg ≤ 2) (w : World) : Calls Try.prog 83 #[.int .i64 leg, .int .i64 side] w fun e w' => e = .returned (.int .i64 (if side = 2 then 2 * leg else 2 * leg + 1)) ∧ w' = w := by
  have g1 : IntKind.i64.wrap (2 * leg) = 2 * leg := IntWalk.i64_in _ (by omega)
  have g2 : IntKind.i64.wrap (2 * leg + 1) = 2 * leg + 1 := IntWalk.i64_in _ (by omega)
  by_cases h : side = 2
  · rw [if_pos h]
    subst h
    go_enter Try.func83, Try.ntmps83
    go_wp2
    go_ret
    exact ⟨rfl, rfl⟩
  · rw [if_neg h]
    have hb : (side == 2) = false := beq_eq_false_iff_ne.2 h
    go_enter Try.func83, Try.ntmps83
    go_wp2
    go_ret
    exact ⟨rfl, rfl⟩
end Go.Proofs.Ytjeomdfcfbfebaa
