/- Walks of what turns a voltage vector into the counts of three legs. Condition: the ranges that each theorem names. -/
import Derived.Test.YtjeomdfcfbfebaaWsB
namespace Go.Proofs.Ytjeomdfcfbfebaa
open Go.RowKit PM

namespace PM
theorem floor_eq {a b : Int} (hb : 0 < b) : (a.tmod b < 0 → a.tdiv b - 1 = a / b) ∧ (¬ a.tmod b < 0 → a.tdiv b = a / b) := by
  by_cases ha : 0 ≤ a
  · rw [Int.tdiv_eq_ediv_of_nonneg ha, Int.tmod_eq_emod_of_nonneg ha]
    have := Int.emod_nonneg a (show b ≠ 0 by omega)
    exact ⟨fun h => by omega, fun _ => rfl⟩
  · obtain ⟨c, rfl⟩ : ∃ c, a = -c := ⟨-a, by omega⟩
    have hc : 0 ≤ c := by omega
    rw [Int.neg_tdiv, Int.neg_tmod, Int.tdiv_eq_ediv_of_nonneg hc, Int.tmod_eq_emod_of_nonneg hc]
    have h1 := Int.emod_nonneg c (show b ≠ 0 by omega)
    have h2 := Int.emod_lt_of_pos c hb
    have h3 := Int.emod_add_mul_ediv c b
    refine ⟨fun h => ?_, fun h => ?_⟩
    · have := ((Int.ediv_emod_unique (a := -c) (b := b) (q := -(c / b) - 1) (r := b - c % b) hb).2 ⟨by rw [Int.mul_sub, Int.mul_neg, Int.mul_one]; omega, by omega, by omega⟩).1
      exact this.symm
    · have := ((Int.ediv_emod_unique (a := -c) (b := b) (q := -(c / b)) (r := 0) hb).2 ⟨by rw [Int.mul_neg]; omega, by omega, by omega⟩).1
      exact this.symm
def phB (a b : Int) : Int := (113511 * b - 65536 * a).tdiv 131072
theorem phB_bd {a b : Int} (ha : -1048576 ≤ a ∧ a ≤ 1048576) (hb : -1048576 ≤ b ∧ b ≤ 1048576) : -1500000 ≤ phB a b ∧ phB a b ≤ 1500000 := by
  unfold phB
  exact tdiv_bd (by decide) ⟨by omega, by omega⟩
def dutyS (v0 v1 v2 : Int) : Int := max (max v0 v1) v2 + min (min v0 v1) v2
def dutyN (per link s x : Int) : Int := per * (link + 2 * x - s) / (2 * link)
def dutyC (per link s x : Int) : Int := max 0 (min (dutyN per link s x) per)
end PM
set_option maxHeartbeats 4000000 in
theorem cnear_two (x y : Int) (g : Nat) (hx : -1073741824 ≤ x ∧ x ≤ 1073741824) (hy : -1073741824 ≤ y ∧ y ≤ 1073741824) (w : World) (c0 : w.cell? ⟨g, 0, none⟩ = some (.int .i64 x)) (c1 : w.cell? ⟨g, 1, none⟩ = some (.int .i64 y)) :
    Calls Try.prog 89 #[.slice (some ⟨g, 0, none⟩) 2 2] w fun e w' => e = .returned .nilIface ∧ w = w' := by
  obtain ⟨x1, x2⟩ := hx
  obtain ⟨y1, y2⟩ := hy
  go_enter Try.func89, Try.ntmps89
  go_wp2
  refine wp_loop_rounds 3 ?_
  rw [rounds_succ]
  go_wp2
  rw [rounds_succ]
  go_wp2
  rw [rounds_succ]
  go_wp2
  go_ret
  exact ⟨rfl, rfl⟩
set_option maxHeartbeats 4000000 in
theorem phases_any (a b : Int) (ha : -1048576 ≤ a ∧ a ≤ 1048576) (hb : -1048576 ≤ b ∧ b ≤ 1048576) (w : World) :
    Calls Try.prog 90 #[.int .i64 a, .int .i64 b] w fun e w' => e = .returned (.agg #[.int .i64 a, .int .i64 (phB a b), .int .i64 (-a - phB a b)]) ∧ Below w.heap.size w w' := by
  have hp := phB_bd ha hb
  have g1 : IntKind.i64.wrap (113511 * b) = 113511 * b := IntWalk.i64_in _ (by omega)
  have g2 : IntKind.i64.wrap (65536 * a) = 65536 * a := IntWalk.i64_in _ (by omega)
  have g3 : IntKind.i64.wrap (113511 * b - 65536 * a) = 113511 * b - 65536 * a := IntWalk.i64_in _ (by omega)
  have g4 : (113511 * b - 65536 * a).tdiv 131072 = phB a b := rfl
  generalize phB a b = v at *
  have g5 : IntKind.i64.wrap v = v := IntWalk.i64_in _ (by omega)
  have g6 : IntKind.i64.wrap (-a) = -a := IntWalk.i64_in _ (by omega)
  have g7 : IntKind.i64.wrap (-a - v) = -a - v := IntWalk.i64_in _ (by omega)
  go_enter Try.func90, Try.ntmps90
  go_wp2
  refine bodyPost_ret (v := .agg #[.int .i64 a, .int .i64 v, .int .i64 (-a - v)]) (by simp only [results, Try.results90]; go_simp) rfl ⟨rfl, by exact (by repeat (first | with_reducible assumption | with_reducible refine Below.drew ?_ | with_reducible refine below_drewN ?_ _ | with_reducible refine Below.alloc ?_ (by first | omega | (simp <;> omega)) _ | with_reducible refine Below.setCells ?_ | with_reducible refine Below.setCell ?_ (by first | omega | (simp <;> omega)) _ | with_reducible exact Below.refl _ _))⟩
set_option maxHeartbeats 4000000 in
theorem back_any (a b : Int) (ha : -1048576 ≤ a ∧ a ≤ 1048576) (hb : -1048576 ≤ b ∧ b ≤ 1048576) (w : World) :
    Calls Try.prog 56 #[.int .i64 a, .int .i64 b] w fun e w' => e = .returned (.tuple #[.agg #[.int .i64 a, .int .i64 (phB a b), .int .i64 (-a - phB a b)], .nilIface]) ∧ Below w.heap.size w w' := by
  have HP := hide (fun W => phases_any a b ha hb W)
  generalize phB a b = v at *
  go_enter Try.func56, Try.ntmps56
  go_wp2_with (first | (go_at_call 89; refine (cnear_two a b (w.heap.size + 1) (by omega) (by omega) _ (by go_simp) (by go_simp)).mono ?_; rintro e w8 ⟨rfl, rfl⟩) | (go_at_call 90; refine (HP.out _).mono ?_; rintro e w1 ⟨rfl, hb1⟩; have z1 := hb1.size; (try simp at z1); have c1x0 := bstep (b := w.heap.size) hb1 (by first | omega | (simp <;> omega)); have y1x0 : w.heap.size < w1.heap.size := (by omega); have f1x0 := bfro (b := w.heap.size) hb1 (by first | omega | (simp <;> omega)); have H1 : Below w.heap.size w w1 := Below.trans (by repeat (first | with_reducible assumption | with_reducible refine Below.drew ?_ | with_reducible refine below_drewN ?_ _ | with_reducible refine Below.alloc ?_ (by first | omega | (simp <;> omega)) _ | with_reducible refine Below.setCell ?_ (by first | omega | (simp <;> omega)) _ | with_reducible exact Below.refl _ _)) (hb1.mono (by first | omega | (simp <;> omega)))))
  refine bodyPost_ret (v := .tuple #[.agg #[.int .i64 a, .int .i64 v, .int .i64 (-a - v)], .nilIface]) (by simp only [results, Try.results56]; go_simp) rfl ⟨rfl, by exact (by repeat (first | with_reducible assumption | with_reducible refine Below.drew ?_ | with_reducible refine below_drewN ?_ _ | with_reducible refine Below.alloc ?_ (by first | omega | (simp <;> omega)) _ | with_reducible refine Below.setCells ?_ | with_reducible refine Below.setCell ?_ (by first | omega | (simp <;> omega)) _ | with_reducible exact Below.refl _ _))⟩
set_option maxHeartbeats 4000000 in
theorem vwithin_yes (n lo hi : Int) (w : World) (h1 : lo ≤ n) (h2 : n ≤ hi) :
    Calls Try.prog 88 #[.int .i64 n, .int .i64 lo, .int .i64 hi] w fun e w' => e = .returned (.bool true) ∧ w = w' := by
  go_enter Try.func88, Try.ntmps88
  go_wp2
  go_ret
  exact ⟨rfl, rfl⟩
set_option maxHeartbeats 4000000 in
theorem isLink_yes (n : Int) (w : World) (h : 16 ≤ n ∧ n ≤ 1048576) :
    Calls Try.prog 53 #[.int .i64 n] w fun e w' => e = .returned (.bool true) ∧ w = w' := by
  go_enter Try.func53, Try.ntmps53
  go_wp2_with (go_at_call 88; refine (vwithin_yes _ _ _ _ (by omega) (by omega)).mono ?_; rintro e w8 ⟨rfl, rfl⟩)
  go_ret
  exact ⟨rfl, rfl⟩
set_option maxHeartbeats 4000000 in
theorem visPeriod_yes (n : Int) (w : World) (h : 64 ≤ n ∧ n ≤ 4096) :
    Calls Try.prog 54 #[.int .i64 n] w fun e w' => e = .returned (.bool true) ∧ w = w' := by
  go_enter Try.func54, Try.ntmps54
  go_wp2_with (go_at_call 88; refine (vwithin_yes _ _ _ _ (by omega) (by omega)).mono ?_; rintro e w8 ⟨rfl, rfl⟩)
  go_ret
  exact ⟨rfl, rfl⟩
set_option maxHeartbeats 4000000 in
theorem isVector_yes (a b : Int) (w : World) (ha : -1048576 ≤ a ∧ a ≤ 1048576) (hb : -1048576 ≤ b ∧ b ≤ 1048576) :
    Calls Try.prog 55 #[.int .i64 a, .int .i64 b] w fun e w' => e = .returned (.bool true) ∧ w = w' := by
  go_enter Try.func55, Try.ntmps55
  go_wp2_with (go_at_call 88; refine (vwithin_yes _ _ _ _ (by omega) (by omega)).mono ?_; rintro e w8 ⟨rfl, rfl⟩)
  go_ret
  exact ⟨rfl, rfl⟩
set_option maxHeartbeats 4000000 in
theorem floor_any (a b : Int) (w : World) (ha : -1000000000000000 ≤ a ∧ a ≤ 1000000000000000) (hb : 1 ≤ b ∧ b ≤ 1000000000) :
    Calls Try.prog 57 #[.int .i64 a, .int .i64 b] w fun e w' => e = .returned (.int .i64 (a / b)) ∧ w = w' := by
  obtain ⟨k1, k2⟩ := floor_eq (a := a) (b := b) (by omega)
  have hz : ¬ b = 0 := by omega
  have bd : -1000000000000000 ≤ a.tdiv b ∧ a.tdiv b ≤ 1000000000000000 := tdiv_bd hb.1 ⟨by
    have : 1 * 1000000000000000 ≤ b * 1000000000000000 := Int.mul_le_mul_of_nonneg_right hb.1 (by decide)
    omega, by
    have : 1 * 1000000000000000 ≤ b * 1000000000000000 := Int.mul_le_mul_of_nonneg_right hb.1 (by decide)
    omega⟩
  have bm : -1000000000 ≤ a.tmod b ∧ a.tmod b ≤ 1000000000 := by
    by_cases h0 : 0 ≤ a
    · rw [Int.tmod_eq_emod_of_nonneg h0]
      have := Int.emod_nonneg a (show b ≠ 0 by omega)
      have := Int.emod_lt_of_pos a (show 0 < b by omega)
      omega
    · have e : a.tmod b = -((-a).tmod b) := by rw [Int.neg_tmod, Int.neg_neg]
      rw [e, Int.tmod_eq_emod_of_nonneg (by omega)]
      have := Int.emod_nonneg (-a) (show b ≠ 0 by omega)
      have := Int.emod_lt_of_pos (-a) (show 0 < b by omega)
      omega
  obtain ⟨q, hq⟩ : ∃ q, a.tdiv b = q := ⟨_, rfl⟩
  obtain ⟨r, hr'⟩ : ∃ r, a.tmod b = r := ⟨_, rfl⟩
  rw [hq] at k1 k2 bd
  rw [hr'] at k1 k2 bm
  replace k1 := hide k1
  replace k2 := hide k2
  have g1 : IntKind.i64.wrap q = q := IntWalk.i64_in _ (by omega)
  have g2 : IntKind.i64.wrap r = r := IntWalk.i64_in _ (by omega)
  have g3 : IntKind.i64.wrap (q - 1) = q - 1 := IntWalk.i64_in _ (by omega)
  by_cases hr : r < 0
  · have T := hide (k1.out hr)
    go_enter Try.func57, Try.ntmps57
    go_wp2
    go_ret
    exact ⟨ret_int T.out, rfl⟩
  · have T := hide (k2.out hr)
    replace hr : 0 ≤ r := by omega
    go_enter Try.func57, Try.ntmps57
    go_wp2
    go_ret
    exact ⟨ret_int T.out, rfl⟩
end Go.Proofs.Ytjeomdfcfbfebaa
