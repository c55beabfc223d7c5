/- Walks of what scales a vector into a circle. Condition: the ranges that each theorem names. -/
import Derived.Test.YtjeomdfcfbfebaaWsA
namespace Go.Proofs.Ytjeomdfcfbfebaa
open Go.RowKit PM

namespace PM
theorem sq_bd {x : Int} (h : -1048576 ≤ x ∧ x ≤ 1048576) : 0 ≤ x * x ∧ x * x ≤ 1099511627776 := by
  have e : x * x = (x.natAbs : Int) * (x.natAbs : Int) := by rw [← Int.natCast_mul]; exact (Int.natAbs_mul_self (a := x)).symm
  have h2 : (x.natAbs : Int) ≤ 1048576 := by omega
  have h3 : (0 : Int) ≤ (x.natAbs : Int) := by omega
  have h4 : (x.natAbs : Int) * (x.natAbs : Int) ≤ 1048576 * 1048576 := Int.mul_le_mul h2 h2 h3 (by decide)
  have h5 : (0 : Int) ≤ (x.natAbs : Int) * (x.natAbs : Int) := Int.mul_nonneg h3 h3
  omega
theorem sq_pos {x : Int} : 0 ≤ x * x := by
  have e : x * x = (x.natAbs : Int) * (x.natAbs : Int) := by rw [← Int.natCast_mul]; exact (Int.natAbs_mul_self (a := x)).symm
  have h5 : (0 : Int) ≤ (x.natAbs : Int) * (x.natAbs : Int) := Int.mul_nonneg (by omega) (by omega)
  omega
theorem sq_zero {x : Int} (h : x * x ≤ 0) : x = 0 := by
  have := sq_pos (x := x)
  have e : x * x = 0 := by omega
  rcases Int.mul_eq_zero.1 e with h | h <;> exact h
theorem abs_le {x l : Int} (hl : 0 ≤ l) (h : x * x ≤ l * l) : -l ≤ x ∧ x ≤ l := by
  by_cases h1 : x ≤ l
  · by_cases h2 : -l ≤ x
    · exact ⟨h2, h1⟩
    · have : (l + 1) * (l + 1) ≤ -x * -x := Int.mul_le_mul (by omega) (by omega) (by omega) (by omega)
      rw [Int.neg_mul_neg] at this
      have e : (l + 1) * (l + 1) = l * l + 2 * l + 1 := by rw [Int.add_mul, Int.mul_add, Int.mul_one, Int.one_mul]; omega
      omega
  · have : (l + 1) * (l + 1) ≤ x * x := Int.mul_le_mul (by omega) (by omega) (by omega) (by omega)
    have e : (l + 1) * (l + 1) = l * l + 2 * l + 1 := by rw [Int.add_mul, Int.mul_add, Int.mul_one, Int.one_mul]; omega
    omega
theorem mul_bd {x m l : Int} (hx : -l ≤ x ∧ x ≤ l) (hm : 0 ≤ m) : -(l * m) ≤ x * m ∧ x * m ≤ l * m := by
  have h1 := Int.mul_le_mul_of_nonneg_right hx.1 hm
  have h2 := Int.mul_le_mul_of_nonneg_right hx.2 hm
  rw [Int.neg_mul] at h1
  exact ⟨h1, h2⟩
theorem tdiv_bd {a m l : Int} (hl : 1 ≤ l) (h : -(l * m) ≤ a ∧ a ≤ l * m) : -m ≤ a.tdiv l ∧ a.tdiv l ≤ m := by
  by_cases ha : 0 ≤ a
  · rw [Int.tdiv_eq_ediv_of_nonneg ha]
    have h1 : 0 ≤ a / l := Int.ediv_nonneg ha (by omega)
    have h2 : a / l ≤ m := Int.ediv_le_of_le_mul (by omega) (by rw [Int.mul_comm]; exact h.2)
    exact ⟨by omega, h2⟩
  · have e : a.tdiv l = -((-a) / l) := by rw [← Int.tdiv_eq_ediv_of_nonneg (by omega), Int.neg_tdiv, Int.neg_neg]
    have h1 : 0 ≤ (-a) / l := Int.ediv_nonneg (by omega) (by omega)
    have h2 : (-a) / l ≤ m := Int.ediv_le_of_le_mul (by omega) (by rw [Int.mul_comm]; omega)
    rw [e]
    omega
end PM
set_option maxHeartbeats 4000000 in
theorem up_any (n : Int) (h0 : 1 ≤ n) (h1 : n ≤ 4398046511104) : ∃ l, (1 ≤ l ∧ n ≤ l * l ∧ l ≤ 2097153) ∧ ∀ w : World,
    Calls Try.prog 96 #[.int .i64 n] w fun e w' => e = .returned (.int .i64 l) ∧ w = w' := by
  obtain ⟨r, ⟨r0, r1, r2⟩, HS⟩ := sqrt_fun n (by omega) h1
  have r3 := root_bd r0 r1 h1
  have r4 := sq_pos (x := r)
  have g1 : IntKind.i64.wrap (r * r) = r * r := IntWalk.i64_in _ (by omega)
  have g2 : IntKind.i64.wrap (r + 1) = r + 1 := IntWalk.i64_in _ (by omega)
  have hn : 0 < n := by omega
  replace HS := hide HS
  by_cases hc : r * r < n
  · refine ⟨r + 1, ⟨by omega, by omega, by omega⟩, fun w => ?_⟩
    clear r1 r2
    go_enter Try.func96, Try.ntmps96
    go_wp2_with (go_at_call 110; refine (HS.out _).mono ?_; rintro e w8 ⟨rfl, rfl⟩)
    go_ret
    exact ⟨rfl, rfl⟩
  · refine ⟨r, ⟨by
      by_cases hz : r = 0
      · subst hz; omega
      · omega, by omega, by omega⟩, fun w => ?_⟩
    clear r1 r2
    replace hc : n ≤ r * r := by omega
    go_enter Try.func96, Try.ntmps96
    go_wp2_with (go_at_call 110; refine (HS.out _).mono ?_; rintro e w8 ⟨rfl, rfl⟩)
    go_ret
    exact ⟨rfl, rfl⟩
set_option maxHeartbeats 4000000 in
theorem near_two (x y : Int) (g : Nat) (hx : -1073741824 ≤ x ∧ x ≤ 1073741824) (hy : -1073741824 ≤ y ∧ y ≤ 1073741824) (w : World) (c0 : w.cell? ⟨g, 0, none⟩ = some (.int .i64 x)) (c1 : w.cell? ⟨g, 1, none⟩ = some (.int .i64 y)) :
    Calls Try.prog 95 #[.slice (some ⟨g, 0, none⟩) 2 2] w fun e w' => e = .returned (.bool true) ∧ w = w' := by
  obtain ⟨x1, x2⟩ := hx
  obtain ⟨y1, y2⟩ := hy
  go_enter Try.func95, Try.ntmps95
  go_wp2
  refine wp_loop_rounds 3 ?_
  rw [rounds_succ]
  go_wp2
  rw [rounds_succ]
  go_wp2
  rw [rounds_succ]
  go_wp2
  go_ret
  exact ⟨rfl, rfl⟩
set_option maxHeartbeats 4000000 in
theorem near_three (x y z : Int) (g : Nat) (hx : -1073741824 ≤ x ∧ x ≤ 1073741824) (hy : -1073741824 ≤ y ∧ y ≤ 1073741824) (hz : -1073741824 ≤ z ∧ z ≤ 1073741824) (w : World) (c0 : w.cell? ⟨g, 0, none⟩ = some (.int .i64 x)) (c1 : w.cell? ⟨g, 1, none⟩ = some (.int .i64 y)) (c2 : w.cell? ⟨g, 2, none⟩ = some (.int .i64 z)) :
    Calls Try.prog 95 #[.slice (some ⟨g, 0, none⟩) 3 3] w fun e w' => e = .returned (.bool true) ∧ w = w' := by
  obtain ⟨x1, x2⟩ := hx
  obtain ⟨y1, y2⟩ := hy
  obtain ⟨z1, z2⟩ := hz
  go_enter Try.func95, Try.ntmps95
  go_wp2
  refine wp_loop_rounds 4 ?_
  rw [rounds_succ]
  go_wp2
  rw [rounds_succ]
  go_wp2
  rw [rounds_succ]
  go_wp2
  rw [rounds_succ]
  go_wp2
  go_ret
  exact ⟨rfl, rfl⟩
set_option maxHeartbeats 4000000 in
theorem above_any (x y : Int) (hx : -1048576 ≤ x ∧ x ≤ 1048576) (hy : -1048576 ≤ y ∧ y ≤ 1048576) (hp : 1 ≤ x * x + y * y) : ∃ l, (1 ≤ l ∧ x * x + y * y ≤ l * l ∧ l ≤ 2097153) ∧ ∀ w : World,
    Calls Try.prog 87 #[.int .i64 x, .int .i64 y] w fun e w' => e = .returned (.tuple #[.int .i64 l, .nilIface]) ∧ Below w.heap.size w w' := by
  obtain ⟨s1, s2⟩ := sq_bd hx
  obtain ⟨s3, s4⟩ := sq_bd hy
  have g1 : IntKind.i64.wrap (x * x) = x * x := IntWalk.i64_in _ (by omega)
  have g2 : IntKind.i64.wrap (y * y) = y * y := IntWalk.i64_in _ (by omega)
  have g3 : IntKind.i64.wrap (x * x + y * y) = x * x + y * y := IntWalk.i64_in _ (by omega)
  obtain ⟨l, hl, HU⟩ := up_any (x * x + y * y) hp (by omega)
  refine ⟨l, hl, fun w => ?_⟩
  replace HU := hide HU
  clear s1 s2 s3 s4 hp hl
  go_enter Try.func87, Try.ntmps87
  go_upto_region 3 with (go_at_call 95; refine (near_two x y w.heap.size (by omega) (by omega) _ (by go_simp) (by go_simp)).mono ?_; rintro e w8 ⟨rfl, rfl⟩)
  go_wp2_with (go_at_call 96; refine (HU.out _).mono ?_; rintro e w7 ⟨rfl, rfl⟩)
  refine bodyPost_ret (results_tmp2 rfl _ _ _) rfl ⟨rfl, by exact (by repeat (first | with_reducible assumption | with_reducible refine Below.drew ?_ | with_reducible refine below_drewN ?_ _ | with_reducible refine Below.alloc ?_ (by first | omega | (simp <;> omega)) _ | with_reducible refine Below.setCell ?_ (by first | omega | (simp <;> omega)) _ | with_reducible exact Below.refl _ _))⟩
set_option maxHeartbeats 4000000 in
theorem within_any (x y m : Int) (hx : -1048576 ≤ x ∧ x ≤ 1048576) (hy : -1048576 ≤ y ∧ y ≤ 1048576) (hm : 0 ≤ m ∧ m ≤ 1048576) (w : World) :
    Calls Try.prog 86 #[.int .i64 x, .int .i64 y, .int .i64 m] w fun e w' => e = .returned (.tuple #[.bool (decide (x * x + y * y ≤ m * m)), .nilIface]) ∧ Below w.heap.size w w' := by
  obtain ⟨s1, s2⟩ := sq_bd hx
  obtain ⟨s3, s4⟩ := sq_bd hy
  obtain ⟨s5, s6⟩ := sq_bd (x := m) (by omega)
  have g1 : IntKind.i64.wrap (x * x) = x * x := IntWalk.i64_in _ (by omega)
  have g2 : IntKind.i64.wrap (y * y) = y * y := IntWalk.i64_in _ (by omega)
  have g3 : IntKind.i64.wrap (x * x + y * y) = x * x + y * y := IntWalk.i64_in _ (by omega)
  have g4 : IntKind.i64.wrap (m * m) = m * m := IntWalk.i64_in _ (by omega)
  obtain ⟨m1, m2⟩ := hm
  clear s1 s2 s3 s4 s5 s6
  go_enter Try.func86, Try.ntmps86
  go_wp2_with (go_at_call 95; refine (near_three x y m w.heap.size (by omega) (by omega) (by omega) _ (by go_simp) (by go_simp) (by go_simp)).mono ?_; rintro e w8 ⟨rfl, rfl⟩)
  refine bodyPost_ret (results_tmp2 rfl _ _ _) rfl ⟨rfl, by exact (by repeat (first | with_reducible assumption | with_reducible refine Below.drew ?_ | with_reducible refine below_drewN ?_ _ | with_reducible refine Below.alloc ?_ (by first | omega | (simp <;> omega)) _ | with_reducible refine Below.setCell ?_ (by first | omega | (simp <;> omega)) _ | with_reducible exact Below.refl _ _))⟩
set_option maxHeartbeats 4000000 in
theorem scale_any (x y m : Int) (hx : -1048576 ≤ x ∧ x ≤ 1048576) (hy : -1048576 ≤ y ∧ y ≤ 1048576) (hm : 0 ≤ m ∧ m ≤ 1048576) : ∃ u v lim, ((-1048576 ≤ u ∧ u ≤ 1048576) ∧ (-1048576 ≤ v ∧ v ≤ 1048576)) ∧ ∀ w : World,
    Calls Try.prog 52 #[.int .i64 x, .int .i64 y, .int .i64 m] w fun e w' => e = .returned (.tuple #[.int .i64 u, .int .i64 v, .bool lim, .nilIface]) ∧ Below w.heap.size w w' := by
  have HW := hide (fun W => within_any x y m hx hy hm W)
  by_cases hc : x * x + y * y ≤ m * m
  · rw [decide_eq_true hc] at HW
    clear hc
    refine ⟨x, y, false, ⟨hx, hy⟩, fun w => ?_⟩
    go_enter Try.func52, Try.ntmps52
    go_wp2_with (go_at_call 86; refine (HW.out _).mono ?_; rintro e w1 ⟨rfl, hb1⟩; have z1 := hb1.size; (try simp at z1); have H1 : Below w.heap.size w w1 := Below.trans (by repeat (first | with_reducible assumption | with_reducible refine Below.drew ?_ | with_reducible refine below_drewN ?_ _ | with_reducible refine Below.alloc ?_ (by first | omega | (simp <;> omega)) _ | with_reducible refine Below.setCell ?_ (by first | omega | (simp <;> omega)) _ | with_reducible exact Below.refl _ _)) (hb1.mono (by first | omega | (simp <;> omega))))
    refine bodyPost_ret (v := .tuple #[.int .i64 x, .int .i64 y, .bool false, .nilIface]) (by simp only [results, Try.results52]; go_simp) rfl ⟨rfl, by exact (by repeat (first | with_reducible assumption | with_reducible refine Below.drew ?_ | with_reducible refine below_drewN ?_ _ | with_reducible refine Below.alloc ?_ (by first | omega | (simp <;> omega)) _ | with_reducible refine Below.setCell ?_ (by first | omega | (simp <;> omega)) _ | with_reducible exact Below.refl _ _))⟩
  · rw [decide_eq_false hc] at HW
    have sm := sq_pos (x := m)
    have sx := sq_pos (x := x)
    have sy := sq_pos (x := y)
    obtain ⟨l, ⟨l1, l2, l3⟩, HA⟩ := above_any x y hx hy (by omega)
    replace HA := hide HA
    have bx := mul_bd (abs_le (x := x) (l := l) (by omega) (by omega)) hm.1
    have bY := mul_bd (abs_le (x := y) (l := l) (by omega) (by omega)) hm.1
    have tx := tdiv_bd l1 bx
    have ty := tdiv_bd l1 bY
    have blm : l * m ≤ 2097153 * 1048576 := Int.mul_le_mul l3 hm.2 hm.1 (by decide)
    have g1 : IntKind.i64.wrap (x * m) = x * m := IntWalk.i64_in _ (by omega)
    have g2 : IntKind.i64.wrap (y * m) = y * m := IntWalk.i64_in _ (by omega)
    have hz : ¬ l = 0 := by omega
    obtain ⟨U, hU⟩ : ∃ U, (x * m).tdiv l = U := ⟨_, rfl⟩
    obtain ⟨V, hV⟩ : ∃ V, (y * m).tdiv l = V := ⟨_, rfl⟩
    rw [hU] at tx
    rw [hV] at ty
    have g3 : IntKind.i64.wrap U = U := IntWalk.i64_in _ (by omega)
    have g4 : IntKind.i64.wrap V = V := IntWalk.i64_in _ (by omega)
    refine ⟨U, V, true, ⟨⟨by omega, by omega⟩, ⟨by omega, by omega⟩⟩, fun w => ?_⟩
    clear bx bY tx ty blm sm sx sy hc l2 l3
    go_enter Try.func52, Try.ntmps52
    go_upto_region 7 with (first
    | (go_at_call 86; refine (HW.out _).mono ?_; rintro e w1 ⟨rfl, hb1⟩; have z1 := hb1.size; (try simp at z1); have H1 : Below w.heap.size w w1 := Below.trans (by repeat (first | with_reducible assumption | with_reducible refine Below.drew ?_ | with_reducible refine below_drewN ?_ _ | with_reducible refine Below.alloc ?_ (by first | omega | (simp <;> omega)) _ | with_reducible refine Below.setCell ?_ (by first | omega | (simp <;> omega)) _ | with_reducible exact Below.refl _ _)) (hb1.mono (by first | omega | (simp <;> omega))))
    | (go_at_call 87; refine (HA.out _).mono ?_; rintro e w2 ⟨rfl, hb2⟩; have z2 := hb2.size; (try simp at z2); have H2 : Below w.heap.size w w2 := Below.trans (by repeat (first | with_reducible assumption | with_reducible refine Below.drew ?_ | with_reducible refine below_drewN ?_ _ | with_reducible refine Below.alloc ?_ (by first | omega | (simp <;> omega)) _ | with_reducible refine Below.setCell ?_ (by first | omega | (simp <;> omega)) _ | with_reducible exact Below.refl _ _)) (hb2.mono (by first | omega | (simp <;> omega)))))
    go_quiet (fail)
    go_wp2
    refine bodyPost_ret (v := .tuple #[.int .i64 U, .int .i64 V, .bool true, .nilIface]) (by simp only [results, Try.results52]; go_simp) rfl ⟨rfl, by exact (by repeat (first | with_reducible assumption | with_reducible refine Below.drew ?_ | with_reducible refine below_drewN ?_ _ | with_reducible refine Below.alloc ?_ (by first | omega | (simp <;> omega)) _ | with_reducible refine Below.setCell ?_ (by first | omega | (simp <;> omega)) _ | with_reducible exact Below.refl _ _))⟩
set_option maxHeartbeats 4000000 in
theorem owithin_yes (n lo hi : Int) (w : World) (h1 : lo ≤ n) (h2 : n ≤ hi) :
    Calls Try.prog 85 #[.int .i64 n, .int .i64 lo, .int .i64 hi] w fun e w' => e = .returned (.bool true) ∧ w = w' := by
  go_enter Try.func85, Try.ntmps85
  go_wp2
  go_ret
  exact ⟨rfl, rfl⟩
set_option maxHeartbeats 4000000 in
theorem ocheck_ok (a b link : Int) (ha : -1048576 ≤ a ∧ a ≤ 1048576) (hb : -1048576 ≤ b ∧ b ≤ 1048576) (hl : 16 ≤ link ∧ link ≤ 1048576) (w : World) :
    Calls Try.prog 50 #[.int .i64 a, .int .i64 b, .int .i64 link] w fun e w' => e = .returned .nilIface ∧ w = w' := by
  go_enter Try.func50, Try.ntmps50
  go_wp2_with (go_at_call 85; refine (owithin_yes _ _ _ _ (by omega) (by omega)).mono ?_; rintro e w8 ⟨rfl, rfl⟩)
  go_ret
  exact ⟨rfl, rfl⟩
set_option maxHeartbeats 4000000 in
theorem radius_any (link : Int) (hl : 16 ≤ link ∧ link ≤ 1048576) (w : World) :
    Calls Try.prog 51 #[.int .i64 link] w fun e w' => e = .returned (.tuple #[.int .i64 (link * 37837 / 65536 - 2), .nilIface]) ∧ w = w' := by
  have HK := hide (fun W => ocheck_ok 0 0 link (by decide) (by decide) hl W)
  have hd : (link * 37837).tdiv 65536 = link * 37837 / 65536 := Int.tdiv_eq_ediv_of_nonneg (by omega)
  have g1 : IntKind.i64.wrap (link * 37837) = link * 37837 := IntWalk.i64_in _ (by omega)
  have g2 : IntKind.i64.wrap (link * 37837 / 65536) = link * 37837 / 65536 := IntWalk.i64_in _ (by omega)
  have g3 : IntKind.i64.wrap (link * 37837 / 65536 - 2) = link * 37837 / 65536 - 2 := IntWalk.i64_in _ (by omega)
  go_enter Try.func51, Try.ntmps51
  go_wp2_with (go_at_call 50; refine (HK.out _).mono ?_; rintro e w8 ⟨rfl, rfl⟩)
  refine bodyPost_ret (results_tmp2 rfl _ _ _) rfl ⟨rfl, rfl⟩
set_option maxHeartbeats 4000000 in
theorem circle_any (a b link : Int) (ha : -1048576 ≤ a ∧ a ≤ 1048576) (hb : -1048576 ≤ b ∧ b ≤ 1048576) (hl : 16 ≤ link ∧ link ≤ 1048576) : ∃ u v lim, ((-1048576 ≤ u ∧ u ≤ 1048576) ∧ (-1048576 ≤ v ∧ v ≤ 1048576)) ∧ ∀ w : World,
    Calls Try.prog 23 #[.int .i64 a, .int .i64 b, .int .i64 link] w fun e w' => e = .returned (.tuple #[.int .i64 u, .int .i64 v, .bool lim, .nilIface]) ∧ Below w.heap.size w w' := by
  have HK := hide (fun W => ocheck_ok a b link ha hb hl W)
  have HR := hide (fun W => radius_any link hl W)
  obtain ⟨u, v, lim, hu, HS⟩ := scale_any a b (link * 37837 / 65536 - 2) ha hb ⟨by omega, by omega⟩
  refine ⟨u, v, lim, hu, fun w => ?_⟩
  replace HS := hide HS
  clear ha hb hl hu
  generalize link * 37837 / 65536 - 2 = m at HR HS
  go_enter Try.func23, Try.ntmps23
  go_wp2_with (first | (go_at_call 50; refine (HK.out _).mono ?_; rintro e w8 ⟨rfl, rfl⟩) | (go_at_call 51; refine (HR.out _).mono ?_; rintro e w7 ⟨rfl, rfl⟩) | (go_at_call 52; refine (HS.out _).mono ?_; rintro e w2 ⟨rfl, hb2⟩; have z2 := hb2.size; (try simp at z2)))
  refine bodyPost_ret (v := .tuple #[.int .i64 u, .int .i64 v, .bool lim, .nilIface]) (by simp only [results, Try.results23]; go_simp) rfl ⟨rfl, by first | exact hb2 | exact hb2.drew⟩
end Go.Proofs.Ytjeomdfcfbfebaa
