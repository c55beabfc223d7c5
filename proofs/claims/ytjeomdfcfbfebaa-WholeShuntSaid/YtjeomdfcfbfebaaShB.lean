/- Walks of Join, of the program and of the reference: the currents of two samples, or the number of the error, for every input. -/
import Derived.Test.YtjeomdfcfbfebaaShA
import Derived.Test.YtjeomdfcfbfebaaPatF
namespace Go.Proofs.Ytjeomdfcfbfebaa
open Go.RowKit PM

namespace PM
def small (x : Int) : Prop := -1073741824 ≤ x ∧ x ≤ 1073741824
instance (x : Int) : Decidable (small x) := by unfold small; infer_instance
def leg02 (a : Int) : Prop := 0 ≤ a ∧ a ≤ 2
instance (a : Int) : Decidable (leg02 a) := by unfold leg02; infer_instance
/-- The number of Join's error. -/
def joinC (a b s0 s1 : Int) : Int := if leg02 a ∧ leg02 b then (if a = b then 6 else if small s0 ∧ small s1 then 0 else 3) else 10
/-- The current of leg i that Join returns. -/
def joinO (a b s0 s1 i : Int) : Int := if joinC a b s0 s1 = 0 then (if i = a then s0 else if i = b then -s1 else s1 - s0) else 0
theorem leg_cases {a : Int} (h : leg02 a) : a = 0 ∨ a = 1 ∨ a = 2 := by unfold leg02 at h; omega
end PM
theorem ret_cur {x0 x1 x2 y0 y1 y2 : Int} {e : Value} (h0 : x0 = y0) (h1 : x1 = y1) (h2 : x2 = y2) : Ending.returned (.tuple #[.agg #[.int .i64 x0, .int .i64 x1, .int .i64 x2], e]) = .returned (.tuple #[.agg #[.int .i64 y0, .int .i64 y1, .int .i64 y2], e]) := by rw [h0, h1, h2]
set_option maxHeartbeats 4000000 in
set_option maxRecDepth 100000 in
theorem join_a (t0 t1 a b s0 s1 : Int) (h : ¬ leg02 a) (w : World) :
    Calls Try.prog 29 #[.agg #[.int .i64 t0, .int .i64 t1, .int .i64 a, .int .i64 b], .agg #[.int .i64 s0, .int .i64 s1]] w fun e w' => e = .returned (.tuple #[.agg #[.int .i64 0, .int .i64 0, .int .i64 0], .iface 96 (.int .i64 10)]) ∧ Below w.heap.size w w' := by
  have hc : a < 0 ∨ (0 ≤ a ∧ 2 < a) := by unfold leg02 at h; omega
  clear h
  rcases hc with h1 | ⟨h1, h2⟩
  all_goals
    go_enter Try.func29, Try.ntmps29
    go_wp2
    go_quiet (fail)
    go_wp2_with (go_at_call 66; first | (refine (swithin_yes _ _ _ _ (by omega) (by omega)).mono ?_; rintro e w8 ⟨rfl, rfl⟩) | (refine (swithin_no _ _ _ _ (by omega)).mono ?_; rintro e w8 ⟨rfl, rfl⟩))
    refine bodyPost_ret (v := .tuple #[.agg #[.int .i64 0, .int .i64 0, .int .i64 0], _]) (by simp only [results, Try.results29]; go_simp) rfl ⟨rfl, by exact (by repeat (first | with_reducible assumption | with_reducible refine Below.drew ?_ | with_reducible refine below_drewN ?_ _ | with_reducible refine Below.alloc ?_ (by first | omega | (simp <;> omega)) _ | with_reducible refine Below.setCell ?_ (by first | omega | (simp <;> omega)) _ | with_reducible exact Below.refl _ _))⟩
set_option maxHeartbeats 4000000 in
set_option maxRecDepth 100000 in
theorem join_b (t0 t1 a b s0 s1 : Int) (ha : leg02 a) (h : ¬ leg02 b) (w : World) :
    Calls Try.prog 29 #[.agg #[.int .i64 t0, .int .i64 t1, .int .i64 a, .int .i64 b], .agg #[.int .i64 s0, .int .i64 s1]] w fun e w' => e = .returned (.tuple #[.agg #[.int .i64 0, .int .i64 0, .int .i64 0], .iface 96 (.int .i64 10)]) ∧ Below w.heap.size w w' := by
  obtain ⟨a1, a2⟩ := ha
  have hc : b < 0 ∨ (0 ≤ b ∧ 2 < b) := by unfold leg02 at h; omega
  clear h
  rcases hc with h1 | ⟨h1, h2⟩
  all_goals
    go_enter Try.func29, Try.ntmps29
    go_wp2
    go_quiet (fail)
    go_wp2_with (go_at_call 66; first | (refine (swithin_yes _ _ _ _ (by omega) (by omega)).mono ?_; rintro e w8 ⟨rfl, rfl⟩) | (refine (swithin_no _ _ _ _ (by omega)).mono ?_; rintro e w8 ⟨rfl, rfl⟩))
    refine bodyPost_ret (v := .tuple #[.agg #[.int .i64 0, .int .i64 0, .int .i64 0], _]) (by simp only [results, Try.results29]; go_simp) rfl ⟨rfl, by exact (by repeat (first | with_reducible assumption | with_reducible refine Below.drew ?_ | with_reducible refine below_drewN ?_ _ | with_reducible refine Below.alloc ?_ (by first | omega | (simp <;> omega)) _ | with_reducible refine Below.setCell ?_ (by first | omega | (simp <;> omega)) _ | with_reducible exact Below.refl _ _))⟩
set_option maxHeartbeats 4000000 in
set_option maxRecDepth 100000 in
theorem join_ab (t0 t1 a b s0 s1 : Int) (ha : leg02 a) (h : a = b) (w : World) :
    Calls Try.prog 29 #[.agg #[.int .i64 t0, .int .i64 t1, .int .i64 a, .int .i64 b], .agg #[.int .i64 s0, .int .i64 s1]] w fun e w' => e = .returned (.tuple #[.agg #[.int .i64 0, .int .i64 0, .int .i64 0], .iface 96 (.int .i64 6)]) ∧ Below w.heap.size w w' := by
  subst h
  obtain ⟨a1, a2⟩ := ha
  skip
  all_goals
    go_enter Try.func29, Try.ntmps29
    go_wp2
    go_quiet (fail)
    go_wp2_with (go_at_call 66; first | (refine (swithin_yes _ _ _ _ (by omega) (by omega)).mono ?_; rintro e w8 ⟨rfl, rfl⟩) | (refine (swithin_no _ _ _ _ (by omega)).mono ?_; rintro e w8 ⟨rfl, rfl⟩))
    refine bodyPost_ret (v := .tuple #[.agg #[.int .i64 0, .int .i64 0, .int .i64 0], _]) (by simp only [results, Try.results29]; go_simp) rfl ⟨rfl, by exact (by repeat (first | with_reducible assumption | with_reducible refine Below.drew ?_ | with_reducible refine below_drewN ?_ _ | with_reducible refine Below.alloc ?_ (by first | omega | (simp <;> omega)) _ | with_reducible refine Below.setCell ?_ (by first | omega | (simp <;> omega)) _ | with_reducible exact Below.refl _ _))⟩
set_option maxHeartbeats 4000000 in
set_option maxRecDepth 100000 in
theorem join_s0 (t0 t1 a b s0 s1 : Int) (ha : leg02 a) (hb : leg02 b) (hn : ¬ a = b) (h : ¬ PM.small s0) (w : World) :
    Calls Try.prog 29 #[.agg #[.int .i64 t0, .int .i64 t1, .int .i64 a, .int .i64 b], .agg #[.int .i64 s0, .int .i64 s1]] w fun e w' => e = .returned (.tuple #[.agg #[.int .i64 0, .int .i64 0, .int .i64 0], .iface 96 (.int .i64 3)]) ∧ Below w.heap.size w w' := by
  obtain ⟨a1, a2⟩ := ha
  obtain ⟨b1, b2⟩ := hb
  unfold PM.small at h
  skip
  all_goals
    go_enter Try.func29, Try.ntmps29
    go_wp2
    go_quiet (fail)
    go_wp2_with (go_at_call 66; first | (refine (swithin_yes _ _ _ _ (by omega) (by omega)).mono ?_; rintro e w8 ⟨rfl, rfl⟩) | (refine (swithin_no _ _ _ _ (by omega)).mono ?_; rintro e w8 ⟨rfl, rfl⟩))
    refine bodyPost_ret (v := .tuple #[.agg #[.int .i64 0, .int .i64 0, .int .i64 0], _]) (by simp only [results, Try.results29]; go_simp) rfl ⟨rfl, by exact (by repeat (first | with_reducible assumption | with_reducible refine Below.drew ?_ | with_reducible refine below_drewN ?_ _ | with_reducible refine Below.alloc ?_ (by first | omega | (simp <;> omega)) _ | with_reducible refine Below.setCell ?_ (by first | omega | (simp <;> omega)) _ | with_reducible exact Below.refl _ _))⟩
set_option maxHeartbeats 4000000 in
set_option maxRecDepth 100000 in
theorem join_s1 (t0 t1 a b s0 s1 : Int) (ha : leg02 a) (hb : leg02 b) (hn : ¬ a = b) (h0 : PM.small s0) (h : ¬ PM.small s1) (w : World) :
    Calls Try.prog 29 #[.agg #[.int .i64 t0, .int .i64 t1, .int .i64 a, .int .i64 b], .agg #[.int .i64 s0, .int .i64 s1]] w fun e w' => e = .returned (.tuple #[.agg #[.int .i64 0, .int .i64 0, .int .i64 0], .iface 96 (.int .i64 3)]) ∧ Below w.heap.size w w' := by
  obtain ⟨a1, a2⟩ := ha
  obtain ⟨b1, b2⟩ := hb
  obtain ⟨c1, c2⟩ := h0
  unfold PM.small at h
  skip
  all_goals
    go_enter Try.func29, Try.ntmps29
    go_wp2
    go_quiet (fail)
    go_wp2_with (go_at_call 66; first | (refine (swithin_yes _ _ _ _ (by omega) (by omega)).mono ?_; rintro e w8 ⟨rfl, rfl⟩) | (refine (swithin_no _ _ _ _ (by omega)).mono ?_; rintro e w8 ⟨rfl, rfl⟩))
    refine bodyPost_ret (v := .tuple #[.agg #[.int .i64 0, .int .i64 0, .int .i64 0], _]) (by simp only [results, Try.results29]; go_simp) rfl ⟨rfl, by exact (by repeat (first | with_reducible assumption | with_reducible refine Below.drew ?_ | with_reducible refine below_drewN ?_ _ | with_reducible refine Below.alloc ?_ (by first | omega | (simp <;> omega)) _ | with_reducible refine Below.setCell ?_ (by first | omega | (simp <;> omega)) _ | with_reducible exact Below.refl _ _))⟩
set_option maxHeartbeats 4000000 in
set_option maxRecDepth 100000 in
theorem join_01 (t0 t1 s0 s1 : Int) (h0 : PM.small s0) (h1 : PM.small s1) (w : World) :
    Calls Try.prog 29 #[.agg #[.int .i64 t0, .int .i64 t1, .int .i64 0, .int .i64 1], .agg #[.int .i64 s0, .int .i64 s1]] w fun e w' => e = .returned (.tuple #[.agg #[.int .i64 s0, .int .i64 (-s1), .int .i64 (s1 - s0)], .nilIface]) ∧ Below w.heap.size w w' := by
  obtain ⟨c1, c2⟩ := h0
  obtain ⟨c3, c4⟩ := h1
  go_enter Try.func29, Try.ntmps29
  go_wp2
  go_quiet (fail)
  go_upto_region 9 with (go_at_call 66; first | (refine (swithin_yes _ _ _ _ (by omega) (by omega)).mono ?_; rintro e w8 ⟨rfl, rfl⟩) | (refine (swithin_no _ _ _ _ (by omega)).mono ?_; rintro e w8 ⟨rfl, rfl⟩))
  go_cut [8] (fun s8 wx => s8 = .pointer (some ⟨w.heap.size + 1 + 1 + 1, 0, none⟩) ∧ wx.cell? ⟨w.heap.size + 1 + 1 + 1, 0, none⟩ = some (.int .i64 (s0)) ∧ wx.cell? ⟨w.heap.size + 1 + 1 + 1, 1, none⟩ = some (.int .i64 (-s1)) ∧ wx.cell? ⟨w.heap.size + 1 + 1 + 1, 2, none⟩ = some (.int .i64 (0)) ∧ wx.cell? ⟨w.heap.size + 1 + 1, 0, none⟩ = some (.int .i64 0) ∧ wx.cell? ⟨w.heap.size + 1 + 1, 1, none⟩ = some (.int .i64 0) ∧ wx.cell? ⟨w.heap.size + 1 + 1, 2, none⟩ = some (.int .i64 0) ∧ wx.cell? ⟨w.heap.size + 1, 0, none⟩ = some (.int .i64 s0) ∧ wx.cell? ⟨w.heap.size + 1, 1, none⟩ = some (.int .i64 s1) ∧ (∀ o, wx.frozen? ⟨w.heap.size + 1 + 1 + 1, o, none⟩ = false) ∧ (∀ o, wx.frozen? ⟨w.heap.size + 1 + 1, o, none⟩ = false) ∧ wx.heap.size = w.heap.size + 4 ∧ Below w.heap.size w wx)
  case first =>
    go_region
    all_goals
      go_wp2
      go_meet
      exact ⟨by go_simp, by go_simp, by go_simp, by go_simp, by go_simp, by go_simp, by go_simp, by go_simp, by go_simp, fun o => by go_simp, fun o => by go_simp, by simp <;> omega, by exact (by repeat (first | with_reducible assumption | with_reducible refine Below.drew ?_ | with_reducible refine below_drewN ?_ _ | with_reducible refine Below.alloc ?_ (by first | omega | (simp <;> omega)) _ | with_reducible refine Below.setCell ?_ (by first | omega | (simp <;> omega)) _ | with_reducible exact Below.refl _ _))⟩
  case rest =>
  obtain ⟨rfl, k0, k1, k2, k3, k4, k5, k6, k7, k8, k9, kz, hB⟩ := hcut
  have y0 : w.heap.size + 1 + 1 + 1 < wc.heap.size := by omega
  have y1 : w.heap.size + 1 + 1 < wc.heap.size := by omega
  have y2 : w.heap.size + 1 < wc.heap.size := by omega
  go_wp2
  refine region_quiet_tail 13 (by kernel_rfl) (by kernel_rfl) ?_
  simp only [List.take_succ_cons, List.take_zero, List.drop_succ_cons, List.drop_zero]
  repeat (first | go_big_quiet_skip | (go_big_quiet_want; go_big_quiet_op; go_big_quiet_on))
  refine wpQuiet_nil ?_
  go_wp2
  refine bodyPost_ret (v := .tuple #[.agg #[.int .i64 (s0), .int .i64 (-s1), .int .i64 (-s0 + s1)], _]) (by simp only [results, Try.results29]; go_simp) rfl ⟨ret_cur (by omega) (by omega) (by omega), ?_⟩
  exact (by repeat (first | with_reducible exact hB | with_reducible refine Below.drew ?_ | with_reducible refine below_drewN ?_ _ | with_reducible refine Below.setCell ?_ (by first | omega | (simp <;> omega)) _))
set_option maxHeartbeats 4000000 in
set_option maxRecDepth 100000 in
theorem join_02 (t0 t1 s0 s1 : Int) (h0 : PM.small s0) (h1 : PM.small s1) (w : World) :
    Calls Try.prog 29 #[.agg #[.int .i64 t0, .int .i64 t1, .int .i64 0, .int .i64 2], .agg #[.int .i64 s0, .int .i64 s1]] w fun e w' => e = .returned (.tuple #[.agg #[.int .i64 s0, .int .i64 (s1 - s0), .int .i64 (-s1)], .nilIface]) ∧ Below w.heap.size w w' := by
  obtain ⟨c1, c2⟩ := h0
  obtain ⟨c3, c4⟩ := h1
  go_enter Try.func29, Try.ntmps29
  go_wp2
  go_quiet (fail)
  go_upto_region 9 with (go_at_call 66; first | (refine (swithin_yes _ _ _ _ (by omega) (by omega)).mono ?_; rintro e w8 ⟨rfl, rfl⟩) | (refine (swithin_no _ _ _ _ (by omega)).mono ?_; rintro e w8 ⟨rfl, rfl⟩))
  go_cut [8] (fun s8 wx => s8 = .pointer (some ⟨w.heap.size + 1 + 1 + 1, 0, none⟩) ∧ wx.cell? ⟨w.heap.size + 1 + 1 + 1, 0, none⟩ = some (.int .i64 (s0)) ∧ wx.cell? ⟨w.heap.size + 1 + 1 + 1, 1, none⟩ = some (.int .i64 (0)) ∧ wx.cell? ⟨w.heap.size + 1 + 1 + 1, 2, none⟩ = some (.int .i64 (-s1)) ∧ wx.cell? ⟨w.heap.size + 1 + 1, 0, none⟩ = some (.int .i64 0) ∧ wx.cell? ⟨w.heap.size + 1 + 1, 1, none⟩ = some (.int .i64 0) ∧ wx.cell? ⟨w.heap.size + 1 + 1, 2, none⟩ = some (.int .i64 0) ∧ wx.cell? ⟨w.heap.size + 1, 0, none⟩ = some (.int .i64 s0) ∧ wx.cell? ⟨w.heap.size + 1, 1, none⟩ = some (.int .i64 s1) ∧ (∀ o, wx.frozen? ⟨w.heap.size + 1 + 1 + 1, o, none⟩ = false) ∧ (∀ o, wx.frozen? ⟨w.heap.size + 1 + 1, o, none⟩ = false) ∧ wx.heap.size = w.heap.size + 4 ∧ Below w.heap.size w wx)
  case first =>
    go_region
    all_goals
      go_wp2
      go_meet
      exact ⟨by go_simp, by go_simp, by go_simp, by go_simp, by go_simp, by go_simp, by go_simp, by go_simp, by go_simp, fun o => by go_simp, fun o => by go_simp, by simp <;> omega, by exact (by repeat (first | with_reducible assumption | with_reducible refine Below.drew ?_ | with_reducible refine below_drewN ?_ _ | with_reducible refine Below.alloc ?_ (by first | omega | (simp <;> omega)) _ | with_reducible refine Below.setCell ?_ (by first | omega | (simp <;> omega)) _ | with_reducible exact Below.refl _ _))⟩
  case rest =>
  obtain ⟨rfl, k0, k1, k2, k3, k4, k5, k6, k7, k8, k9, kz, hB⟩ := hcut
  have y0 : w.heap.size + 1 + 1 + 1 < wc.heap.size := by omega
  have y1 : w.heap.size + 1 + 1 < wc.heap.size := by omega
  have y2 : w.heap.size + 1 < wc.heap.size := by omega
  go_wp2
  refine region_quiet_tail 13 (by kernel_rfl) (by kernel_rfl) ?_
  simp only [List.take_succ_cons, List.take_zero, List.drop_succ_cons, List.drop_zero]
  repeat (first | go_big_quiet_skip | (go_big_quiet_want; go_big_quiet_op; go_big_quiet_on))
  refine wpQuiet_nil ?_
  go_wp2
  refine bodyPost_ret (v := .tuple #[.agg #[.int .i64 (s0), .int .i64 (-s0 + s1), .int .i64 (-s1)], _]) (by simp only [results, Try.results29]; go_simp) rfl ⟨ret_cur (by omega) (by omega) (by omega), ?_⟩
  exact (by repeat (first | with_reducible exact hB | with_reducible refine Below.drew ?_ | with_reducible refine below_drewN ?_ _ | with_reducible refine Below.setCell ?_ (by first | omega | (simp <;> omega)) _))
set_option maxHeartbeats 4000000 in
set_option maxRecDepth 100000 in
theorem join_10 (t0 t1 s0 s1 : Int) (h0 : PM.small s0) (h1 : PM.small s1) (w : World) :
    Calls Try.prog 29 #[.agg #[.int .i64 t0, .int .i64 t1, .int .i64 1, .int .i64 0], .agg #[.int .i64 s0, .int .i64 s1]] w fun e w' => e = .returned (.tuple #[.agg #[.int .i64 (-s1), .int .i64 s0, .int .i64 (s1 - s0)], .nilIface]) ∧ Below w.heap.size w w' := by
  obtain ⟨c1, c2⟩ := h0
  obtain ⟨c3, c4⟩ := h1
  go_enter Try.func29, Try.ntmps29
  go_wp2
  go_quiet (fail)
  go_upto_region 9 with (go_at_call 66; first | (refine (swithin_yes _ _ _ _ (by omega) (by omega)).mono ?_; rintro e w8 ⟨rfl, rfl⟩) | (refine (swithin_no _ _ _ _ (by omega)).mono ?_; rintro e w8 ⟨rfl, rfl⟩))
  go_cut [8] (fun s8 wx => s8 = .pointer (some ⟨w.heap.size + 1 + 1 + 1, 0, none⟩) ∧ wx.cell? ⟨w.heap.size + 1 + 1 + 1, 0, none⟩ = some (.int .i64 (-s1)) ∧ wx.cell? ⟨w.heap.size + 1 + 1 + 1, 1, none⟩ = some (.int .i64 (s0)) ∧ wx.cell? ⟨w.heap.size + 1 + 1 + 1, 2, none⟩ = some (.int .i64 (0)) ∧ wx.cell? ⟨w.heap.size + 1 + 1, 0, none⟩ = some (.int .i64 0) ∧ wx.cell? ⟨w.heap.size + 1 + 1, 1, none⟩ = some (.int .i64 0) ∧ wx.cell? ⟨w.heap.size + 1 + 1, 2, none⟩ = some (.int .i64 0) ∧ wx.cell? ⟨w.heap.size + 1, 0, none⟩ = some (.int .i64 s0) ∧ wx.cell? ⟨w.heap.size + 1, 1, none⟩ = some (.int .i64 s1) ∧ (∀ o, wx.frozen? ⟨w.heap.size + 1 + 1 + 1, o, none⟩ = false) ∧ (∀ o, wx.frozen? ⟨w.heap.size + 1 + 1, o, none⟩ = false) ∧ wx.heap.size = w.heap.size + 4 ∧ Below w.heap.size w wx)
  case first =>
    go_region
    all_goals
      go_wp2
      go_meet
      exact ⟨by go_simp, by go_simp, by go_simp, by go_simp, by go_simp, by go_simp, by go_simp, by go_simp, by go_simp, fun o => by go_simp, fun o => by go_simp, by simp <;> omega, by exact (by repeat (first | with_reducible assumption | with_reducible refine Below.drew ?_ | with_reducible refine below_drewN ?_ _ | with_reducible refine Below.alloc ?_ (by first | omega | (simp <;> omega)) _ | with_reducible refine Below.setCell ?_ (by first | omega | (simp <;> omega)) _ | with_reducible exact Below.refl _ _))⟩
  case rest =>
  obtain ⟨rfl, k0, k1, k2, k3, k4, k5, k6, k7, k8, k9, kz, hB⟩ := hcut
  have y0 : w.heap.size + 1 + 1 + 1 < wc.heap.size := by omega
  have y1 : w.heap.size + 1 + 1 < wc.heap.size := by omega
  have y2 : w.heap.size + 1 < wc.heap.size := by omega
  go_wp2
  refine region_quiet_tail 13 (by kernel_rfl) (by kernel_rfl) ?_
  simp only [List.take_succ_cons, List.take_zero, List.drop_succ_cons, List.drop_zero]
  repeat (first | go_big_quiet_skip | (go_big_quiet_want; go_big_quiet_op; go_big_quiet_on))
  refine wpQuiet_nil ?_
  go_wp2
  refine bodyPost_ret (v := .tuple #[.agg #[.int .i64 (-s1), .int .i64 (s0), .int .i64 (-s0 + s1)], _]) (by simp only [results, Try.results29]; go_simp) rfl ⟨ret_cur (by omega) (by omega) (by omega), ?_⟩
  exact (by repeat (first | with_reducible exact hB | with_reducible refine Below.drew ?_ | with_reducible refine below_drewN ?_ _ | with_reducible refine Below.setCell ?_ (by first | omega | (simp <;> omega)) _))
set_option maxHeartbeats 4000000 in
set_option maxRecDepth 100000 in
theorem join_12 (t0 t1 s0 s1 : Int) (h0 : PM.small s0) (h1 : PM.small s1) (w : World) :
    Calls Try.prog 29 #[.agg #[.int .i64 t0, .int .i64 t1, .int .i64 1, .int .i64 2], .agg #[.int .i64 s0, .int .i64 s1]] w fun e w' => e = .returned (.tuple #[.agg #[.int .i64 (s1 - s0), .int .i64 s0, .int .i64 (-s1)], .nilIface]) ∧ Below w.heap.size w w' := by
  obtain ⟨c1, c2⟩ := h0
  obtain ⟨c3, c4⟩ := h1
  go_enter Try.func29, Try.ntmps29
  go_wp2
  go_quiet (fail)
  go_upto_region 9 with (go_at_call 66; first | (refine (swithin_yes _ _ _ _ (by omega) (by omega)).mono ?_; rintro e w8 ⟨rfl, rfl⟩) | (refine (swithin_no _ _ _ _ (by omega)).mono ?_; rintro e w8 ⟨rfl, rfl⟩))
  go_cut [8] (fun s8 wx => s8 = .pointer (some ⟨w.heap.size + 1 + 1 + 1, 0, none⟩) ∧ wx.cell? ⟨w.heap.size + 1 + 1 + 1, 0, none⟩ = some (.int .i64 (0)) ∧ wx.cell? ⟨w.heap.size + 1 + 1 + 1, 1, none⟩ = some (.int .i64 (s0)) ∧ wx.cell? ⟨w.heap.size + 1 + 1 + 1, 2, none⟩ = some (.int .i64 (-s1)) ∧ wx.cell? ⟨w.heap.size + 1 + 1, 0, none⟩ = some (.int .i64 0) ∧ wx.cell? ⟨w.heap.size + 1 + 1, 1, none⟩ = some (.int .i64 0) ∧ wx.cell? ⟨w.heap.size + 1 + 1, 2, none⟩ = some (.int .i64 0) ∧ wx.cell? ⟨w.heap.size + 1, 0, none⟩ = some (.int .i64 s0) ∧ wx.cell? ⟨w.heap.size + 1, 1, none⟩ = some (.int .i64 s1) ∧ (∀ o, wx.frozen? ⟨w.heap.size + 1 + 1 + 1, o, none⟩ = false) ∧ (∀ o, wx.frozen? ⟨w.heap.size + 1 + 1, o, none⟩ = false) ∧ wx.heap.size = w.heap.size + 4 ∧ Below w.heap.size w wx)
  case first =>
    go_region
    all_goals
      go_wp2
      go_meet
      exact ⟨by go_simp, by go_simp, by go_simp, by go_simp, by go_simp, by go_simp, by go_simp, by go_simp, by go_simp, fun o => by go_simp, fun o => by go_simp, by simp <;> omega, by exact (by repeat (first | with_reducible assumption | with_reducible refine Below.drew ?_ | with_reducible refine below_drewN ?_ _ | with_reducible refine Below.alloc ?_ (by first | omega | (simp <;> omega)) _ | with_reducible refine Below.setCell ?_ (by first | omega | (simp <;> omega)) _ | with_reducible exact Below.refl _ _))⟩
  case rest =>
  obtain ⟨rfl, k0, k1, k2, k3, k4, k5, k6, k7, k8, k9, kz, hB⟩ := hcut
  have y0 : w.heap.size + 1 + 1 + 1 < wc.heap.size := by omega
  have y1 : w.heap.size + 1 + 1 < wc.heap.size := by omega
  have y2 : w.heap.size + 1 < wc.heap.size := by omega
  go_wp2
  refine region_quiet_tail 13 (by kernel_rfl) (by kernel_rfl) ?_
  simp only [List.take_succ_cons, List.take_zero, List.drop_succ_cons, List.drop_zero]
  repeat (first | go_big_quiet_skip | (go_big_quiet_want; go_big_quiet_op; go_big_quiet_on))
  refine wpQuiet_nil ?_
  go_wp2
  refine bodyPost_ret (v := .tuple #[.agg #[.int .i64 (-s0 + s1), .int .i64 (s0), .int .i64 (-s1)], _]) (by simp only [results, Try.results29]; go_simp) rfl ⟨ret_cur (by omega) (by omega) (by omega), ?_⟩
  exact (by repeat (first | with_reducible exact hB | with_reducible refine Below.drew ?_ | with_reducible refine below_drewN ?_ _ | with_reducible refine Below.setCell ?_ (by first | omega | (simp <;> omega)) _))
set_option maxHeartbeats 4000000 in
set_option maxRecDepth 100000 in
theorem join_20 (t0 t1 s0 s1 : Int) (h0 : PM.small s0) (h1 : PM.small s1) (w : World) :
    Calls Try.prog 29 #[.agg #[.int .i64 t0, .int .i64 t1, .int .i64 2, .int .i64 0], .agg #[.int .i64 s0, .int .i64 s1]] w fun e w' => e = .returned (.tuple #[.agg #[.int .i64 (-s1), .int .i64 (s1 - s0), .int .i64 s0], .nilIface]) ∧ Below w.heap.size w w' := by
  obtain ⟨c1, c2⟩ := h0
  obtain ⟨c3, c4⟩ := h1
  go_enter Try.func29, Try.ntmps29
  go_wp2
  go_quiet (fail)
  go_upto_region 9 with (go_at_call 66; first | (refine (swithin_yes _ _ _ _ (by omega) (by omega)).mono ?_; rintro e w8 ⟨rfl, rfl⟩) | (refine (swithin_no _ _ _ _ (by omega)).mono ?_; rintro e w8 ⟨rfl, rfl⟩))
  go_cut [8] (fun s8 wx => s8 = .pointer (some ⟨w.heap.size + 1 + 1 + 1, 0, none⟩) ∧ wx.cell? ⟨w.heap.size + 1 + 1 + 1, 0, none⟩ = some (.int .i64 (-s1)) ∧ wx.cell? ⟨w.heap.size + 1 + 1 + 1, 1, none⟩ = some (.int .i64 (0)) ∧ wx.cell? ⟨w.heap.size + 1 + 1 + 1, 2, none⟩ = some (.int .i64 (s0)) ∧ wx.cell? ⟨w.heap.size + 1 + 1, 0, none⟩ = some (.int .i64 0) ∧ wx.cell? ⟨w.heap.size + 1 + 1, 1, none⟩ = some (.int .i64 0) ∧ wx.cell? ⟨w.heap.size + 1 + 1, 2, none⟩ = some (.int .i64 0) ∧ wx.cell? ⟨w.heap.size + 1, 0, none⟩ = some (.int .i64 s0) ∧ wx.cell? ⟨w.heap.size + 1, 1, none⟩ = some (.int .i64 s1) ∧ (∀ o, wx.frozen? ⟨w.heap.size + 1 + 1 + 1, o, none⟩ = false) ∧ (∀ o, wx.frozen? ⟨w.heap.size + 1 + 1, o, none⟩ = false) ∧ wx.heap.size = w.heap.size + 4 ∧ Below w.heap.size w wx)
  case first =>
    go_region
    all_goals
      go_wp2
      go_meet
      exact ⟨by go_simp, by go_simp, by go_simp, by go_simp, by go_simp, by go_simp, by go_simp, by go_simp, by go_simp, fun o => by go_simp, fun o => by go_simp, by simp <;> omega, by exact (by repeat (first | with_reducible assumption | with_reducible refine Below.drew ?_ | with_reducible refine below_drewN ?_ _ | with_reducible refine Below.alloc ?_ (by first | omega | (simp <;> omega)) _ | with_reducible refine Below.setCell ?_ (by first | omega | (simp <;> omega)) _ | with_reducible exact Below.refl _ _))⟩
  case rest =>
  obtain ⟨rfl, k0, k1, k2, k3, k4, k5, k6, k7, k8, k9, kz, hB⟩ := hcut
  have y0 : w.heap.size + 1 + 1 + 1 < wc.heap.size := by omega
  have y1 : w.heap.size + 1 + 1 < wc.heap.size := by omega
  have y2 : w.heap.size + 1 < wc.heap.size := by omega
  go_wp2
  refine region_quiet_tail 13 (by kernel_rfl) (by kernel_rfl) ?_
  simp only [List.take_succ_cons, List.take_zero, List.drop_succ_cons, List.drop_zero]
  repeat (first | go_big_quiet_skip | (go_big_quiet_want; go_big_quiet_op; go_big_quiet_on))
  refine wpQuiet_nil ?_
  go_wp2
  refine bodyPost_ret (v := .tuple #[.agg #[.int .i64 (-s1), .int .i64 (-s0 + s1), .int .i64 (s0)], _]) (by simp only [results, Try.results29]; go_simp) rfl ⟨ret_cur (by omega) (by omega) (by omega), ?_⟩
  exact (by repeat (first | with_reducible exact hB | with_reducible refine Below.drew ?_ | with_reducible refine below_drewN ?_ _ | with_reducible refine Below.setCell ?_ (by first | omega | (simp <;> omega)) _))
set_option maxHeartbeats 4000000 in
set_option maxRecDepth 100000 in
theorem join_21 (t0 t1 s0 s1 : Int) (h0 : PM.small s0) (h1 : PM.small s1) (w : World) :
    Calls Try.prog 29 #[.agg #[.int .i64 t0, .int .i64 t1, .int .i64 2, .int .i64 1], .agg #[.int .i64 s0, .int .i64 s1]] w fun e w' => e = .returned (.tuple #[.agg #[.int .i64 (s1 - s0), .int .i64 (-s1), .int .i64 s0], .nilIface]) ∧ Below w.heap.size w w' := by
  obtain ⟨c1, c2⟩ := h0
  obtain ⟨c3, c4⟩ := h1
  go_enter Try.func29, Try.ntmps29
  go_wp2
  go_quiet (fail)
  go_upto_region 9 with (go_at_call 66; first | (refine (swithin_yes _ _ _ _ (by omega) (by omega)).mono ?_; rintro e w8 ⟨rfl, rfl⟩) | (refine (swithin_no _ _ _ _ (by omega)).mono ?_; rintro e w8 ⟨rfl, rfl⟩))
  go_cut [8] (fun s8 wx => s8 = .pointer (some ⟨w.heap.size + 1 + 1 + 1, 0, none⟩) ∧ wx.cell? ⟨w.heap.size + 1 + 1 + 1, 0, none⟩ = some (.int .i64 (0)) ∧ wx.cell? ⟨w.heap.size + 1 + 1 + 1, 1, none⟩ = some (.int .i64 (-s1)) ∧ wx.cell? ⟨w.heap.size + 1 + 1 + 1, 2, none⟩ = some (.int .i64 (s0)) ∧ wx.cell? ⟨w.heap.size + 1 + 1, 0, none⟩ = some (.int .i64 0) ∧ wx.cell? ⟨w.heap.size + 1 + 1, 1, none⟩ = some (.int .i64 0) ∧ wx.cell? ⟨w.heap.size + 1 + 1, 2, none⟩ = some (.int .i64 0) ∧ wx.cell? ⟨w.heap.size + 1, 0, none⟩ = some (.int .i64 s0) ∧ wx.cell? ⟨w.heap.size + 1, 1, none⟩ = some (.int .i64 s1) ∧ (∀ o, wx.frozen? ⟨w.heap.size + 1 + 1 + 1, o, none⟩ = false) ∧ (∀ o, wx.frozen? ⟨w.heap.size + 1 + 1, o, none⟩ = false) ∧ wx.heap.size = w.heap.size + 4 ∧ Below w.heap.size w wx)
  case first =>
    go_region
    all_goals
      go_wp2
      go_meet
      exact ⟨by go_simp, by go_simp, by go_simp, by go_simp, by go_simp, by go_simp, by go_simp, by go_simp, by go_simp, fun o => by go_simp, fun o => by go_simp, by simp <;> omega, by exact (by repeat (first | with_reducible assumption | with_reducible refine Below.drew ?_ | with_reducible refine below_drewN ?_ _ | with_reducible refine Below.alloc ?_ (by first | omega | (simp <;> omega)) _ | with_reducible refine Below.setCell ?_ (by first | omega | (simp <;> omega)) _ | with_reducible exact Below.refl _ _))⟩
  case rest =>
  obtain ⟨rfl, k0, k1, k2, k3, k4, k5, k6, k7, k8, k9, kz, hB⟩ := hcut
  have y0 : w.heap.size + 1 + 1 + 1 < wc.heap.size := by omega
  have y1 : w.heap.size + 1 + 1 < wc.heap.size := by omega
  have y2 : w.heap.size + 1 < wc.heap.size := by omega
  go_wp2
  refine region_quiet_tail 13 (by kernel_rfl) (by kernel_rfl) ?_
  simp only [List.take_succ_cons, List.take_zero, List.drop_succ_cons, List.drop_zero]
  repeat (first | go_big_quiet_skip | (go_big_quiet_want; go_big_quiet_op; go_big_quiet_on))
  refine wpQuiet_nil ?_
  go_wp2
  refine bodyPost_ret (v := .tuple #[.agg #[.int .i64 (-s0 + s1), .int .i64 (-s1), .int .i64 (s0)], _]) (by simp only [results, Try.results29]; go_simp) rfl ⟨ret_cur (by omega) (by omega) (by omega), ?_⟩
  exact (by repeat (first | with_reducible exact hB | with_reducible refine Below.drew ?_ | with_reducible refine below_drewN ?_ _ | with_reducible refine Below.setCell ?_ (by first | omega | (simp <;> omega)) _))
theorem join_any (t0 t1 a b s0 s1 : Int) (w : World) :
    Calls Try.prog 29 #[.agg #[.int .i64 t0, .int .i64 t1, .int .i64 a, .int .i64 b], .agg #[.int .i64 s0, .int .i64 s1]] w fun e w' => e = .returned (.tuple #[.agg #[.int .i64 (joinO a b s0 s1 0), .int .i64 (joinO a b s0 s1 1), .int .i64 (joinO a b s0 s1 2)], errV (joinC a b s0 s1)]) ∧ Below w.heap.size w w' := by
  have key : ∀ c : Int, ¬ c = 0 → joinC a b s0 s1 = c → Calls Try.prog 29 #[.agg #[.int .i64 t0, .int .i64 t1, .int .i64 a, .int .i64 b], .agg #[.int .i64 s0, .int .i64 s1]] w (fun e w' => e = .returned (.tuple #[.agg #[.int .i64 0, .int .i64 0, .int .i64 0], errV (c)]) ∧ Below w.heap.size w w') → Calls Try.prog 29 #[.agg #[.int .i64 t0, .int .i64 t1, .int .i64 a, .int .i64 b], .agg #[.int .i64 s0, .int .i64 s1]] w (fun e w' => e = .returned (.tuple #[.agg #[.int .i64 (joinO a b s0 s1 0), .int .i64 (joinO a b s0 s1 1), .int .i64 (joinO a b s0 s1 2)], errV (joinC a b s0 s1)]) ∧ Below w.heap.size w w') := by
    intro c hc h k
    have hO : ∀ i, joinO a b s0 s1 i = 0 := fun i => by unfold joinO; rw [if_neg (by rw [h]; exact hc)]
    rw [hO, hO, hO, h]
    exact k
  by_cases ha : leg02 a
  · by_cases hb : leg02 b
    · by_cases hab : a = b
      · exact key 6 (by decide) (by unfold joinC; rw [if_pos ⟨ha, hb⟩, if_pos hab]) (join_ab t0 t1 a b s0 s1 ha hab w)
      · by_cases h0 : PM.small s0
        · by_cases h1 : PM.small s1
          · have hc : joinC a b s0 s1 = 0 := by unfold joinC; rw [if_pos ⟨ha, hb⟩, if_neg hab, if_pos ⟨h0, h1⟩]
            have hO : ∀ i, joinO a b s0 s1 i = if i = a then s0 else if i = b then -s1 else s1 - s0 := fun i => by unfold joinO; rw [if_pos hc]
            rw [hO, hO, hO, hc]
            rcases leg_cases ha with rfl | rfl | rfl <;> rcases leg_cases hb with rfl | rfl | rfl
            · exact absurd rfl hab
            · exact join_01 t0 t1 s0 s1 h0 h1 w
            · exact join_02 t0 t1 s0 s1 h0 h1 w
            · exact join_10 t0 t1 s0 s1 h0 h1 w
            · exact absurd rfl hab
            · exact join_12 t0 t1 s0 s1 h0 h1 w
            · exact join_20 t0 t1 s0 s1 h0 h1 w
            · exact join_21 t0 t1 s0 s1 h0 h1 w
            · exact absurd rfl hab
          · exact key 3 (by decide) (by unfold joinC; rw [if_pos ⟨ha, hb⟩, if_neg hab, if_neg (fun k => h1 k.2)]) (join_s1 t0 t1 a b s0 s1 ha hb hab h0 h1 w)
        · exact key 3 (by decide) (by unfold joinC; rw [if_pos ⟨ha, hb⟩, if_neg hab, if_neg (fun k => h0 k.1)]) (join_s0 t0 t1 a b s0 s1 ha hb hab h0 w)
    · exact key 10 (by decide) (by unfold joinC; rw [if_neg (fun k => hb k.2)]) (join_b t0 t1 a b s0 s1 ha hb w)
  · exact key 10 (by decide) (by unfold joinC; rw [if_neg (fun k => ha k.1)]) (join_a t0 t1 a b s0 s1 ha w)
set_option maxHeartbeats 4000000 in
set_option maxRecDepth 100000 in
theorem rjoin_a (t0 t1 a b s0 s1 : Int) (h : ¬ leg02 a) (w : World) :
    Calls Try.prog 42 #[.agg #[.int .i64 t0, .int .i64 t1, .int .i64 a, .int .i64 b], .agg #[.int .i64 s0, .int .i64 s1]] w fun e w' => e = .returned (.tuple #[.agg #[.int .i64 0, .int .i64 0, .int .i64 0], .int .i64 10]) ∧ Below w.heap.size w w' := by
  have hc : a < 0 ∨ (0 ≤ a ∧ 2 < a) := by unfold leg02 at h; omega
  clear h
  rcases hc with h1 | ⟨h1, h2⟩
  all_goals
    go_enter Try.func42, Try.ntmps42
    go_wp2
    go_quiet (fail)
    go_wp2_with (go_at_call 78; first | (refine (small_yes _ _ (by unfold Go.Proofs.Ytjeomdfcfbfebaa.small; omega)).mono ?_; rintro e w8 ⟨rfl, rfl⟩) | (refine (small_no _ _ (by unfold Go.Proofs.Ytjeomdfcfbfebaa.small; omega)).mono ?_; rintro e w8 ⟨rfl, rfl⟩))
    refine bodyPost_ret (v := .tuple #[.agg #[.int .i64 0, .int .i64 0, .int .i64 0], _]) (by simp only [results, Try.results42]; go_simp) rfl ⟨rfl, by exact (by repeat (first | with_reducible assumption | with_reducible refine Below.drew ?_ | with_reducible refine below_drewN ?_ _ | with_reducible refine Below.alloc ?_ (by first | omega | (simp <;> omega)) _ | with_reducible refine Below.setCell ?_ (by first | omega | (simp <;> omega)) _ | with_reducible exact Below.refl _ _))⟩
set_option maxHeartbeats 4000000 in
set_option maxRecDepth 100000 in
theorem rjoin_b (t0 t1 a b s0 s1 : Int) (ha : leg02 a) (h : ¬ leg02 b) (w : World) :
    Calls Try.prog 42 #[.agg #[.int .i64 t0, .int .i64 t1, .int .i64 a, .int .i64 b], .agg #[.int .i64 s0, .int .i64 s1]] w fun e w' => e = .returned (.tuple #[.agg #[.int .i64 0, .int .i64 0, .int .i64 0], .int .i64 10]) ∧ Below w.heap.size w w' := by
  obtain ⟨a1, a2⟩ := ha
  have hc : b < 0 ∨ (0 ≤ b ∧ 2 < b) := by unfold leg02 at h; omega
  clear h
  rcases hc with h1 | ⟨h1, h2⟩
  all_goals
    go_enter Try.func42, Try.ntmps42
    go_wp2
    go_quiet (fail)
    go_wp2_with (go_at_call 78; first | (refine (small_yes _ _ (by unfold Go.Proofs.Ytjeomdfcfbfebaa.small; omega)).mono ?_; rintro e w8 ⟨rfl, rfl⟩) | (refine (small_no _ _ (by unfold Go.Proofs.Ytjeomdfcfbfebaa.small; omega)).mono ?_; rintro e w8 ⟨rfl, rfl⟩))
    refine bodyPost_ret (v := .tuple #[.agg #[.int .i64 0, .int .i64 0, .int .i64 0], _]) (by simp only [results, Try.results42]; go_simp) rfl ⟨rfl, by exact (by repeat (first | with_reducible assumption | with_reducible refine Below.drew ?_ | with_reducible refine below_drewN ?_ _ | with_reducible refine Below.alloc ?_ (by first | omega | (simp <;> omega)) _ | with_reducible refine Below.setCell ?_ (by first | omega | (simp <;> omega)) _ | with_reducible exact Below.refl _ _))⟩
set_option maxHeartbeats 4000000 in
set_option maxRecDepth 100000 in
theorem rjoin_ab (t0 t1 a b s0 s1 : Int) (ha : leg02 a) (h : a = b) (w : World) :
    Calls Try.prog 42 #[.agg #[.int .i64 t0, .int .i64 t1, .int .i64 a, .int .i64 b], .agg #[.int .i64 s0, .int .i64 s1]] w fun e w' => e = .returned (.tuple #[.agg #[.int .i64 0, .int .i64 0, .int .i64 0], .int .i64 6]) ∧ Below w.heap.size w w' := by
  subst h
  obtain ⟨a1, a2⟩ := ha
  skip
  all_goals
    go_enter Try.func42, Try.ntmps42
    go_wp2
    go_quiet (fail)
    go_wp2_with (go_at_call 78; first | (refine (small_yes _ _ (by unfold Go.Proofs.Ytjeomdfcfbfebaa.small; omega)).mono ?_; rintro e w8 ⟨rfl, rfl⟩) | (refine (small_no _ _ (by unfold Go.Proofs.Ytjeomdfcfbfebaa.small; omega)).mono ?_; rintro e w8 ⟨rfl, rfl⟩))
    refine bodyPost_ret (v := .tuple #[.agg #[.int .i64 0, .int .i64 0, .int .i64 0], _]) (by simp only [results, Try.results42]; go_simp) rfl ⟨rfl, by exact (by repeat (first | with_reducible assumption | with_reducible refine Below.drew ?_ | with_reducible refine below_drewN ?_ _ | with_reducible refine Below.alloc ?_ (by first | omega | (simp <;> omega)) _ | with_reducible refine Below.setCell ?_ (by first | omega | (simp <;> omega)) _ | with_reducible exact Below.refl _ _))⟩
set_option maxHeartbeats 4000000 in
set_option maxRecDepth 100000 in
theorem rjoin_s0 (t0 t1 a b s0 s1 : Int) (ha : leg02 a) (hb : leg02 b) (hn : ¬ a = b) (h : ¬ PM.small s0) (w : World) :
    Calls Try.prog 42 #[.agg #[.int .i64 t0, .int .i64 t1, .int .i64 a, .int .i64 b], .agg #[.int .i64 s0, .int .i64 s1]] w fun e w' => e = .returned (.tuple #[.agg #[.int .i64 0, .int .i64 0, .int .i64 0], .int .i64 3]) ∧ Below w.heap.size w w' := by
  obtain ⟨a1, a2⟩ := ha
  obtain ⟨b1, b2⟩ := hb
  unfold PM.small at h
  skip
  all_goals
    go_enter Try.func42, Try.ntmps42
    go_wp2
    go_quiet (fail)
    go_wp2_with (go_at_call 78; first | (refine (small_yes _ _ (by unfold Go.Proofs.Ytjeomdfcfbfebaa.small; omega)).mono ?_; rintro e w8 ⟨rfl, rfl⟩) | (refine (small_no _ _ (by unfold Go.Proofs.Ytjeomdfcfbfebaa.small; omega)).mono ?_; rintro e w8 ⟨rfl, rfl⟩))
    refine bodyPost_ret (v := .tuple #[.agg #[.int .i64 0, .int .i64 0, .int .i64 0], _]) (by simp only [results, Try.results42]; go_simp) rfl ⟨rfl, by exact (by repeat (first | with_reducible assumption | with_reducible refine Below.drew ?_ | with_reducible refine below_drewN ?_ _ | with_reducible refine Below.alloc ?_ (by first | omega | (simp <;> omega)) _ | with_reducible refine Below.setCell ?_ (by first | omega | (simp <;> omega)) _ | with_reducible exact Below.refl _ _))⟩
set_option maxHeartbeats 4000000 in
set_option maxRecDepth 100000 in
theorem rjoin_s1 (t0 t1 a b s0 s1 : Int) (ha : leg02 a) (hb : leg02 b) (hn : ¬ a = b) (h0 : PM.small s0) (h : ¬ PM.small s1) (w : World) :
    Calls Try.prog 42 #[.agg #[.int .i64 t0, .int .i64 t1, .int .i64 a, .int .i64 b], .agg #[.int .i64 s0, .int .i64 s1]] w fun e w' => e = .returned (.tuple #[.agg #[.int .i64 0, .int .i64 0, .int .i64 0], .int .i64 3]) ∧ Below w.heap.size w w' := by
  obtain ⟨a1, a2⟩ := ha
  obtain ⟨b1, b2⟩ := hb
  obtain ⟨c1, c2⟩ := h0
  unfold PM.small at h
  skip
  all_goals
    go_enter Try.func42, Try.ntmps42
    go_wp2
    go_quiet (fail)
    go_wp2_with (go_at_call 78; first | (refine (small_yes _ _ (by unfold Go.Proofs.Ytjeomdfcfbfebaa.small; omega)).mono ?_; rintro e w8 ⟨rfl, rfl⟩) | (refine (small_no _ _ (by unfold Go.Proofs.Ytjeomdfcfbfebaa.small; omega)).mono ?_; rintro e w8 ⟨rfl, rfl⟩))
    refine bodyPost_ret (v := .tuple #[.agg #[.int .i64 0, .int .i64 0, .int .i64 0], _]) (by simp only [results, Try.results42]; go_simp) rfl ⟨rfl, by exact (by repeat (first | with_reducible assumption | with_reducible refine Below.drew ?_ | with_reducible refine below_drewN ?_ _ | with_reducible refine Below.alloc ?_ (by first | omega | (simp <;> omega)) _ | with_reducible refine Below.setCell ?_ (by first | omega | (simp <;> omega)) _ | with_reducible exact Below.refl _ _))⟩
set_option maxHeartbeats 4000000 in
set_option maxRecDepth 100000 in
theorem rjoin_01 (t0 t1 s0 s1 : Int) (h0 : PM.small s0) (h1 : PM.small s1) (w : World) :
    Calls Try.prog 42 #[.agg #[.int .i64 t0, .int .i64 t1, .int .i64 0, .int .i64 1], .agg #[.int .i64 s0, .int .i64 s1]] w fun e w' => e = .returned (.tuple #[.agg #[.int .i64 s0, .int .i64 (-s1), .int .i64 (s1 - s0)], .int .i64 0]) ∧ Below w.heap.size w w' := by
  obtain ⟨c1, c2⟩ := h0
  obtain ⟨c3, c4⟩ := h1
  go_enter Try.func42, Try.ntmps42
  go_wp2
  go_quiet (fail)
  go_upto_region 9 with (go_at_call 78; first | (refine (small_yes _ _ (by unfold Go.Proofs.Ytjeomdfcfbfebaa.small; omega)).mono ?_; rintro e w8 ⟨rfl, rfl⟩) | (refine (small_no _ _ (by unfold Go.Proofs.Ytjeomdfcfbfebaa.small; omega)).mono ?_; rintro e w8 ⟨rfl, rfl⟩))
  go_cut [8] (fun s8 wx => s8 = .pointer (some ⟨w.heap.size + 1 + 1 + 1, 0, none⟩) ∧ wx.cell? ⟨w.heap.size + 1 + 1 + 1, 0, none⟩ = some (.int .i64 (s0)) ∧ wx.cell? ⟨w.heap.size + 1 + 1 + 1, 1, none⟩ = some (.int .i64 (-s1)) ∧ wx.cell? ⟨w.heap.size + 1 + 1 + 1, 2, none⟩ = some (.int .i64 (0)) ∧ wx.cell? ⟨w.heap.size + 1 + 1, 0, none⟩ = some (.int .i64 0) ∧ wx.cell? ⟨w.heap.size + 1 + 1, 1, none⟩ = some (.int .i64 0) ∧ wx.cell? ⟨w.heap.size + 1 + 1, 2, none⟩ = some (.int .i64 0) ∧ wx.cell? ⟨w.heap.size + 1, 0, none⟩ = some (.int .i64 s0) ∧ wx.cell? ⟨w.heap.size + 1, 1, none⟩ = some (.int .i64 s1) ∧ (∀ o, wx.frozen? ⟨w.heap.size + 1 + 1 + 1, o, none⟩ = false) ∧ (∀ o, wx.frozen? ⟨w.heap.size + 1 + 1, o, none⟩ = false) ∧ wx.heap.size = w.heap.size + 4 ∧ Below w.heap.size w wx)
  case first =>
    go_region
    all_goals
      go_wp2
      go_meet
      exact ⟨by go_simp, by go_simp, by go_simp, by go_simp, by go_simp, by go_simp, by go_simp, by go_simp, by go_simp, fun o => by go_simp, fun o => by go_simp, by simp <;> omega, by exact (by repeat (first | with_reducible assumption | with_reducible refine Below.drew ?_ | with_reducible refine below_drewN ?_ _ | with_reducible refine Below.alloc ?_ (by first | omega | (simp <;> omega)) _ | with_reducible refine Below.setCell ?_ (by first | omega | (simp <;> omega)) _ | with_reducible exact Below.refl _ _))⟩
  case rest =>
  obtain ⟨rfl, k0, k1, k2, k3, k4, k5, k6, k7, k8, k9, kz, hB⟩ := hcut
  have y0 : w.heap.size + 1 + 1 + 1 < wc.heap.size := by omega
  have y1 : w.heap.size + 1 + 1 < wc.heap.size := by omega
  have y2 : w.heap.size + 1 < wc.heap.size := by omega
  go_wp2
  refine bodyPost_ret (v := .tuple #[.agg #[.int .i64 (s0), .int .i64 (-s1), .int .i64 (s1 - s0)], _]) (by simp only [results, Try.results42]; go_simp) rfl ⟨ret_cur (by omega) (by omega) (by omega), ?_⟩
  exact (by repeat (first | with_reducible exact hB | with_reducible refine Below.drew ?_ | with_reducible refine below_drewN ?_ _ | with_reducible refine Below.setCell ?_ (by first | omega | (simp <;> omega)) _))
set_option maxHeartbeats 4000000 in
set_option maxRecDepth 100000 in
theorem rjoin_02 (t0 t1 s0 s1 : Int) (h0 : PM.small s0) (h1 : PM.small s1) (w : World) :
    Calls Try.prog 42 #[.agg #[.int .i64 t0, .int .i64 t1, .int .i64 0, .int .i64 2], .agg #[.int .i64 s0, .int .i64 s1]] w fun e w' => e = .returned (.tuple #[.agg #[.int .i64 s0, .int .i64 (s1 - s0), .int .i64 (-s1)], .int .i64 0]) ∧ Below w.heap.size w w' := by
  obtain ⟨c1, c2⟩ := h0
  obtain ⟨c3, c4⟩ := h1
  go_enter Try.func42, Try.ntmps42
  go_wp2
  go_quiet (fail)
  go_upto_region 9 with (go_at_call 78; first | (refine (small_yes _ _ (by unfold Go.Proofs.Ytjeomdfcfbfebaa.small; omega)).mono ?_; rintro e w8 ⟨rfl, rfl⟩) | (refine (small_no _ _ (by unfold Go.Proofs.Ytjeomdfcfbfebaa.small; omega)).mono ?_; rintro e w8 ⟨rfl, rfl⟩))
  go_cut [8] (fun s8 wx => s8 = .pointer (some ⟨w.heap.size + 1 + 1 + 1, 0, none⟩) ∧ wx.cell? ⟨w.heap.size + 1 + 1 + 1, 0, none⟩ = some (.int .i64 (s0)) ∧ wx.cell? ⟨w.heap.size + 1 + 1 + 1, 1, none⟩ = some (.int .i64 (0)) ∧ wx.cell? ⟨w.heap.size + 1 + 1 + 1, 2, none⟩ = some (.int .i64 (-s1)) ∧ wx.cell? ⟨w.heap.size + 1 + 1, 0, none⟩ = some (.int .i64 0) ∧ wx.cell? ⟨w.heap.size + 1 + 1, 1, none⟩ = some (.int .i64 0) ∧ wx.cell? ⟨w.heap.size + 1 + 1, 2, none⟩ = some (.int .i64 0) ∧ wx.cell? ⟨w.heap.size + 1, 0, none⟩ = some (.int .i64 s0) ∧ wx.cell? ⟨w.heap.size + 1, 1, none⟩ = some (.int .i64 s1) ∧ (∀ o, wx.frozen? ⟨w.heap.size + 1 + 1 + 1, o, none⟩ = false) ∧ (∀ o, wx.frozen? ⟨w.heap.size + 1 + 1, o, none⟩ = false) ∧ wx.heap.size = w.heap.size + 4 ∧ Below w.heap.size w wx)
  case first =>
    go_region
    all_goals
      go_wp2
      go_meet
      exact ⟨by go_simp, by go_simp, by go_simp, by go_simp, by go_simp, by go_simp, by go_simp, by go_simp, by go_simp, fun o => by go_simp, fun o => by go_simp, by simp <;> omega, by exact (by repeat (first | with_reducible assumption | with_reducible refine Below.drew ?_ | with_reducible refine below_drewN ?_ _ | with_reducible refine Below.alloc ?_ (by first | omega | (simp <;> omega)) _ | with_reducible refine Below.setCell ?_ (by first | omega | (simp <;> omega)) _ | with_reducible exact Below.refl _ _))⟩
  case rest =>
  obtain ⟨rfl, k0, k1, k2, k3, k4, k5, k6, k7, k8, k9, kz, hB⟩ := hcut
  have y0 : w.heap.size + 1 + 1 + 1 < wc.heap.size := by omega
  have y1 : w.heap.size + 1 + 1 < wc.heap.size := by omega
  have y2 : w.heap.size + 1 < wc.heap.size := by omega
  go_wp2
  refine bodyPost_ret (v := .tuple #[.agg #[.int .i64 (s0), .int .i64 (s1 - s0), .int .i64 (-s1)], _]) (by simp only [results, Try.results42]; go_simp) rfl ⟨ret_cur (by omega) (by omega) (by omega), ?_⟩
  exact (by repeat (first | with_reducible exact hB | with_reducible refine Below.drew ?_ | with_reducible refine below_drewN ?_ _ | with_reducible refine Below.setCell ?_ (by first | omega | (simp <;> omega)) _))
set_option maxHeartbeats 4000000 in
set_option maxRecDepth 100000 in
theorem rjoin_10 (t0 t1 s0 s1 : Int) (h0 : PM.small s0) (h1 : PM.small s1) (w : World) :
    Calls Try.prog 42 #[.agg #[.int .i64 t0, .int .i64 t1, .int .i64 1, .int .i64 0], .agg #[.int .i64 s0, .int .i64 s1]] w fun e w' => e = .returned (.tuple #[.agg #[.int .i64 (-s1), .int .i64 s0, .int .i64 (s1 - s0)], .int .i64 0]) ∧ Below w.heap.size w w' := by
  obtain ⟨c1, c2⟩ := h0
  obtain ⟨c3, c4⟩ := h1
  go_enter Try.func42, Try.ntmps42
  go_wp2
  go_quiet (fail)
  go_upto_region 9 with (go_at_call 78; first | (refine (small_yes _ _ (by unfold Go.Proofs.Ytjeomdfcfbfebaa.small; omega)).mono ?_; rintro e w8 ⟨rfl, rfl⟩) | (refine (small_no _ _ (by unfold Go.Proofs.Ytjeomdfcfbfebaa.small; omega)).mono ?_; rintro e w8 ⟨rfl, rfl⟩))
  go_cut [8] (fun s8 wx => s8 = .pointer (some ⟨w.heap.size + 1 + 1 + 1, 0, none⟩) ∧ wx.cell? ⟨w.heap.size + 1 + 1 + 1, 0, none⟩ = some (.int .i64 (-s1)) ∧ wx.cell? ⟨w.heap.size + 1 + 1 + 1, 1, none⟩ = some (.int .i64 (s0)) ∧ wx.cell? ⟨w.heap.size + 1 + 1 + 1, 2, none⟩ = some (.int .i64 (0)) ∧ wx.cell? ⟨w.heap.size + 1 + 1, 0, none⟩ = some (.int .i64 0) ∧ wx.cell? ⟨w.heap.size + 1 + 1, 1, none⟩ = some (.int .i64 0) ∧ wx.cell? ⟨w.heap.size + 1 + 1, 2, none⟩ = some (.int .i64 0) ∧ wx.cell? ⟨w.heap.size + 1, 0, none⟩ = some (.int .i64 s0) ∧ wx.cell? ⟨w.heap.size + 1, 1, none⟩ = some (.int .i64 s1) ∧ (∀ o, wx.frozen? ⟨w.heap.size + 1 + 1 + 1, o, none⟩ = false) ∧ (∀ o, wx.frozen? ⟨w.heap.size + 1 + 1, o, none⟩ = false) ∧ wx.heap.size = w.heap.size + 4 ∧ Below w.heap.size w wx)
  case first =>
    go_region
    all_goals
      go_wp2
      go_meet
      exact ⟨by go_simp, by go_simp, by go_simp, by go_simp, by go_simp, by go_simp, by go_simp, by go_simp, by go_simp, fun o => by go_simp, fun o => by go_simp, by simp <;> omega, by exact (by repeat (first | with_reducible assumption | with_reducible refine Below.drew ?_ | with_reducible refine below_drewN ?_ _ | with_reducible refine Below.alloc ?_ (by first | omega | (simp <;> omega)) _ | with_reducible refine Below.setCell ?_ (by first | omega | (simp <;> omega)) _ | with_reducible exact Below.refl _ _))⟩
  case rest =>
  obtain ⟨rfl, k0, k1, k2, k3, k4, k5, k6, k7, k8, k9, kz, hB⟩ := hcut
  have y0 : w.heap.size + 1 + 1 + 1 < wc.heap.size := by omega
  have y1 : w.heap.size + 1 + 1 < wc.heap.size := by omega
  have y2 : w.heap.size + 1 < wc.heap.size := by omega
  go_wp2
  refine bodyPost_ret (v := .tuple #[.agg #[.int .i64 (-s1), .int .i64 (s0), .int .i64 (s1 - s0)], _]) (by simp only [results, Try.results42]; go_simp) rfl ⟨ret_cur (by omega) (by omega) (by omega), ?_⟩
  exact (by repeat (first | with_reducible exact hB | with_reducible refine Below.drew ?_ | with_reducible refine below_drewN ?_ _ | with_reducible refine Below.setCell ?_ (by first | omega | (simp <;> omega)) _))
set_option maxHeartbeats 4000000 in
set_option maxRecDepth 100000 in
theorem rjoin_12 (t0 t1 s0 s1 : Int) (h0 : PM.small s0) (h1 : PM.small s1) (w : World) :
    Calls Try.prog 42 #[.agg #[.int .i64 t0, .int .i64 t1, .int .i64 1, .int .i64 2], .agg #[.int .i64 s0, .int .i64 s1]] w fun e w' => e = .returned (.tuple #[.agg #[.int .i64 (s1 - s0), .int .i64 s0, .int .i64 (-s1)], .int .i64 0]) ∧ Below w.heap.size w w' := by
  obtain ⟨c1, c2⟩ := h0
  obtain ⟨c3, c4⟩ := h1
  go_enter Try.func42, Try.ntmps42
  go_wp2
  go_quiet (fail)
  go_upto_region 9 with (go_at_call 78; first | (refine (small_yes _ _ (by unfold Go.Proofs.Ytjeomdfcfbfebaa.small; omega)).mono ?_; rintro e w8 ⟨rfl, rfl⟩) | (refine (small_no _ _ (by unfold Go.Proofs.Ytjeomdfcfbfebaa.small; omega)).mono ?_; rintro e w8 ⟨rfl, rfl⟩))
  go_cut [8] (fun s8 wx => s8 = .pointer (some ⟨w.heap.size + 1 + 1 + 1, 0, none⟩) ∧ wx.cell? ⟨w.heap.size + 1 + 1 + 1, 0, none⟩ = some (.int .i64 (0)) ∧ wx.cell? ⟨w.heap.size + 1 + 1 + 1, 1, none⟩ = some (.int .i64 (s0)) ∧ wx.cell? ⟨w.heap.size + 1 + 1 + 1, 2, none⟩ = some (.int .i64 (-s1)) ∧ wx.cell? ⟨w.heap.size + 1 + 1, 0, none⟩ = some (.int .i64 0) ∧ wx.cell? ⟨w.heap.size + 1 + 1, 1, none⟩ = some (.int .i64 0) ∧ wx.cell? ⟨w.heap.size + 1 + 1, 2, none⟩ = some (.int .i64 0) ∧ wx.cell? ⟨w.heap.size + 1, 0, none⟩ = some (.int .i64 s0) ∧ wx.cell? ⟨w.heap.size + 1, 1, none⟩ = some (.int .i64 s1) ∧ (∀ o, wx.frozen? ⟨w.heap.size + 1 + 1 + 1, o, none⟩ = false) ∧ (∀ o, wx.frozen? ⟨w.heap.size + 1 + 1, o, none⟩ = false) ∧ wx.heap.size = w.heap.size + 4 ∧ Below w.heap.size w wx)
  case first =>
    go_region
    all_goals
      go_wp2
      go_meet
      exact ⟨by go_simp, by go_simp, by go_simp, by go_simp, by go_simp, by go_simp, by go_simp, by go_simp, by go_simp, fun o => by go_simp, fun o => by go_simp, by simp <;> omega, by exact (by repeat (first | with_reducible assumption | with_reducible refine Below.drew ?_ | with_reducible refine below_drewN ?_ _ | with_reducible refine Below.alloc ?_ (by first | omega | (simp <;> omega)) _ | with_reducible refine Below.setCell ?_ (by first | omega | (simp <;> omega)) _ | with_reducible exact Below.refl _ _))⟩
  case rest =>
  obtain ⟨rfl, k0, k1, k2, k3, k4, k5, k6, k7, k8, k9, kz, hB⟩ := hcut
  have y0 : w.heap.size + 1 + 1 + 1 < wc.heap.size := by omega
  have y1 : w.heap.size + 1 + 1 < wc.heap.size := by omega
  have y2 : w.heap.size + 1 < wc.heap.size := by omega
  go_wp2
  refine bodyPost_ret (v := .tuple #[.agg #[.int .i64 (s1 - s0), .int .i64 (s0), .int .i64 (-s1)], _]) (by simp only [results, Try.results42]; go_simp) rfl ⟨ret_cur (by omega) (by omega) (by omega), ?_⟩
  exact (by repeat (first | with_reducible exact hB | with_reducible refine Below.drew ?_ | with_reducible refine below_drewN ?_ _ | with_reducible refine Below.setCell ?_ (by first | omega | (simp <;> omega)) _))
set_option maxHeartbeats 4000000 in
set_option maxRecDepth 100000 in
theorem rjoin_20 (t0 t1 s0 s1 : Int) (h0 : PM.small s0) (h1 : PM.small s1) (w : World) :
    Calls Try.prog 42 #[.agg #[.int .i64 t0, .int .i64 t1, .int .i64 2, .int .i64 0], .agg #[.int .i64 s0, .int .i64 s1]] w fun e w' => e = .returned (.tuple #[.agg #[.int .i64 (-s1), .int .i64 (s1 - s0), .int .i64 s0], .int .i64 0]) ∧ Below w.heap.size w w' := by
  obtain ⟨c1, c2⟩ := h0
  obtain ⟨c3, c4⟩ := h1
  go_enter Try.func42, Try.ntmps42
  go_wp2
  go_quiet (fail)
  go_upto_region 9 with (go_at_call 78; first | (refine (small_yes _ _ (by unfold Go.Proofs.Ytjeomdfcfbfebaa.small; omega)).mono ?_; rintro e w8 ⟨rfl, rfl⟩) | (refine (small_no _ _ (by unfold Go.Proofs.Ytjeomdfcfbfebaa.small; omega)).mono ?_; rintro e w8 ⟨rfl, rfl⟩))
  go_cut [8] (fun s8 wx => s8 = .pointer (some ⟨w.heap.size + 1 + 1 + 1, 0, none⟩) ∧ wx.cell? ⟨w.heap.size + 1 + 1 + 1, 0, none⟩ = some (.int .i64 (-s1)) ∧ wx.cell? ⟨w.heap.size + 1 + 1 + 1, 1, none⟩ = some (.int .i64 (0)) ∧ wx.cell? ⟨w.heap.size + 1 + 1 + 1, 2, none⟩ = some (.int .i64 (s0)) ∧ wx.cell? ⟨w.heap.size + 1 + 1, 0, none⟩ = some (.int .i64 0) ∧ wx.cell? ⟨w.heap.size + 1 + 1, 1, none⟩ = some (.int .i64 0) ∧ wx.cell? ⟨w.heap.size + 1 + 1, 2, none⟩ = some (.int .i64 0) ∧ wx.cell? ⟨w.heap.size + 1, 0, none⟩ = some (.int .i64 s0) ∧ wx.cell? ⟨w.heap.size + 1, 1, none⟩ = some (.int .i64 s1) ∧ (∀ o, wx.frozen? ⟨w.heap.size + 1 + 1 + 1, o, none⟩ = false) ∧ (∀ o, wx.frozen? ⟨w.heap.size + 1 + 1, o, none⟩ = false) ∧ wx.heap.size = w.heap.size + 4 ∧ Below w.heap.size w wx)
  case first =>
    go_region
    all_goals
      go_wp2
      go_meet
      exact ⟨by go_simp, by go_simp, by go_simp, by go_simp, by go_simp, by go_simp, by go_simp, by go_simp, by go_simp, fun o => by go_simp, fun o => by go_simp, by simp <;> omega, by exact (by repeat (first | with_reducible assumption | with_reducible refine Below.drew ?_ | with_reducible refine below_drewN ?_ _ | with_reducible refine Below.alloc ?_ (by first | omega | (simp <;> omega)) _ | with_reducible refine Below.setCell ?_ (by first | omega | (simp <;> omega)) _ | with_reducible exact Below.refl _ _))⟩
  case rest =>
  obtain ⟨rfl, k0, k1, k2, k3, k4, k5, k6, k7, k8, k9, kz, hB⟩ := hcut
  have y0 : w.heap.size + 1 + 1 + 1 < wc.heap.size := by omega
  have y1 : w.heap.size + 1 + 1 < wc.heap.size := by omega
  have y2 : w.heap.size + 1 < wc.heap.size := by omega
  go_wp2
  refine bodyPost_ret (v := .tuple #[.agg #[.int .i64 (-s1), .int .i64 (s1 - s0), .int .i64 (s0)], _]) (by simp only [results, Try.results42]; go_simp) rfl ⟨ret_cur (by omega) (by omega) (by omega), ?_⟩
  exact (by repeat (first | with_reducible exact hB | with_reducible refine Below.drew ?_ | with_reducible refine below_drewN ?_ _ | with_reducible refine Below.setCell ?_ (by first | omega | (simp <;> omega)) _))
set_option maxHeartbeats 4000000 in
set_option maxRecDepth 100000 in
theorem rjoin_21 (t0 t1 s0 s1 : Int) (h0 : PM.small s0) (h1 : PM.small s1) (w : World) :
    Calls Try.prog 42 #[.agg #[.int .i64 t0, .int .i64 t1, .int .i64 2, .int .i64 1], .agg #[.int .i64 s0, .int .i64 s1]] w fun e w' => e = .returned (.tuple #[.agg #[.int .i64 (s1 - s0), .int .i64 (-s1), .int .i64 s0], .int .i64 0]) ∧ Below w.heap.size w w' := by
  obtain ⟨c1, c2⟩ := h0
  obtain ⟨c3, c4⟩ := h1
  go_enter Try.func42, Try.ntmps42
  go_wp2
  go_quiet (fail)
  go_upto_region 9 with (go_at_call 78; first | (refine (small_yes _ _ (by unfold Go.Proofs.Ytjeomdfcfbfebaa.small; omega)).mono ?_; rintro e w8 ⟨rfl, rfl⟩) | (refine (small_no _ _ (by unfold Go.Proofs.Ytjeomdfcfbfebaa.small; omega)).mono ?_; rintro e w8 ⟨rfl, rfl⟩))
  go_cut [8] (fun s8 wx => s8 = .pointer (some ⟨w.heap.size + 1 + 1 + 1, 0, none⟩) ∧ wx.cell? ⟨w.heap.size + 1 + 1 + 1, 0, none⟩ = some (.int .i64 (0)) ∧ wx.cell? ⟨w.heap.size + 1 + 1 + 1, 1, none⟩ = some (.int .i64 (-s1)) ∧ wx.cell? ⟨w.heap.size + 1 + 1 + 1, 2, none⟩ = some (.int .i64 (s0)) ∧ wx.cell? ⟨w.heap.size + 1 + 1, 0, none⟩ = some (.int .i64 0) ∧ wx.cell? ⟨w.heap.size + 1 + 1, 1, none⟩ = some (.int .i64 0) ∧ wx.cell? ⟨w.heap.size + 1 + 1, 2, none⟩ = some (.int .i64 0) ∧ wx.cell? ⟨w.heap.size + 1, 0, none⟩ = some (.int .i64 s0) ∧ wx.cell? ⟨w.heap.size + 1, 1, none⟩ = some (.int .i64 s1) ∧ (∀ o, wx.frozen? ⟨w.heap.size + 1 + 1 + 1, o, none⟩ = false) ∧ (∀ o, wx.frozen? ⟨w.heap.size + 1 + 1, o, none⟩ = false) ∧ wx.heap.size = w.heap.size + 4 ∧ Below w.heap.size w wx)
  case first =>
    go_region
    all_goals
      go_wp2
      go_meet
      exact ⟨by go_simp, by go_simp, by go_simp, by go_simp, by go_simp, by go_simp, by go_simp, by go_simp, by go_simp, fun o => by go_simp, fun o => by go_simp, by simp <;> omega, by exact (by repeat (first | with_reducible assumption | with_reducible refine Below.drew ?_ | with_reducible refine below_drewN ?_ _ | with_reducible refine Below.alloc ?_ (by first | omega | (simp <;> omega)) _ | with_reducible refine Below.setCell ?_ (by first | omega | (simp <;> omega)) _ | with_reducible exact Below.refl _ _))⟩
  case rest =>
  obtain ⟨rfl, k0, k1, k2, k3, k4, k5, k6, k7, k8, k9, kz, hB⟩ := hcut
  have y0 : w.heap.size + 1 + 1 + 1 < wc.heap.size := by omega
  have y1 : w.heap.size + 1 + 1 < wc.heap.size := by omega
  have y2 : w.heap.size + 1 < wc.heap.size := by omega
  go_wp2
  refine bodyPost_ret (v := .tuple #[.agg #[.int .i64 (s1 - s0), .int .i64 (-s1), .int .i64 (s0)], _]) (by simp only [results, Try.results42]; go_simp) rfl ⟨ret_cur (by omega) (by omega) (by omega), ?_⟩
  exact (by repeat (first | with_reducible exact hB | with_reducible refine Below.drew ?_ | with_reducible refine below_drewN ?_ _ | with_reducible refine Below.setCell ?_ (by first | omega | (simp <;> omega)) _))
theorem rjoin_any (t0 t1 a b s0 s1 : Int) (w : World) :
    Calls Try.prog 42 #[.agg #[.int .i64 t0, .int .i64 t1, .int .i64 a, .int .i64 b], .agg #[.int .i64 s0, .int .i64 s1]] w fun e w' => e = .returned (.tuple #[.agg #[.int .i64 (joinO a b s0 s1 0), .int .i64 (joinO a b s0 s1 1), .int .i64 (joinO a b s0 s1 2)], .int .i64 (joinC a b s0 s1)]) ∧ Below w.heap.size w w' := by
  have key : ∀ c : Int, ¬ c = 0 → joinC a b s0 s1 = c → Calls Try.prog 42 #[.agg #[.int .i64 t0, .int .i64 t1, .int .i64 a, .int .i64 b], .agg #[.int .i64 s0, .int .i64 s1]] w (fun e w' => e = .returned (.tuple #[.agg #[.int .i64 0, .int .i64 0, .int .i64 0], .int .i64 (c)]) ∧ Below w.heap.size w w') → Calls Try.prog 42 #[.agg #[.int .i64 t0, .int .i64 t1, .int .i64 a, .int .i64 b], .agg #[.int .i64 s0, .int .i64 s1]] w (fun e w' => e = .returned (.tuple #[.agg #[.int .i64 (joinO a b s0 s1 0), .int .i64 (joinO a b s0 s1 1), .int .i64 (joinO a b s0 s1 2)], .int .i64 (joinC a b s0 s1)]) ∧ Below w.heap.size w w') := by
    intro c hc h k
    have hO : ∀ i, joinO a b s0 s1 i = 0 := fun i => by unfold joinO; rw [if_neg (by rw [h]; exact hc)]
    rw [hO, hO, hO, h]
    exact k
  by_cases ha : leg02 a
  · by_cases hb : leg02 b
    · by_cases hab : a = b
      · exact key 6 (by decide) (by unfold joinC; rw [if_pos ⟨ha, hb⟩, if_pos hab]) (rjoin_ab t0 t1 a b s0 s1 ha hab w)
      · by_cases h0 : PM.small s0
        · by_cases h1 : PM.small s1
          · have hc : joinC a b s0 s1 = 0 := by unfold joinC; rw [if_pos ⟨ha, hb⟩, if_neg hab, if_pos ⟨h0, h1⟩]
            have hO : ∀ i, joinO a b s0 s1 i = if i = a then s0 else if i = b then -s1 else s1 - s0 := fun i => by unfold joinO; rw [if_pos hc]
            rw [hO, hO, hO, hc]
            rcases leg_cases ha with rfl | rfl | rfl <;> rcases leg_cases hb with rfl | rfl | rfl
            · exact absurd rfl hab
            · exact rjoin_01 t0 t1 s0 s1 h0 h1 w
            · exact rjoin_02 t0 t1 s0 s1 h0 h1 w
            · exact rjoin_10 t0 t1 s0 s1 h0 h1 w
            · exact absurd rfl hab
            · exact rjoin_12 t0 t1 s0 s1 h0 h1 w
            · exact rjoin_20 t0 t1 s0 s1 h0 h1 w
            · exact rjoin_21 t0 t1 s0 s1 h0 h1 w
            · exact absurd rfl hab
          · exact key 3 (by decide) (by unfold joinC; rw [if_pos ⟨ha, hb⟩, if_neg hab, if_neg (fun k => h1 k.2)]) (rjoin_s1 t0 t1 a b s0 s1 ha hb hab h0 h1 w)
        · exact key 3 (by decide) (by unfold joinC; rw [if_pos ⟨ha, hb⟩, if_neg hab, if_neg (fun k => h0 k.1)]) (rjoin_s0 t0 t1 a b s0 s1 ha hb hab h0 w)
    · exact key 10 (by decide) (by unfold joinC; rw [if_neg (fun k => hb k.2)]) (rjoin_b t0 t1 a b s0 s1 ha hb w)
  · exact key 10 (by decide) (by unfold joinC; rw [if_neg (fun k => ha k.1)]) (rjoin_a t0 t1 a b s0 s1 ha w)
end Go.Proofs.Ytjeomdfcfbfebaa
