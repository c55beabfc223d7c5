/- Walks of the reference's tick of the logic and of the gate stage. Condition: a checked configuration. -/
import Derived.Test.YtgbbhkefkpndeaaOffC
import Derived.Test.YtgbbhkefkpndeaaOffPlant
namespace Go.Proofs.Ytgbbhkefkpndeaa
open Go.RowKit OM

theorem norm_mod {c : Cf} (h : c.Rng) (t : Int) : t.tmod c.every % c.every = norm c t := by
  obtain ⟨⟨h1, h2⟩, ⟨h3, h4⟩, _⟩ := h
  have b := tmod_bd t h3 h1
  unfold norm
  rw [Int.tmod_eq_emod_of_nonneg (a := t.tmod c.every + c.every) (by omega), Int.add_emod_right]

namespace OM
def rap (c : Cf) (na : Int) (r0 r1 : Bool) : Int := if r0 != r1 then (if c.apart < na then c.apart + 1 else na + 1) else 0
end OM
theorem rtested_at (c : Cf) (h : c.Rng) (t : Int) (ch : Bool) (w : World) :
    Calls Try.prog 31 #[.agg #[.int .i64 c.every, .int .i64 c.length, .int .i64 c.apart], .int .i64 (if ch then 1 else 0), .int .i64 t] w fun e w' => e = .returned (.bool (tested c ch t)) ∧ w.alloc (.cells #[.int .i64 c.every, .int .i64 c.length, .int .i64 c.apart] 23) = w' := by
  obtain ⟨⟨h1, h2⟩, ⟨h3, h4⟩, _⟩ := h
  cases ch
  all_goals
    simp only [if_true, Bool.false_eq_true, if_false]
    go_enter Try.func31, Try.ntmps31
    go_wp2
    all_goals go_ret
    all_goals exact ⟨ret_bool (by simp [tested]; try omega), rfl⟩

theorem rtested0 (c : Cf) (h : c.Rng) (t : Int) (w : World) :
    Calls Try.prog 31 #[.agg #[.int .i64 c.every, .int .i64 c.length, .int .i64 c.apart], .int .i64 0, .int .i64 t] w fun e w' => e = .returned (.bool (tested c false t)) ∧ w.alloc (.cells #[.int .i64 c.every, .int .i64 c.length, .int .i64 c.apart] 23) = w' := rtested_at c h t false w
theorem rtested1 (c : Cf) (h : c.Rng) (t : Int) (w : World) :
    Calls Try.prog 31 #[.agg #[.int .i64 c.every, .int .i64 c.length, .int .i64 c.apart], .int .i64 1, .int .i64 t] w fun e w' => e = .returned (.bool (tested c true t)) ∧ w.alloc (.cells #[.int .i64 c.every, .int .i64 c.length, .int .i64 c.apart] 23) = w' := rtested_at c h t true w

theorem clip_still (n lo hi : Int) (w : World) :
    Calls Try.prog 32 #[.int .i64 n, .int .i64 lo, .int .i64 hi] w fun e w' => e = .returned (.int .i64 (clipI n lo hi)) ∧ w' = w :=
  (clip_any n lo hi w).mono fun _ _ ⟨a, b⟩ => ⟨a, b.symm⟩

set_option maxRecDepth 100000 in
set_option maxHeartbeats 4000000 in
theorem rnormal_ok (c : Cf) (h : c.Rng) (time apartFor for0 for1 : Int) (d0 d1 lat : Bool) (w : World) :
    Calls Try.prog 30 #[.agg #[.int .i64 c.every, .int .i64 c.length, .int .i64 c.apart], .agg #[.int .i64 time, .int .i64 apartFor, .int .i64 for0, .int .i64 for1, .bool d0, .bool d1, .bool lat]] w
      fun e w' => e = .returned (.agg #[.int .i64 (norm c time), .int .i64 (clipI apartFor 0 (c.apart + 1)), .int .i64 (clipI for0 0 (c.length + 1)), .int .i64 (clipI for1 0 (c.length + 1)), .bool d0, .bool d1, .bool lat]) ∧ Below w.heap.size w w' := by
  have hns : ¬ c.every = 0 := by obtain ⟨⟨h1, h2⟩, ⟨h3, h4⟩, _⟩ := h; omega
  obtain ⟨⟨h1, h2⟩, ⟨h3, h4⟩, ⟨h5, h6⟩⟩ := h
  obtain ⟨t0, t1⟩ := tmod_bd time h3 h1
  go_enter Try.func30, Try.ntmps30
  go_wp2
  refine region_quiet_tail 12 (by kernel_rfl) (by kernel_rfl) ?_
  simp only [List.take_succ_cons, List.take_zero, List.drop_succ_cons, List.drop_zero]
  repeat (first | go_big_quiet_skip | (go_big_quiet_want; go_big_quiet_op; go_big_quiet_on))
  refine wpQuiet_nil ?_
  go_wp2_with (go_at_call 32; refine (clip_still _ _ _ _).mono ?_; rintro e w9 ⟨rfl, rfl⟩)
  refine wp_loop_rounds 3 ?_
  rw [rounds_succ]
  go_wp2
  refine region_quiet_tail 11 (by kernel_rfl) (by kernel_rfl) ?_
  simp only [List.take_succ_cons, List.take_zero, List.drop_succ_cons, List.drop_zero]
  repeat (first | go_big_quiet_skip | (go_big_quiet_want; go_big_quiet_op; go_big_quiet_on))
  go_big_quiet_want
  go_big_quiet_op
  apply Exists.intro
  refine ⟨(clip_still _ _ _ _), ?_⟩
  go_big_quiet_on
  repeat (first | go_big_quiet_skip | (go_big_quiet_want; go_big_quiet_op; go_big_quiet_on))
  refine wpQuiet_nil ?_
  go_wp2
  rw [rounds_succ]
  go_wp2
  refine region_quiet_tail 11 (by kernel_rfl) (by kernel_rfl) ?_
  simp only [List.take_succ_cons, List.take_zero, List.drop_succ_cons, List.drop_zero]
  repeat (first | go_big_quiet_skip | (go_big_quiet_want; go_big_quiet_op; go_big_quiet_on))
  go_big_quiet_want
  go_big_quiet_op
  apply Exists.intro
  refine ⟨(clip_still _ _ _ _), ?_⟩
  go_big_quiet_on
  repeat (first | go_big_quiet_skip | (go_big_quiet_want; go_big_quiet_op; go_big_quiet_on))
  refine wpQuiet_nil ?_
  go_wp2
  rw [rounds_succ]
  go_wp2
  refine bodyPost_ret (v := .agg #[.int .i64 (time.tmod c.every % c.every), .int .i64 (clipI apartFor 0 (c.apart + 1)), .int .i64 (clipI for0 0 (c.length + 1)), .int .i64 (clipI for1 0 (c.length + 1)), .bool d0, .bool d1, .bool lat]) (by simp only [results, Try.results30]; go_simp) rfl ⟨by rw [norm_mod ⟨⟨h1, h2⟩, ⟨h3, h4⟩, ⟨h5, h6⟩⟩], ?_⟩
  repeat (first | with_reducible refine Below.drew ?_ | with_reducible refine Below.alloc ?_ (by simp <;> omega) _ | with_reducible refine Below.setCell ?_ (by simp <;> omega) _ | with_reducible exact Below.refl _ _)

set_option maxRecDepth 100000 in
set_option maxHeartbeats 16000000 in
theorem rstep_core (c : Cf) (h : c.Rng) (time apartFor for0 for1 : Int) (d0 d1 lat r0 r1 k0 k1 L1 B0 B1 L2 OF : Bool) (nt na n0 n1 M0 M1 AP T : Int) (w : World)
    (h0 : Hid (nt = norm c time)) (h1 : Hid (na = clipI apartFor 0 (c.apart + 1))) (h2 : Hid (n0 = clipI for0 0 (c.length + 1))) (h3 : Hid (n1 = clipI for1 0 (c.length + 1)))
    (HM0 : Hid (M0 = if c.length < n0 then c.length + 1 else n0 + 1)) (HM1 : Hid (M1 = if c.length < n1 then c.length + 1 else n1 + 1)) (HB0 : Hid (B0 = tested c false T)) (HB1 : Hid (B1 = tested c true T))
    (HAP : Hid (AP = rap c na r0 r1)) (HL2 : Hid (L2 = (L1 || decide (AP = c.apart + 1)))) (HOF : Hid (OF = ((L2 || r0) || r1))) (HT : Hid (T = if OF then 0 else (nt + 1) % c.every))
    (HL1 : Hid (L1 = (lat || (decide (c.length ≤ n0) && k0) || (decide (c.length ≤ n1) && k1)))) :
    Calls Try.prog 18 #[.agg #[.int .i64 c.every, .int .i64 c.length, .int .i64 c.apart], .agg #[.int .i64 time, .int .i64 apartFor, .int .i64 for0, .int .i64 for1, .bool d0, .bool d1, .bool lat], .agg #[.bool r0, .bool r1, .bool k0, .bool k1]] w
      fun e w' => e = .returned (.agg #[.int .i64 T, .int .i64 AP, .int .i64 (if OF || B0 then M0 else 0), .int .i64 (if OF || B1 then M1 else 0), .bool (!OF && !B0), .bool (!OF && !B1), .bool L2]) ∧ Below w.heap.size w w' := by
  have HN := hide (rnormal_ok c h time apartFor for0 for1 d0 d1 lat)
  rw [← h0.out, ← h1.out, ← h2.out, ← h3.out] at HN
  have HC0 := hide (rtested0 c h T)
  have HC1 := hide (rtested1 c h T)
  rw [← HB0.out] at HC0
  rw [← HB1.out] at HC1
  have j1 : 0 ≤ nt ∧ nt < c.every := by rw [h0.out]; exact norm_bd h time
  obtain ⟨⟨g1, g2⟩, ⟨g3, g4⟩, ⟨g5, g6⟩⟩ := h
  have j2 : 0 ≤ na ∧ na ≤ c.apart + 1 := by rw [h1.out]; unfold clipI; omega
  have j3 : 0 ≤ n0 ∧ n0 ≤ c.length + 1 := by rw [h2.out]; unfold clipI; omega
  have j4 : 0 ≤ n1 ∧ n1 ≤ c.length + 1 := by rw [h3.out]; unfold clipI; omega
  obtain ⟨j1a, j1b⟩ := j1
  obtain ⟨j2a, j2b⟩ := j2
  obtain ⟨j3a, j3b⟩ := j3
  obtain ⟨j4a, j4b⟩ := j4
  go_enter Try.func18, Try.ntmps18
  go_upto_block 0 with (go_at_call 30; refine (HN.out _).mono ?_; rintro e w1 ⟨rfl, hb1⟩; have z1 := hb1.size; (try simp at z1); have c1x0 := bstep (b := w.heap.size) hb1 (by first | omega | (simp <;> omega)); have y1x0 : w.heap.size < w1.heap.size := (by omega); have c1x1 := bstep (b := w.heap.size + 1) hb1 (by first | omega | (simp <;> omega)); have y1x1 : w.heap.size + 1 < w1.heap.size := (by omega); have c1x2 := bstep (b := w.heap.size + 1 + 1) hb1 (by first | omega | (simp <;> omega)); have y1x2 : w.heap.size + 1 + 1 < w1.heap.size := (by omega); have c1x3 := bstep (b := w.heap.size + 1 + 1 + 1) hb1 (by first | omega | (simp <;> omega)); have y1x3 : w.heap.size + 1 + 1 + 1 < w1.heap.size := (by omega); have f1x0 := bfro (b := w.heap.size) hb1 (by first | omega | (simp <;> omega)); have f1x1 := bfro (b := w.heap.size + 1) hb1 (by first | omega | (simp <;> omega)); have f1x2 := bfro (b := w.heap.size + 1 + 1) hb1 (by first | omega | (simp <;> omega)); have f1x3 := bfro (b := w.heap.size + 1 + 1 + 1) hb1 (by first | omega | (simp <;> omega)))
  go_cut [7] (fun _ wx => wx.cell? ⟨w.heap.size, 0, none⟩ = some (.int .i64 c.every) ∧ wx.cell? ⟨w.heap.size, 1, none⟩ = some (.int .i64 c.length) ∧ wx.cell? ⟨w.heap.size, 2, none⟩ = some (.int .i64 c.apart) ∧ wx.cell? ⟨w.heap.size + 1, 0, none⟩ = some (.int .i64 nt) ∧ wx.cell? ⟨w.heap.size + 1, 1, none⟩ = some (.int .i64 na) ∧ wx.cell? ⟨w.heap.size + 1, 2, none⟩ = some (.int .i64 n0) ∧ wx.cell? ⟨w.heap.size + 1, 3, none⟩ = some (.int .i64 n1) ∧ wx.cell? ⟨w.heap.size + 1, 4, none⟩ = some (.bool d0) ∧ wx.cell? ⟨w.heap.size + 1, 5, none⟩ = some (.bool d1) ∧ wx.cell? ⟨w.heap.size + 1, 6, none⟩ = some (.bool L1) ∧ wx.cell? ⟨w.heap.size + 1 + 1, 0, none⟩ = some (.bool r0) ∧ wx.cell? ⟨w.heap.size + 1 + 1, 1, none⟩ = some (.bool r1) ∧ wx.cell? ⟨w.heap.size + 1 + 1, 2, none⟩ = some (.bool k0) ∧ wx.cell? ⟨w.heap.size + 1 + 1, 3, none⟩ = some (.bool k1) ∧ wx.cell? ⟨w.heap.size + 1 + 1 + 1, 0, none⟩ = some (.int .i64 0) ∧ wx.cell? ⟨w.heap.size + 1 + 1 + 1, 1, none⟩ = some (.int .i64 0) ∧ wx.cell? ⟨w.heap.size + 1 + 1 + 1, 2, none⟩ = some (.int .i64 0) ∧ wx.cell? ⟨w.heap.size + 1 + 1 + 1, 3, none⟩ = some (.int .i64 0) ∧ wx.cell? ⟨w.heap.size + 1 + 1 + 1, 4, none⟩ = some (.bool false) ∧ wx.cell? ⟨w.heap.size + 1 + 1 + 1, 5, none⟩ = some (.bool false) ∧ wx.cell? ⟨w.heap.size + 1 + 1 + 1, 6, none⟩ = some (.bool false) ∧ (∀ o, wx.frozen? ⟨w.heap.size + 1, o, none⟩ = false) ∧ (∀ o, wx.frozen? ⟨w.heap.size + 1 + 1 + 1, o, none⟩ = false) ∧ Below w.heap.size w wx ∧ w.heap.size + 4 ≤ wx.heap.size)
  case first =>
    go_wp2
    refine wp_loop_rounds 3 ?_
    have e0 : decide (c.length ≤ n0) = false ∨ (decide (c.length ≤ n0) = true ∧ k0 = false) ∨ (decide (c.length ≤ n0) = true ∧ k0 = true) := by cases decide (c.length ≤ n0) <;> cases k0 <;> simp
    have e1 : decide (c.length ≤ n1) = false ∨ (decide (c.length ≤ n1) = true ∧ k1 = false) ∨ (decide (c.length ≤ n1) = true ∧ k1 = true) := by cases decide (c.length ≤ n1) <;> cases k1 <;> simp
    rcases e0 with hA0 | ⟨hA0, rfl⟩ | ⟨hA0, rfl⟩ <;> rcases e1 with hA1 | ⟨hA1, rfl⟩ | ⟨hA1, rfl⟩
    all_goals
      rw [rounds_succ]
      go_wp2
      go_quiet (fail)
      go_wp2
      rw [rounds_succ]
      go_wp2
      go_quiet (fail)
      go_wp2
      rw [rounds_succ]
      go_wp2
      go_meet
      have hL : L1 = _ := HL1.out
      simp [hA0, hA1] at hL
      subst hL
      have hB : Below w.heap.size w w1 := Below.trans (by repeat (first | with_reducible assumption | with_reducible refine Below.drew ?_ | with_reducible refine below_drewN ?_ _ | with_reducible refine Below.alloc ?_ (by first | omega | (simp <;> omega)) _ | with_reducible refine Below.setCell ?_ (by first | omega | (simp <;> omega)) _ | with_reducible exact Below.refl _ _)) (hb1.mono (by simp <;> omega))
      refine ⟨by go_simp, by go_simp, by go_simp, by go_simp, by go_simp, by go_simp, by go_simp, by go_simp, by go_simp, by go_simp, by go_simp, by go_simp, by go_simp, by go_simp, by go_simp, by go_simp, by go_simp, by go_simp, by go_simp, by go_simp, by go_simp, fun o => by go_simp, fun o => by go_simp, by exact (by repeat (first | with_reducible assumption | with_reducible refine Below.drew ?_ | with_reducible refine below_drewN ?_ _ | with_reducible refine Below.alloc ?_ (by first | omega | (simp <;> omega)) _ | with_reducible refine Below.setCell ?_ (by first | omega | (simp <;> omega)) _ | with_reducible exact Below.refl _ _)), by simp <;> omega⟩
  case rest =>
    clear HL1 HN HB0 HB1 h0 h1 h2 h3
    obtain ⟨q0, q1, q2, q3, q4, q5, q6, q7, q8, q9, q10, q11, q12, q13, q14, q15, q16, q17, q18, q19, q20, hf1, hf2, hbx, hzx⟩ := hcut
    have yy0 : w.heap.size < wc.heap.size := by omega
    have yy1 : w.heap.size + 1 < wc.heap.size := by omega
    have yy2 : w.heap.size + 1 + 1 < wc.heap.size := by omega
    have yy3 : w.heap.size + 1 + 1 + 1 < wc.heap.size := by omega
    go_upto_if 37 with fail
    go_cut [] (fun wx => wx.cell? ⟨w.heap.size, 0, none⟩ = some (.int .i64 c.every) ∧ wx.cell? ⟨w.heap.size, 1, none⟩ = some (.int .i64 c.length) ∧ wx.cell? ⟨w.heap.size, 2, none⟩ = some (.int .i64 c.apart) ∧ wx.cell? ⟨w.heap.size + 1, 0, none⟩ = some (.int .i64 nt) ∧ wx.cell? ⟨w.heap.size + 1, 1, none⟩ = some (.int .i64 AP) ∧ wx.cell? ⟨w.heap.size + 1, 2, none⟩ = some (.int .i64 n0) ∧ wx.cell? ⟨w.heap.size + 1, 3, none⟩ = some (.int .i64 n1) ∧ wx.cell? ⟨w.heap.size + 1, 4, none⟩ = some (.bool d0) ∧ wx.cell? ⟨w.heap.size + 1, 5, none⟩ = some (.bool d1) ∧ wx.cell? ⟨w.heap.size + 1, 6, none⟩ = some (.bool L1) ∧ wx.cell? ⟨w.heap.size + 1 + 1, 0, none⟩ = some (.bool r0) ∧ wx.cell? ⟨w.heap.size + 1 + 1, 1, none⟩ = some (.bool r1) ∧ wx.cell? ⟨w.heap.size + 1 + 1, 2, none⟩ = some (.bool k0) ∧ wx.cell? ⟨w.heap.size + 1 + 1, 3, none⟩ = some (.bool k1) ∧ wx.cell? ⟨w.heap.size + 1 + 1 + 1, 0, none⟩ = some (.int .i64 0) ∧ wx.cell? ⟨w.heap.size + 1 + 1 + 1, 1, none⟩ = some (.int .i64 0) ∧ wx.cell? ⟨w.heap.size + 1 + 1 + 1, 2, none⟩ = some (.int .i64 0) ∧ wx.cell? ⟨w.heap.size + 1 + 1 + 1, 3, none⟩ = some (.int .i64 0) ∧ wx.cell? ⟨w.heap.size + 1 + 1 + 1, 4, none⟩ = some (.bool false) ∧ wx.cell? ⟨w.heap.size + 1 + 1 + 1, 5, none⟩ = some (.bool false) ∧ wx.cell? ⟨w.heap.size + 1 + 1 + 1, 6, none⟩ = some (.bool false) ∧ (∀ o, wx.frozen? ⟨w.heap.size + 1, o, none⟩ = false) ∧ (∀ o, wx.frozen? ⟨w.heap.size + 1 + 1 + 1, o, none⟩ = false) ∧ Below w.heap.size w wx ∧ w.heap.size + 4 ≤ wx.heap.size)
    case first =>
      cases r0 <;> cases r1
      · go_wp2
        go_meet
        exact ⟨by go_simp, by go_simp, by go_simp, by go_simp, by (go_simp; rw [HAP.out]; simp [rap]), by go_simp, by go_simp, by go_simp, by go_simp, by go_simp, by go_simp, by go_simp, by go_simp, by go_simp, by go_simp, by go_simp, by go_simp, by go_simp, by go_simp, by go_simp, by go_simp, fun o => by go_simp, fun o => by go_simp, by exact (by repeat (first | with_reducible assumption | with_reducible refine Below.drew ?_ | with_reducible refine below_drewN ?_ _ | with_reducible refine Below.alloc ?_ (by first | omega | (simp <;> omega)) _ | with_reducible refine Below.setCell ?_ (by first | omega | (simp <;> omega)) _ | with_reducible exact Below.refl _ _)), by first | omega | (simp <;> omega)⟩
      · rcases (show na = c.apart + 1 ∨ na = c.apart ∨ na < c.apart by omega) with hna | hna | hna
        · subst hna
          go_wp2
          go_meet
          exact ⟨by go_simp, by go_simp, by go_simp, by go_simp, by (go_simp; rw [HAP.out]; simp [rap]; try omega), by go_simp, by go_simp, by go_simp, by go_simp, by go_simp, by go_simp, by go_simp, by go_simp, by go_simp, by go_simp, by go_simp, by go_simp, by go_simp, by go_simp, by go_simp, by go_simp, fun o => by go_simp, fun o => by go_simp, by exact (by repeat (first | with_reducible assumption | with_reducible refine Below.drew ?_ | with_reducible refine below_drewN ?_ _ | with_reducible refine Below.alloc ?_ (by first | omega | (simp <;> omega)) _ | with_reducible refine Below.setCell ?_ (by first | omega | (simp <;> omega)) _ | with_reducible exact Below.refl _ _)), by first | omega | (simp <;> omega)⟩
        · subst hna
          go_wp2
          go_meet
          exact ⟨by go_simp, by go_simp, by go_simp, by go_simp, by (go_simp; rw [HAP.out]; simp [rap]; try omega), by go_simp, by go_simp, by go_simp, by go_simp, by go_simp, by go_simp, by go_simp, by go_simp, by go_simp, by go_simp, by go_simp, by go_simp, by go_simp, by go_simp, by go_simp, by go_simp, fun o => by go_simp, fun o => by go_simp, by exact (by repeat (first | with_reducible assumption | with_reducible refine Below.drew ?_ | with_reducible refine below_drewN ?_ _ | with_reducible refine Below.alloc ?_ (by first | omega | (simp <;> omega)) _ | with_reducible refine Below.setCell ?_ (by first | omega | (simp <;> omega)) _ | with_reducible exact Below.refl _ _)), by first | omega | (simp <;> omega)⟩
        · go_wp2
          go_meet
          exact ⟨by go_simp, by go_simp, by go_simp, by go_simp, by (go_simp; rw [HAP.out]; simp [rap]; try omega), by go_simp, by go_simp, by go_simp, by go_simp, by go_simp, by go_simp, by go_simp, by go_simp, by go_simp, by go_simp, by go_simp, by go_simp, by go_simp, by go_simp, by go_simp, by go_simp, fun o => by go_simp, fun o => by go_simp, by exact (by repeat (first | with_reducible assumption | with_reducible refine Below.drew ?_ | with_reducible refine below_drewN ?_ _ | with_reducible refine Below.alloc ?_ (by first | omega | (simp <;> omega)) _ | with_reducible refine Below.setCell ?_ (by first | omega | (simp <;> omega)) _ | with_reducible exact Below.refl _ _)), by first | omega | (simp <;> omega)⟩
      · rcases (show na = c.apart + 1 ∨ na = c.apart ∨ na < c.apart by omega) with hna | hna | hna
        · subst hna
          go_wp2
          go_meet
          exact ⟨by go_simp, by go_simp, by go_simp, by go_simp, by (go_simp; rw [HAP.out]; simp [rap]; try omega), by go_simp, by go_simp, by go_simp, by go_simp, by go_simp, by go_simp, by go_simp, by go_simp, by go_simp, by go_simp, by go_simp, by go_simp, by go_simp, by go_simp, by go_simp, by go_simp, fun o => by go_simp, fun o => by go_simp, by exact (by repeat (first | with_reducible assumption | with_reducible refine Below.drew ?_ | with_reducible refine below_drewN ?_ _ | with_reducible refine Below.alloc ?_ (by first | omega | (simp <;> omega)) _ | with_reducible refine Below.setCell ?_ (by first | omega | (simp <;> omega)) _ | with_reducible exact Below.refl _ _)), by first | omega | (simp <;> omega)⟩
        · subst hna
          go_wp2
          go_meet
          exact ⟨by go_simp, by go_simp, by go_simp, by go_simp, by (go_simp; rw [HAP.out]; simp [rap]; try omega), by go_simp, by go_simp, by go_simp, by go_simp, by go_simp, by go_simp, by go_simp, by go_simp, by go_simp, by go_simp, by go_simp, by go_simp, by go_simp, by go_simp, by go_simp, by go_simp, fun o => by go_simp, fun o => by go_simp, by exact (by repeat (first | with_reducible assumption | with_reducible refine Below.drew ?_ | with_reducible refine below_drewN ?_ _ | with_reducible refine Below.alloc ?_ (by first | omega | (simp <;> omega)) _ | with_reducible refine Below.setCell ?_ (by first | omega | (simp <;> omega)) _ | with_reducible exact Below.refl _ _)), by first | omega | (simp <;> omega)⟩
        · go_wp2
          go_meet
          exact ⟨by go_simp, by go_simp, by go_simp, by go_simp, by (go_simp; rw [HAP.out]; simp [rap]; try omega), by go_simp, by go_simp, by go_simp, by go_simp, by go_simp, by go_simp, by go_simp, by go_simp, by go_simp, by go_simp, by go_simp, by go_simp, by go_simp, by go_simp, by go_simp, by go_simp, fun o => by go_simp, fun o => by go_simp, by exact (by repeat (first | with_reducible assumption | with_reducible refine Below.drew ?_ | with_reducible refine below_drewN ?_ _ | with_reducible refine Below.alloc ?_ (by first | omega | (simp <;> omega)) _ | with_reducible refine Below.setCell ?_ (by first | omega | (simp <;> omega)) _ | with_reducible exact Below.refl _ _)), by first | omega | (simp <;> omega)⟩
      · go_wp2
        go_meet
        exact ⟨by go_simp, by go_simp, by go_simp, by go_simp, by (go_simp; rw [HAP.out]; simp [rap]), by go_simp, by go_simp, by go_simp, by go_simp, by go_simp, by go_simp, by go_simp, by go_simp, by go_simp, by go_simp, by go_simp, by go_simp, by go_simp, by go_simp, by go_simp, by go_simp, fun o => by go_simp, fun o => by go_simp, by exact (by repeat (first | with_reducible assumption | with_reducible refine Below.drew ?_ | with_reducible refine below_drewN ?_ _ | with_reducible refine Below.alloc ?_ (by first | omega | (simp <;> omega)) _ | with_reducible refine Below.setCell ?_ (by first | omega | (simp <;> omega)) _ | with_reducible exact Below.refl _ _)), by first | omega | (simp <;> omega)⟩
    case rest =>
      clear q0 q1 q2 q3 q4 q5 q6 q7 q8 q9 q10 q11 q12 q13 q14 q15 q16 q17 q18 q19 q20 hf1 hf2 hbx hzx yy0 yy1 yy2 yy3 HAP
      obtain ⟨q0, q1, q2, q3, q4, q5, q6, q7, q8, q9, q10, q11, q12, q13, q14, q15, q16, q17, q18, q19, q20, hf1, hf2, hbx, hzx⟩ := hcut
      have yy0 : w.heap.size < wc.heap.size := by omega
      have yy1 : w.heap.size + 1 < wc.heap.size := by omega
      have yy2 : w.heap.size + 1 + 1 < wc.heap.size := by omega
      have yy3 : w.heap.size + 1 + 1 + 1 < wc.heap.size := by omega
      go_upto_if 52 with fail
      go_cut [] (fun wx => wx.cell? ⟨w.heap.size, 0, none⟩ = some (.int .i64 c.every) ∧ wx.cell? ⟨w.heap.size, 1, none⟩ = some (.int .i64 c.length) ∧ wx.cell? ⟨w.heap.size, 2, none⟩ = some (.int .i64 c.apart) ∧ wx.cell? ⟨w.heap.size + 1, 0, none⟩ = some (.int .i64 nt) ∧ wx.cell? ⟨w.heap.size + 1, 1, none⟩ = some (.int .i64 AP) ∧ wx.cell? ⟨w.heap.size + 1, 2, none⟩ = some (.int .i64 n0) ∧ wx.cell? ⟨w.heap.size + 1, 3, none⟩ = some (.int .i64 n1) ∧ wx.cell? ⟨w.heap.size + 1, 4, none⟩ = some (.bool d0) ∧ wx.cell? ⟨w.heap.size + 1, 5, none⟩ = some (.bool d1) ∧ wx.cell? ⟨w.heap.size + 1, 6, none⟩ = some (.bool L2) ∧ wx.cell? ⟨w.heap.size + 1 + 1, 0, none⟩ = some (.bool r0) ∧ wx.cell? ⟨w.heap.size + 1 + 1, 1, none⟩ = some (.bool r1) ∧ wx.cell? ⟨w.heap.size + 1 + 1, 2, none⟩ = some (.bool k0) ∧ wx.cell? ⟨w.heap.size + 1 + 1, 3, none⟩ = some (.bool k1) ∧ wx.cell? ⟨w.heap.size + 1 + 1 + 1, 0, none⟩ = some (.int .i64 0) ∧ wx.cell? ⟨w.heap.size + 1 + 1 + 1, 1, none⟩ = some (.int .i64 0) ∧ wx.cell? ⟨w.heap.size + 1 + 1 + 1, 2, none⟩ = some (.int .i64 0) ∧ wx.cell? ⟨w.heap.size + 1 + 1 + 1, 3, none⟩ = some (.int .i64 0) ∧ wx.cell? ⟨w.heap.size + 1 + 1 + 1, 4, none⟩ = some (.bool false) ∧ wx.cell? ⟨w.heap.size + 1 + 1 + 1, 5, none⟩ = some (.bool false) ∧ wx.cell? ⟨w.heap.size + 1 + 1 + 1, 6, none⟩ = some (.bool false) ∧ (∀ o, wx.frozen? ⟨w.heap.size + 1, o, none⟩ = false) ∧ (∀ o, wx.frozen? ⟨w.heap.size + 1 + 1 + 1, o, none⟩ = false) ∧ Below w.heap.size w wx ∧ w.heap.size + 4 ≤ wx.heap.size)
      case first =>
        by_cases hE : AP = c.apart + 1
        · go_wp2
          go_meet
          exact ⟨by go_simp, by go_simp, by go_simp, by go_simp, by go_simp, by go_simp, by go_simp, by go_simp, by go_simp, by (go_simp; (try rw [HL2.out]); (try simp [hE])), by go_simp, by go_simp, by go_simp, by go_simp, by go_simp, by go_simp, by go_simp, by go_simp, by go_simp, by go_simp, by go_simp, fun o => by go_simp, fun o => by go_simp, by exact (by repeat (first | with_reducible assumption | with_reducible refine Below.drew ?_ | with_reducible refine below_drewN ?_ _ | with_reducible refine Below.alloc ?_ (by first | omega | (simp <;> omega)) _ | with_reducible refine Below.setCell ?_ (by first | omega | (simp <;> omega)) _ | with_reducible exact Below.refl _ _)), by first | omega | (simp <;> omega)⟩
        · go_wp2
          go_meet
          exact ⟨by go_simp, by go_simp, by go_simp, by go_simp, by go_simp, by go_simp, by go_simp, by go_simp, by go_simp, by (go_simp; (try rw [HL2.out]); (try simp [hE])), by go_simp, by go_simp, by go_simp, by go_simp, by go_simp, by go_simp, by go_simp, by go_simp, by go_simp, by go_simp, by go_simp, fun o => by go_simp, fun o => by go_simp, by exact (by repeat (first | with_reducible assumption | with_reducible refine Below.drew ?_ | with_reducible refine below_drewN ?_ _ | with_reducible refine Below.alloc ?_ (by first | omega | (simp <;> omega)) _ | with_reducible refine Below.setCell ?_ (by first | omega | (simp <;> omega)) _ | with_reducible exact Below.refl _ _)), by first | omega | (simp <;> omega)⟩
      case rest =>
        clear q0 q1 q2 q3 q4 q5 q6 q7 q8 q9 q10 q11 q12 q13 q14 q15 q16 q17 q18 q19 q20 hf1 hf2 hbx hzx yy0 yy1 yy2 yy3 HL2
        obtain ⟨q0, q1, q2, q3, q4, q5, q6, q7, q8, q9, q10, q11, q12, q13, q14, q15, q16, q17, q18, q19, q20, hf1, hf2, hbx, hzx⟩ := hcut
        have yy0 : w.heap.size < wc.heap.size := by omega
        have yy1 : w.heap.size + 1 < wc.heap.size := by omega
        have yy2 : w.heap.size + 1 + 1 < wc.heap.size := by omega
        have yy3 : w.heap.size + 1 + 1 + 1 < wc.heap.size := by omega
        go_upto_region 12 with fail
        go_cut [8] (fun s8 wx => s8 = .bool OF ∧ wx = wc)
        case first =>
          cases L2
          · cases r0
            · go_wp2
              go_meet
              exact ⟨by rw [HOF.out]; simp, rfl⟩
            · go_wp2
              go_meet
              exact ⟨by rw [HOF.out]; simp, rfl⟩
          · go_wp2
            go_meet
            exact ⟨by rw [HOF.out]; simp, rfl⟩
        case rest =>
          obtain ⟨rfl, rfl⟩ := hcut
          go_upto_if 66 with fail
          go_cut [] (fun wx => wx.cell? ⟨w.heap.size, 0, none⟩ = some (.int .i64 c.every) ∧ wx.cell? ⟨w.heap.size, 1, none⟩ = some (.int .i64 c.length) ∧ wx.cell? ⟨w.heap.size, 2, none⟩ = some (.int .i64 c.apart) ∧ wx.cell? ⟨w.heap.size + 1, 0, none⟩ = some (.int .i64 T) ∧ wx.cell? ⟨w.heap.size + 1, 1, none⟩ = some (.int .i64 AP) ∧ wx.cell? ⟨w.heap.size + 1, 2, none⟩ = some (.int .i64 n0) ∧ wx.cell? ⟨w.heap.size + 1, 3, none⟩ = some (.int .i64 n1) ∧ wx.cell? ⟨w.heap.size + 1, 4, none⟩ = some (.bool d0) ∧ wx.cell? ⟨w.heap.size + 1, 5, none⟩ = some (.bool d1) ∧ wx.cell? ⟨w.heap.size + 1, 6, none⟩ = some (.bool L2) ∧ wx.cell? ⟨w.heap.size + 1 + 1, 0, none⟩ = some (.bool r0) ∧ wx.cell? ⟨w.heap.size + 1 + 1, 1, none⟩ = some (.bool r1) ∧ wx.cell? ⟨w.heap.size + 1 + 1, 2, none⟩ = some (.bool k0) ∧ wx.cell? ⟨w.heap.size + 1 + 1, 3, none⟩ = some (.bool k1) ∧ wx.cell? ⟨w.heap.size + 1 + 1 + 1, 0, none⟩ = some (.int .i64 0) ∧ wx.cell? ⟨w.heap.size + 1 + 1 + 1, 1, none⟩ = some (.int .i64 0) ∧ wx.cell? ⟨w.heap.size + 1 + 1 + 1, 2, none⟩ = some (.int .i64 0) ∧ wx.cell? ⟨w.heap.size + 1 + 1 + 1, 3, none⟩ = some (.int .i64 0) ∧ wx.cell? ⟨w.heap.size + 1 + 1 + 1, 4, none⟩ = some (.bool false) ∧ wx.cell? ⟨w.heap.size + 1 + 1 + 1, 5, none⟩ = some (.bool false) ∧ wx.cell? ⟨w.heap.size + 1 + 1 + 1, 6, none⟩ = some (.bool false) ∧ (∀ o, wx.frozen? ⟨w.heap.size + 1, o, none⟩ = false) ∧ (∀ o, wx.frozen? ⟨w.heap.size + 1 + 1 + 1, o, none⟩ = false) ∧ Below w.heap.size w wx ∧ w.heap.size + 4 ≤ wx.heap.size)
          case first =>
            cases OF
            · go_wp2
              go_meet
              exact ⟨by go_simp, by go_simp, by go_simp, by (go_simp; rw [HT.out]; simp), by go_simp, by go_simp, by go_simp, by go_simp, by go_simp, by go_simp, by go_simp, by go_simp, by go_simp, by go_simp, by go_simp, by go_simp, by go_simp, by go_simp, by go_simp, by go_simp, by go_simp, fun o => by go_simp, fun o => by go_simp, by exact (by repeat (first | with_reducible assumption | with_reducible refine Below.drew ?_ | with_reducible refine below_drewN ?_ _ | with_reducible refine Below.alloc ?_ (by first | omega | (simp <;> omega)) _ | with_reducible refine Below.setCell ?_ (by first | omega | (simp <;> omega)) _ | with_reducible exact Below.refl _ _)), by first | omega | (simp <;> omega)⟩
            · go_wp2
              go_meet
              exact ⟨by go_simp, by go_simp, by go_simp, by (go_simp; rw [HT.out]; simp), by go_simp, by go_simp, by go_simp, by go_simp, by go_simp, by go_simp, by go_simp, by go_simp, by go_simp, by go_simp, by go_simp, by go_simp, by go_simp, by go_simp, by go_simp, by go_simp, by go_simp, fun o => by go_simp, fun o => by go_simp, by exact (by repeat (first | with_reducible assumption | with_reducible refine Below.drew ?_ | with_reducible refine below_drewN ?_ _ | with_reducible refine Below.alloc ?_ (by first | omega | (simp <;> omega)) _ | with_reducible refine Below.setCell ?_ (by first | omega | (simp <;> omega)) _ | with_reducible exact Below.refl _ _)), by first | omega | (simp <;> omega)⟩
          case rest =>
            clear q0 q1 q2 q3 q4 q5 q6 q7 q8 q9 q10 q11 q12 q13 q14 q15 q16 q17 q18 q19 q20 hf1 hf2 hbx hzx yy0 yy1 yy2 yy3 HT HOF
            obtain ⟨q0, q1, q2, q3, q4, q5, q6, q7, q8, q9, q10, q11, q12, q13, q14, q15, q16, q17, q18, q19, q20, hf1, hf2, hbx, hzx⟩ := hcut
            have yy0 : w.heap.size < wc.heap.size := by omega
            have yy1 : w.heap.size + 1 < wc.heap.size := by omega
            have yy2 : w.heap.size + 1 + 1 < wc.heap.size := by omega
            have yy3 : w.heap.size + 1 + 1 + 1 < wc.heap.size := by omega
            cases OF
            · cases B0 <;> cases B1
              · go_wp2
                refine wp_loop_rounds 3 ?_
                rw [rounds_succ]
                go_wp2_with (go_at_call 31; first | (with_reducible refine (HC0.out _).mono ?_; rintro e w9 ⟨rfl, rfl⟩) | (with_reducible refine (HC1.out _).mono ?_; rintro e w9 ⟨rfl, rfl⟩))
                rw [rounds_succ]
                go_wp2_with (go_at_call 31; first | (with_reducible refine (HC0.out _).mono ?_; rintro e w9 ⟨rfl, rfl⟩) | (with_reducible refine (HC1.out _).mono ?_; rintro e w9 ⟨rfl, rfl⟩))
                rw [rounds_succ]
                go_wp2
                refine bodyPost_ret (v := .agg #[.int .i64 (T), .int .i64 (AP), .int .i64 (0), .int .i64 (0), .bool true, .bool true, .bool L2]) (by simp only [results, Try.results18]; go_simp) rfl ⟨by simp, by exact (by repeat (first | with_reducible assumption | with_reducible refine Below.drew ?_ | with_reducible refine below_drewN ?_ _ | with_reducible refine Below.alloc ?_ (by first | omega | (simp <;> omega)) _ | with_reducible refine Below.setCell ?_ (by first | omega | (simp <;> omega)) _ | with_reducible exact Below.refl _ _))⟩
              · go_wp2
                refine wp_loop_rounds 3 ?_
                rw [rounds_succ]
                go_wp2_with (go_at_call 31; first | (with_reducible refine (HC0.out _).mono ?_; rintro e w9 ⟨rfl, rfl⟩) | (with_reducible refine (HC1.out _).mono ?_; rintro e w9 ⟨rfl, rfl⟩))
                rw [rounds_succ]
                go_wp2_with (go_at_call 31; first | (with_reducible refine (HC0.out _).mono ?_; rintro e w9 ⟨rfl, rfl⟩) | (with_reducible refine (HC1.out _).mono ?_; rintro e w9 ⟨rfl, rfl⟩))
                refine region_quiet_tail 12 (by kernel_rfl) (by kernel_rfl) ?_
                simp only [List.take_succ_cons, List.take_zero, List.drop_succ_cons, List.drop_zero]
                repeat (first | go_big_quiet_skip | (go_big_quiet_want; go_big_quiet_op; go_big_quiet_on))
                refine wpQuiet_nil ?_
                rw [← HM1.out]
                clear HM1
                go_wp2
                rw [rounds_succ]
                go_wp2
                refine bodyPost_ret (v := .agg #[.int .i64 (T), .int .i64 (AP), .int .i64 (0), .int .i64 (M1), .bool true, .bool false, .bool L2]) (by simp only [results, Try.results18]; go_simp) rfl ⟨by simp, by exact (by repeat (first | with_reducible assumption | with_reducible refine Below.drew ?_ | with_reducible refine below_drewN ?_ _ | with_reducible refine Below.alloc ?_ (by first | omega | (simp <;> omega)) _ | with_reducible refine Below.setCell ?_ (by first | omega | (simp <;> omega)) _ | with_reducible exact Below.refl _ _))⟩
              · go_wp2
                refine wp_loop_rounds 3 ?_
                rw [rounds_succ]
                go_wp2_with (go_at_call 31; first | (with_reducible refine (HC0.out _).mono ?_; rintro e w9 ⟨rfl, rfl⟩) | (with_reducible refine (HC1.out _).mono ?_; rintro e w9 ⟨rfl, rfl⟩))
                refine region_quiet_tail 12 (by kernel_rfl) (by kernel_rfl) ?_
                simp only [List.take_succ_cons, List.take_zero, List.drop_succ_cons, List.drop_zero]
                repeat (first | go_big_quiet_skip | (go_big_quiet_want; go_big_quiet_op; go_big_quiet_on))
                refine wpQuiet_nil ?_
                rw [← HM0.out]
                clear HM0
                go_wp2
                rw [rounds_succ]
                go_wp2_with (go_at_call 31; first | (with_reducible refine (HC0.out _).mono ?_; rintro e w9 ⟨rfl, rfl⟩) | (with_reducible refine (HC1.out _).mono ?_; rintro e w9 ⟨rfl, rfl⟩))
                rw [rounds_succ]
                go_wp2
                refine bodyPost_ret (v := .agg #[.int .i64 (T), .int .i64 (AP), .int .i64 (M0), .int .i64 (0), .bool false, .bool true, .bool L2]) (by simp only [results, Try.results18]; go_simp) rfl ⟨by simp, by exact (by repeat (first | with_reducible assumption | with_reducible refine Below.drew ?_ | with_reducible refine below_drewN ?_ _ | with_reducible refine Below.alloc ?_ (by first | omega | (simp <;> omega)) _ | with_reducible refine Below.setCell ?_ (by first | omega | (simp <;> omega)) _ | with_reducible exact Below.refl _ _))⟩
              · go_wp2
                refine wp_loop_rounds 3 ?_
                rw [rounds_succ]
                go_wp2_with (go_at_call 31; first | (with_reducible refine (HC0.out _).mono ?_; rintro e w9 ⟨rfl, rfl⟩) | (with_reducible refine (HC1.out _).mono ?_; rintro e w9 ⟨rfl, rfl⟩))
                refine region_quiet_tail 12 (by kernel_rfl) (by kernel_rfl) ?_
                simp only [List.take_succ_cons, List.take_zero, List.drop_succ_cons, List.drop_zero]
                repeat (first | go_big_quiet_skip | (go_big_quiet_want; go_big_quiet_op; go_big_quiet_on))
                refine wpQuiet_nil ?_
                rw [← HM0.out]
                clear HM0
                go_wp2
                rw [rounds_succ]
                go_wp2_with (go_at_call 31; first | (with_reducible refine (HC0.out _).mono ?_; rintro e w9 ⟨rfl, rfl⟩) | (with_reducible refine (HC1.out _).mono ?_; rintro e w9 ⟨rfl, rfl⟩))
                refine region_quiet_tail 12 (by kernel_rfl) (by kernel_rfl) ?_
                simp only [List.take_succ_cons, List.take_zero, List.drop_succ_cons, List.drop_zero]
                repeat (first | go_big_quiet_skip | (go_big_quiet_want; go_big_quiet_op; go_big_quiet_on))
                refine wpQuiet_nil ?_
                rw [← HM1.out]
                clear HM1
                go_wp2
                rw [rounds_succ]
                go_wp2
                refine bodyPost_ret (v := .agg #[.int .i64 (T), .int .i64 (AP), .int .i64 (M0), .int .i64 (M1), .bool false, .bool false, .bool L2]) (by simp only [results, Try.results18]; go_simp) rfl ⟨by simp, by exact (by repeat (first | with_reducible assumption | with_reducible refine Below.drew ?_ | with_reducible refine below_drewN ?_ _ | with_reducible refine Below.alloc ?_ (by first | omega | (simp <;> omega)) _ | with_reducible refine Below.setCell ?_ (by first | omega | (simp <;> omega)) _ | with_reducible exact Below.refl _ _))⟩
            · go_wp2
              refine wp_loop_rounds 3 ?_
              rw [rounds_succ]
              go_wp2_with (go_at_call 31; first | (with_reducible refine (HC0.out _).mono ?_; rintro e w9 ⟨rfl, rfl⟩) | (with_reducible refine (HC1.out _).mono ?_; rintro e w9 ⟨rfl, rfl⟩))
              refine region_quiet_tail 12 (by kernel_rfl) (by kernel_rfl) ?_
              simp only [List.take_succ_cons, List.take_zero, List.drop_succ_cons, List.drop_zero]
              repeat (first | go_big_quiet_skip | (go_big_quiet_want; go_big_quiet_op; go_big_quiet_on))
              refine wpQuiet_nil ?_
              rw [← HM0.out]
              clear HM0
              go_wp2
              rw [rounds_succ]
              go_wp2_with (go_at_call 31; first | (with_reducible refine (HC0.out _).mono ?_; rintro e w9 ⟨rfl, rfl⟩) | (with_reducible refine (HC1.out _).mono ?_; rintro e w9 ⟨rfl, rfl⟩))
              refine region_quiet_tail 12 (by kernel_rfl) (by kernel_rfl) ?_
              simp only [List.take_succ_cons, List.take_zero, List.drop_succ_cons, List.drop_zero]
              repeat (first | go_big_quiet_skip | (go_big_quiet_want; go_big_quiet_op; go_big_quiet_on))
              refine wpQuiet_nil ?_
              rw [← HM1.out]
              clear HM1
              go_wp2
              rw [rounds_succ]
              go_wp2
              refine bodyPost_ret (v := .agg #[.int .i64 (T), .int .i64 (AP), .int .i64 (M0), .int .i64 (M1), .bool false, .bool false, .bool L2]) (by simp only [results, Try.results18]; go_simp) rfl ⟨by simp, by exact (by repeat (first | with_reducible assumption | with_reducible refine Below.drew ?_ | with_reducible refine below_drewN ?_ _ | with_reducible refine Below.alloc ?_ (by first | omega | (simp <;> omega)) _ | with_reducible refine Below.setCell ?_ (by first | omega | (simp <;> omega)) _ | with_reducible exact Below.refl _ _))⟩

theorem rstep_ok (c : Cf) (h : c.Rng) (s : St) (r0 r1 k0 k1 : Bool) (w : World) :
    Calls Try.prog 18 #[.agg #[.int .i64 c.every, .int .i64 c.length, .int .i64 c.apart], .agg #[.int .i64 s.time, .int .i64 s.apartFor, .int .i64 s.for0, .int .i64 s.for1, .bool s.d0, .bool s.d1, .bool s.latched], .agg #[.bool r0, .bool r1, .bool k0, .bool k1]] w
      fun e w' => e = .returned (.agg #[.int .i64 (OM.step c s r0 r1 k0 k1).time, .int .i64 (OM.step c s r0 r1 k0 k1).apartFor, .int .i64 (OM.step c s r0 r1 k0 k1).for0, .int .i64 (OM.step c s r0 r1 k0 k1).for1,
        .bool (OM.step c s r0 r1 k0 k1).d0, .bool (OM.step c s r0 r1 k0 k1).d1, .bool (OM.step c s r0 r1 k0 k1).latched]) ∧ Below w.heap.size w w' := by
  have hr := h
  obtain ⟨⟨h1, h2⟩, ⟨h3, h4⟩, ⟨h5, h6⟩⟩ := hr
  have eAP : rap c (clipI s.apartFor 0 (c.apart + 1)) r0 r1 = apartN c s r0 r1 := by
    unfold rap apartN counted clipI
    by_cases hr : (r0 != r1) = true
    · simp only [hr, if_true]
      split <;> omega
    · simp only [hr, Bool.false_eq_true, if_false]
  have eL1 : (s.latched || (decide (c.length ≤ clipI s.for0 0 (c.length + 1)) && k0) || (decide (c.length ≤ clipI s.for1 0 (c.length + 1)) && k1)) = (s.latched || (decide (c.length ≤ s.for0) && k0) || (decide (c.length ≤ s.for1) && k1)) := by
    have e0 : decide (c.length ≤ clipI s.for0 0 (c.length + 1)) = decide (c.length ≤ s.for0) := by rw [decide_eq_decide]; unfold clipI; omega
    have e1 : decide (c.length ≤ clipI s.for1 0 (c.length + 1)) = decide (c.length ≤ s.for1) := by rw [decide_eq_decide]; unfold clipI; omega
    rw [e0, e1]
  have eL2 : ((s.latched || (decide (c.length ≤ s.for0) && k0) || (decide (c.length ≤ s.for1) && k1)) || decide (apartN c s r0 r1 = c.apart + 1)) = latchN c s r0 r1 k0 k1 := by
    have b := counted_bd (n := s.apartFor) (is := (r0 != r1)) (show 0 ≤ c.apart + 1 by omega)
    have e : decide (apartN c s r0 r1 = c.apart + 1) = decide (c.apart < apartN c s r0 r1) := by rw [decide_eq_decide]; unfold apartN; omega
    rw [e]
    rfl
  have eT : (norm c s.time + 1) % c.every = next c s.time := by
    have b := norm_bd h s.time
    unfold next
    rw [Int.tmod_eq_emod_of_nonneg (by omega)]
  have key := rstep_core c h s.time s.apartFor s.for0 s.for1 s.d0 s.d1 s.latched r0 r1 k0 k1 _ _ _ (latchN c s r0 r1 k0 k1) (offN c s r0 r1 k0 k1) _ _ _ _ _ _ (apartN c s r0 r1) (timeN c s r0 r1 k0 k1) w
    (hide rfl) (hide rfl) (hide rfl) (hide rfl) (hide rfl) (hide rfl) (hide rfl) (hide rfl) (hide eAP.symm) (hide (by rw [eL1]; exact eL2.symm)) (hide rfl) (hide (by rw [eT]; rfl)) (hide rfl)
  refine key.mono ?_
  rintro e w' ⟨rfl, hb⟩
  refine ⟨?_, hb⟩
  have f : ∀ (n : Int) (OF B : Bool), (if OF || B then (if c.length < clipI n 0 (c.length + 1) then c.length + 1 else clipI n 0 (c.length + 1) + 1) else 0) = counted n (!(!OF && !B)) (c.length + 1) := by
    intro n OF B
    unfold counted clipI
    cases OF <;> cases B
    · rfl
    all_goals
      simp only [Bool.or_true, Bool.or_false, Bool.not_true, Bool.not_false, Bool.and_true, Bool.and_false, if_true]
      split <;> omega
  rw [f, f]
  rfl

end Go.Proofs.Ytgbbhkefkpndeaa
