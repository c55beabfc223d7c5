/- Parts where the period or a leg is refused. -/
import Derived.Test.YtjeomdfcfbfebaaPatD
namespace Go.Proofs.Ytjeomdfcfbfebaa
open Go.RowKit PM

set_option maxHeartbeats 4000000 in
theorem parts_per (p : Pt) (per : Int) (hper : ¬ okPer per) (w : World) :
    Calls Try.prog 34 #[.agg #[.int .i64 p.l0.a, .int .i64 p.l0.b, .int .i64 p.l1.a, .int .i64 p.l1.b, .int .i64 p.l2.a, .int .i64 p.l2.b], .int .i64 per] w fun e w' => e = .returned (.tuple #[.slice none 0 0, .iface 96 (.int .i64 3)]) ∧ Below w.heap.size w w' := by
  have HP := hide (isPeriod_no per hper)
  clear hper
  go_enter Try.func34, Try.ntmps34
  go_wp2_with (go_at_call 69; refine (HP.out _).mono ?_; rintro e w8 ⟨rfl, rfl⟩)
  refine bodyPost_ret (results_tmp2 rfl _ _ _) rfl ?_
  exact ⟨rfl, (Below.refl _ _).alloc (Nat.le_refl _) _⟩

set_option maxHeartbeats 8000000 in
set_option maxRecDepth 100000 in
theorem parts_bad0 (p : Pt) (per : Int) (hper : okPer per) (h0 : ¬ p.l0.In per) (w : World) :
    Calls Try.prog 34 #[.agg #[.int .i64 p.l0.a, .int .i64 p.l0.b, .int .i64 p.l1.a, .int .i64 p.l1.b, .int .i64 p.l2.a, .int .i64 p.l2.b], .int .i64 per] w fun e w' => e = .returned (.tuple #[.slice none 0 0, .iface 96 (.int .i64 11)]) ∧ Below w.heap.size w w' := by
  have HP := hide (isPeriod_yes per hper)
  have HS0 := hide (shape_err p.l0 per h0)
  obtain ⟨i0, hi, hz0, hz1, hz2⟩ := info_parts info_int
  have hc0 : (c0 per).length = 2 := rfl
  clear hper h0
  go_enter Try.func34, Try.ntmps34
  go_upto_region 3 with (go_at_call 69; refine (HP.out _).mono ?_; rintro e w8 ⟨rfl, rfl⟩)
  go_cut [6] (fun s6 wx => Gath w (w.alloc (.cells #[.int .i64 p.l0.a, .int .i64 p.l0.b, .int .i64 p.l1.a, .int .i64 p.l1.b, .int .i64 p.l2.a, .int .i64 p.l2.b] 39)) wx s6 (c0 per))
  case first =>
    go_wp2
    go_meet
    exact ⟨by simpa [c0] using World.ownsRow_lit (base := w.heap.size + 1) (e := 3) (size := 1) (w.alloc (.cells #[.int .i64 p.l0.a, .int .i64 p.l0.b, .int .i64 p.l1.a, .int .i64 p.l1.b, .int .i64 p.l2.a, .int .i64 p.l2.b] 39)) #[.int .i64 0, .int .i64 per] 2 (by simp) (by unfold maxLen; omega) rfl, (Below.refl _ _).alloc (by simp) _, by simp⟩
  case rest =>
  have hG := hcut
  clear hcut
  have hW := hG.2.2
  have cx0 := fun o => hG.2.1.cell (p := ⟨w.heap.size, o, none⟩) (by simp)
  have hyw : w.heap.size < wc.heap.size := by omega
  go_wp2
  refine wp_loop_rounds 4 ?_
  have hBG := hG.2.1
  rw [rounds_succ]
  go_wp2_with (go_at_call 70; refine (HS0.out _).mono ?_; rintro e w8 ⟨rfl, rfl⟩)
  refine bodyPost_ret (results_tmp2 rfl _ _ _) rfl ?_
  have hBw : Below w.heap.size w (w.alloc (.cells #[.int .i64 p.l0.a, .int .i64 p.l0.b, .int .i64 p.l1.a, .int .i64 p.l1.b, .int .i64 p.l2.a, .int .i64 p.l2.b] 39)) := (Below.refl _ _).alloc (Nat.le_refl _) _
  have hBx : Below w.heap.size w wc := hBw.trans (hBG.mono (by omega))
  exact ⟨rfl, by exact (by repeat (first | with_reducible assumption | with_reducible refine Below.drew ?_ | with_reducible refine below_drewN ?_ _ | with_reducible refine Below.alloc ?_ (by first | omega | (simp <;> omega)) _ | with_reducible refine Below.setCell ?_ (by first | omega | (simp <;> omega)) _ | with_reducible exact Below.refl _ _))⟩

set_option maxHeartbeats 8000000 in
set_option maxRecDepth 100000 in
theorem parts_bad1 (p : Pt) (per : Int) (hper : okPer per) (h0 : p.l0.In per) (h1 : ¬ p.l1.In per) (w : World) :
    Calls Try.prog 34 #[.agg #[.int .i64 p.l0.a, .int .i64 p.l0.b, .int .i64 p.l1.a, .int .i64 p.l1.b, .int .i64 p.l2.a, .int .i64 p.l2.b], .int .i64 per] w fun e w' => e = .returned (.tuple #[.slice none 0 0, .iface 96 (.int .i64 11)]) ∧ Below w.heap.size w w' := by
  have HP := hide (isPeriod_yes per hper)
  have HS0 := hide (shape_ok p.l0 per h0)
  have HS1 := hide (shape_err p.l1 per h1)
  obtain ⟨i0, hi, hz0, hz1, hz2⟩ := info_parts info_int
  have hc0 : (c0 per).length = 2 := rfl
  clear hper h0 h1
  go_enter Try.func34, Try.ntmps34
  go_upto_region 3 with (go_at_call 69; refine (HP.out _).mono ?_; rintro e w8 ⟨rfl, rfl⟩)
  go_cut [6] (fun s6 wx => Gath w (w.alloc (.cells #[.int .i64 p.l0.a, .int .i64 p.l0.b, .int .i64 p.l1.a, .int .i64 p.l1.b, .int .i64 p.l2.a, .int .i64 p.l2.b] 39)) wx s6 (c0 per))
  case first =>
    go_wp2
    go_meet
    exact ⟨by simpa [c0] using World.ownsRow_lit (base := w.heap.size + 1) (e := 3) (size := 1) (w.alloc (.cells #[.int .i64 p.l0.a, .int .i64 p.l0.b, .int .i64 p.l1.a, .int .i64 p.l1.b, .int .i64 p.l2.a, .int .i64 p.l2.b] 39)) #[.int .i64 0, .int .i64 per] 2 (by simp) (by unfold maxLen; omega) rfl, (Below.refl _ _).alloc (by simp) _, by simp⟩
  case rest =>
  have hG := hcut
  clear hcut
  have hW := hG.2.2
  have cx0 := fun o => hG.2.1.cell (p := ⟨w.heap.size, o, none⟩) (by simp)
  have hyw : w.heap.size < wc.heap.size := by omega
  go_wp2
  refine wp_loop_rounds 4 ?_
  rw [rounds_succ]
  have hO := hG.1
  go_upto_block 1 with fail
  go_cut [6] (fun s6 wx => Gath w (w.alloc (.cells #[.int .i64 p.l0.a, .int .i64 p.l0.b, .int .i64 p.l1.a, .int .i64 p.l1.b, .int .i64 p.l2.a, .int .i64 p.l2.b] 39)) wx s6 (cAdd (c0 per) p.l0))
  case first =>
    by_cases hlt : p.l0.a < p.l0.b
    · have hlt' := hide hlt
      go_wp2_with (first | (go_at_call 70; refine (HS0.out _).mono ?_; rintro e w8 ⟨rfl, rfl⟩) | (at_builtin; refine wpList_append_own _ ?_ (.tmp 37) (.tmp 42) 62 ?_ (w.heap.size + 1) 3 i0 (.int .i64 0) 1 8 Try.underlying62 hi hz0 hz1 hz2 rfl (by decide) u6 ((c0 per)).length (((c0 per)).map (Value.int .i64)) ?_ ?_ ⟨wc.heap.size + 1 + 1, 0, none⟩ 2 2 [.int .i64 p.l0.a, .int .i64 p.l0.b] ?_ ?_ ?_ ?_ ?_ ?_ ?_ ?_; rfl; rfl; rfl; (exact (((hO.alloc _).alloc _).alloc _)); rfl; rfl; (exact two_cells _ _ _ _ _ (by simp)); (exact two_one _ _); (unfold maxLen; omega); omega; (simp; omega); intro v' w9 hown' hgrow hnil'))
      go_wp2
      go_meet
      rw [cAdd_yes (by have := hlt'.out; omega)]
      exact gath_more hG (gb_none3 _ _ _ _) hgrow hown'
    · have hlt' := hide hlt
      go_wp2_with (go_at_call 70; refine (HS0.out _).mono ?_; rintro e w8 ⟨rfl, rfl⟩)
      go_meet
      rw [cAdd_no (by have := hlt'.out; omega)]
      exact gath_same hG (gb_none2 _ _ _)
  case rest =>
  have hln0 := cAdd_len (c0 per) p.l0
  clear hG hO
  have hG := hcut
  clear hcut
  have hW := hG.2.2
  go_wp2
  have hBG := hG.2.1
  rw [rounds_succ]
  go_wp2_with (go_at_call 70; refine (HS1.out _).mono ?_; rintro e w8 ⟨rfl, rfl⟩)
  refine bodyPost_ret (results_tmp2 rfl _ _ _) rfl ?_
  have hBw : Below w.heap.size w (w.alloc (.cells #[.int .i64 p.l0.a, .int .i64 p.l0.b, .int .i64 p.l1.a, .int .i64 p.l1.b, .int .i64 p.l2.a, .int .i64 p.l2.b] 39)) := (Below.refl _ _).alloc (Nat.le_refl _) _
  have hBx : Below w.heap.size w wc := hBw.trans (hBG.mono (by omega))
  exact ⟨rfl, by exact (by repeat (first | with_reducible assumption | with_reducible refine Below.drew ?_ | with_reducible refine below_drewN ?_ _ | with_reducible refine Below.alloc ?_ (by first | omega | (simp <;> omega)) _ | with_reducible refine Below.setCell ?_ (by first | omega | (simp <;> omega)) _ | with_reducible exact Below.refl _ _))⟩

set_option maxHeartbeats 8000000 in
set_option maxRecDepth 100000 in
theorem parts_bad2 (p : Pt) (per : Int) (hper : okPer per) (h0 : p.l0.In per) (h1 : p.l1.In per) (h2 : ¬ p.l2.In per) (w : World) :
    Calls Try.prog 34 #[.agg #[.int .i64 p.l0.a, .int .i64 p.l0.b, .int .i64 p.l1.a, .int .i64 p.l1.b, .int .i64 p.l2.a, .int .i64 p.l2.b], .int .i64 per] w fun e w' => e = .returned (.tuple #[.slice none 0 0, .iface 96 (.int .i64 11)]) ∧ Below w.heap.size w w' := by
  have HP := hide (isPeriod_yes per hper)
  have HS0 := hide (shape_ok p.l0 per h0)
  have HS1 := hide (shape_ok p.l1 per h1)
  have HS2 := hide (shape_err p.l2 per h2)
  obtain ⟨i0, hi, hz0, hz1, hz2⟩ := info_parts info_int
  have hc0 : (c0 per).length = 2 := rfl
  clear hper h0 h1 h2
  go_enter Try.func34, Try.ntmps34
  go_upto_region 3 with (go_at_call 69; refine (HP.out _).mono ?_; rintro e w8 ⟨rfl, rfl⟩)
  go_cut [6] (fun s6 wx => Gath w (w.alloc (.cells #[.int .i64 p.l0.a, .int .i64 p.l0.b, .int .i64 p.l1.a, .int .i64 p.l1.b, .int .i64 p.l2.a, .int .i64 p.l2.b] 39)) wx s6 (c0 per))
  case first =>
    go_wp2
    go_meet
    exact ⟨by simpa [c0] using World.ownsRow_lit (base := w.heap.size + 1) (e := 3) (size := 1) (w.alloc (.cells #[.int .i64 p.l0.a, .int .i64 p.l0.b, .int .i64 p.l1.a, .int .i64 p.l1.b, .int .i64 p.l2.a, .int .i64 p.l2.b] 39)) #[.int .i64 0, .int .i64 per] 2 (by simp) (by unfold maxLen; omega) rfl, (Below.refl _ _).alloc (by simp) _, by simp⟩
  case rest =>
  have hG := hcut
  clear hcut
  have hW := hG.2.2
  have cx0 := fun o => hG.2.1.cell (p := ⟨w.heap.size, o, none⟩) (by simp)
  have hyw : w.heap.size < wc.heap.size := by omega
  go_wp2
  refine wp_loop_rounds 4 ?_
  rw [rounds_succ]
  have hO := hG.1
  go_upto_block 1 with fail
  go_cut [6] (fun s6 wx => Gath w (w.alloc (.cells #[.int .i64 p.l0.a, .int .i64 p.l0.b, .int .i64 p.l1.a, .int .i64 p.l1.b, .int .i64 p.l2.a, .int .i64 p.l2.b] 39)) wx s6 (cAdd (c0 per) p.l0))
  case first =>
    by_cases hlt : p.l0.a < p.l0.b
    · have hlt' := hide hlt
      go_wp2_with (first | (go_at_call 70; refine (HS0.out _).mono ?_; rintro e w8 ⟨rfl, rfl⟩) | (at_builtin; refine wpList_append_own _ ?_ (.tmp 37) (.tmp 42) 62 ?_ (w.heap.size + 1) 3 i0 (.int .i64 0) 1 8 Try.underlying62 hi hz0 hz1 hz2 rfl (by decide) u6 ((c0 per)).length (((c0 per)).map (Value.int .i64)) ?_ ?_ ⟨wc.heap.size + 1 + 1, 0, none⟩ 2 2 [.int .i64 p.l0.a, .int .i64 p.l0.b] ?_ ?_ ?_ ?_ ?_ ?_ ?_ ?_; rfl; rfl; rfl; (exact (((hO.alloc _).alloc _).alloc _)); rfl; rfl; (exact two_cells _ _ _ _ _ (by simp)); (exact two_one _ _); (unfold maxLen; omega); omega; (simp; omega); intro v' w9 hown' hgrow hnil'))
      go_wp2
      go_meet
      rw [cAdd_yes (by have := hlt'.out; omega)]
      exact gath_more hG (gb_none3 _ _ _ _) hgrow hown'
    · have hlt' := hide hlt
      go_wp2_with (go_at_call 70; refine (HS0.out _).mono ?_; rintro e w8 ⟨rfl, rfl⟩)
      go_meet
      rw [cAdd_no (by have := hlt'.out; omega)]
      exact gath_same hG (gb_none2 _ _ _)
  case rest =>
  have hln0 := cAdd_len (c0 per) p.l0
  clear hG hO
  have hG := hcut
  clear hcut
  have hW := hG.2.2
  go_wp2
  rw [rounds_succ]
  have hO := hG.1
  go_upto_block 1 with fail
  go_cut [6] (fun s6 wx => Gath w (w.alloc (.cells #[.int .i64 p.l0.a, .int .i64 p.l0.b, .int .i64 p.l1.a, .int .i64 p.l1.b, .int .i64 p.l2.a, .int .i64 p.l2.b] 39)) wx s6 (cAdd (cAdd (c0 per) p.l0) p.l1))
  case first =>
    by_cases hlt : p.l1.a < p.l1.b
    · have hlt' := hide hlt
      go_wp2_with (first | (go_at_call 70; refine (HS1.out _).mono ?_; rintro e w8 ⟨rfl, rfl⟩) | (at_builtin; refine wpList_append_own _ ?_ (.tmp 37) (.tmp 42) 62 ?_ (w.heap.size + 1) 3 i0 (.int .i64 0) 1 8 Try.underlying62 hi hz0 hz1 hz2 rfl (by decide) u6 ((cAdd (c0 per) p.l0)).length (((cAdd (c0 per) p.l0)).map (Value.int .i64)) ?_ ?_ ⟨wc.heap.size + 1 + 1, 0, none⟩ 2 2 [.int .i64 p.l1.a, .int .i64 p.l1.b] ?_ ?_ ?_ ?_ ?_ ?_ ?_ ?_; rfl; rfl; rfl; (exact (((hO.alloc _).alloc _).alloc _)); rfl; rfl; (exact two_cells _ _ _ _ _ (by simp)); (exact two_one _ _); (unfold maxLen; omega); omega; (simp; omega); intro v' w9 hown' hgrow hnil'))
      go_wp2
      go_meet
      rw [cAdd_yes (by have := hlt'.out; omega)]
      exact gath_more hG (gb_none3 _ _ _ _) hgrow hown'
    · have hlt' := hide hlt
      go_wp2_with (go_at_call 70; refine (HS1.out _).mono ?_; rintro e w8 ⟨rfl, rfl⟩)
      go_meet
      rw [cAdd_no (by have := hlt'.out; omega)]
      exact gath_same hG (gb_none2 _ _ _)
  case rest =>
  have hln1 := cAdd_len (cAdd (c0 per) p.l0) p.l1
  clear hG hO
  have hG := hcut
  clear hcut
  have hW := hG.2.2
  go_wp2
  have hBG := hG.2.1
  rw [rounds_succ]
  go_wp2_with (go_at_call 70; refine (HS2.out _).mono ?_; rintro e w8 ⟨rfl, rfl⟩)
  refine bodyPost_ret (results_tmp2 rfl _ _ _) rfl ?_
  have hBw : Below w.heap.size w (w.alloc (.cells #[.int .i64 p.l0.a, .int .i64 p.l0.b, .int .i64 p.l1.a, .int .i64 p.l1.b, .int .i64 p.l2.a, .int .i64 p.l2.b] 39)) := (Below.refl _ _).alloc (Nat.le_refl _) _
  have hBx : Below w.heap.size w wc := hBw.trans (hBG.mono (by omega))
  exact ⟨rfl, by exact (by repeat (first | with_reducible assumption | with_reducible refine Below.drew ?_ | with_reducible refine below_drewN ?_ _ | with_reducible refine Below.alloc ?_ (by first | omega | (simp <;> omega)) _ | with_reducible refine Below.setCell ?_ (by first | omega | (simp <;> omega)) _ | with_reducible exact Below.refl _ _))⟩

theorem parts_shape (p : Pt) (per : Int) (hper : okPer per) (h : ¬ p.In per) (w : World) :
    Calls Try.prog 34 #[.agg #[.int .i64 p.l0.a, .int .i64 p.l0.b, .int .i64 p.l1.a, .int .i64 p.l1.b, .int .i64 p.l2.a, .int .i64 p.l2.b], .int .i64 per] w fun e w' => e = .returned (.tuple #[.slice none 0 0, .iface 96 (.int .i64 11)]) ∧ Below w.heap.size w w' := by
  by_cases h0 : p.l0.In per
  · by_cases h1 : p.l1.In per
    · by_cases h2 : p.l2.In per
      · exact absurd ⟨h0, h1, h2⟩ h
      · exact parts_bad2 p per hper h0 h1 h2 w
    · exact parts_bad1 p per hper h0 h1 w
  · exact parts_bad0 p per hper h0 w
end Go.Proofs.Ytjeomdfcfbfebaa
