/- The example that opens the laws of the shunt, and equality of plans. No condition. -/
import Derived.Test.YtjeomdfcfbfebaaShD
namespace Go.Proofs.Ytjeomdfcfbfebaa
open Go.RowKit PM

theorem info_int2 : (Try.prog.info? 3).map (fun i => (i.size)) = some 1 := by kernel_rfl
theorem cells_int2 : Try.prog.cellsOf 3 = 1 := by kernel_rfl
@[go_sem] theorem eqI2s (a b c d : Int) (w : World) : (Op.equalIn 9999 44 (.agg #[.int .i64 a, .int .i64 b]) (.agg #[.int .i64 c, .int .i64 d])).run Try.prog w = .ok (a == c && b == d) w := by
  obtain ⟨i, hi⟩ : ∃ i, Try.prog.info? 3 = some i := by
    cases h : Try.prog.info? 3 with
    | none => have := info_int2; rw [h] at this; simp at this
    | some i => exact ⟨i, rfl⟩
  rw [show (9999 : Nat) = 9998 + 1 from rfl, run_equalIn_array w 9998 _ _ Try.underlying44 hi]
  rw [cells_int2, show List.range 2 = [0, 1] from rfl]
  simp only [Op.eqItems]
  go_simp
  by_cases h1 : a = c <;> by_cases h2 : b = d <;> simp [h1, h2]
@[go_sem] theorem eqI3s (a b c d e f : Int) (w : World) : (Op.equalIn 10000 26 (.agg #[.int .i64 a, .int .i64 b, .int .i64 c]) (.agg #[.int .i64 d, .int .i64 e, .int .i64 f])).run Try.prog w = .ok (a == d && b == e && c == f) w := by
  obtain ⟨i, hi⟩ : ∃ i, Try.prog.info? 3 = some i := by
    cases h : Try.prog.info? 3 with
    | none => have := info_int2; rw [h] at this; simp at this
    | some i => exact ⟨i, rfl⟩
  rw [show (10000 : Nat) = 9999 + 1 from rfl, run_equalIn_array w 9999 _ _ Try.underlying26 hi]
  rw [cells_int2, show List.range 3 = [0, 1, 2] from rfl]
  simp only [Op.eqItems]
  go_simp
  by_cases h1 : a = d <;> by_cases h2 : b = e <;> by_cases h3 : c = f <;> simp [h1, h2, h3]

def sxP : Pt := ⟨⟨30, 70⟩, ⟨22, 72⟩, ⟨38, 76⟩⟩
def sxR : List Prt := [⟨76, 100, (false, false, false)⟩, ⟨72, 76, (false, false, true)⟩, ⟨70, 72, (false, true, true)⟩, ⟨38, 70, (true, true, true)⟩, ⟨30, 38, (true, true, false)⟩, ⟨22, 30, (false, true, false)⟩, ⟨0, 22, (false, false, false)⟩]
theorem sxSegs : Segs sxP.on 100 sxR := by
  refine ⟨rfl, by decide, by decide, on_of ?_, fun y hy => (by cases hy; decide), ?_⟩
  rotate_left
  refine ⟨rfl, by decide, by decide, on_of ?_, fun y hy => (by cases hy; decide), ?_⟩
  rotate_left
  refine ⟨rfl, by decide, by decide, on_of ?_, fun y hy => (by cases hy; decide), ?_⟩
  rotate_left
  refine ⟨rfl, by decide, by decide, on_of ?_, fun y hy => (by cases hy; decide), ?_⟩
  rotate_left
  refine ⟨rfl, by decide, by decide, on_of ?_, fun y hy => (by cases hy; decide), ?_⟩
  rotate_left
  refine ⟨rfl, by decide, by decide, on_of ?_, fun y hy => (by cases hy; decide), ?_⟩
  rotate_left
  refine ⟨rfl, by decide, by decide, on_of ?_, fun y hy => (by cases hy), rfl⟩
  all_goals
    intro t h1 h2
    simp only [] at h1 h2
    refine ⟨?_, ?_, ?_⟩
    all_goals first
      | exact on_t (by simp only [sxP]; omega)
      | exact on_f (by simp only [sxP]; omega)
theorem plan_sx (w : World) : Calls Try.prog 27 #[.agg #[.int .i64 30, .int .i64 70, .int .i64 22, .int .i64 72, .int .i64 38, .int .i64 76], .int .i64 100, .int .i64 5] w
    fun e w' => e = .returned (.tuple #[.agg #[.int .i64 29, .int .i64 37, .int .i64 1, .int .i64 2], .nilIface]) ∧ Below w.heap.size w w' :=
  plan_ok sxP 100 5 sxR (by decide) (by decide) (by decide) sxSegs w
theorem sample_sx (w : World) : Calls Try.prog 28 #[.agg #[.int .i64 30, .int .i64 70, .int .i64 22, .int .i64 72, .int .i64 38, .int .i64 76], .int .i64 100, .int .i64 37, .agg #[.int .i64 5, .int .i64 7, .int .i64 (-12)]] w
    fun e w' => e = .returned (.tuple #[.int .i64 12, .nilIface]) ∧ Below w.heap.size w w' :=
  sample_any sxP 100 37 5 7 (-12) w
theorem join_sx (w : World) : Calls Try.prog 29 #[.agg #[.int .i64 29, .int .i64 37, .int .i64 1, .int .i64 2], .agg #[.int .i64 7, .int .i64 12]] w
    fun e w' => e = .returned (.tuple #[.agg #[.int .i64 5, .int .i64 7, .int .i64 (-12)], .nilIface]) ∧ Below w.heap.size w w' :=
  join_any 29 37 1 2 7 12 w
theorem example_any (w : World) : Calls Try.prog 75 #[] w fun e w' => e = .returned (.agg #[.int .i64 30, .int .i64 70, .int .i64 22, .int .i64 72, .int .i64 38, .int .i64 76]) ∧ Below w.heap.size w w' := by
  go_enter Try.func75, Try.ntmps75
  go_wp2
  refine bodyPost_ret (v := .agg #[.int .i64 30, .int .i64 70, .int .i64 22, .int .i64 72, .int .i64 38, .int .i64 76]) (by simp only [results, Try.results75]; go_simp) rfl ⟨rfl, by exact (by repeat (first | with_reducible assumption | with_reducible refine Below.drew ?_ | with_reducible refine below_drewN ?_ _ | with_reducible refine Below.alloc ?_ (by first | omega | (simp <;> omega)) _ | with_reducible refine Below.setCell ?_ (by first | omega | (simp <;> omega)) _ | with_reducible exact Below.refl _ _))⟩
set_option maxHeartbeats 4000000 in
set_option maxRecDepth 100000 in
theorem awake25_any (w : World) : Calls Try.prog 39 #[] w fun e w' => e = .returned (.bool true) ∧ Below w.heap.size w w' := by
  go_enter Try.func39, Try.ntmps39
  go_wp2_with (first
    | (go_at_call 75; refine (example_any _).mono ?_; rintro e we ⟨rfl, hbe⟩; have ze := hbe.size; (try simp at ze); (try (have cex := bstep (b := w2.heap.size) hbe (by first | omega | (simp <;> omega)); have yex : w2.heap.size < we.heap.size := (by omega))); have He : Below w.heap.size w we := Below.trans (by repeat (first | with_reducible assumption | with_reducible refine Below.drew ?_ | with_reducible refine below_drewN ?_ _ | with_reducible refine Below.alloc ?_ (by first | omega | (simp <;> omega)) _ | with_reducible refine Below.setCell ?_ (by first | omega | (simp <;> omega)) _ | with_reducible exact Below.refl _ _)) (hbe.mono (by first | omega | (simp <;> omega))))
    | (go_at_call 27; refine (plan_sx _).mono ?_; rintro e w2 ⟨rfl, hb2⟩; have z2 := hb2.size; (try simp at z2); have H2 : Below w.heap.size w w2 := Below.trans (by repeat (first | with_reducible assumption | with_reducible refine Below.drew ?_ | with_reducible refine below_drewN ?_ _ | with_reducible refine Below.alloc ?_ (by first | omega | (simp <;> omega)) _ | with_reducible refine Below.setCell ?_ (by first | omega | (simp <;> omega)) _ | with_reducible exact Below.refl _ _)) (hb2.mono (by first | omega | (simp <;> omega))))
    | (go_at_call 28; refine (sample_sx _).mono ?_; rintro e w4 ⟨rfl, hb4⟩; have z4 := hb4.size; (try simp at z4); have c4x0 := bstep (b := w2.heap.size) hb4 (by first | omega | (simp <;> omega)); have y4x0 : w2.heap.size < w4.heap.size := (by omega); have H4 : Below w.heap.size w w4 := Below.trans (by repeat (first | with_reducible assumption | with_reducible refine Below.drew ?_ | with_reducible refine below_drewN ?_ _ | with_reducible refine Below.alloc ?_ (by first | omega | (simp <;> omega)) _ | with_reducible refine Below.setCell ?_ (by first | omega | (simp <;> omega)) _ | with_reducible exact Below.refl _ _)) (hb4.mono (by first | omega | (simp <;> omega))))
    | (go_at_call 29; refine (join_sx _).mono ?_; rintro e w6 ⟨rfl, hb6⟩; have z6 := hb6.size; (try simp at z6); have c6x0 := bstep (b := w2.heap.size) hb6 (by first | omega | (simp <;> omega)); have y6x0 : w2.heap.size < w6.heap.size := (by omega); have H6 : Below w.heap.size w w6 := Below.trans (by repeat (first | with_reducible assumption | with_reducible refine Below.drew ?_ | with_reducible refine below_drewN ?_ _ | with_reducible refine Below.alloc ?_ (by first | omega | (simp <;> omega)) _ | with_reducible refine Below.setCell ?_ (by first | omega | (simp <;> omega)) _ | with_reducible exact Below.refl _ _)) (hb6.mono (by first | omega | (simp <;> omega)))))
  go_ret
  exact ⟨rfl, by exact (by repeat (first | with_reducible assumption | with_reducible refine Below.drew ?_ | with_reducible refine below_drewN ?_ _ | with_reducible refine Below.alloc ?_ (by first | omega | (simp <;> omega)) _ | with_reducible refine Below.setCell ?_ (by first | omega | (simp <;> omega)) _ | with_reducible exact Below.refl _ _))⟩
end Go.Proofs.Ytjeomdfcfbfebaa
