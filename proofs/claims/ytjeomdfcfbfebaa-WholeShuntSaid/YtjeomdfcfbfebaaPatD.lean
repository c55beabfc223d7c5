/- Walks of the errors' number and of the examples that open the laws of the pattern; equality of patterns. -/
import Derived.Test.YtjeomdfcfbfebaaPatC
import Derived.ChangeKeysEq
namespace Go.Proofs.Ytjeomdfcfbfebaa
open Go.RowKit PM

theorem num_nil (w : World) : Calls Try.prog 32 #[.nilIface] w fun e w' => e = .returned (.int .i64 0) ∧ w = w' := by
  go_enter Try.func32, Try.ntmps32
  go_wp2
  go_ret
  exact ⟨rfl, rfl⟩
theorem as_errno (v : Value) (w : World) : (Instr.typeAssert (.iface 96 v) 30 96 true).run Try.prog w = .ok (.tuple #[v, .bool true]) w := by kernel_rfl
theorem num_err (n : Int) (w : World) : Calls Try.prog 32 #[.iface 96 (.int .i64 n)] w fun e w' => e = .returned (.int .i64 n) ∧ w = w' := by
  have ha := as_errno (.int .i64 n)
  go_enter Try.func32, Try.ntmps32
  go_wp2
  go_ret
  exact ⟨rfl, rfl⟩

theorem info_leg : (Try.prog.info? 38).map (fun i => (i.size)) = some 2 := by kernel_rfl
theorem cells_leg : Try.prog.cellsOf 38 = 2 := by kernel_rfl
@[go_sem] theorem eqLeg3 (a b c d e f a' b' c' d' e' f' : Int) (w : World) : (Op.equalIn 10000 39 (.agg #[.int .i64 a, .int .i64 b, .int .i64 c, .int .i64 d, .int .i64 e, .int .i64 f]) (.agg #[.int .i64 a', .int .i64 b', .int .i64 c', .int .i64 d', .int .i64 e', .int .i64 f'])).run Try.prog w =
    .ok ((a == a' && b == b') && (c == c' && d == d') && (e == e' && f == f')) w := by
  obtain ⟨i, hi⟩ : ∃ i, Try.prog.info? 38 = some i := by
    cases h : Try.prog.info? 38 with
    | none => have := info_leg; rw [h] at this; simp at this
    | some i => exact ⟨i, rfl⟩
  rw [show (10000 : Nat) = 9999 + 1 from rfl, run_equalIn_array w 9999 _ _ Try.underlying39 hi]
  rw [cells_leg, show List.range 3 = [0, 1, 2] from rfl]
  simp only [Op.eqItems]
  go_simp
  by_cases h1 : a = a' <;> by_cases h2 : b = b' <;> by_cases h3 : c = c' <;> by_cases h4 : d = d' <;> by_cases h5 : e = e' <;> by_cases h6 : f = f' <;> simp [h1, h2, h3, h4, h5, h6]

def exP : Pt := ⟨⟨6, 93⟩, ⟨44, 56⟩, ⟨44, 56⟩⟩
def exR : List Prt := [⟨93, 100, (false, false, false)⟩, ⟨56, 93, (true, false, false)⟩, ⟨44, 56, (true, true, true)⟩, ⟨6, 44, (true, false, false)⟩, ⟨0, 6, (false, false, false)⟩]
theorem on_of {p : Pt} {a b : Int} {n : B3} (h : ∀ t, a ≤ t → t < b → (p.l0.on t = n.1 ∧ p.l1.on t = n.2.1 ∧ p.l2.on t = n.2.2)) : ∀ t, a ≤ t → t < b → p.on t = n := by
  intro t h1 h2
  obtain ⟨e0, e1, e2⟩ := h t h1 h2
  unfold Pt.on
  rw [e0, e1, e2]
theorem on_t {l : Lg} {t : Int} (h : l.a ≤ t ∧ t < l.b) : l.on t = true := by simp [Lg.on, h.1, h.2]
theorem on_f {l : Lg} {t : Int} (h : ¬ (l.a ≤ t ∧ t < l.b)) : l.on t = false := by
  rw [Bool.eq_false_iff]
  intro k
  simp only [Lg.on, Bool.and_eq_true, decide_eq_true_eq] at k
  exact h k
theorem exSegs : Segs exP.on 100 exR := by
  refine ⟨rfl, by decide, by decide, on_of ?_, fun y hy => (by cases hy; decide), rfl, by decide, by decide, on_of ?_, fun y hy => (by cases hy; decide), rfl, by decide, by decide, on_of ?_, fun y hy => (by cases hy; decide), rfl, by decide, by decide, on_of ?_, fun y hy => (by cases hy; decide), rfl, by decide, by decide, on_of ?_, fun y hy => (by cases hy), rfl⟩
  all_goals
    intro t h1 h2
    simp only [] at h1 h2
    refine ⟨?_, ?_, ?_⟩
    all_goals first
      | exact on_t (by simp only [exP]; omega)
      | exact on_f (by simp only [exP]; omega)
theorem parts_ex (w : World) : Calls Try.prog 34 #[.agg #[.int .i64 6, .int .i64 93, .int .i64 44, .int .i64 56, .int .i64 44, .int .i64 56], .int .i64 100] w
    fun e w' => ∃ g cap, e = .returned (.tuple #[.slice (some ⟨g, 0, none⟩) 5 cap, .nilIface]) ∧ Below w.heap.size w w' := by
  refine (parts_ok exP 100 (by decide) (by decide) w).mono ?_
  rintro e w' ⟨v, R, rfl, hS, ho, hb⟩
  obtain rfl : R = exR := hS.unique exSegs
  rcases ho.2 with ⟨_, h⟩ | ⟨g, cap, _, rfl, _⟩
  · cases h
  · exact ⟨g, cap, rfl, hb⟩
theorem make_ex (w : World) : Calls Try.prog 25 #[.agg #[.int .i64 87, .int .i64 12, .int .i64 12], .int .i64 100, .int .i64 5] w
    fun e w' => e = .returned (.tuple #[.agg #[.int .i64 6, .int .i64 93, .int .i64 44, .int .i64 56, .int .i64 44, .int .i64 56], .nilIface]) ∧ Below w.heap.size w w' :=
  make_ok 87 12 12 100 5 (by decide) (by decide) w

set_option maxHeartbeats 2000000 in
theorem awake_any (w : World) : Calls Try.prog 30 #[] w fun e w' => e = .returned (.bool true) ∧ Below w.heap.size w w' := by
  go_enter Try.func30, Try.ntmps30
  go_wp2_with (first | (go_at_call 25; refine (make_ex _).mono ?_; rintro e w1 ⟨rfl, hb1⟩; have z1 := hb1.size; (try simp at z1)) | (go_at_call 34; refine (parts_ex _).mono ?_; rintro e w2 ⟨g, cap, rfl, hb2⟩; have z2 := hb2.size; (try simp at z2); have c2x0 := bstep (b := w1.heap.size) hb2 (by first | omega | (simp <;> omega)); have y2x0 : w1.heap.size < w2.heap.size := (by omega)))
  go_ret
  have H1 : Below w.heap.size w w1 := hb1
  have H2 : Below w.heap.size w w2 := Below.trans (by exact (by repeat (first | with_reducible assumption | with_reducible refine Below.drew ?_ | with_reducible refine below_drewN ?_ _ | with_reducible refine Below.alloc ?_ (by first | omega | (simp <;> omega)) _ | with_reducible refine Below.setCell ?_ (by first | omega | (simp <;> omega)) _ | with_reducible exact Below.refl _ _))) (hb2.mono (by simp <;> omega))
  exact ⟨rfl, H2⟩
end Go.Proofs.Ytjeomdfcfbfebaa
