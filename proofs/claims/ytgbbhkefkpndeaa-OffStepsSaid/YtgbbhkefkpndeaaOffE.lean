/- Equality of arrays of two and of a state, for the laws that compare states. -/
import Derived.Test.YtgbbhkefkpndeaaOffD
import Derived.ChangeKeysEq
namespace Go.Proofs.Ytgbbhkefkpndeaa
open Go.RowKit OM

theorem info_int : (Try.prog.info? 3).map (fun i => (i.size)) = some 1 := by kernel_rfl
theorem cells_int : Try.prog.cellsOf 3 = 1 := by kernel_rfl
@[go_sem] theorem eqI2 (a b c d : Int) (w : World) : (Op.equalIn 9999 26 (.agg #[.int .i64 a, .int .i64 b]) (.agg #[.int .i64 c, .int .i64 d])).run Try.prog w = .ok (a == c && b == d) w := by
  obtain ⟨i, hi⟩ : ∃ i, Try.prog.info? 3 = some i := by
    cases h : Try.prog.info? 3 with
    | none => have := info_int; rw [h] at this; simp at this
    | some i => exact ⟨i, rfl⟩
  rw [show (9999 : Nat) = 9998 + 1 from rfl, run_equalIn_array w 9998 _ _ Try.underlying26 hi]
  rw [cells_int, show List.range 2 = [0, 1] from rfl]
  simp only [Op.eqItems]
  go_simp
  by_cases h1 : a = c <;> by_cases h2 : b = d <;> simp [h1, h2]
@[go_sem] theorem eqB2in (a b c d : Bool) (w : World) : (Op.equalIn 9999 27 (.agg #[.bool a, .bool b]) (.agg #[.bool c, .bool d])).run Try.prog w = .ok (a == c && b == d) w := by
  cases a <;> cases b <;> cases c <;> cases d <;> kernel_rfl
end Go.Proofs.Ytgbbhkefkpndeaa
