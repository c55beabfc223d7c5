/- Three facts on the whole program that every row of this seat asks: proved once, in a text with few imports (each takes nearly the memory that a Lean process may have). -/
import Derived.Test.YtjeomdfcfbfebaaProg
import Derived.Test.YtjeomdfcfbfebaaRows
import Derived.JoinedOf
import Derived.ProofKit
namespace Go.Proofs.Ytjeomdfcfbfebaa
set_option maxRecDepth 100000 in
theorem j_may : Try.prog.mayEnter = true := by kernel_rfl
set_option maxRecDepth 100000 in
theorem j_lifts : (Rows.patternMakesRow.lifted == Try.prog.liftsFinal) = true := by kernel_rfl
set_option maxRecDepth 100000 in
theorem j_make : (Try.prog.make == some Rows.patternMakesRow.make) = true := by kernel_rfl
theorem and_split {a b : Bool} (h1 : a = true) (h2 : b = true) : (a && b) = true := by rw [h1, h2]; rfl
end Go.Proofs.Ytjeomdfcfbfebaa
