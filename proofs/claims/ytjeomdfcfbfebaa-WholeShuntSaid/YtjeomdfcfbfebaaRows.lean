/-
  No cell of these rows narrows 'for every input' (looked for: loops, veiled, ifaces, maps, wideKeys, modest, calm, conditions, laid).
  DERIVED. THE GIVEN ROWS OF THIS SEAT. 17 by the template 'for every input the law returns true; each argument reads behind the call as it read before'; 0 by the template 'total and deterministic' (their statements: YtjeomdfcfbfebaaTotals.lean).
  GIVEN WITH THE SEED: the statements are not yours to turn. If you find one false, say at which input.
  Laid BY PROGRAM, IN A SANDBOX (cutbox-rows.mjs): the forced cells as the released guide's own fill.sh prints them over the translation ae1a11c3787ad5d7… (all of the seat's roots in one cut). By AI agents, Wed Nov 11 2026. No macro, syntax, notation, axiom, sorry.
-/
import Derived.Test.YtjeomdfcfbfebaaChecked
import GoSem.Claim
import GoSem.ClaimJoined
import GoSem.ClaimMapViews
import Derived.JoinedTies
import Derived.KernelRfl
namespace Go.Proofs.Ytjeomdfcfbfebaa
/- THE CELL 'sum', in the pinned program and in every row, IS THE sha256 OF THE DUMP (.gsa) THAT YtjeomdfcfbfebaaProg.lean LOADS. Nothing in Lean hashes anything: it is a label: what it is worth is what the hold of that sum in a sandbox is worth. -/
noncomputable def Try.pinned : Pinned := { name := "ytjeomdfcfbfebaa", sum := "ae1a11c3787ad5d73efeb4c16552ac54f3e86b1140ff975ccacb7ddc338d4931", checked := Try.checked }
namespace Rows
def none {H : Type} : Left H := { results := [], args := [] }

/-- 'commutatortop.WholeShunt': WHATEVER THE INPUT: true; the input reads as it did. -/
def wholeShuntSpec : ChangeSpec := { name := "wholeShunt", fn := fun _ => fun
  | [d1, d2, d3] => { results := [.lit (.bool true)], args := [d1, d2, d3] }
  | _ => none }
def wholeShuntRow : OpenClaim := { program := "ytjeomdfcfbfebaa", sum := "ae1a11c3787ad5d73efeb4c16552ac54f3e86b1140ff975ccacb7ddc338d4931", func := "commutator/commutatortop.WholeShunt", spec := "wholeShunt", unfollowed := true, recurses := true, apart := false }
def WholeShuntSaid : Prop := wholeShuntRow.holds Try.pinned (OpenSpec.ofChange wholeShuntSpec)

/-- ITS FALSE NEIGHBOUR: 'it returns false'. Refute it at one input. -/
def wholeShuntWrong : ChangeSpec := { name := "wholeShunt", fn := fun _ => fun
  | [d1, d2, d3] => { results := [.lit (.bool false)], args := [d1, d2, d3] }
  | _ => none }
def WholeShuntWrongFalsely : Prop := wholeShuntRow.holds Try.pinned (OpenSpec.ofChange wholeShuntWrong)

/-- 'commutatorlaw23.PatternMakes': WHATEVER THE INPUT: true; the input reads as it did. -/
def patternMakesSpec : ChangeSpec := { name := "patternMakes", fn := fun _ => fun
  | [d1, d2] => { results := [.lit (.bool true)], args := [d1, d2] }
  | _ => none }
def patternMakesRow : OpenClaim := { program := "ytjeomdfcfbfebaa", sum := "ae1a11c3787ad5d73efeb4c16552ac54f3e86b1140ff975ccacb7ddc338d4931", func := "commutator/commutatorlaw23.PatternMakes", spec := "patternMakes", recurses := true, apart := false }
def PatternMakesSaid : Prop := patternMakesRow.holds Try.pinned (OpenSpec.ofChange patternMakesSpec)

/-- ITS FALSE NEIGHBOUR: 'it returns false'. Refute it at one input. -/
def patternMakesWrong : ChangeSpec := { name := "patternMakes", fn := fun _ => fun
  | [d1, d2] => { results := [.lit (.bool false)], args := [d1, d2] }
  | _ => none }
def PatternMakesWrongFalsely : Prop := patternMakesRow.holds Try.pinned (OpenSpec.ofChange patternMakesWrong)

/-- 'commutatorlaw23.PatternBorders': WHATEVER THE INPUT: true; the input reads as it did. -/
def patternBordersSpec : ChangeSpec := { name := "patternBorders", fn := fun _ => fun
  | [d1, d2] => { results := [.lit (.bool true)], args := [d1, d2] }
  | _ => none }
def patternBordersRow : OpenClaim := { program := "ytjeomdfcfbfebaa", sum := "ae1a11c3787ad5d73efeb4c16552ac54f3e86b1140ff975ccacb7ddc338d4931", func := "commutator/commutatorlaw23.PatternBorders", spec := "patternBorders", recurses := true, apart := false }
def PatternBordersSaid : Prop := patternBordersRow.holds Try.pinned (OpenSpec.ofChange patternBordersSpec)

/-- ITS FALSE NEIGHBOUR: 'it returns false'. Refute it at one input. -/
def patternBordersWrong : ChangeSpec := { name := "patternBorders", fn := fun _ => fun
  | [d1, d2] => { results := [.lit (.bool false)], args := [d1, d2] }
  | _ => none }
def PatternBordersWrongFalsely : Prop := patternBordersRow.holds Try.pinned (OpenSpec.ofChange patternBordersWrong)

/-- 'commutatorlaw23.PatternCovers': WHATEVER THE INPUT: true; the input reads as it did. -/
def patternCoversSpec : ChangeSpec := { name := "patternCovers", fn := fun _ => fun
  | [d1, d2] => { results := [.lit (.bool true)], args := [d1, d2] }
  | _ => none }
def patternCoversRow : OpenClaim := { program := "ytjeomdfcfbfebaa", sum := "ae1a11c3787ad5d73efeb4c16552ac54f3e86b1140ff975ccacb7ddc338d4931", func := "commutator/commutatorlaw23.PatternCovers", spec := "patternCovers", recurses := true, apart := false }
def PatternCoversSaid : Prop := patternCoversRow.holds Try.pinned (OpenSpec.ofChange patternCoversSpec)

/-- ITS FALSE NEIGHBOUR: 'it returns false'. Refute it at one input. -/
def patternCoversWrong : ChangeSpec := { name := "patternCovers", fn := fun _ => fun
  | [d1, d2] => { results := [.lit (.bool false)], args := [d1, d2] }
  | _ => none }
def PatternCoversWrongFalsely : Prop := patternCoversRow.holds Try.pinned (OpenSpec.ofChange patternCoversWrong)

/-- 'commutatorlaw23.PatternChecks': WHATEVER THE INPUT: true; the input reads as it did. -/
def patternChecksSpec : ChangeSpec := { name := "patternChecks", fn := fun _ => fun
  | [d1, d2] => { results := [.lit (.bool true)], args := [d1, d2] }
  | _ => none }
def patternChecksRow : OpenClaim := { program := "ytjeomdfcfbfebaa", sum := "ae1a11c3787ad5d73efeb4c16552ac54f3e86b1140ff975ccacb7ddc338d4931", func := "commutator/commutatorlaw23.PatternChecks", spec := "patternChecks", recurses := true, apart := false }
def PatternChecksSaid : Prop := patternChecksRow.holds Try.pinned (OpenSpec.ofChange patternChecksSpec)

/-- ITS FALSE NEIGHBOUR: 'it returns false'. Refute it at one input. -/
def patternChecksWrong : ChangeSpec := { name := "patternChecks", fn := fun _ => fun
  | [d1, d2] => { results := [.lit (.bool false)], args := [d1, d2] }
  | _ => none }
def PatternChecksWrongFalsely : Prop := patternChecksRow.holds Try.pinned (OpenSpec.ofChange patternChecksWrong)

/-- 'commutatorlaw23.PatternAccepted': WHATEVER THE INPUT: true; the input reads as it did. -/
def patternAcceptedSpec : ChangeSpec := { name := "patternAccepted", fn := fun _ => fun
  | [d1, d2] => { results := [.lit (.bool true)], args := [d1, d2] }
  | _ => none }
def patternAcceptedRow : OpenClaim := { program := "ytjeomdfcfbfebaa", sum := "ae1a11c3787ad5d73efeb4c16552ac54f3e86b1140ff975ccacb7ddc338d4931", func := "commutator/commutatorlaw23.PatternAccepted", spec := "patternAccepted", recurses := true, apart := false }
def PatternAcceptedSaid : Prop := patternAcceptedRow.holds Try.pinned (OpenSpec.ofChange patternAcceptedSpec)

/-- ITS FALSE NEIGHBOUR: 'it returns false'. Refute it at one input. -/
def patternAcceptedWrong : ChangeSpec := { name := "patternAccepted", fn := fun _ => fun
  | [d1, d2] => { results := [.lit (.bool false)], args := [d1, d2] }
  | _ => none }
def PatternAcceptedWrongFalsely : Prop := patternAcceptedRow.holds Try.pinned (OpenSpec.ofChange patternAcceptedWrong)

/-- 'commutatorlaw25.ShuntPlans': WHATEVER THE INPUT: true; the input reads as it did. -/
def shuntPlansSpec : ChangeSpec := { name := "shuntPlans", fn := fun _ => fun
  | [d1, d2, d3] => { results := [.lit (.bool true)], args := [d1, d2, d3] }
  | _ => none }
def shuntPlansRow : OpenClaim := { program := "ytjeomdfcfbfebaa", sum := "ae1a11c3787ad5d73efeb4c16552ac54f3e86b1140ff975ccacb7ddc338d4931", func := "commutator/commutatorlaw25.ShuntPlans", spec := "shuntPlans", recurses := true, apart := false }
def ShuntPlansSaid : Prop := shuntPlansRow.holds Try.pinned (OpenSpec.ofChange shuntPlansSpec)

/-- ITS FALSE NEIGHBOUR: 'it returns false'. Refute it at one input. -/
def shuntPlansWrong : ChangeSpec := { name := "shuntPlans", fn := fun _ => fun
  | [d1, d2, d3] => { results := [.lit (.bool false)], args := [d1, d2, d3] }
  | _ => none }
def ShuntPlansWrongFalsely : Prop := shuntPlansRow.holds Try.pinned (OpenSpec.ofChange shuntPlansWrong)

/-- 'commutatorlaw25.ShuntSamples': WHATEVER THE INPUT: true; the input reads as it did. -/
def shuntSamplesSpec : ChangeSpec := { name := "shuntSamples", fn := fun _ => fun
  | [d1, d2, d3] => { results := [.lit (.bool true)], args := [d1, d2, d3] }
  | _ => none }
def shuntSamplesRow : OpenClaim := { program := "ytjeomdfcfbfebaa", sum := "ae1a11c3787ad5d73efeb4c16552ac54f3e86b1140ff975ccacb7ddc338d4931", func := "commutator/commutatorlaw25.ShuntSamples", spec := "shuntSamples", recurses := true, apart := false }
def ShuntSamplesSaid : Prop := shuntSamplesRow.holds Try.pinned (OpenSpec.ofChange shuntSamplesSpec)

/-- ITS FALSE NEIGHBOUR: 'it returns false'. Refute it at one input. -/
def shuntSamplesWrong : ChangeSpec := { name := "shuntSamples", fn := fun _ => fun
  | [d1, d2, d3] => { results := [.lit (.bool false)], args := [d1, d2, d3] }
  | _ => none }
def ShuntSamplesWrongFalsely : Prop := shuntSamplesRow.holds Try.pinned (OpenSpec.ofChange shuntSamplesWrong)

/-- 'commutatorlaw25.ShuntJoins': WHATEVER THE INPUT: true; the input reads as it did. -/
def shuntJoinsSpec : ChangeSpec := { name := "shuntJoins", fn := fun _ => fun
  | [d1, d2] => { results := [.lit (.bool true)], args := [d1, d2] }
  | _ => none }
def shuntJoinsRow : OpenClaim := { program := "ytjeomdfcfbfebaa", sum := "ae1a11c3787ad5d73efeb4c16552ac54f3e86b1140ff975ccacb7ddc338d4931", func := "commutator/commutatorlaw25.ShuntJoins", spec := "shuntJoins", recurses := true, apart := false }
def ShuntJoinsSaid : Prop := shuntJoinsRow.holds Try.pinned (OpenSpec.ofChange shuntJoinsSpec)

/-- ITS FALSE NEIGHBOUR: 'it returns false'. Refute it at one input. -/
def shuntJoinsWrong : ChangeSpec := { name := "shuntJoins", fn := fun _ => fun
  | [d1, d2] => { results := [.lit (.bool false)], args := [d1, d2] }
  | _ => none }
def ShuntJoinsWrongFalsely : Prop := shuntJoinsRow.holds Try.pinned (OpenSpec.ofChange shuntJoinsWrong)

/-- 'commutatorlaw25.ShuntExact': WHATEVER THE INPUT: true; the input reads as it did. -/
def shuntExactSpec : ChangeSpec := { name := "shuntExact", fn := fun _ => fun
  | [d1, d2, d3] => { results := [.lit (.bool true)], args := [d1, d2, d3] }
  | _ => none }
def shuntExactRow : OpenClaim := { program := "ytjeomdfcfbfebaa", sum := "ae1a11c3787ad5d73efeb4c16552ac54f3e86b1140ff975ccacb7ddc338d4931", func := "commutator/commutatorlaw25.ShuntExact", spec := "shuntExact", recurses := true, apart := false }
def ShuntExactSaid : Prop := shuntExactRow.holds Try.pinned (OpenSpec.ofChange shuntExactSpec)

/-- ITS FALSE NEIGHBOUR: 'it returns false'. Refute it at one input. -/
def shuntExactWrong : ChangeSpec := { name := "shuntExact", fn := fun _ => fun
  | [d1, d2, d3] => { results := [.lit (.bool false)], args := [d1, d2, d3] }
  | _ => none }
def ShuntExactWrongFalsely : Prop := shuntExactRow.holds Try.pinned (OpenSpec.ofChange shuntExactWrong)

/-- 'commutatorlaw25.ShuntErrors': WHATEVER THE INPUT: true; the input reads as it did. -/
def shuntErrorsSpec : ChangeSpec := { name := "shuntErrors", fn := fun _ => fun
  | [d1, d2, d3] => { results := [.lit (.bool true)], args := [d1, d2, d3] }
  | _ => none }
def shuntErrorsRow : OpenClaim := { program := "ytjeomdfcfbfebaa", sum := "ae1a11c3787ad5d73efeb4c16552ac54f3e86b1140ff975ccacb7ddc338d4931", func := "commutator/commutatorlaw25.ShuntErrors", spec := "shuntErrors", recurses := true, apart := false }
def ShuntErrorsSaid : Prop := shuntErrorsRow.holds Try.pinned (OpenSpec.ofChange shuntErrorsSpec)

/-- ITS FALSE NEIGHBOUR: 'it returns false'. Refute it at one input. -/
def shuntErrorsWrong : ChangeSpec := { name := "shuntErrors", fn := fun _ => fun
  | [d1, d2, d3] => { results := [.lit (.bool false)], args := [d1, d2, d3] }
  | _ => none }
def ShuntErrorsWrongFalsely : Prop := shuntErrorsRow.holds Try.pinned (OpenSpec.ofChange shuntErrorsWrong)

/-- 'commutatorlaw25.ShuntCounts': WHATEVER THE INPUT: true; the input reads as it did. -/
def shuntCountsSpec : ChangeSpec := { name := "shuntCounts", fn := fun _ => fun
  | [d1, d2, d3] => { results := [.lit (.bool true)], args := [d1, d2, d3] }
  | _ => none }
def shuntCountsRow : OpenClaim := { program := "ytjeomdfcfbfebaa", sum := "ae1a11c3787ad5d73efeb4c16552ac54f3e86b1140ff975ccacb7ddc338d4931", func := "commutator/commutatorlaw25.ShuntCounts", spec := "shuntCounts", recurses := true, apart := false }
def ShuntCountsSaid : Prop := shuntCountsRow.holds Try.pinned (OpenSpec.ofChange shuntCountsSpec)

/-- ITS FALSE NEIGHBOUR: 'it returns false'. Refute it at one input. -/
def shuntCountsWrong : ChangeSpec := { name := "shuntCounts", fn := fun _ => fun
  | [d1, d2, d3] => { results := [.lit (.bool false)], args := [d1, d2, d3] }
  | _ => none }
def ShuntCountsWrongFalsely : Prop := shuntCountsRow.holds Try.pinned (OpenSpec.ofChange shuntCountsWrong)

/-- 'commutatorlaw25.ShuntNone': WHATEVER THE INPUT: true; the input reads as it did. -/
def shuntNoneSpec : ChangeSpec := { name := "shuntNone", fn := fun _ => fun
  | [d1, d2, d3] => { results := [.lit (.bool true)], args := [d1, d2, d3] }
  | _ => none }
def shuntNoneRow : OpenClaim := { program := "ytjeomdfcfbfebaa", sum := "ae1a11c3787ad5d73efeb4c16552ac54f3e86b1140ff975ccacb7ddc338d4931", func := "commutator/commutatorlaw25.ShuntNone", spec := "shuntNone", recurses := true, apart := false }
def ShuntNoneSaid : Prop := shuntNoneRow.holds Try.pinned (OpenSpec.ofChange shuntNoneSpec)

/-- ITS FALSE NEIGHBOUR: 'it returns false'. Refute it at one input. -/
def shuntNoneWrong : ChangeSpec := { name := "shuntNone", fn := fun _ => fun
  | [d1, d2, d3] => { results := [.lit (.bool false)], args := [d1, d2, d3] }
  | _ => none }
def ShuntNoneWrongFalsely : Prop := shuntNoneRow.holds Try.pinned (OpenSpec.ofChange shuntNoneWrong)

/-- 'commutatorlaw23.PatternSpreads': WHATEVER THE INPUT: true; the input reads as it did. -/
def patternSpreadsSpec : ChangeSpec := { name := "patternSpreads", fn := fun _ => fun
  | [d1, d2, d3] => { results := [.lit (.bool true)], args := [d1, d2, d3] }
  | _ => none }
def patternSpreadsRow : OpenClaim := { program := "ytjeomdfcfbfebaa", sum := "ae1a11c3787ad5d73efeb4c16552ac54f3e86b1140ff975ccacb7ddc338d4931", func := "commutator/commutatorlaw23.PatternSpreads", spec := "patternSpreads", unfollowed := true, recurses := true, apart := false }
def PatternSpreadsSaid : Prop := patternSpreadsRow.holds Try.pinned (OpenSpec.ofChange patternSpreadsSpec)

/-- ITS FALSE NEIGHBOUR: 'it returns false'. Refute it at one input. -/
def patternSpreadsWrong : ChangeSpec := { name := "patternSpreads", fn := fun _ => fun
  | [d1, d2, d3] => { results := [.lit (.bool false)], args := [d1, d2, d3] }
  | _ => none }
def PatternSpreadsWrongFalsely : Prop := patternSpreadsRow.holds Try.pinned (OpenSpec.ofChange patternSpreadsWrong)

/-- 'commutatorlaw23.PatternWindows': WHATEVER THE INPUT: true; the input reads as it did. -/
def patternWindowsSpec : ChangeSpec := { name := "patternWindows", fn := fun _ => fun
  | [d1, d2, d3] => { results := [.lit (.bool true)], args := [d1, d2, d3] }
  | _ => none }
def patternWindowsRow : OpenClaim := { program := "ytjeomdfcfbfebaa", sum := "ae1a11c3787ad5d73efeb4c16552ac54f3e86b1140ff975ccacb7ddc338d4931", func := "commutator/commutatorlaw23.PatternWindows", spec := "patternWindows", unfollowed := true, recurses := true, apart := false }
def PatternWindowsSaid : Prop := patternWindowsRow.holds Try.pinned (OpenSpec.ofChange patternWindowsSpec)

/-- ITS FALSE NEIGHBOUR: 'it returns false'. Refute it at one input. -/
def patternWindowsWrong : ChangeSpec := { name := "patternWindows", fn := fun _ => fun
  | [d1, d2, d3] => { results := [.lit (.bool false)], args := [d1, d2, d3] }
  | _ => none }
def PatternWindowsWrongFalsely : Prop := patternWindowsRow.holds Try.pinned (OpenSpec.ofChange patternWindowsWrong)

/-- 'commutatorlaw23.PatternEasy': WHATEVER THE INPUT: true; the input reads as it did. -/
def patternEasySpec : ChangeSpec := { name := "patternEasy", fn := fun _ => fun
  | [d1, d2, d3] => { results := [.lit (.bool true)], args := [d1, d2, d3] }
  | _ => none }
def patternEasyRow : OpenClaim := { program := "ytjeomdfcfbfebaa", sum := "ae1a11c3787ad5d73efeb4c16552ac54f3e86b1140ff975ccacb7ddc338d4931", func := "commutator/commutatorlaw23.PatternEasy", spec := "patternEasy", unfollowed := true, recurses := true, apart := false }
def PatternEasySaid : Prop := patternEasyRow.holds Try.pinned (OpenSpec.ofChange patternEasySpec)

/-- ITS FALSE NEIGHBOUR: 'it returns false'. Refute it at one input. -/
def patternEasyWrong : ChangeSpec := { name := "patternEasy", fn := fun _ => fun
  | [d1, d2, d3] => { results := [.lit (.bool false)], args := [d1, d2, d3] }
  | _ => none }
def PatternEasyWrongFalsely : Prop := patternEasyRow.holds Try.pinned (OpenSpec.ofChange patternEasyWrong)

/-- 'commutatorlaw25.ShuntSpread': WHATEVER THE INPUT: true; the input reads as it did. -/
def shuntSpreadSpec : ChangeSpec := { name := "shuntSpread", fn := fun _ => fun
  | [d1, d2] => { results := [.lit (.bool true)], args := [d1, d2] }
  | _ => none }
def shuntSpreadRow : OpenClaim := { program := "ytjeomdfcfbfebaa", sum := "ae1a11c3787ad5d73efeb4c16552ac54f3e86b1140ff975ccacb7ddc338d4931", func := "commutator/commutatorlaw25.ShuntSpread", spec := "shuntSpread", unfollowed := true, recurses := true, apart := false }
def ShuntSpreadSaid : Prop := shuntSpreadRow.holds Try.pinned (OpenSpec.ofChange shuntSpreadSpec)

/-- ITS FALSE NEIGHBOUR: 'it returns false'. Refute it at one input. -/
def shuntSpreadWrong : ChangeSpec := { name := "shuntSpread", fn := fun _ => fun
  | [d1, d2] => { results := [.lit (.bool false)], args := [d1, d2] }
  | _ => none }
def ShuntSpreadWrongFalsely : Prop := shuntSpreadRow.holds Try.pinned (OpenSpec.ofChange shuntSpreadWrong)

/- THE SECOND FORM. 'bulk': how many values and letters a reading holds, each counted each time it is reached (what is shared counts as often as it is met; a slice's spare places count too). A statement '..UptoSaid' is the law's where the arguments, and the package variables that the reading takes, are together of bulk at most 1048576: NARROWER than '..Said'. Prove '..Said' where nothing that the law and all that it calls make is longer than what came in: it says more and counts as full. Else prove '..UptoSaid'. A law counts once. -/
mutual
def uptoBulk {H : Type} : DataW H → Nat
  | .lit (.string bytes) => bytes.length + 1
  | .lit _ => 1
  | .nil => 1
  | .ptr d => uptoBulk d + 1
  | .slice elems spare => uptoBulkAll elems + uptoBulkAll spare + 1
  | .agg parts => uptoBulkAll parts + 1
  | .iface _ d => uptoBulk d + 1
  | .map entries => uptoBulkEntries entries + 1
  | .held _ => 1
def uptoBulkAll {H : Type} : List (DataW H) → Nat
  | [] => 0
  | d :: r => uptoBulk d + uptoBulkAll r
def uptoBulkEntries {H : Type} : List (Lit × DataW H) → Nat
  | [] => 0
  | x :: r => uptoBulkEntry x + uptoBulkEntries r
def uptoBulkEntry {H : Type} : Lit × DataW H → Nat
  | (.string bytes, d) => bytes.length + uptoBulk d + 1
  | (_, d) => uptoBulk d + 1
 end
def uptoSmall : (H : Type) → List (DataW H) → Bool := fun _ ds => decide (uptoBulkAll ds ≤ 1048576)
def OpenSpec.upto (s : _root_.Go.ChangeSpec) : _root_.Go.OpenSpec := { _root_.Go.OpenSpec.ofChange s with cond := some uptoSmall }

/-- 'commutatortop.WholeShunt', WHERE WHAT IT READS IS OF BULK AT MOST 1048576: true; the input reads as it did. -/
def wholeShuntUptoRow : OpenClaim := { program := "ytjeomdfcfbfebaa", sum := "ae1a11c3787ad5d73efeb4c16552ac54f3e86b1140ff975ccacb7ddc338d4931", func := "commutator/commutatortop.WholeShunt", spec := "wholeShunt", unfollowed := true, recurses := true, apart := false, narrowed := true }
def WholeShuntUptoSaid : Prop := wholeShuntUptoRow.holds Try.pinned (OpenSpec.upto wholeShuntSpec)

/-- 'commutatorlaw23.PatternMakes', WHERE WHAT IT READS IS OF BULK AT MOST 1048576: true; the input reads as it did. -/
def patternMakesUptoRow : OpenClaim := { program := "ytjeomdfcfbfebaa", sum := "ae1a11c3787ad5d73efeb4c16552ac54f3e86b1140ff975ccacb7ddc338d4931", func := "commutator/commutatorlaw23.PatternMakes", spec := "patternMakes", recurses := true, apart := false, narrowed := true }
def PatternMakesUptoSaid : Prop := patternMakesUptoRow.holds Try.pinned (OpenSpec.upto patternMakesSpec)

/-- 'commutatorlaw23.PatternBorders', WHERE WHAT IT READS IS OF BULK AT MOST 1048576: true; the input reads as it did. -/
def patternBordersUptoRow : OpenClaim := { program := "ytjeomdfcfbfebaa", sum := "ae1a11c3787ad5d73efeb4c16552ac54f3e86b1140ff975ccacb7ddc338d4931", func := "commutator/commutatorlaw23.PatternBorders", spec := "patternBorders", recurses := true, apart := false, narrowed := true }
def PatternBordersUptoSaid : Prop := patternBordersUptoRow.holds Try.pinned (OpenSpec.upto patternBordersSpec)

/-- 'commutatorlaw23.PatternCovers', WHERE WHAT IT READS IS OF BULK AT MOST 1048576: true; the input reads as it did. -/
def patternCoversUptoRow : OpenClaim := { program := "ytjeomdfcfbfebaa", sum := "ae1a11c3787ad5d73efeb4c16552ac54f3e86b1140ff975ccacb7ddc338d4931", func := "commutator/commutatorlaw23.PatternCovers", spec := "patternCovers", recurses := true, apart := false, narrowed := true }
def PatternCoversUptoSaid : Prop := patternCoversUptoRow.holds Try.pinned (OpenSpec.upto patternCoversSpec)

/-- 'commutatorlaw23.PatternChecks', WHERE WHAT IT READS IS OF BULK AT MOST 1048576: true; the input reads as it did. -/
def patternChecksUptoRow : OpenClaim := { program := "ytjeomdfcfbfebaa", sum := "ae1a11c3787ad5d73efeb4c16552ac54f3e86b1140ff975ccacb7ddc338d4931", func := "commutator/commutatorlaw23.PatternChecks", spec := "patternChecks", recurses := true, apart := false, narrowed := true }
def PatternChecksUptoSaid : Prop := patternChecksUptoRow.holds Try.pinned (OpenSpec.upto patternChecksSpec)

/-- 'commutatorlaw23.PatternAccepted', WHERE WHAT IT READS IS OF BULK AT MOST 1048576: true; the input reads as it did. -/
def patternAcceptedUptoRow : OpenClaim := { program := "ytjeomdfcfbfebaa", sum := "ae1a11c3787ad5d73efeb4c16552ac54f3e86b1140ff975ccacb7ddc338d4931", func := "commutator/commutatorlaw23.PatternAccepted", spec := "patternAccepted", recurses := true, apart := false, narrowed := true }
def PatternAcceptedUptoSaid : Prop := patternAcceptedUptoRow.holds Try.pinned (OpenSpec.upto patternAcceptedSpec)

/-- 'commutatorlaw25.ShuntPlans', WHERE WHAT IT READS IS OF BULK AT MOST 1048576: true; the input reads as it did. -/
def shuntPlansUptoRow : OpenClaim := { program := "ytjeomdfcfbfebaa", sum := "ae1a11c3787ad5d73efeb4c16552ac54f3e86b1140ff975ccacb7ddc338d4931", func := "commutator/commutatorlaw25.ShuntPlans", spec := "shuntPlans", recurses := true, apart := false, narrowed := true }
def ShuntPlansUptoSaid : Prop := shuntPlansUptoRow.holds Try.pinned (OpenSpec.upto shuntPlansSpec)

/-- 'commutatorlaw25.ShuntSamples', WHERE WHAT IT READS IS OF BULK AT MOST 1048576: true; the input reads as it did. -/
def shuntSamplesUptoRow : OpenClaim := { program := "ytjeomdfcfbfebaa", sum := "ae1a11c3787ad5d73efeb4c16552ac54f3e86b1140ff975ccacb7ddc338d4931", func := "commutator/commutatorlaw25.ShuntSamples", spec := "shuntSamples", recurses := true, apart := false, narrowed := true }
def ShuntSamplesUptoSaid : Prop := shuntSamplesUptoRow.holds Try.pinned (OpenSpec.upto shuntSamplesSpec)

/-- 'commutatorlaw25.ShuntJoins', WHERE WHAT IT READS IS OF BULK AT MOST 1048576: true; the input reads as it did. -/
def shuntJoinsUptoRow : OpenClaim := { program := "ytjeomdfcfbfebaa", sum := "ae1a11c3787ad5d73efeb4c16552ac54f3e86b1140ff975ccacb7ddc338d4931", func := "commutator/commutatorlaw25.ShuntJoins", spec := "shuntJoins", recurses := true, apart := false, narrowed := true }
def ShuntJoinsUptoSaid : Prop := shuntJoinsUptoRow.holds Try.pinned (OpenSpec.upto shuntJoinsSpec)

/-- 'commutatorlaw25.ShuntExact', WHERE WHAT IT READS IS OF BULK AT MOST 1048576: true; the input reads as it did. -/
def shuntExactUptoRow : OpenClaim := { program := "ytjeomdfcfbfebaa", sum := "ae1a11c3787ad5d73efeb4c16552ac54f3e86b1140ff975ccacb7ddc338d4931", func := "commutator/commutatorlaw25.ShuntExact", spec := "shuntExact", recurses := true, apart := false, narrowed := true }
def ShuntExactUptoSaid : Prop := shuntExactUptoRow.holds Try.pinned (OpenSpec.upto shuntExactSpec)

/-- 'commutatorlaw25.ShuntErrors', WHERE WHAT IT READS IS OF BULK AT MOST 1048576: true; the input reads as it did. -/
def shuntErrorsUptoRow : OpenClaim := { program := "ytjeomdfcfbfebaa", sum := "ae1a11c3787ad5d73efeb4c16552ac54f3e86b1140ff975ccacb7ddc338d4931", func := "commutator/commutatorlaw25.ShuntErrors", spec := "shuntErrors", recurses := true, apart := false, narrowed := true }
def ShuntErrorsUptoSaid : Prop := shuntErrorsUptoRow.holds Try.pinned (OpenSpec.upto shuntErrorsSpec)

/-- 'commutatorlaw25.ShuntCounts', WHERE WHAT IT READS IS OF BULK AT MOST 1048576: true; the input reads as it did. -/
def shuntCountsUptoRow : OpenClaim := { program := "ytjeomdfcfbfebaa", sum := "ae1a11c3787ad5d73efeb4c16552ac54f3e86b1140ff975ccacb7ddc338d4931", func := "commutator/commutatorlaw25.ShuntCounts", spec := "shuntCounts", recurses := true, apart := false, narrowed := true }
def ShuntCountsUptoSaid : Prop := shuntCountsUptoRow.holds Try.pinned (OpenSpec.upto shuntCountsSpec)

/-- 'commutatorlaw25.ShuntNone', WHERE WHAT IT READS IS OF BULK AT MOST 1048576: true; the input reads as it did. -/
def shuntNoneUptoRow : OpenClaim := { program := "ytjeomdfcfbfebaa", sum := "ae1a11c3787ad5d73efeb4c16552ac54f3e86b1140ff975ccacb7ddc338d4931", func := "commutator/commutatorlaw25.ShuntNone", spec := "shuntNone", recurses := true, apart := false, narrowed := true }
def ShuntNoneUptoSaid : Prop := shuntNoneUptoRow.holds Try.pinned (OpenSpec.upto shuntNoneSpec)

/-- 'commutatorlaw23.PatternSpreads', WHERE WHAT IT READS IS OF BULK AT MOST 1048576: true; the input reads as it did. -/
def patternSpreadsUptoRow : OpenClaim := { program := "ytjeomdfcfbfebaa", sum := "ae1a11c3787ad5d73efeb4c16552ac54f3e86b1140ff975ccacb7ddc338d4931", func := "commutator/commutatorlaw23.PatternSpreads", spec := "patternSpreads", unfollowed := true, recurses := true, apart := false, narrowed := true }
def PatternSpreadsUptoSaid : Prop := patternSpreadsUptoRow.holds Try.pinned (OpenSpec.upto patternSpreadsSpec)

/-- 'commutatorlaw23.PatternWindows', WHERE WHAT IT READS IS OF BULK AT MOST 1048576: true; the input reads as it did. -/
def patternWindowsUptoRow : OpenClaim := { program := "ytjeomdfcfbfebaa", sum := "ae1a11c3787ad5d73efeb4c16552ac54f3e86b1140ff975ccacb7ddc338d4931", func := "commutator/commutatorlaw23.PatternWindows", spec := "patternWindows", unfollowed := true, recurses := true, apart := false, narrowed := true }
def PatternWindowsUptoSaid : Prop := patternWindowsUptoRow.holds Try.pinned (OpenSpec.upto patternWindowsSpec)

/-- 'commutatorlaw23.PatternEasy', WHERE WHAT IT READS IS OF BULK AT MOST 1048576: true; the input reads as it did. -/
def patternEasyUptoRow : OpenClaim := { program := "ytjeomdfcfbfebaa", sum := "ae1a11c3787ad5d73efeb4c16552ac54f3e86b1140ff975ccacb7ddc338d4931", func := "commutator/commutatorlaw23.PatternEasy", spec := "patternEasy", unfollowed := true, recurses := true, apart := false, narrowed := true }
def PatternEasyUptoSaid : Prop := patternEasyUptoRow.holds Try.pinned (OpenSpec.upto patternEasySpec)

/-- 'commutatorlaw25.ShuntSpread', WHERE WHAT IT READS IS OF BULK AT MOST 1048576: true; the input reads as it did. -/
def shuntSpreadUptoRow : OpenClaim := { program := "ytjeomdfcfbfebaa", sum := "ae1a11c3787ad5d73efeb4c16552ac54f3e86b1140ff975ccacb7ddc338d4931", func := "commutator/commutatorlaw25.ShuntSpread", spec := "shuntSpread", unfollowed := true, recurses := true, apart := false, narrowed := true }
def ShuntSpreadUptoSaid : Prop := shuntSpreadUptoRow.holds Try.pinned (OpenSpec.upto shuntSpreadSpec)

end Rows
end Go.Proofs.Ytjeomdfcfbfebaa
