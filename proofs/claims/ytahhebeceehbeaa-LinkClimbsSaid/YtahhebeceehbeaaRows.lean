/-
  No cell of these rows narrows 'for every input' (looked for: loops, veiled, ifaces, maps, wideKeys, modest, calm, conditions, laid).
  DERIVED. THE GIVEN ROWS OF THIS SEAT. 8 by the template 'for every input the law returns true; each argument reads behind the call as it read before'; 0 by the template 'total and deterministic' (their statements: YtahhebeceehbeaaTotals.lean).
  GIVEN WITH THE SEED: the statements are not yours to turn. If you find one false, say at which input.
  Laid BY PROGRAM, IN A SANDBOX (cutbox-rows.mjs): the forced cells as the released guide's own fill.sh prints them over the translation 6c8d67bfaba7d9da… (all of the seat's roots in one cut). By AI agents, Wed Nov 11 2026. No macro, syntax, notation, axiom, sorry.
-/
import Derived.Test.YtahhebeceehbeaaChecked
import GoSem.Claim
import GoSem.ClaimJoined
import GoSem.ClaimMapViews
import Derived.JoinedTies
import Derived.KernelRfl
namespace Go.Proofs.Ytahhebeceehbeaa
/- THE CELL 'sum', in the pinned program and in every row, IS THE sha256 OF THE DUMP (.gsa) THAT YtahhebeceehbeaaProg.lean LOADS. Nothing in Lean hashes anything: it is a label: what it is worth is what the hold of that sum in a sandbox is worth. -/
noncomputable def Try.pinned : Pinned := { name := "ytahhebeceehbeaa", sum := "6c8d67bfaba7d9da1dfc4ff98777ea13d889e9c7aee7e1b5260fd2466464e806", checked := Try.checked }
namespace Rows
def none {H : Type} : Left H := { results := [], args := [] }

/-- 'commutatorlaw28.LinkSteps': WHATEVER THE INPUT: true; the input reads as it did. -/
def linkStepsSpec : ChangeSpec := { name := "linkSteps", fn := fun _ => fun
  | [d1, d2, d3] => { results := [.lit (.bool true)], args := [d1, d2, d3] }
  | _ => none }
def linkStepsRow : OpenClaim := { program := "ytahhebeceehbeaa", sum := "6c8d67bfaba7d9da1dfc4ff98777ea13d889e9c7aee7e1b5260fd2466464e806", func := "commutator/commutatorlaw28.LinkSteps", spec := "linkSteps", apart := false }
def LinkStepsSaid : Prop := linkStepsRow.holds Try.pinned (OpenSpec.ofChange linkStepsSpec)

/-- ITS FALSE NEIGHBOUR: 'it returns false'. Refute it at one input. -/
def linkStepsWrong : ChangeSpec := { name := "linkSteps", fn := fun _ => fun
  | [d1, d2, d3] => { results := [.lit (.bool false)], args := [d1, d2, d3] }
  | _ => none }
def LinkStepsWrongFalsely : Prop := linkStepsRow.holds Try.pinned (OpenSpec.ofChange linkStepsWrong)

/-- 'commutatorlaw28.LinkIdle': WHATEVER THE INPUT: true; the input reads as it did. -/
def linkIdleSpec : ChangeSpec := { name := "linkIdle", fn := fun _ => fun
  | [d1, d2, d3] => { results := [.lit (.bool true)], args := [d1, d2, d3] }
  | _ => none }
def linkIdleRow : OpenClaim := { program := "ytahhebeceehbeaa", sum := "6c8d67bfaba7d9da1dfc4ff98777ea13d889e9c7aee7e1b5260fd2466464e806", func := "commutator/commutatorlaw28.LinkIdle", spec := "linkIdle", apart := false }
def LinkIdleSaid : Prop := linkIdleRow.holds Try.pinned (OpenSpec.ofChange linkIdleSpec)

/-- ITS FALSE NEIGHBOUR: 'it returns false'. Refute it at one input. -/
def linkIdleWrong : ChangeSpec := { name := "linkIdle", fn := fun _ => fun
  | [d1, d2, d3] => { results := [.lit (.bool false)], args := [d1, d2, d3] }
  | _ => none }
def LinkIdleWrongFalsely : Prop := linkIdleRow.holds Try.pinned (OpenSpec.ofChange linkIdleWrong)

/-- 'commutatorlaw28.LinkSwitch': WHATEVER THE INPUT: true; the input reads as it did. -/
def linkSwitchSpec : ChangeSpec := { name := "linkSwitch", fn := fun _ => fun
  | [d1, d2, d3] => { results := [.lit (.bool true)], args := [d1, d2, d3] }
  | _ => none }
def linkSwitchRow : OpenClaim := { program := "ytahhebeceehbeaa", sum := "6c8d67bfaba7d9da1dfc4ff98777ea13d889e9c7aee7e1b5260fd2466464e806", func := "commutator/commutatorlaw28.LinkSwitch", spec := "linkSwitch", apart := false }
def LinkSwitchSaid : Prop := linkSwitchRow.holds Try.pinned (OpenSpec.ofChange linkSwitchSpec)

/-- ITS FALSE NEIGHBOUR: 'it returns false'. Refute it at one input. -/
def linkSwitchWrong : ChangeSpec := { name := "linkSwitch", fn := fun _ => fun
  | [d1, d2, d3] => { results := [.lit (.bool false)], args := [d1, d2, d3] }
  | _ => none }
def LinkSwitchWrongFalsely : Prop := linkSwitchRow.holds Try.pinned (OpenSpec.ofChange linkSwitchWrong)

/-- 'commutatorlaw28.LinkChecks': WHATEVER THE INPUT: true; the input reads as it did. -/
def linkChecksSpec : ChangeSpec := { name := "linkChecks", fn := fun _ => fun
  | [d] => { results := [.lit (.bool true)], args := [d] }
  | _ => none }
def linkChecksRow : OpenClaim := { program := "ytahhebeceehbeaa", sum := "6c8d67bfaba7d9da1dfc4ff98777ea13d889e9c7aee7e1b5260fd2466464e806", func := "commutator/commutatorlaw28.LinkChecks", spec := "linkChecks", apart := false }
def LinkChecksSaid : Prop := linkChecksRow.holds Try.pinned (OpenSpec.ofChange linkChecksSpec)

/-- ITS FALSE NEIGHBOUR: 'it returns false'. Refute it at one input. -/
def linkChecksWrong : ChangeSpec := { name := "linkChecks", fn := fun _ => fun
  | [d] => { results := [.lit (.bool false)], args := [d] }
  | _ => none }
def LinkChecksWrongFalsely : Prop := linkChecksRow.holds Try.pinned (OpenSpec.ofChange linkChecksWrong)

/-- 'commutatorlaw28.LinkHolds': WHATEVER THE INPUT: true; the input reads as it did. -/
def linkHoldsSpec : ChangeSpec := { name := "linkHolds", fn := fun _ => fun
  | [d1, d2] => { results := [.lit (.bool true)], args := [d1, d2] }
  | _ => none }
def linkHoldsRow : OpenClaim := { program := "ytahhebeceehbeaa", sum := "6c8d67bfaba7d9da1dfc4ff98777ea13d889e9c7aee7e1b5260fd2466464e806", func := "commutator/commutatorlaw28.LinkHolds", spec := "linkHolds", apart := false }
def LinkHoldsSaid : Prop := linkHoldsRow.holds Try.pinned (OpenSpec.ofChange linkHoldsSpec)

/-- ITS FALSE NEIGHBOUR: 'it returns false'. Refute it at one input. -/
def linkHoldsWrong : ChangeSpec := { name := "linkHolds", fn := fun _ => fun
  | [d1, d2] => { results := [.lit (.bool false)], args := [d1, d2] }
  | _ => none }
def LinkHoldsWrongFalsely : Prop := linkHoldsRow.holds Try.pinned (OpenSpec.ofChange linkHoldsWrong)

/-- 'commutatorlaw28.LinkCeils': WHATEVER THE INPUT: true; the input reads as it did. -/
def linkCeilsSpec : ChangeSpec := { name := "linkCeils", fn := fun _ => fun
  | [d1, d2, d3] => { results := [.lit (.bool true)], args := [d1, d2, d3] }
  | _ => none }
def linkCeilsRow : OpenClaim := { program := "ytahhebeceehbeaa", sum := "6c8d67bfaba7d9da1dfc4ff98777ea13d889e9c7aee7e1b5260fd2466464e806", func := "commutator/commutatorlaw28.LinkCeils", spec := "linkCeils", apart := false }
def LinkCeilsSaid : Prop := linkCeilsRow.holds Try.pinned (OpenSpec.ofChange linkCeilsSpec)

/-- ITS FALSE NEIGHBOUR: 'it returns false'. Refute it at one input. -/
def linkCeilsWrong : ChangeSpec := { name := "linkCeils", fn := fun _ => fun
  | [d1, d2, d3] => { results := [.lit (.bool false)], args := [d1, d2, d3] }
  | _ => none }
def LinkCeilsWrongFalsely : Prop := linkCeilsRow.holds Try.pinned (OpenSpec.ofChange linkCeilsWrong)

/-- 'commutatorlaw28.LinkSpans': WHATEVER THE INPUT: true; the input reads as it did. -/
def linkSpansSpec : ChangeSpec := { name := "linkSpans", fn := fun _ => fun
  | [d1, d2] => { results := [.lit (.bool true)], args := [d1, d2] }
  | _ => none }
def linkSpansRow : OpenClaim := { program := "ytahhebeceehbeaa", sum := "6c8d67bfaba7d9da1dfc4ff98777ea13d889e9c7aee7e1b5260fd2466464e806", func := "commutator/commutatorlaw28.LinkSpans", spec := "linkSpans", apart := false }
def LinkSpansSaid : Prop := linkSpansRow.holds Try.pinned (OpenSpec.ofChange linkSpansSpec)

/-- ITS FALSE NEIGHBOUR: 'it returns false'. Refute it at one input. -/
def linkSpansWrong : ChangeSpec := { name := "linkSpans", fn := fun _ => fun
  | [d1, d2] => { results := [.lit (.bool false)], args := [d1, d2] }
  | _ => none }
def LinkSpansWrongFalsely : Prop := linkSpansRow.holds Try.pinned (OpenSpec.ofChange linkSpansWrong)

/-- 'commutatorlaw28.LinkClimbs': WHATEVER THE INPUT: true; the input reads as it did. -/
def linkClimbsSpec : ChangeSpec := { name := "linkClimbs", fn := fun _ => fun
  | [d1, d2, d3] => { results := [.lit (.bool true)], args := [d1, d2, d3] }
  | _ => none }
def linkClimbsRow : OpenClaim := { program := "ytahhebeceehbeaa", sum := "6c8d67bfaba7d9da1dfc4ff98777ea13d889e9c7aee7e1b5260fd2466464e806", func := "commutator/commutatorlaw28.LinkClimbs", spec := "linkClimbs", apart := false }
def LinkClimbsSaid : Prop := linkClimbsRow.holds Try.pinned (OpenSpec.ofChange linkClimbsSpec)

/-- ITS FALSE NEIGHBOUR: 'it returns false'. Refute it at one input. -/
def linkClimbsWrong : ChangeSpec := { name := "linkClimbs", fn := fun _ => fun
  | [d1, d2, d3] => { results := [.lit (.bool false)], args := [d1, d2, d3] }
  | _ => none }
def LinkClimbsWrongFalsely : Prop := linkClimbsRow.holds Try.pinned (OpenSpec.ofChange linkClimbsWrong)

/- THE SECOND FORM. 'bulk': how many values and letters a reading holds, each counted each time it is reached (what is shared counts as often as it is met; a slice's spare places count too). A statement '..UptoSaid' is the law's where the arguments, and the package variables that the reading takes, are together of bulk at most 1048576: NARROWER than '..Said'. Prove '..Said' where nothing that the law and all that it calls make is longer than what came in: it says more and counts as full. Else prove '..UptoSaid'. A law counts once. -/
mutual
def uptoBulk {H : Type} : DataW H → Nat
  | .lit (.string bytes) => bytes.length + 1
  | .lit _ => 1
  | .nil => 1
  | .ptr d => uptoBulk d + 1
  | .slice elems spare => uptoBulkAll elems + uptoBulkAll spare + 1
  | .agg parts => uptoBulkAll parts + 1
  | .iface _ d => uptoBulk d + 1
  | .map entries => uptoBulkEntries entries + 1
  | .held _ => 1
def uptoBulkAll {H : Type} : List (DataW H) → Nat
  | [] => 0
  | d :: r => uptoBulk d + uptoBulkAll r
def uptoBulkEntries {H : Type} : List (Lit × DataW H) → Nat
  | [] => 0
  | x :: r => uptoBulkEntry x + uptoBulkEntries r
def uptoBulkEntry {H : Type} : Lit × DataW H → Nat
  | (.string bytes, d) => bytes.length + uptoBulk d + 1
  | (_, d) => uptoBulk d + 1
 end
def uptoSmall : (H : Type) → List (DataW H) → Bool := fun _ ds => decide (uptoBulkAll ds ≤ 1048576)
def OpenSpec.upto (s : _root_.Go.ChangeSpec) : _root_.Go.OpenSpec := { _root_.Go.OpenSpec.ofChange s with cond := some uptoSmall }

/-- 'commutatorlaw28.LinkSteps', WHERE WHAT IT READS IS OF BULK AT MOST 1048576: true; the input reads as it did. -/
def linkStepsUptoRow : OpenClaim := { program := "ytahhebeceehbeaa", sum := "6c8d67bfaba7d9da1dfc4ff98777ea13d889e9c7aee7e1b5260fd2466464e806", func := "commutator/commutatorlaw28.LinkSteps", spec := "linkSteps", apart := false, narrowed := true }
def LinkStepsUptoSaid : Prop := linkStepsUptoRow.holds Try.pinned (OpenSpec.upto linkStepsSpec)

/-- 'commutatorlaw28.LinkIdle', WHERE WHAT IT READS IS OF BULK AT MOST 1048576: true; the input reads as it did. -/
def linkIdleUptoRow : OpenClaim := { program := "ytahhebeceehbeaa", sum := "6c8d67bfaba7d9da1dfc4ff98777ea13d889e9c7aee7e1b5260fd2466464e806", func := "commutator/commutatorlaw28.LinkIdle", spec := "linkIdle", apart := false, narrowed := true }
def LinkIdleUptoSaid : Prop := linkIdleUptoRow.holds Try.pinned (OpenSpec.upto linkIdleSpec)

/-- 'commutatorlaw28.LinkSwitch', WHERE WHAT IT READS IS OF BULK AT MOST 1048576: true; the input reads as it did. -/
def linkSwitchUptoRow : OpenClaim := { program := "ytahhebeceehbeaa", sum := "6c8d67bfaba7d9da1dfc4ff98777ea13d889e9c7aee7e1b5260fd2466464e806", func := "commutator/commutatorlaw28.LinkSwitch", spec := "linkSwitch", apart := false, narrowed := true }
def LinkSwitchUptoSaid : Prop := linkSwitchUptoRow.holds Try.pinned (OpenSpec.upto linkSwitchSpec)

/-- 'commutatorlaw28.LinkChecks', WHERE WHAT IT READS IS OF BULK AT MOST 1048576: true; the input reads as it did. -/
def linkChecksUptoRow : OpenClaim := { program := "ytahhebeceehbeaa", sum := "6c8d67bfaba7d9da1dfc4ff98777ea13d889e9c7aee7e1b5260fd2466464e806", func := "commutator/commutatorlaw28.LinkChecks", spec := "linkChecks", apart := false, narrowed := true }
def LinkChecksUptoSaid : Prop := linkChecksUptoRow.holds Try.pinned (OpenSpec.upto linkChecksSpec)

/-- 'commutatorlaw28.LinkHolds', WHERE WHAT IT READS IS OF BULK AT MOST 1048576: true; the input reads as it did. -/
def linkHoldsUptoRow : OpenClaim := { program := "ytahhebeceehbeaa", sum := "6c8d67bfaba7d9da1dfc4ff98777ea13d889e9c7aee7e1b5260fd2466464e806", func := "commutator/commutatorlaw28.LinkHolds", spec := "linkHolds", apart := false, narrowed := true }
def LinkHoldsUptoSaid : Prop := linkHoldsUptoRow.holds Try.pinned (OpenSpec.upto linkHoldsSpec)

/-- 'commutatorlaw28.LinkCeils', WHERE WHAT IT READS IS OF BULK AT MOST 1048576: true; the input reads as it did. -/
def linkCeilsUptoRow : OpenClaim := { program := "ytahhebeceehbeaa", sum := "6c8d67bfaba7d9da1dfc4ff98777ea13d889e9c7aee7e1b5260fd2466464e806", func := "commutator/commutatorlaw28.LinkCeils", spec := "linkCeils", apart := false, narrowed := true }
def LinkCeilsUptoSaid : Prop := linkCeilsUptoRow.holds Try.pinned (OpenSpec.upto linkCeilsSpec)

/-- 'commutatorlaw28.LinkSpans', WHERE WHAT IT READS IS OF BULK AT MOST 1048576: true; the input reads as it did. -/
def linkSpansUptoRow : OpenClaim := { program := "ytahhebeceehbeaa", sum := "6c8d67bfaba7d9da1dfc4ff98777ea13d889e9c7aee7e1b5260fd2466464e806", func := "commutator/commutatorlaw28.LinkSpans", spec := "linkSpans", apart := false, narrowed := true }
def LinkSpansUptoSaid : Prop := linkSpansUptoRow.holds Try.pinned (OpenSpec.upto linkSpansSpec)

/-- 'commutatorlaw28.LinkClimbs', WHERE WHAT IT READS IS OF BULK AT MOST 1048576: true; the input reads as it did. -/
def linkClimbsUptoRow : OpenClaim := { program := "ytahhebeceehbeaa", sum := "6c8d67bfaba7d9da1dfc4ff98777ea13d889e9c7aee7e1b5260fd2466464e806", func := "commutator/commutatorlaw28.LinkClimbs", spec := "linkClimbs", apart := false, narrowed := true }
def LinkClimbsUptoSaid : Prop := linkClimbsUptoRow.holds Try.pinned (OpenSpec.upto linkClimbsSpec)

end Rows
end Go.Proofs.Ytahhebeceehbeaa
