/-
  No cell of these rows narrows 'for every input' (looked for: loops, veiled, ifaces, maps, wideKeys, modest, calm, conditions, laid).
  DERIVED. THE GIVEN ROWS OF THIS SEAT. 8 by the template 'for every input the law returns true; each argument reads behind the call as it read before'; 0 by the template 'total and deterministic' (their statements: YtgbbhkefkpndeaaTotals.lean).
  GIVEN WITH THE SEED: the statements are not yours to turn. If you find one false, say at which input.
  Laid BY PROGRAM, IN A SANDBOX (cutbox-rows.mjs): the forced cells as the released guide's own fill.sh prints them over the translation 8dff9967ec592b7e… (all of the seat's roots in one cut). By AI agents, Wed Nov 11 2026. No macro, syntax, notation, axiom, sorry.
-/
import Derived.Test.YtgbbhkefkpndeaaChecked
import GoSem.Claim
import GoSem.ClaimJoined
import GoSem.ClaimMapViews
import Derived.JoinedTies
import Derived.KernelRfl
namespace Go.Proofs.Ytgbbhkefkpndeaa
/- THE CELL 'sum', in the pinned program and in every row, IS THE sha256 OF THE DUMP (.gsa) THAT YtgbbhkefkpndeaaProg.lean LOADS. Nothing in Lean hashes anything: it is a label: what it is worth is what the hold of that sum in a sandbox is worth. -/
noncomputable def Try.pinned : Pinned := { name := "ytgbbhkefkpndeaa", sum := "8dff9967ec592b7e4f44a87609cac89f116e6d5f54ef2a32be338bd9a5b4d839", checked := Try.checked }
namespace Rows
def none {H : Type} : Left H := { results := [], args := [] }

/-- 'commutatorlaw47.OffChecks': WHATEVER THE INPUT: true; the input reads as it did. -/
def offChecksSpec : ChangeSpec := { name := "offChecks", fn := fun _ => fun
  | [d] => { results := [.lit (.bool true)], args := [d] }
  | _ => none }
def offChecksRow : OpenClaim := { program := "ytgbbhkefkpndeaa", sum := "8dff9967ec592b7e4f44a87609cac89f116e6d5f54ef2a32be338bd9a5b4d839", func := "commutator/commutatorlaw47.OffChecks", spec := "offChecks", apart := false }
def OffChecksSaid : Prop := offChecksRow.holds Try.pinned (OpenSpec.ofChange offChecksSpec)

/-- ITS FALSE NEIGHBOUR: 'it returns false'. Refute it at one input. -/
def offChecksWrong : ChangeSpec := { name := "offChecks", fn := fun _ => fun
  | [d] => { results := [.lit (.bool false)], args := [d] }
  | _ => none }
def OffChecksWrongFalsely : Prop := offChecksRow.holds Try.pinned (OpenSpec.ofChange offChecksWrong)

/-- 'commutatorlaw47.OffSteps': WHATEVER THE INPUT: true; the input reads as it did. -/
def offStepsSpec : ChangeSpec := { name := "offSteps", fn := fun _ => fun
  | [d1, d2, d3] => { results := [.lit (.bool true)], args := [d1, d2, d3] }
  | _ => none }
def offStepsRow : OpenClaim := { program := "ytgbbhkefkpndeaa", sum := "8dff9967ec592b7e4f44a87609cac89f116e6d5f54ef2a32be338bd9a5b4d839", func := "commutator/commutatorlaw47.OffSteps", spec := "offSteps", apart := false }
def OffStepsSaid : Prop := offStepsRow.holds Try.pinned (OpenSpec.ofChange offStepsSpec)

/-- ITS FALSE NEIGHBOUR: 'it returns false'. Refute it at one input. -/
def offStepsWrong : ChangeSpec := { name := "offSteps", fn := fun _ => fun
  | [d1, d2, d3] => { results := [.lit (.bool false)], args := [d1, d2, d3] }
  | _ => none }
def OffStepsWrongFalsely : Prop := offStepsRow.holds Try.pinned (OpenSpec.ofChange offStepsWrong)

/-- 'commutatorlaw47.OffResets': WHATEVER THE INPUT: true; the input reads as it did. -/
def offResetsSpec : ChangeSpec := { name := "offResets", fn := fun _ => fun
  | [d1, d2, d3] => { results := [.lit (.bool true)], args := [d1, d2, d3] }
  | _ => none }
def offResetsRow : OpenClaim := { program := "ytgbbhkefkpndeaa", sum := "8dff9967ec592b7e4f44a87609cac89f116e6d5f54ef2a32be338bd9a5b4d839", func := "commutator/commutatorlaw47.OffResets", spec := "offResets", apart := false }
def OffResetsSaid : Prop := offResetsRow.holds Try.pinned (OpenSpec.ofChange offResetsSpec)

/-- ITS FALSE NEIGHBOUR: 'it returns false'. Refute it at one input. -/
def offResetsWrong : ChangeSpec := { name := "offResets", fn := fun _ => fun
  | [d1, d2, d3] => { results := [.lit (.bool false)], args := [d1, d2, d3] }
  | _ => none }
def OffResetsWrongFalsely : Prop := offResetsRow.holds Try.pinned (OpenSpec.ofChange offResetsWrong)

/-- 'commutatorlaw47.OffStages': WHATEVER THE INPUT: true; the input reads as it did. -/
def offStagesSpec : ChangeSpec := { name := "offStages", fn := fun _ => fun
  | [d1, d2, d3] => { results := [.lit (.bool true)], args := [d1, d2, d3] }
  | _ => none }
def offStagesRow : OpenClaim := { program := "ytgbbhkefkpndeaa", sum := "8dff9967ec592b7e4f44a87609cac89f116e6d5f54ef2a32be338bd9a5b4d839", func := "commutator/commutatorlaw47.OffStages", spec := "offStages", apart := false }
def OffStagesSaid : Prop := offStagesRow.holds Try.pinned (OpenSpec.ofChange offStagesSpec)

/-- ITS FALSE NEIGHBOUR: 'it returns false'. Refute it at one input. -/
def offStagesWrong : ChangeSpec := { name := "offStages", fn := fun _ => fun
  | [d1, d2, d3] => { results := [.lit (.bool false)], args := [d1, d2, d3] }
  | _ => none }
def OffStagesWrongFalsely : Prop := offStagesRow.holds Try.pinned (OpenSpec.ofChange offStagesWrong)

/-- 'commutatorlaw47.OffHealthy': WHATEVER THE INPUT: true; the input reads as it did. -/
def offHealthySpec : ChangeSpec := { name := "offHealthy", fn := fun _ => fun
  | [d1, d2, d3] => { results := [.lit (.bool true)], args := [d1, d2, d3] }
  | _ => none }
def offHealthyRow : OpenClaim := { program := "ytgbbhkefkpndeaa", sum := "8dff9967ec592b7e4f44a87609cac89f116e6d5f54ef2a32be338bd9a5b4d839", func := "commutator/commutatorlaw47.OffHealthy", spec := "offHealthy", apart := false }
def OffHealthySaid : Prop := offHealthyRow.holds Try.pinned (OpenSpec.ofChange offHealthySpec)

/-- ITS FALSE NEIGHBOUR: 'it returns false'. Refute it at one input. -/
def offHealthyWrong : ChangeSpec := { name := "offHealthy", fn := fun _ => fun
  | [d1, d2, d3] => { results := [.lit (.bool false)], args := [d1, d2, d3] }
  | _ => none }
def OffHealthyWrongFalsely : Prop := offHealthyRow.holds Try.pinned (OpenSpec.ofChange offHealthyWrong)

/-- 'commutatorlaw47.OffRequest': WHATEVER THE INPUT: true; the input reads as it did. -/
def offRequestSpec : ChangeSpec := { name := "offRequest", fn := fun _ => fun
  | [d1, d2, d3] => { results := [.lit (.bool true)], args := [d1, d2, d3] }
  | _ => none }
def offRequestRow : OpenClaim := { program := "ytgbbhkefkpndeaa", sum := "8dff9967ec592b7e4f44a87609cac89f116e6d5f54ef2a32be338bd9a5b4d839", func := "commutator/commutatorlaw47.OffRequest", spec := "offRequest", apart := false }
def OffRequestSaid : Prop := offRequestRow.holds Try.pinned (OpenSpec.ofChange offRequestSpec)

/-- ITS FALSE NEIGHBOUR: 'it returns false'. Refute it at one input. -/
def offRequestWrong : ChangeSpec := { name := "offRequest", fn := fun _ => fun
  | [d1, d2, d3] => { results := [.lit (.bool false)], args := [d1, d2, d3] }
  | _ => none }
def OffRequestWrongFalsely : Prop := offRequestRow.holds Try.pinned (OpenSpec.ofChange offRequestWrong)

/-- 'commutatorlaw47.OffTests': WHATEVER THE INPUT: true; the input reads as it did. -/
def offTestsSpec : ChangeSpec := { name := "offTests", fn := fun _ => fun
  | [d1, d2, d3] => { results := [.lit (.bool true)], args := [d1, d2, d3] }
  | _ => none }
def offTestsRow : OpenClaim := { program := "ytgbbhkefkpndeaa", sum := "8dff9967ec592b7e4f44a87609cac89f116e6d5f54ef2a32be338bd9a5b4d839", func := "commutator/commutatorlaw47.OffTests", spec := "offTests", apart := false }
def OffTestsSaid : Prop := offTestsRow.holds Try.pinned (OpenSpec.ofChange offTestsSpec)

/-- ITS FALSE NEIGHBOUR: 'it returns false'. Refute it at one input. -/
def offTestsWrong : ChangeSpec := { name := "offTests", fn := fun _ => fun
  | [d1, d2, d3] => { results := [.lit (.bool false)], args := [d1, d2, d3] }
  | _ => none }
def OffTestsWrongFalsely : Prop := offTestsRow.holds Try.pinned (OpenSpec.ofChange offTestsWrong)

/-- 'commutatorlaw47.OffApart': WHATEVER THE INPUT: true; the input reads as it did. -/
def offApartSpec : ChangeSpec := { name := "offApart", fn := fun _ => fun
  | [d1, d2, d3] => { results := [.lit (.bool true)], args := [d1, d2, d3] }
  | _ => none }
def offApartRow : OpenClaim := { program := "ytgbbhkefkpndeaa", sum := "8dff9967ec592b7e4f44a87609cac89f116e6d5f54ef2a32be338bd9a5b4d839", func := "commutator/commutatorlaw47.OffApart", spec := "offApart", apart := false }
def OffApartSaid : Prop := offApartRow.holds Try.pinned (OpenSpec.ofChange offApartSpec)

/-- ITS FALSE NEIGHBOUR: 'it returns false'. Refute it at one input. -/
def offApartWrong : ChangeSpec := { name := "offApart", fn := fun _ => fun
  | [d1, d2, d3] => { results := [.lit (.bool false)], args := [d1, d2, d3] }
  | _ => none }
def OffApartWrongFalsely : Prop := offApartRow.holds Try.pinned (OpenSpec.ofChange offApartWrong)

/- THE SECOND FORM. 'bulk': how many values and letters a reading holds, each counted each time it is reached (what is shared counts as often as it is met; a slice's spare places count too). A statement '..UptoSaid' is the law's where the arguments, and the package variables that the reading takes, are together of bulk at most 1048576: NARROWER than '..Said'. Prove '..Said' where nothing that the law and all that it calls make is longer than what came in: it says more and counts as full. Else prove '..UptoSaid'. A law counts once. -/
mutual
def uptoBulk {H : Type} : DataW H → Nat
  | .lit (.string bytes) => bytes.length + 1
  | .lit _ => 1
  | .nil => 1
  | .ptr d => uptoBulk d + 1
  | .slice elems spare => uptoBulkAll elems + uptoBulkAll spare + 1
  | .agg parts => uptoBulkAll parts + 1
  | .iface _ d => uptoBulk d + 1
  | .map entries => uptoBulkEntries entries + 1
  | .held _ => 1
def uptoBulkAll {H : Type} : List (DataW H) → Nat
  | [] => 0
  | d :: r => uptoBulk d + uptoBulkAll r
def uptoBulkEntries {H : Type} : List (Lit × DataW H) → Nat
  | [] => 0
  | x :: r => uptoBulkEntry x + uptoBulkEntries r
def uptoBulkEntry {H : Type} : Lit × DataW H → Nat
  | (.string bytes, d) => bytes.length + uptoBulk d + 1
  | (_, d) => uptoBulk d + 1
 end
def uptoSmall : (H : Type) → List (DataW H) → Bool := fun _ ds => decide (uptoBulkAll ds ≤ 1048576)
def OpenSpec.upto (s : _root_.Go.ChangeSpec) : _root_.Go.OpenSpec := { _root_.Go.OpenSpec.ofChange s with cond := some uptoSmall }

/-- 'commutatorlaw47.OffChecks', WHERE WHAT IT READS IS OF BULK AT MOST 1048576: true; the input reads as it did. -/
def offChecksUptoRow : OpenClaim := { program := "ytgbbhkefkpndeaa", sum := "8dff9967ec592b7e4f44a87609cac89f116e6d5f54ef2a32be338bd9a5b4d839", func := "commutator/commutatorlaw47.OffChecks", spec := "offChecks", apart := false, narrowed := true }
def OffChecksUptoSaid : Prop := offChecksUptoRow.holds Try.pinned (OpenSpec.upto offChecksSpec)

/-- 'commutatorlaw47.OffSteps', WHERE WHAT IT READS IS OF BULK AT MOST 1048576: true; the input reads as it did. -/
def offStepsUptoRow : OpenClaim := { program := "ytgbbhkefkpndeaa", sum := "8dff9967ec592b7e4f44a87609cac89f116e6d5f54ef2a32be338bd9a5b4d839", func := "commutator/commutatorlaw47.OffSteps", spec := "offSteps", apart := false, narrowed := true }
def OffStepsUptoSaid : Prop := offStepsUptoRow.holds Try.pinned (OpenSpec.upto offStepsSpec)

/-- 'commutatorlaw47.OffResets', WHERE WHAT IT READS IS OF BULK AT MOST 1048576: true; the input reads as it did. -/
def offResetsUptoRow : OpenClaim := { program := "ytgbbhkefkpndeaa", sum := "8dff9967ec592b7e4f44a87609cac89f116e6d5f54ef2a32be338bd9a5b4d839", func := "commutator/commutatorlaw47.OffResets", spec := "offResets", apart := false, narrowed := true }
def OffResetsUptoSaid : Prop := offResetsUptoRow.holds Try.pinned (OpenSpec.upto offResetsSpec)

/-- 'commutatorlaw47.OffStages', WHERE WHAT IT READS IS OF BULK AT MOST 1048576: true; the input reads as it did. -/
def offStagesUptoRow : OpenClaim := { program := "ytgbbhkefkpndeaa", sum := "8dff9967ec592b7e4f44a87609cac89f116e6d5f54ef2a32be338bd9a5b4d839", func := "commutator/commutatorlaw47.OffStages", spec := "offStages", apart := false, narrowed := true }
def OffStagesUptoSaid : Prop := offStagesUptoRow.holds Try.pinned (OpenSpec.upto offStagesSpec)

/-- 'commutatorlaw47.OffHealthy', WHERE WHAT IT READS IS OF BULK AT MOST 1048576: true; the input reads as it did. -/
def offHealthyUptoRow : OpenClaim := { program := "ytgbbhkefkpndeaa", sum := "8dff9967ec592b7e4f44a87609cac89f116e6d5f54ef2a32be338bd9a5b4d839", func := "commutator/commutatorlaw47.OffHealthy", spec := "offHealthy", apart := false, narrowed := true }
def OffHealthyUptoSaid : Prop := offHealthyUptoRow.holds Try.pinned (OpenSpec.upto offHealthySpec)

/-- 'commutatorlaw47.OffRequest', WHERE WHAT IT READS IS OF BULK AT MOST 1048576: true; the input reads as it did. -/
def offRequestUptoRow : OpenClaim := { program := "ytgbbhkefkpndeaa", sum := "8dff9967ec592b7e4f44a87609cac89f116e6d5f54ef2a32be338bd9a5b4d839", func := "commutator/commutatorlaw47.OffRequest", spec := "offRequest", apart := false, narrowed := true }
def OffRequestUptoSaid : Prop := offRequestUptoRow.holds Try.pinned (OpenSpec.upto offRequestSpec)

/-- 'commutatorlaw47.OffTests', WHERE WHAT IT READS IS OF BULK AT MOST 1048576: true; the input reads as it did. -/
def offTestsUptoRow : OpenClaim := { program := "ytgbbhkefkpndeaa", sum := "8dff9967ec592b7e4f44a87609cac89f116e6d5f54ef2a32be338bd9a5b4d839", func := "commutator/commutatorlaw47.OffTests", spec := "offTests", apart := false, narrowed := true }
def OffTestsUptoSaid : Prop := offTestsUptoRow.holds Try.pinned (OpenSpec.upto offTestsSpec)

/-- 'commutatorlaw47.OffApart', WHERE WHAT IT READS IS OF BULK AT MOST 1048576: true; the input reads as it did. -/
def offApartUptoRow : OpenClaim := { program := "ytgbbhkefkpndeaa", sum := "8dff9967ec592b7e4f44a87609cac89f116e6d5f54ef2a32be338bd9a5b4d839", func := "commutator/commutatorlaw47.OffApart", spec := "offApart", apart := false, narrowed := true }
def OffApartUptoSaid : Prop := offApartUptoRow.holds Try.pinned (OpenSpec.upto offApartSpec)

end Rows
end Go.Proofs.Ytgbbhkefkpndeaa
