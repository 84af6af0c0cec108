/-
  No cell of these rows narrows 'for every input' (looked for: loops, veiled, ifaces, maps, wideKeys, modest, calm, conditions, laid).
  DERIVED. THE GIVEN ROWS OF THIS SEAT. 5 by the template 'for every input the law returns true; each argument reads behind the call as it read before'; 0 by the template 'total and deterministic' (their statements: YtbphehijikdkjaaTotals.lean).
  GIVEN WITH THE SEED: the statements are not yours to turn. If you find one false, say at which input.
  Laid BY PROGRAM, IN A SANDBOX (cutbox-rows.mjs): the forced cells as the released guide's own fill.sh prints them over the translation 37bb620860e0aae7… (all of the seat's roots in one cut). By AI agents, Wed Nov 11 2026. No macro, syntax, notation, axiom, sorry.
-/
import Derived.Test.YtbphehijikdkjaaChecked
import GoSem.Claim
import GoSem.ClaimJoined
import GoSem.ClaimMapViews
import Derived.JoinedTies
import Derived.KernelRfl
namespace Go.Proofs.Ytbphehijikdkjaa
/- THE CELL 'sum', in the pinned program and in every row, IS THE sha256 OF THE DUMP (.gsa) THAT YtbphehijikdkjaaProg.lean LOADS. Nothing in Lean hashes anything: it is a label: what it is worth is what the hold of that sum in a sandbox is worth. -/
noncomputable def Try.pinned : Pinned := { name := "ytbphehijikdkjaa", sum := "37bb620860e0aae7efa838f48fd0c9cadfd1b61538c4f3619c498d43f75d78b4", checked := Try.checked }
namespace Rows
def none {H : Type} : Left H := { results := [], args := [] }

/-- 'umbellaw01.FloatTells': WHATEVER THE INPUT: true; the input reads as it did. -/
def floatTellsSpec : ChangeSpec := { name := "floatTells", fn := fun _ => fun
  | [d1, d2, d3] => { results := [.lit (.bool true)], args := [d1, d2, d3] }
  | _ => none }
def floatTellsRow : OpenClaim := { program := "ytbphehijikdkjaa", sum := "37bb620860e0aae7efa838f48fd0c9cadfd1b61538c4f3619c498d43f75d78b4", func := "umbel/umbellaw01.FloatTells", spec := "floatTells", inPlace := ["math.Float64frombits", "math.Float64bits"], apart := false }
def FloatTellsSaid : Prop := floatTellsRow.holds Try.pinned (OpenSpec.ofChange floatTellsSpec)

/-- ITS FALSE NEIGHBOUR: 'it returns false'. Refute it at one input. -/
def floatTellsWrong : ChangeSpec := { name := "floatTells", fn := fun _ => fun
  | [d1, d2, d3] => { results := [.lit (.bool false)], args := [d1, d2, d3] }
  | _ => none }
def FloatTellsWrongFalsely : Prop := floatTellsRow.holds Try.pinned (OpenSpec.ofChange floatTellsWrong)

/-- 'umbellaw01.FloatOrder': WHATEVER THE INPUT: true; the input reads as it did. -/
def floatOrderSpec : ChangeSpec := { name := "floatOrder", fn := fun _ => fun
  | [d1, d2] => { results := [.lit (.bool true)], args := [d1, d2] }
  | _ => none }
def floatOrderRow : OpenClaim := { program := "ytbphehijikdkjaa", sum := "37bb620860e0aae7efa838f48fd0c9cadfd1b61538c4f3619c498d43f75d78b4", func := "umbel/umbellaw01.FloatOrder", spec := "floatOrder", inPlace := ["math.Float64frombits", "math.Float64bits"], apart := false }
def FloatOrderSaid : Prop := floatOrderRow.holds Try.pinned (OpenSpec.ofChange floatOrderSpec)

/-- ITS FALSE NEIGHBOUR: 'it returns false'. Refute it at one input. -/
def floatOrderWrong : ChangeSpec := { name := "floatOrder", fn := fun _ => fun
  | [d1, d2] => { results := [.lit (.bool false)], args := [d1, d2] }
  | _ => none }
def FloatOrderWrongFalsely : Prop := floatOrderRow.holds Try.pinned (OpenSpec.ofChange floatOrderWrong)

/-- 'umbellaw01.FloatBack': WHATEVER THE INPUT: true; the input reads as it did. -/
def floatBackSpec : ChangeSpec := { name := "floatBack", fn := fun _ => fun
  | [d1, d2] => { results := [.lit (.bool true)], args := [d1, d2] }
  | _ => none }
def floatBackRow : OpenClaim := { program := "ytbphehijikdkjaa", sum := "37bb620860e0aae7efa838f48fd0c9cadfd1b61538c4f3619c498d43f75d78b4", func := "umbel/umbellaw01.FloatBack", spec := "floatBack", inPlace := ["math.Float64frombits", "math.Float64bits"], apart := false }
def FloatBackSaid : Prop := floatBackRow.holds Try.pinned (OpenSpec.ofChange floatBackSpec)

/-- ITS FALSE NEIGHBOUR: 'it returns false'. Refute it at one input. -/
def floatBackWrong : ChangeSpec := { name := "floatBack", fn := fun _ => fun
  | [d1, d2] => { results := [.lit (.bool false)], args := [d1, d2] }
  | _ => none }
def FloatBackWrongFalsely : Prop := floatBackRow.holds Try.pinned (OpenSpec.ofChange floatBackWrong)

/-- 'umbellaw01.FloatTurned': WHATEVER THE INPUT: true; the input reads as it did. -/
def floatTurnedSpec : ChangeSpec := { name := "floatTurned", fn := fun _ => fun
  | [d] => { results := [.lit (.bool true)], args := [d] }
  | _ => none }
def floatTurnedRow : OpenClaim := { program := "ytbphehijikdkjaa", sum := "37bb620860e0aae7efa838f48fd0c9cadfd1b61538c4f3619c498d43f75d78b4", func := "umbel/umbellaw01.FloatTurned", spec := "floatTurned", inPlace := ["math.Float64frombits", "math.Float64bits"], apart := false }
def FloatTurnedSaid : Prop := floatTurnedRow.holds Try.pinned (OpenSpec.ofChange floatTurnedSpec)

/-- ITS FALSE NEIGHBOUR: 'it returns false'. Refute it at one input. -/
def floatTurnedWrong : ChangeSpec := { name := "floatTurned", fn := fun _ => fun
  | [d] => { results := [.lit (.bool false)], args := [d] }
  | _ => none }
def FloatTurnedWrongFalsely : Prop := floatTurnedRow.holds Try.pinned (OpenSpec.ofChange floatTurnedWrong)

/-- 'umbellaw01.FloatSteps': WHATEVER THE INPUT: true; the input reads as it did. -/
def floatStepsSpec : ChangeSpec := { name := "floatSteps", fn := fun _ => fun
  | [d] => { results := [.lit (.bool true)], args := [d] }
  | _ => none }
def floatStepsRow : OpenClaim := { program := "ytbphehijikdkjaa", sum := "37bb620860e0aae7efa838f48fd0c9cadfd1b61538c4f3619c498d43f75d78b4", func := "umbel/umbellaw01.FloatSteps", spec := "floatSteps", inPlace := ["math.Float64frombits", "math.Float64bits"], apart := false }
def FloatStepsSaid : Prop := floatStepsRow.holds Try.pinned (OpenSpec.ofChange floatStepsSpec)

/-- ITS FALSE NEIGHBOUR: 'it returns false'. Refute it at one input. -/
def floatStepsWrong : ChangeSpec := { name := "floatSteps", fn := fun _ => fun
  | [d] => { results := [.lit (.bool false)], args := [d] }
  | _ => none }
def FloatStepsWrongFalsely : Prop := floatStepsRow.holds Try.pinned (OpenSpec.ofChange floatStepsWrong)

/- THE SECOND FORM. 'bulk': how many values and letters a reading holds, each counted each time it is reached (what is shared counts as often as it is met; a slice's spare places count too). A statement '..UptoSaid' is the law's where the arguments, and the package variables that the reading takes, are together of bulk at most 1048576: NARROWER than '..Said'. Prove '..Said' where nothing that the law and all that it calls make is longer than what came in: it says more and counts as full. Else prove '..UptoSaid'. A law counts once. -/
mutual
def uptoBulk {H : Type} : DataW H → Nat
  | .lit (.string bytes) => bytes.length + 1
  | .lit _ => 1
  | .nil => 1
  | .ptr d => uptoBulk d + 1
  | .slice elems spare => uptoBulkAll elems + uptoBulkAll spare + 1
  | .agg parts => uptoBulkAll parts + 1
  | .iface _ d => uptoBulk d + 1
  | .map entries => uptoBulkEntries entries + 1
  | .held _ => 1
def uptoBulkAll {H : Type} : List (DataW H) → Nat
  | [] => 0
  | d :: r => uptoBulk d + uptoBulkAll r
def uptoBulkEntries {H : Type} : List (Lit × DataW H) → Nat
  | [] => 0
  | x :: r => uptoBulkEntry x + uptoBulkEntries r
def uptoBulkEntry {H : Type} : Lit × DataW H → Nat
  | (.string bytes, d) => bytes.length + uptoBulk d + 1
  | (_, d) => uptoBulk d + 1
 end
def uptoSmall : (H : Type) → List (DataW H) → Bool := fun _ ds => decide (uptoBulkAll ds ≤ 1048576)
def OpenSpec.upto (s : _root_.Go.ChangeSpec) : _root_.Go.OpenSpec := { _root_.Go.OpenSpec.ofChange s with cond := some uptoSmall }

/-- 'umbellaw01.FloatTells', WHERE WHAT IT READS IS OF BULK AT MOST 1048576: true; the input reads as it did. -/
def floatTellsUptoRow : OpenClaim := { program := "ytbphehijikdkjaa", sum := "37bb620860e0aae7efa838f48fd0c9cadfd1b61538c4f3619c498d43f75d78b4", func := "umbel/umbellaw01.FloatTells", spec := "floatTells", inPlace := ["math.Float64frombits", "math.Float64bits"], apart := false, narrowed := true }
def FloatTellsUptoSaid : Prop := floatTellsUptoRow.holds Try.pinned (OpenSpec.upto floatTellsSpec)

/-- 'umbellaw01.FloatOrder', WHERE WHAT IT READS IS OF BULK AT MOST 1048576: true; the input reads as it did. -/
def floatOrderUptoRow : OpenClaim := { program := "ytbphehijikdkjaa", sum := "37bb620860e0aae7efa838f48fd0c9cadfd1b61538c4f3619c498d43f75d78b4", func := "umbel/umbellaw01.FloatOrder", spec := "floatOrder", inPlace := ["math.Float64frombits", "math.Float64bits"], apart := false, narrowed := true }
def FloatOrderUptoSaid : Prop := floatOrderUptoRow.holds Try.pinned (OpenSpec.upto floatOrderSpec)

/-- 'umbellaw01.FloatBack', WHERE WHAT IT READS IS OF BULK AT MOST 1048576: true; the input reads as it did. -/
def floatBackUptoRow : OpenClaim := { program := "ytbphehijikdkjaa", sum := "37bb620860e0aae7efa838f48fd0c9cadfd1b61538c4f3619c498d43f75d78b4", func := "umbel/umbellaw01.FloatBack", spec := "floatBack", inPlace := ["math.Float64frombits", "math.Float64bits"], apart := false, narrowed := true }
def FloatBackUptoSaid : Prop := floatBackUptoRow.holds Try.pinned (OpenSpec.upto floatBackSpec)

/-- 'umbellaw01.FloatTurned', WHERE WHAT IT READS IS OF BULK AT MOST 1048576: true; the input reads as it did. -/
def floatTurnedUptoRow : OpenClaim := { program := "ytbphehijikdkjaa", sum := "37bb620860e0aae7efa838f48fd0c9cadfd1b61538c4f3619c498d43f75d78b4", func := "umbel/umbellaw01.FloatTurned", spec := "floatTurned", inPlace := ["math.Float64frombits", "math.Float64bits"], apart := false, narrowed := true }
def FloatTurnedUptoSaid : Prop := floatTurnedUptoRow.holds Try.pinned (OpenSpec.upto floatTurnedSpec)

/-- 'umbellaw01.FloatSteps', WHERE WHAT IT READS IS OF BULK AT MOST 1048576: true; the input reads as it did. -/
def floatStepsUptoRow : OpenClaim := { program := "ytbphehijikdkjaa", sum := "37bb620860e0aae7efa838f48fd0c9cadfd1b61538c4f3619c498d43f75d78b4", func := "umbel/umbellaw01.FloatSteps", spec := "floatSteps", inPlace := ["math.Float64frombits", "math.Float64bits"], apart := false, narrowed := true }
def FloatStepsUptoSaid : Prop := floatStepsUptoRow.holds Try.pinned (OpenSpec.upto floatStepsSpec)

end Rows
end Go.Proofs.Ytbphehijikdkjaa
