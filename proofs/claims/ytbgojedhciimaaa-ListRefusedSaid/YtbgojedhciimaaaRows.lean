/-
  No cell of these rows narrows 'for every input' (looked for: loops, veiled, ifaces, maps, wideKeys, modest, calm, conditions, laid).
  DERIVED. THE GIVEN ROWS OF THIS SEAT. 8 by the template 'for every input the law returns true; each argument reads behind the call as it read before'; 0 by the template 'total and deterministic' (their statements: YtbgojedhciimaaaTotals.lean).
  GIVEN WITH THE SEED: the statements are not yours to turn. If you find one false, say at which input.
  Laid BY PROGRAM, IN A SANDBOX (cutbox-rows.mjs): the forced cells as the released guide's own fill.sh prints them over the translation 016b8f6e118158ba… (all of the seat's roots in one cut). By AI agents, Wed Nov 11 2026. No macro, syntax, notation, axiom, sorry.
-/
import Derived.Test.YtbgojedhciimaaaChecked
import GoSem.Claim
import GoSem.ClaimJoined
import GoSem.ClaimMapViews
import Derived.JoinedTies
import Derived.KernelRfl
namespace Go.Proofs.Ytbgojedhciimaaa
/- THE CELL 'sum', in the pinned program and in every row, IS THE sha256 OF THE DUMP (.gsa) THAT YtbgojedhciimaaaProg.lean LOADS. Nothing in Lean hashes anything: it is a label: what it is worth is what the hold of that sum in a sandbox is worth. -/
noncomputable def Try.pinned : Pinned := { name := "ytbgojedhciimaaa", sum := "016b8f6e118158ba4bdb88aeb2a59ce55a6840da923b74faea9bebc7eca9c10a", checked := Try.checked }
namespace Rows
def none {H : Type} : Left H := { results := [], args := [] }

/-- 'umbellaw02.NibbleTells': WHATEVER THE INPUT: true; the input reads as it did. -/
def nibbleTellsSpec : ChangeSpec := { name := "nibbleTells", fn := fun _ => fun
  | [d1, d2] => { results := [.lit (.bool true)], args := [d1, d2] }
  | _ => none }
def nibbleTellsRow : OpenClaim := { program := "ytbgojedhciimaaa", sum := "016b8f6e118158ba4bdb88aeb2a59ce55a6840da923b74faea9bebc7eca9c10a", func := "umbel/umbellaw02.NibbleTells", spec := "nibbleTells", apart := false }
def NibbleTellsSaid : Prop := nibbleTellsRow.holds Try.pinned (OpenSpec.ofChange nibbleTellsSpec)

/-- ITS FALSE NEIGHBOUR: 'it returns false'. Refute it at one input. -/
def nibbleTellsWrong : ChangeSpec := { name := "nibbleTells", fn := fun _ => fun
  | [d1, d2] => { results := [.lit (.bool false)], args := [d1, d2] }
  | _ => none }
def NibbleTellsWrongFalsely : Prop := nibbleTellsRow.holds Try.pinned (OpenSpec.ofChange nibbleTellsWrong)

/-- 'umbellaw02.NibbleBack': WHATEVER THE INPUT: true; the input reads as it did. -/
def nibbleBackSpec : ChangeSpec := { name := "nibbleBack", fn := fun _ => fun
  | [d1, d2, d3] => { results := [.lit (.bool true)], args := [d1, d2, d3] }
  | _ => none }
def nibbleBackRow : OpenClaim := { program := "ytbgojedhciimaaa", sum := "016b8f6e118158ba4bdb88aeb2a59ce55a6840da923b74faea9bebc7eca9c10a", func := "umbel/umbellaw02.NibbleBack", spec := "nibbleBack", apart := false }
def NibbleBackSaid : Prop := nibbleBackRow.holds Try.pinned (OpenSpec.ofChange nibbleBackSpec)

/-- ITS FALSE NEIGHBOUR: 'it returns false'. Refute it at one input. -/
def nibbleBackWrong : ChangeSpec := { name := "nibbleBack", fn := fun _ => fun
  | [d1, d2, d3] => { results := [.lit (.bool false)], args := [d1, d2, d3] }
  | _ => none }
def NibbleBackWrongFalsely : Prop := nibbleBackRow.holds Try.pinned (OpenSpec.ofChange nibbleBackWrong)

/-- 'umbellaw02.NibbleCommon': WHATEVER THE INPUT: true; the input reads as it did. -/
def nibbleCommonSpec : ChangeSpec := { name := "nibbleCommon", fn := fun _ => fun
  | [d1, d2] => { results := [.lit (.bool true)], args := [d1, d2] }
  | _ => none }
def nibbleCommonRow : OpenClaim := { program := "ytbgojedhciimaaa", sum := "016b8f6e118158ba4bdb88aeb2a59ce55a6840da923b74faea9bebc7eca9c10a", func := "umbel/umbellaw02.NibbleCommon", spec := "nibbleCommon", apart := false }
def NibbleCommonSaid : Prop := nibbleCommonRow.holds Try.pinned (OpenSpec.ofChange nibbleCommonSpec)

/-- ITS FALSE NEIGHBOUR: 'it returns false'. Refute it at one input. -/
def nibbleCommonWrong : ChangeSpec := { name := "nibbleCommon", fn := fun _ => fun
  | [d1, d2] => { results := [.lit (.bool false)], args := [d1, d2] }
  | _ => none }
def NibbleCommonWrongFalsely : Prop := nibbleCommonRow.holds Try.pinned (OpenSpec.ofChange nibbleCommonWrong)

/-- 'umbellaw02.NibblePlaces': WHATEVER THE INPUT: true; the input reads as it did. -/
def nibblePlacesSpec : ChangeSpec := { name := "nibblePlaces", fn := fun _ => fun
  | [d1, d2] => { results := [.lit (.bool true)], args := [d1, d2] }
  | _ => none }
def nibblePlacesRow : OpenClaim := { program := "ytbgojedhciimaaa", sum := "016b8f6e118158ba4bdb88aeb2a59ce55a6840da923b74faea9bebc7eca9c10a", func := "umbel/umbellaw02.NibblePlaces", spec := "nibblePlaces", apart := false }
def NibblePlacesSaid : Prop := nibblePlacesRow.holds Try.pinned (OpenSpec.ofChange nibblePlacesSpec)

/-- ITS FALSE NEIGHBOUR: 'it returns false'. Refute it at one input. -/
def nibblePlacesWrong : ChangeSpec := { name := "nibblePlaces", fn := fun _ => fun
  | [d1, d2] => { results := [.lit (.bool false)], args := [d1, d2] }
  | _ => none }
def NibblePlacesWrongFalsely : Prop := nibblePlacesRow.holds Try.pinned (OpenSpec.ofChange nibblePlacesWrong)

/-- 'umbellaw02.NibbleOrder': WHATEVER THE INPUT: true; the input reads as it did. -/
def nibbleOrderSpec : ChangeSpec := { name := "nibbleOrder", fn := fun _ => fun
  | [d1, d2] => { results := [.lit (.bool true)], args := [d1, d2] }
  | _ => none }
def nibbleOrderRow : OpenClaim := { program := "ytbgojedhciimaaa", sum := "016b8f6e118158ba4bdb88aeb2a59ce55a6840da923b74faea9bebc7eca9c10a", func := "umbel/umbellaw02.NibbleOrder", spec := "nibbleOrder", apart := false }
def NibbleOrderSaid : Prop := nibbleOrderRow.holds Try.pinned (OpenSpec.ofChange nibbleOrderSpec)

/-- ITS FALSE NEIGHBOUR: 'it returns false'. Refute it at one input. -/
def nibbleOrderWrong : ChangeSpec := { name := "nibbleOrder", fn := fun _ => fun
  | [d1, d2] => { results := [.lit (.bool false)], args := [d1, d2] }
  | _ => none }
def NibbleOrderWrongFalsely : Prop := nibbleOrderRow.holds Try.pinned (OpenSpec.ofChange nibbleOrderWrong)

/-- 'umbellaw22.ListTells': WHATEVER THE INPUT: true; the input reads as it did. -/
def listTellsSpec : ChangeSpec := { name := "listTells", fn := fun _ => fun
  | [d1, d2, d3] => { results := [.lit (.bool true)], args := [d1, d2, d3] }
  | _ => none }
def listTellsRow : OpenClaim := { program := "ytbgojedhciimaaa", sum := "016b8f6e118158ba4bdb88aeb2a59ce55a6840da923b74faea9bebc7eca9c10a", func := "umbel/umbellaw22.ListTells", spec := "listTells", unfollowed := true, recurses := true, apart := false }
def ListTellsSaid : Prop := listTellsRow.holds Try.pinned (OpenSpec.ofChange listTellsSpec)

/-- ITS FALSE NEIGHBOUR: 'it returns false'. Refute it at one input. -/
def listTellsWrong : ChangeSpec := { name := "listTells", fn := fun _ => fun
  | [d1, d2, d3] => { results := [.lit (.bool false)], args := [d1, d2, d3] }
  | _ => none }
def ListTellsWrongFalsely : Prop := listTellsRow.holds Try.pinned (OpenSpec.ofChange listTellsWrong)

/-- 'umbellaw22.ListBack': WHATEVER THE INPUT: true; the input reads as it did. -/
def listBackSpec : ChangeSpec := { name := "listBack", fn := fun _ => fun
  | [d1, d2, d3] => { results := [.lit (.bool true)], args := [d1, d2, d3] }
  | _ => none }
def listBackRow : OpenClaim := { program := "ytbgojedhciimaaa", sum := "016b8f6e118158ba4bdb88aeb2a59ce55a6840da923b74faea9bebc7eca9c10a", func := "umbel/umbellaw22.ListBack", spec := "listBack", unfollowed := true, recurses := true, apart := false }
def ListBackSaid : Prop := listBackRow.holds Try.pinned (OpenSpec.ofChange listBackSpec)

/-- ITS FALSE NEIGHBOUR: 'it returns false'. Refute it at one input. -/
def listBackWrong : ChangeSpec := { name := "listBack", fn := fun _ => fun
  | [d1, d2, d3] => { results := [.lit (.bool false)], args := [d1, d2, d3] }
  | _ => none }
def ListBackWrongFalsely : Prop := listBackRow.holds Try.pinned (OpenSpec.ofChange listBackWrong)

/-- 'umbellaw22.ListRefused': WHATEVER THE INPUT: true; the input reads as it did. -/
def listRefusedSpec : ChangeSpec := { name := "listRefused", fn := fun _ => fun
  | [d1, d2, d3] => { results := [.lit (.bool true)], args := [d1, d2, d3] }
  | _ => none }
def listRefusedRow : OpenClaim := { program := "ytbgojedhciimaaa", sum := "016b8f6e118158ba4bdb88aeb2a59ce55a6840da923b74faea9bebc7eca9c10a", func := "umbel/umbellaw22.ListRefused", spec := "listRefused", unfollowed := true, recurses := true, apart := false }
def ListRefusedSaid : Prop := listRefusedRow.holds Try.pinned (OpenSpec.ofChange listRefusedSpec)

/-- ITS FALSE NEIGHBOUR: 'it returns false'. Refute it at one input. -/
def listRefusedWrong : ChangeSpec := { name := "listRefused", fn := fun _ => fun
  | [d1, d2, d3] => { results := [.lit (.bool false)], args := [d1, d2, d3] }
  | _ => none }
def ListRefusedWrongFalsely : Prop := listRefusedRow.holds Try.pinned (OpenSpec.ofChange listRefusedWrong)

/- THE SECOND FORM. 'bulk': how many values and letters a reading holds, each counted each time it is reached (what is shared counts as often as it is met; a slice's spare places count too). A statement '..UptoSaid' is the law's where the arguments, and the package variables that the reading takes, are together of bulk at most 1048576: NARROWER than '..Said'. Prove '..Said' where nothing that the law and all that it calls make is longer than what came in: it says more and counts as full. Else prove '..UptoSaid'. A law counts once. -/
mutual
def uptoBulk {H : Type} : DataW H → Nat
  | .lit (.string bytes) => bytes.length + 1
  | .lit _ => 1
  | .nil => 1
  | .ptr d => uptoBulk d + 1
  | .slice elems spare => uptoBulkAll elems + uptoBulkAll spare + 1
  | .agg parts => uptoBulkAll parts + 1
  | .iface _ d => uptoBulk d + 1
  | .map entries => uptoBulkEntries entries + 1
  | .held _ => 1
def uptoBulkAll {H : Type} : List (DataW H) → Nat
  | [] => 0
  | d :: r => uptoBulk d + uptoBulkAll r
def uptoBulkEntries {H : Type} : List (Lit × DataW H) → Nat
  | [] => 0
  | x :: r => uptoBulkEntry x + uptoBulkEntries r
def uptoBulkEntry {H : Type} : Lit × DataW H → Nat
  | (.string bytes, d) => bytes.length + uptoBulk d + 1
  | (_, d) => uptoBulk d + 1
 end
def uptoSmall : (H : Type) → List (DataW H) → Bool := fun _ ds => decide (uptoBulkAll ds ≤ 1048576)
def OpenSpec.upto (s : _root_.Go.ChangeSpec) : _root_.Go.OpenSpec := { _root_.Go.OpenSpec.ofChange s with cond := some uptoSmall }

/-- 'umbellaw02.NibbleTells', WHERE WHAT IT READS IS OF BULK AT MOST 1048576: true; the input reads as it did. -/
def nibbleTellsUptoRow : OpenClaim := { program := "ytbgojedhciimaaa", sum := "016b8f6e118158ba4bdb88aeb2a59ce55a6840da923b74faea9bebc7eca9c10a", func := "umbel/umbellaw02.NibbleTells", spec := "nibbleTells", apart := false, narrowed := true }
def NibbleTellsUptoSaid : Prop := nibbleTellsUptoRow.holds Try.pinned (OpenSpec.upto nibbleTellsSpec)

/-- 'umbellaw02.NibbleBack', WHERE WHAT IT READS IS OF BULK AT MOST 1048576: true; the input reads as it did. -/
def nibbleBackUptoRow : OpenClaim := { program := "ytbgojedhciimaaa", sum := "016b8f6e118158ba4bdb88aeb2a59ce55a6840da923b74faea9bebc7eca9c10a", func := "umbel/umbellaw02.NibbleBack", spec := "nibbleBack", apart := false, narrowed := true }
def NibbleBackUptoSaid : Prop := nibbleBackUptoRow.holds Try.pinned (OpenSpec.upto nibbleBackSpec)

/-- 'umbellaw02.NibbleCommon', WHERE WHAT IT READS IS OF BULK AT MOST 1048576: true; the input reads as it did. -/
def nibbleCommonUptoRow : OpenClaim := { program := "ytbgojedhciimaaa", sum := "016b8f6e118158ba4bdb88aeb2a59ce55a6840da923b74faea9bebc7eca9c10a", func := "umbel/umbellaw02.NibbleCommon", spec := "nibbleCommon", apart := false, narrowed := true }
def NibbleCommonUptoSaid : Prop := nibbleCommonUptoRow.holds Try.pinned (OpenSpec.upto nibbleCommonSpec)

/-- 'umbellaw02.NibblePlaces', WHERE WHAT IT READS IS OF BULK AT MOST 1048576: true; the input reads as it did. -/
def nibblePlacesUptoRow : OpenClaim := { program := "ytbgojedhciimaaa", sum := "016b8f6e118158ba4bdb88aeb2a59ce55a6840da923b74faea9bebc7eca9c10a", func := "umbel/umbellaw02.NibblePlaces", spec := "nibblePlaces", apart := false, narrowed := true }
def NibblePlacesUptoSaid : Prop := nibblePlacesUptoRow.holds Try.pinned (OpenSpec.upto nibblePlacesSpec)

/-- 'umbellaw02.NibbleOrder', WHERE WHAT IT READS IS OF BULK AT MOST 1048576: true; the input reads as it did. -/
def nibbleOrderUptoRow : OpenClaim := { program := "ytbgojedhciimaaa", sum := "016b8f6e118158ba4bdb88aeb2a59ce55a6840da923b74faea9bebc7eca9c10a", func := "umbel/umbellaw02.NibbleOrder", spec := "nibbleOrder", apart := false, narrowed := true }
def NibbleOrderUptoSaid : Prop := nibbleOrderUptoRow.holds Try.pinned (OpenSpec.upto nibbleOrderSpec)

/-- 'umbellaw22.ListTells', WHERE WHAT IT READS IS OF BULK AT MOST 1048576: true; the input reads as it did. -/
def listTellsUptoRow : OpenClaim := { program := "ytbgojedhciimaaa", sum := "016b8f6e118158ba4bdb88aeb2a59ce55a6840da923b74faea9bebc7eca9c10a", func := "umbel/umbellaw22.ListTells", spec := "listTells", unfollowed := true, recurses := true, apart := false, narrowed := true }
def ListTellsUptoSaid : Prop := listTellsUptoRow.holds Try.pinned (OpenSpec.upto listTellsSpec)

/-- 'umbellaw22.ListBack', WHERE WHAT IT READS IS OF BULK AT MOST 1048576: true; the input reads as it did. -/
def listBackUptoRow : OpenClaim := { program := "ytbgojedhciimaaa", sum := "016b8f6e118158ba4bdb88aeb2a59ce55a6840da923b74faea9bebc7eca9c10a", func := "umbel/umbellaw22.ListBack", spec := "listBack", unfollowed := true, recurses := true, apart := false, narrowed := true }
def ListBackUptoSaid : Prop := listBackUptoRow.holds Try.pinned (OpenSpec.upto listBackSpec)

/-- 'umbellaw22.ListRefused', WHERE WHAT IT READS IS OF BULK AT MOST 1048576: true; the input reads as it did. -/
def listRefusedUptoRow : OpenClaim := { program := "ytbgojedhciimaaa", sum := "016b8f6e118158ba4bdb88aeb2a59ce55a6840da923b74faea9bebc7eca9c10a", func := "umbel/umbellaw22.ListRefused", spec := "listRefused", unfollowed := true, recurses := true, apart := false, narrowed := true }
def ListRefusedUptoSaid : Prop := listRefusedUptoRow.holds Try.pinned (OpenSpec.upto listRefusedSpec)

end Rows
end Go.Proofs.Ytbgojedhciimaaa
