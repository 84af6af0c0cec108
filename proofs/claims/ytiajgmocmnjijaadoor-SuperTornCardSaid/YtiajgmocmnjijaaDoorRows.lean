/-
  NARROWER THAN 'FOR EVERY INPUT', by the rows' own cells (each row's printed sentence says how): PageTells: laid · PageBack: laid · PagePlaces: laid · SuperTells: laid · SuperTorn: laid · SuperChooses: laid · SuperFields: laid.
  DERIVED. THE GIVEN ROWS OF THIS SEAT. 7 by the template 'for every input the law returns true; each argument reads behind the call as it read before'; 0 by the template 'total and deterministic' (their statements: YtiajgmocmnjijaaDoorTotals.lean).
  GIVEN WITH THE SEED: the statements are not yours to turn. If you find one false, say at which input.
  Laid BY PROGRAM, IN A SANDBOX (cutbox-rows.mjs): the forced cells as the released guide's own fill.sh prints them over the translation d4ea433fdaa14315… (all of the seat's roots in one cut). By AI agents, Wed Nov 11 2026. No macro, syntax, notation, axiom, sorry.
-/
import Derived.Test.YtiajgmocmnjijaaDoorChecked
import GoSem.Claim
import GoSem.ClaimJoined
import GoSem.ClaimMapViews
import Derived.JoinedTies
import Derived.KernelRfl
namespace Go.Proofs.YtiajgmocmnjijaaDoor
/- THE CELL 'sum', in the pinned program and in every row, IS THE sha256 OF THE DUMP (.gsa) THAT YtiajgmocmnjijaaDoorProg.lean LOADS. Nothing in Lean hashes anything: it is a label: what it is worth is what the hold of that sum in a sandbox is worth. -/
noncomputable def Tryd.pinned : Pinned := { name := "ytiajgmocmnjijaadoor", sum := "d4ea433fdaa143156fa4d73f99c8eb61e51dfe825fd9c50ef49da800ac86486f", checked := Tryd.checked }
namespace Rows
def none {H : Type} : Left H := { results := [], args := [] }

/- WHAT THE LISTED PACKAGE-LEVEL VARIABLES READ AS WHEN THE CALL BEGINS. Each datum BY PROGRAM (the guide's laid-datum.mjs) off the statement by which the dump's own 'gosem.cut.vars' lays the variable. In a bare row this is a premise. The card (YtiajgmocmnjijaaDoorCards.lean) ties it to the program's text. -/
def laid_umbel_sum_steps {H : Type} : DataW H := .agg [.lit (.int .u32 0), .lit (.int .u32 274646895), .lit (.int .u32 549293790), .lit (.int .u32 820201905), .lit (.int .u32 1098587580), .lit (.int .u32 1361435347), .lit (.int .u32 1640403810), .lit (.int .u32 1905808397), .lit (.int .u32 2197175160), .lit (.int .u32 2460548119), .lit (.int .u32 2722870694), .lit (.int .u32 2987750089), .lit (.int .u32 3280807620), .lit (.int .u32 3553878443), .lit (.int .u32 3811616794), .lit (.int .u32 4084100981)]

/-- 'umbellaw07.PageTells': WHATEVER THE INPUT: true; the input reads as it did. -/
def pageTellsSpec : ChangeSpec := { name := "pageTells", fn := fun _ => fun
  | [d1, d2, d3] => { results := [.lit (.bool true)], args := [d1, d2, d3] }
  | _ => none }
def pageTellsRow : OpenClaim := { program := "ytiajgmocmnjijaadoor", sum := "d4ea433fdaa143156fa4d73f99c8eb61e51dfe825fd9c50ef49da800ac86486f", func := "umbel/umbellaw07.PageTells", spec := "pageTells", inPlace := ["internal/abi.NoEscape", "internal/bytealg.MakeNoZero"], named := ["umbel/sum.steps"], apart := false, laid := [("umbel/sum.steps", laid_umbel_sum_steps)] }
def PageTellsSaid : Prop := pageTellsRow.holds Tryd.pinned (OpenSpec.ofChange pageTellsSpec)

/-- ITS FALSE NEIGHBOUR: 'it returns false'. Refute it at one input. -/
def pageTellsWrong : ChangeSpec := { name := "pageTells", fn := fun _ => fun
  | [d1, d2, d3] => { results := [.lit (.bool false)], args := [d1, d2, d3] }
  | _ => none }
def PageTellsWrongFalsely : Prop := pageTellsRow.holds Tryd.pinned (OpenSpec.ofChange pageTellsWrong)

/-- 'umbellaw07.PageBack': WHATEVER THE INPUT: true; the input reads as it did. -/
def pageBackSpec : ChangeSpec := { name := "pageBack", fn := fun _ => fun
  | [d1, d2, d3] => { results := [.lit (.bool true)], args := [d1, d2, d3] }
  | _ => none }
def pageBackRow : OpenClaim := { program := "ytiajgmocmnjijaadoor", sum := "d4ea433fdaa143156fa4d73f99c8eb61e51dfe825fd9c50ef49da800ac86486f", func := "umbel/umbellaw07.PageBack", spec := "pageBack", inPlace := ["internal/abi.NoEscape", "internal/bytealg.MakeNoZero"], named := ["umbel/sum.steps"], apart := false, laid := [("umbel/sum.steps", laid_umbel_sum_steps)] }
def PageBackSaid : Prop := pageBackRow.holds Tryd.pinned (OpenSpec.ofChange pageBackSpec)

/-- ITS FALSE NEIGHBOUR: 'it returns false'. Refute it at one input. -/
def pageBackWrong : ChangeSpec := { name := "pageBack", fn := fun _ => fun
  | [d1, d2, d3] => { results := [.lit (.bool false)], args := [d1, d2, d3] }
  | _ => none }
def PageBackWrongFalsely : Prop := pageBackRow.holds Tryd.pinned (OpenSpec.ofChange pageBackWrong)

/-- 'umbellaw07.PagePlaces': WHATEVER THE INPUT: true; the input reads as it did. -/
def pagePlacesSpec : ChangeSpec := { name := "pagePlaces", fn := fun _ => fun
  | [d1, d2] => { results := [.lit (.bool true)], args := [d1, d2] }
  | _ => none }
def pagePlacesRow : OpenClaim := { program := "ytiajgmocmnjijaadoor", sum := "d4ea433fdaa143156fa4d73f99c8eb61e51dfe825fd9c50ef49da800ac86486f", func := "umbel/umbellaw07.PagePlaces", spec := "pagePlaces", inPlace := ["internal/abi.NoEscape", "internal/bytealg.MakeNoZero"], named := ["umbel/sum.steps"], apart := false, laid := [("umbel/sum.steps", laid_umbel_sum_steps)] }
def PagePlacesSaid : Prop := pagePlacesRow.holds Tryd.pinned (OpenSpec.ofChange pagePlacesSpec)

/-- ITS FALSE NEIGHBOUR: 'it returns false'. Refute it at one input. -/
def pagePlacesWrong : ChangeSpec := { name := "pagePlaces", fn := fun _ => fun
  | [d1, d2] => { results := [.lit (.bool false)], args := [d1, d2] }
  | _ => none }
def PagePlacesWrongFalsely : Prop := pagePlacesRow.holds Tryd.pinned (OpenSpec.ofChange pagePlacesWrong)

/-- 'umbellaw23.SuperTells': WHATEVER THE INPUT: true; the input reads as it did. -/
def superTellsSpec : ChangeSpec := { name := "superTells", fn := fun _ => fun
  | [d1, d2, d3] => { results := [.lit (.bool true)], args := [d1, d2, d3] }
  | _ => none }
def superTellsRow : OpenClaim := { program := "ytiajgmocmnjijaadoor", sum := "d4ea433fdaa143156fa4d73f99c8eb61e51dfe825fd9c50ef49da800ac86486f", func := "umbel/umbellaw23.SuperTells", spec := "superTells", inPlace := ["internal/abi.NoEscape", "internal/bytealg.MakeNoZero"], named := ["umbel/sum.steps"], apart := false, laid := [("umbel/sum.steps", laid_umbel_sum_steps)] }
def SuperTellsSaid : Prop := superTellsRow.holds Tryd.pinned (OpenSpec.ofChange superTellsSpec)

/-- ITS FALSE NEIGHBOUR: 'it returns false'. Refute it at one input. -/
def superTellsWrong : ChangeSpec := { name := "superTells", fn := fun _ => fun
  | [d1, d2, d3] => { results := [.lit (.bool false)], args := [d1, d2, d3] }
  | _ => none }
def SuperTellsWrongFalsely : Prop := superTellsRow.holds Tryd.pinned (OpenSpec.ofChange superTellsWrong)

/-- 'umbellaw23.SuperTorn': WHATEVER THE INPUT: true; the input reads as it did. -/
def superTornSpec : ChangeSpec := { name := "superTorn", fn := fun _ => fun
  | [d1, d2, d3] => { results := [.lit (.bool true)], args := [d1, d2, d3] }
  | _ => none }
def superTornRow : OpenClaim := { program := "ytiajgmocmnjijaadoor", sum := "d4ea433fdaa143156fa4d73f99c8eb61e51dfe825fd9c50ef49da800ac86486f", func := "umbel/umbellaw23.SuperTorn", spec := "superTorn", inPlace := ["internal/abi.NoEscape", "internal/bytealg.MakeNoZero"], named := ["umbel/sum.steps"], apart := false, laid := [("umbel/sum.steps", laid_umbel_sum_steps)] }
def SuperTornSaid : Prop := superTornRow.holds Tryd.pinned (OpenSpec.ofChange superTornSpec)

/-- ITS FALSE NEIGHBOUR: 'it returns false'. Refute it at one input. -/
def superTornWrong : ChangeSpec := { name := "superTorn", fn := fun _ => fun
  | [d1, d2, d3] => { results := [.lit (.bool false)], args := [d1, d2, d3] }
  | _ => none }
def SuperTornWrongFalsely : Prop := superTornRow.holds Tryd.pinned (OpenSpec.ofChange superTornWrong)

/-- 'umbellaw23.SuperChooses': WHATEVER THE INPUT: true; the input reads as it did. -/
def superChoosesSpec : ChangeSpec := { name := "superChooses", fn := fun _ => fun
  | [d1, d2, d3] => { results := [.lit (.bool true)], args := [d1, d2, d3] }
  | _ => none }
def superChoosesRow : OpenClaim := { program := "ytiajgmocmnjijaadoor", sum := "d4ea433fdaa143156fa4d73f99c8eb61e51dfe825fd9c50ef49da800ac86486f", func := "umbel/umbellaw23.SuperChooses", spec := "superChooses", inPlace := ["internal/abi.NoEscape", "internal/bytealg.MakeNoZero"], named := ["umbel/sum.steps"], apart := false, laid := [("umbel/sum.steps", laid_umbel_sum_steps)] }
def SuperChoosesSaid : Prop := superChoosesRow.holds Tryd.pinned (OpenSpec.ofChange superChoosesSpec)

/-- ITS FALSE NEIGHBOUR: 'it returns false'. Refute it at one input. -/
def superChoosesWrong : ChangeSpec := { name := "superChooses", fn := fun _ => fun
  | [d1, d2, d3] => { results := [.lit (.bool false)], args := [d1, d2, d3] }
  | _ => none }
def SuperChoosesWrongFalsely : Prop := superChoosesRow.holds Tryd.pinned (OpenSpec.ofChange superChoosesWrong)

/-- 'umbellaw23.SuperFields': WHATEVER THE INPUT: true; the input reads as it did. -/
def superFieldsSpec : ChangeSpec := { name := "superFields", fn := fun _ => fun
  | [d1, d2] => { results := [.lit (.bool true)], args := [d1, d2] }
  | _ => none }
def superFieldsRow : OpenClaim := { program := "ytiajgmocmnjijaadoor", sum := "d4ea433fdaa143156fa4d73f99c8eb61e51dfe825fd9c50ef49da800ac86486f", func := "umbel/umbellaw23.SuperFields", spec := "superFields", inPlace := ["internal/abi.NoEscape", "internal/bytealg.MakeNoZero"], named := ["umbel/sum.steps"], apart := false, laid := [("umbel/sum.steps", laid_umbel_sum_steps)] }
def SuperFieldsSaid : Prop := superFieldsRow.holds Tryd.pinned (OpenSpec.ofChange superFieldsSpec)

/-- ITS FALSE NEIGHBOUR: 'it returns false'. Refute it at one input. -/
def superFieldsWrong : ChangeSpec := { name := "superFields", fn := fun _ => fun
  | [d1, d2] => { results := [.lit (.bool false)], args := [d1, d2] }
  | _ => none }
def SuperFieldsWrongFalsely : Prop := superFieldsRow.holds Tryd.pinned (OpenSpec.ofChange superFieldsWrong)

/- THE SECOND FORM. 'bulk': how many values and letters a reading holds, each counted each time it is reached (what is shared counts as often as it is met; a slice's spare places count too). A statement '..UptoSaid' is the law's where the arguments, and the package variables that the reading takes, are together of bulk at most 1048576: NARROWER than '..Said'. Prove '..Said' where nothing that the law and all that it calls make is longer than what came in: it says more and counts as full. Else prove '..UptoSaid'. A law counts once. -/
mutual
def uptoBulk {H : Type} : DataW H → Nat
  | .lit (.string bytes) => bytes.length + 1
  | .lit _ => 1
  | .nil => 1
  | .ptr d => uptoBulk d + 1
  | .slice elems spare => uptoBulkAll elems + uptoBulkAll spare + 1
  | .agg parts => uptoBulkAll parts + 1
  | .iface _ d => uptoBulk d + 1
  | .map entries => uptoBulkEntries entries + 1
  | .held _ => 1
def uptoBulkAll {H : Type} : List (DataW H) → Nat
  | [] => 0
  | d :: r => uptoBulk d + uptoBulkAll r
def uptoBulkEntries {H : Type} : List (Lit × DataW H) → Nat
  | [] => 0
  | x :: r => uptoBulkEntry x + uptoBulkEntries r
def uptoBulkEntry {H : Type} : Lit × DataW H → Nat
  | (.string bytes, d) => bytes.length + uptoBulk d + 1
  | (_, d) => uptoBulk d + 1
 end
def uptoSmall : (H : Type) → List (DataW H) → Bool := fun _ ds => decide (uptoBulkAll ds ≤ 1048576)
def OpenSpec.upto (s : _root_.Go.ChangeSpec) : _root_.Go.OpenSpec := { _root_.Go.OpenSpec.ofChange s with cond := some uptoSmall }

/-- 'umbellaw07.PageTells', WHERE WHAT IT READS IS OF BULK AT MOST 1048576: true; the input reads as it did. -/
def pageTellsUptoRow : OpenClaim := { program := "ytiajgmocmnjijaadoor", sum := "d4ea433fdaa143156fa4d73f99c8eb61e51dfe825fd9c50ef49da800ac86486f", func := "umbel/umbellaw07.PageTells", spec := "pageTells", inPlace := ["internal/abi.NoEscape", "internal/bytealg.MakeNoZero"], named := ["umbel/sum.steps"], apart := false, laid := [("umbel/sum.steps", laid_umbel_sum_steps)], narrowed := true }
def PageTellsUptoSaid : Prop := pageTellsUptoRow.holds Tryd.pinned (OpenSpec.upto pageTellsSpec)

/-- 'umbellaw07.PageBack', WHERE WHAT IT READS IS OF BULK AT MOST 1048576: true; the input reads as it did. -/
def pageBackUptoRow : OpenClaim := { program := "ytiajgmocmnjijaadoor", sum := "d4ea433fdaa143156fa4d73f99c8eb61e51dfe825fd9c50ef49da800ac86486f", func := "umbel/umbellaw07.PageBack", spec := "pageBack", inPlace := ["internal/abi.NoEscape", "internal/bytealg.MakeNoZero"], named := ["umbel/sum.steps"], apart := false, laid := [("umbel/sum.steps", laid_umbel_sum_steps)], narrowed := true }
def PageBackUptoSaid : Prop := pageBackUptoRow.holds Tryd.pinned (OpenSpec.upto pageBackSpec)

/-- 'umbellaw07.PagePlaces', WHERE WHAT IT READS IS OF BULK AT MOST 1048576: true; the input reads as it did. -/
def pagePlacesUptoRow : OpenClaim := { program := "ytiajgmocmnjijaadoor", sum := "d4ea433fdaa143156fa4d73f99c8eb61e51dfe825fd9c50ef49da800ac86486f", func := "umbel/umbellaw07.PagePlaces", spec := "pagePlaces", inPlace := ["internal/abi.NoEscape", "internal/bytealg.MakeNoZero"], named := ["umbel/sum.steps"], apart := false, laid := [("umbel/sum.steps", laid_umbel_sum_steps)], narrowed := true }
def PagePlacesUptoSaid : Prop := pagePlacesUptoRow.holds Tryd.pinned (OpenSpec.upto pagePlacesSpec)

/-- 'umbellaw23.SuperTells', WHERE WHAT IT READS IS OF BULK AT MOST 1048576: true; the input reads as it did. -/
def superTellsUptoRow : OpenClaim := { program := "ytiajgmocmnjijaadoor", sum := "d4ea433fdaa143156fa4d73f99c8eb61e51dfe825fd9c50ef49da800ac86486f", func := "umbel/umbellaw23.SuperTells", spec := "superTells", inPlace := ["internal/abi.NoEscape", "internal/bytealg.MakeNoZero"], named := ["umbel/sum.steps"], apart := false, laid := [("umbel/sum.steps", laid_umbel_sum_steps)], narrowed := true }
def SuperTellsUptoSaid : Prop := superTellsUptoRow.holds Tryd.pinned (OpenSpec.upto superTellsSpec)

/-- 'umbellaw23.SuperTorn', WHERE WHAT IT READS IS OF BULK AT MOST 1048576: true; the input reads as it did. -/
def superTornUptoRow : OpenClaim := { program := "ytiajgmocmnjijaadoor", sum := "d4ea433fdaa143156fa4d73f99c8eb61e51dfe825fd9c50ef49da800ac86486f", func := "umbel/umbellaw23.SuperTorn", spec := "superTorn", inPlace := ["internal/abi.NoEscape", "internal/bytealg.MakeNoZero"], named := ["umbel/sum.steps"], apart := false, laid := [("umbel/sum.steps", laid_umbel_sum_steps)], narrowed := true }
def SuperTornUptoSaid : Prop := superTornUptoRow.holds Tryd.pinned (OpenSpec.upto superTornSpec)

/-- 'umbellaw23.SuperChooses', WHERE WHAT IT READS IS OF BULK AT MOST 1048576: true; the input reads as it did. -/
def superChoosesUptoRow : OpenClaim := { program := "ytiajgmocmnjijaadoor", sum := "d4ea433fdaa143156fa4d73f99c8eb61e51dfe825fd9c50ef49da800ac86486f", func := "umbel/umbellaw23.SuperChooses", spec := "superChooses", inPlace := ["internal/abi.NoEscape", "internal/bytealg.MakeNoZero"], named := ["umbel/sum.steps"], apart := false, laid := [("umbel/sum.steps", laid_umbel_sum_steps)], narrowed := true }
def SuperChoosesUptoSaid : Prop := superChoosesUptoRow.holds Tryd.pinned (OpenSpec.upto superChoosesSpec)

/-- 'umbellaw23.SuperFields', WHERE WHAT IT READS IS OF BULK AT MOST 1048576: true; the input reads as it did. -/
def superFieldsUptoRow : OpenClaim := { program := "ytiajgmocmnjijaadoor", sum := "d4ea433fdaa143156fa4d73f99c8eb61e51dfe825fd9c50ef49da800ac86486f", func := "umbel/umbellaw23.SuperFields", spec := "superFields", inPlace := ["internal/abi.NoEscape", "internal/bytealg.MakeNoZero"], named := ["umbel/sum.steps"], apart := false, laid := [("umbel/sum.steps", laid_umbel_sum_steps)], narrowed := true }
def SuperFieldsUptoSaid : Prop := superFieldsUptoRow.holds Tryd.pinned (OpenSpec.upto superFieldsSpec)

end Rows
end Go.Proofs.YtiajgmocmnjijaaDoor
