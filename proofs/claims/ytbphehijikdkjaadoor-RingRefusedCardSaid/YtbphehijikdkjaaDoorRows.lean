/-
  NARROWER THAN 'FOR EVERY INPUT', by the rows' own cells (each row's printed sentence says how): DigestTells: laid · DigestSteps: laid · DigestPads: laid · DigestHexes: laid · RingTells: laid · RingBack: laid · RingRefused: laid.
  DERIVED. THE GIVEN ROWS OF THIS SEAT. 7 by the template 'for every input the law returns true; each argument reads behind the call as it read before'; 0 by the template 'total and deterministic' (their statements: YtbphehijikdkjaaDoorTotals.lean).
  GIVEN WITH THE SEED: the statements are not yours to turn. If you find one false, say at which input.
  Laid BY PROGRAM, IN A SANDBOX (cutbox-rows.mjs): the forced cells as the released guide's own fill.sh prints them over the translation 4aad7a93843f3688… (all of the seat's roots in one cut). By AI agents, Wed Nov 11 2026. No macro, syntax, notation, axiom, sorry.
-/
import Derived.Test.YtbphehijikdkjaaDoorChecked
import GoSem.Claim
import GoSem.ClaimJoined
import GoSem.ClaimMapViews
import Derived.JoinedTies
import Derived.KernelRfl
namespace Go.Proofs.YtbphehijikdkjaaDoor
/- THE CELL 'sum', in the pinned program and in every row, IS THE sha256 OF THE DUMP (.gsa) THAT YtbphehijikdkjaaDoorProg.lean LOADS. Nothing in Lean hashes anything: it is a label: what it is worth is what the hold of that sum in a sandbox is worth. -/
noncomputable def Tryd.pinned : Pinned := { name := "ytbphehijikdkjaadoor", sum := "4aad7a93843f3688414876f405071258952040c83320027699bc6d43f2a0e7fd", checked := Tryd.checked }
namespace Rows
def none {H : Type} : Left H := { results := [], args := [] }

/- WHAT THE LISTED PACKAGE-LEVEL VARIABLES READ AS WHEN THE CALL BEGINS. Each datum BY PROGRAM (the guide's laid-datum.mjs) off the statement by which the dump's own 'gosem.cut.vars' lays the variable. In a bare row this is a premise. The card (YtbphehijikdkjaaDoorCards.lean) ties it to the program's text. -/
def laid_umbel_digest_begin {H : Type} : DataW H := .agg [.lit (.int .u32 1779033703), .lit (.int .u32 3144134277), .lit (.int .u32 1013904242), .lit (.int .u32 2773480762), .lit (.int .u32 1359893119), .lit (.int .u32 2600822924), .lit (.int .u32 528734635), .lit (.int .u32 1541459225)]
def laid_umbel_digest_rounds {H : Type} : DataW H := .agg [.lit (.int .u32 1116352408), .lit (.int .u32 1899447441), .lit (.int .u32 3049323471), .lit (.int .u32 3921009573), .lit (.int .u32 961987163), .lit (.int .u32 1508970993), .lit (.int .u32 2453635748), .lit (.int .u32 2870763221), .lit (.int .u32 3624381080), .lit (.int .u32 310598401), .lit (.int .u32 607225278), .lit (.int .u32 1426881987), .lit (.int .u32 1925078388), .lit (.int .u32 2162078206), .lit (.int .u32 2614888103), .lit (.int .u32 3248222580), .lit (.int .u32 3835390401), .lit (.int .u32 4022224774), .lit (.int .u32 264347078), .lit (.int .u32 604807628), .lit (.int .u32 770255983), .lit (.int .u32 1249150122), .lit (.int .u32 1555081692), .lit (.int .u32 1996064986), .lit (.int .u32 2554220882), .lit (.int .u32 2821834349), .lit (.int .u32 2952996808), .lit (.int .u32 3210313671), .lit (.int .u32 3336571891), .lit (.int .u32 3584528711), .lit (.int .u32 113926993), .lit (.int .u32 338241895), .lit (.int .u32 666307205), .lit (.int .u32 773529912), .lit (.int .u32 1294757372), .lit (.int .u32 1396182291), .lit (.int .u32 1695183700), .lit (.int .u32 1986661051), .lit (.int .u32 2177026350), .lit (.int .u32 2456956037), .lit (.int .u32 2730485921), .lit (.int .u32 2820302411), .lit (.int .u32 3259730800), .lit (.int .u32 3345764771), .lit (.int .u32 3516065817), .lit (.int .u32 3600352804), .lit (.int .u32 4094571909), .lit (.int .u32 275423344), .lit (.int .u32 430227734), .lit (.int .u32 506948616), .lit (.int .u32 659060556), .lit (.int .u32 883997877), .lit (.int .u32 958139571), .lit (.int .u32 1322822218), .lit (.int .u32 1537002063), .lit (.int .u32 1747873779), .lit (.int .u32 1955562222), .lit (.int .u32 2024104815), .lit (.int .u32 2227730452), .lit (.int .u32 2361852424), .lit (.int .u32 2428436474), .lit (.int .u32 2756734187), .lit (.int .u32 3204031479), .lit (.int .u32 3329325298)]

/-- 'umbellaw04.DigestTells': WHATEVER THE INPUT: true; the input reads as it did. -/
def digestTellsSpec : ChangeSpec := { name := "digestTells", fn := fun _ => fun
  | [d1, d2] => { results := [.lit (.bool true)], args := [d1, d2] }
  | _ => none }
def digestTellsRow : OpenClaim := { program := "ytbphehijikdkjaadoor", sum := "4aad7a93843f3688414876f405071258952040c83320027699bc6d43f2a0e7fd", func := "umbel/umbellaw04.DigestTells", spec := "digestTells", inPlace := ["internal/abi.NoEscape"], named := ["umbel/digest.begin", "umbel/digest.rounds"], apart := false, laid := [("umbel/digest.begin", laid_umbel_digest_begin), ("umbel/digest.rounds", laid_umbel_digest_rounds)] }
def DigestTellsSaid : Prop := digestTellsRow.holds Tryd.pinned (OpenSpec.ofChange digestTellsSpec)

/-- ITS FALSE NEIGHBOUR: 'it returns false'. Refute it at one input. -/
def digestTellsWrong : ChangeSpec := { name := "digestTells", fn := fun _ => fun
  | [d1, d2] => { results := [.lit (.bool false)], args := [d1, d2] }
  | _ => none }
def DigestTellsWrongFalsely : Prop := digestTellsRow.holds Tryd.pinned (OpenSpec.ofChange digestTellsWrong)

/-- 'umbellaw04.DigestSteps': WHATEVER THE INPUT: true; the input reads as it did. -/
def digestStepsSpec : ChangeSpec := { name := "digestSteps", fn := fun _ => fun
  | [d] => { results := [.lit (.bool true)], args := [d] }
  | _ => none }
def digestStepsRow : OpenClaim := { program := "ytbphehijikdkjaadoor", sum := "4aad7a93843f3688414876f405071258952040c83320027699bc6d43f2a0e7fd", func := "umbel/umbellaw04.DigestSteps", spec := "digestSteps", inPlace := ["internal/abi.NoEscape"], named := ["umbel/digest.begin", "umbel/digest.rounds"], apart := false, laid := [("umbel/digest.begin", laid_umbel_digest_begin), ("umbel/digest.rounds", laid_umbel_digest_rounds)] }
def DigestStepsSaid : Prop := digestStepsRow.holds Tryd.pinned (OpenSpec.ofChange digestStepsSpec)

/-- ITS FALSE NEIGHBOUR: 'it returns false'. Refute it at one input. -/
def digestStepsWrong : ChangeSpec := { name := "digestSteps", fn := fun _ => fun
  | [d] => { results := [.lit (.bool false)], args := [d] }
  | _ => none }
def DigestStepsWrongFalsely : Prop := digestStepsRow.holds Tryd.pinned (OpenSpec.ofChange digestStepsWrong)

/-- 'umbellaw04.DigestPads': WHATEVER THE INPUT: true; the input reads as it did. -/
def digestPadsSpec : ChangeSpec := { name := "digestPads", fn := fun _ => fun
  | [d] => { results := [.lit (.bool true)], args := [d] }
  | _ => none }
def digestPadsRow : OpenClaim := { program := "ytbphehijikdkjaadoor", sum := "4aad7a93843f3688414876f405071258952040c83320027699bc6d43f2a0e7fd", func := "umbel/umbellaw04.DigestPads", spec := "digestPads", inPlace := ["internal/abi.NoEscape"], named := ["umbel/digest.begin", "umbel/digest.rounds"], apart := false, laid := [("umbel/digest.begin", laid_umbel_digest_begin), ("umbel/digest.rounds", laid_umbel_digest_rounds)] }
def DigestPadsSaid : Prop := digestPadsRow.holds Tryd.pinned (OpenSpec.ofChange digestPadsSpec)

/-- ITS FALSE NEIGHBOUR: 'it returns false'. Refute it at one input. -/
def digestPadsWrong : ChangeSpec := { name := "digestPads", fn := fun _ => fun
  | [d] => { results := [.lit (.bool false)], args := [d] }
  | _ => none }
def DigestPadsWrongFalsely : Prop := digestPadsRow.holds Tryd.pinned (OpenSpec.ofChange digestPadsWrong)

/-- 'umbellaw04.DigestHexes': WHATEVER THE INPUT: true; the input reads as it did. -/
def digestHexesSpec : ChangeSpec := { name := "digestHexes", fn := fun _ => fun
  | [d] => { results := [.lit (.bool true)], args := [d] }
  | _ => none }
def digestHexesRow : OpenClaim := { program := "ytbphehijikdkjaadoor", sum := "4aad7a93843f3688414876f405071258952040c83320027699bc6d43f2a0e7fd", func := "umbel/umbellaw04.DigestHexes", spec := "digestHexes", inPlace := ["internal/abi.NoEscape"], named := ["umbel/digest.begin", "umbel/digest.rounds"], apart := false, laid := [("umbel/digest.begin", laid_umbel_digest_begin), ("umbel/digest.rounds", laid_umbel_digest_rounds)] }
def DigestHexesSaid : Prop := digestHexesRow.holds Tryd.pinned (OpenSpec.ofChange digestHexesSpec)

/-- ITS FALSE NEIGHBOUR: 'it returns false'. Refute it at one input. -/
def digestHexesWrong : ChangeSpec := { name := "digestHexes", fn := fun _ => fun
  | [d] => { results := [.lit (.bool false)], args := [d] }
  | _ => none }
def DigestHexesWrongFalsely : Prop := digestHexesRow.holds Tryd.pinned (OpenSpec.ofChange digestHexesWrong)

/-- 'umbellaw21.RingTells': WHATEVER THE INPUT: true; the input reads as it did. -/
def ringTellsSpec : ChangeSpec := { name := "ringTells", fn := fun _ => fun
  | [d1, d2] => { results := [.lit (.bool true)], args := [d1, d2] }
  | _ => none }
def ringTellsRow : OpenClaim := { program := "ytbphehijikdkjaadoor", sum := "4aad7a93843f3688414876f405071258952040c83320027699bc6d43f2a0e7fd", func := "umbel/umbellaw21.RingTells", spec := "ringTells", named := ["umbel/digest.begin", "umbel/digest.rounds"], apart := false, laid := [("umbel/digest.begin", laid_umbel_digest_begin), ("umbel/digest.rounds", laid_umbel_digest_rounds)] }
def RingTellsSaid : Prop := ringTellsRow.holds Tryd.pinned (OpenSpec.ofChange ringTellsSpec)

/-- ITS FALSE NEIGHBOUR: 'it returns false'. Refute it at one input. -/
def ringTellsWrong : ChangeSpec := { name := "ringTells", fn := fun _ => fun
  | [d1, d2] => { results := [.lit (.bool false)], args := [d1, d2] }
  | _ => none }
def RingTellsWrongFalsely : Prop := ringTellsRow.holds Tryd.pinned (OpenSpec.ofChange ringTellsWrong)

/-- 'umbellaw21.RingBack': WHATEVER THE INPUT: true; the input reads as it did. -/
def ringBackSpec : ChangeSpec := { name := "ringBack", fn := fun _ => fun
  | [d1, d2] => { results := [.lit (.bool true)], args := [d1, d2] }
  | _ => none }
def ringBackRow : OpenClaim := { program := "ytbphehijikdkjaadoor", sum := "4aad7a93843f3688414876f405071258952040c83320027699bc6d43f2a0e7fd", func := "umbel/umbellaw21.RingBack", spec := "ringBack", named := ["umbel/digest.begin", "umbel/digest.rounds"], apart := false, laid := [("umbel/digest.begin", laid_umbel_digest_begin), ("umbel/digest.rounds", laid_umbel_digest_rounds)] }
def RingBackSaid : Prop := ringBackRow.holds Tryd.pinned (OpenSpec.ofChange ringBackSpec)

/-- ITS FALSE NEIGHBOUR: 'it returns false'. Refute it at one input. -/
def ringBackWrong : ChangeSpec := { name := "ringBack", fn := fun _ => fun
  | [d1, d2] => { results := [.lit (.bool false)], args := [d1, d2] }
  | _ => none }
def RingBackWrongFalsely : Prop := ringBackRow.holds Tryd.pinned (OpenSpec.ofChange ringBackWrong)

/-- 'umbellaw21.RingRefused': WHATEVER THE INPUT: true; the input reads as it did. -/
def ringRefusedSpec : ChangeSpec := { name := "ringRefused", fn := fun _ => fun
  | [d1, d2] => { results := [.lit (.bool true)], args := [d1, d2] }
  | _ => none }
def ringRefusedRow : OpenClaim := { program := "ytbphehijikdkjaadoor", sum := "4aad7a93843f3688414876f405071258952040c83320027699bc6d43f2a0e7fd", func := "umbel/umbellaw21.RingRefused", spec := "ringRefused", named := ["umbel/digest.begin", "umbel/digest.rounds"], apart := false, laid := [("umbel/digest.begin", laid_umbel_digest_begin), ("umbel/digest.rounds", laid_umbel_digest_rounds)] }
def RingRefusedSaid : Prop := ringRefusedRow.holds Tryd.pinned (OpenSpec.ofChange ringRefusedSpec)

/-- ITS FALSE NEIGHBOUR: 'it returns false'. Refute it at one input. -/
def ringRefusedWrong : ChangeSpec := { name := "ringRefused", fn := fun _ => fun
  | [d1, d2] => { results := [.lit (.bool false)], args := [d1, d2] }
  | _ => none }
def RingRefusedWrongFalsely : Prop := ringRefusedRow.holds Tryd.pinned (OpenSpec.ofChange ringRefusedWrong)

/- THE SECOND FORM. 'bulk': how many values and letters a reading holds, each counted each time it is reached (what is shared counts as often as it is met; a slice's spare places count too). A statement '..UptoSaid' is the law's where the arguments, and the package variables that the reading takes, are together of bulk at most 1048576: NARROWER than '..Said'. Prove '..Said' where nothing that the law and all that it calls make is longer than what came in: it says more and counts as full. Else prove '..UptoSaid'. A law counts once. -/
mutual
def uptoBulk {H : Type} : DataW H → Nat
  | .lit (.string bytes) => bytes.length + 1
  | .lit _ => 1
  | .nil => 1
  | .ptr d => uptoBulk d + 1
  | .slice elems spare => uptoBulkAll elems + uptoBulkAll spare + 1
  | .agg parts => uptoBulkAll parts + 1
  | .iface _ d => uptoBulk d + 1
  | .map entries => uptoBulkEntries entries + 1
  | .held _ => 1
def uptoBulkAll {H : Type} : List (DataW H) → Nat
  | [] => 0
  | d :: r => uptoBulk d + uptoBulkAll r
def uptoBulkEntries {H : Type} : List (Lit × DataW H) → Nat
  | [] => 0
  | x :: r => uptoBulkEntry x + uptoBulkEntries r
def uptoBulkEntry {H : Type} : Lit × DataW H → Nat
  | (.string bytes, d) => bytes.length + uptoBulk d + 1
  | (_, d) => uptoBulk d + 1
 end
def uptoSmall : (H : Type) → List (DataW H) → Bool := fun _ ds => decide (uptoBulkAll ds ≤ 1048576)
def OpenSpec.upto (s : _root_.Go.ChangeSpec) : _root_.Go.OpenSpec := { _root_.Go.OpenSpec.ofChange s with cond := some uptoSmall }

/-- 'umbellaw04.DigestTells', WHERE WHAT IT READS IS OF BULK AT MOST 1048576: true; the input reads as it did. -/
def digestTellsUptoRow : OpenClaim := { program := "ytbphehijikdkjaadoor", sum := "4aad7a93843f3688414876f405071258952040c83320027699bc6d43f2a0e7fd", func := "umbel/umbellaw04.DigestTells", spec := "digestTells", inPlace := ["internal/abi.NoEscape"], named := ["umbel/digest.begin", "umbel/digest.rounds"], apart := false, laid := [("umbel/digest.begin", laid_umbel_digest_begin), ("umbel/digest.rounds", laid_umbel_digest_rounds)], narrowed := true }
def DigestTellsUptoSaid : Prop := digestTellsUptoRow.holds Tryd.pinned (OpenSpec.upto digestTellsSpec)

/-- 'umbellaw04.DigestSteps', WHERE WHAT IT READS IS OF BULK AT MOST 1048576: true; the input reads as it did. -/
def digestStepsUptoRow : OpenClaim := { program := "ytbphehijikdkjaadoor", sum := "4aad7a93843f3688414876f405071258952040c83320027699bc6d43f2a0e7fd", func := "umbel/umbellaw04.DigestSteps", spec := "digestSteps", inPlace := ["internal/abi.NoEscape"], named := ["umbel/digest.begin", "umbel/digest.rounds"], apart := false, laid := [("umbel/digest.begin", laid_umbel_digest_begin), ("umbel/digest.rounds", laid_umbel_digest_rounds)], narrowed := true }
def DigestStepsUptoSaid : Prop := digestStepsUptoRow.holds Tryd.pinned (OpenSpec.upto digestStepsSpec)

/-- 'umbellaw04.DigestPads', WHERE WHAT IT READS IS OF BULK AT MOST 1048576: true; the input reads as it did. -/
def digestPadsUptoRow : OpenClaim := { program := "ytbphehijikdkjaadoor", sum := "4aad7a93843f3688414876f405071258952040c83320027699bc6d43f2a0e7fd", func := "umbel/umbellaw04.DigestPads", spec := "digestPads", inPlace := ["internal/abi.NoEscape"], named := ["umbel/digest.begin", "umbel/digest.rounds"], apart := false, laid := [("umbel/digest.begin", laid_umbel_digest_begin), ("umbel/digest.rounds", laid_umbel_digest_rounds)], narrowed := true }
def DigestPadsUptoSaid : Prop := digestPadsUptoRow.holds Tryd.pinned (OpenSpec.upto digestPadsSpec)

/-- 'umbellaw04.DigestHexes', WHERE WHAT IT READS IS OF BULK AT MOST 1048576: true; the input reads as it did. -/
def digestHexesUptoRow : OpenClaim := { program := "ytbphehijikdkjaadoor", sum := "4aad7a93843f3688414876f405071258952040c83320027699bc6d43f2a0e7fd", func := "umbel/umbellaw04.DigestHexes", spec := "digestHexes", inPlace := ["internal/abi.NoEscape"], named := ["umbel/digest.begin", "umbel/digest.rounds"], apart := false, laid := [("umbel/digest.begin", laid_umbel_digest_begin), ("umbel/digest.rounds", laid_umbel_digest_rounds)], narrowed := true }
def DigestHexesUptoSaid : Prop := digestHexesUptoRow.holds Tryd.pinned (OpenSpec.upto digestHexesSpec)

/-- 'umbellaw21.RingTells', WHERE WHAT IT READS IS OF BULK AT MOST 1048576: true; the input reads as it did. -/
def ringTellsUptoRow : OpenClaim := { program := "ytbphehijikdkjaadoor", sum := "4aad7a93843f3688414876f405071258952040c83320027699bc6d43f2a0e7fd", func := "umbel/umbellaw21.RingTells", spec := "ringTells", named := ["umbel/digest.begin", "umbel/digest.rounds"], apart := false, laid := [("umbel/digest.begin", laid_umbel_digest_begin), ("umbel/digest.rounds", laid_umbel_digest_rounds)], narrowed := true }
def RingTellsUptoSaid : Prop := ringTellsUptoRow.holds Tryd.pinned (OpenSpec.upto ringTellsSpec)

/-- 'umbellaw21.RingBack', WHERE WHAT IT READS IS OF BULK AT MOST 1048576: true; the input reads as it did. -/
def ringBackUptoRow : OpenClaim := { program := "ytbphehijikdkjaadoor", sum := "4aad7a93843f3688414876f405071258952040c83320027699bc6d43f2a0e7fd", func := "umbel/umbellaw21.RingBack", spec := "ringBack", named := ["umbel/digest.begin", "umbel/digest.rounds"], apart := false, laid := [("umbel/digest.begin", laid_umbel_digest_begin), ("umbel/digest.rounds", laid_umbel_digest_rounds)], narrowed := true }
def RingBackUptoSaid : Prop := ringBackUptoRow.holds Tryd.pinned (OpenSpec.upto ringBackSpec)

/-- 'umbellaw21.RingRefused', WHERE WHAT IT READS IS OF BULK AT MOST 1048576: true; the input reads as it did. -/
def ringRefusedUptoRow : OpenClaim := { program := "ytbphehijikdkjaadoor", sum := "4aad7a93843f3688414876f405071258952040c83320027699bc6d43f2a0e7fd", func := "umbel/umbellaw21.RingRefused", spec := "ringRefused", named := ["umbel/digest.begin", "umbel/digest.rounds"], apart := false, laid := [("umbel/digest.begin", laid_umbel_digest_begin), ("umbel/digest.rounds", laid_umbel_digest_rounds)], narrowed := true }
def RingRefusedUptoSaid : Prop := ringRefusedUptoRow.holds Tryd.pinned (OpenSpec.upto ringRefusedSpec)

end Rows
end Go.Proofs.YtbphehijikdkjaaDoor
