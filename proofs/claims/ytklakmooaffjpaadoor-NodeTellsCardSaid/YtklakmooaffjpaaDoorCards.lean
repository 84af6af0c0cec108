/-
  DERIVED. GIVEN WITH THE SEED: THE CARDS: each row of YtklakmooaffjpaaDoorRows.lean that lists a variable, with what it lists TIED to the program's text (the seventh form; the later family's looks); each row that meets fmt, with fmt's text TOLD by the authors' own Lean function (tested against real Go, not proved from fmt's source: count such statements apart). THE CARD IS WHAT COUNTS. Prove the row's statement (the work); the ties are given (YtklakmooaffjpaaDoorTie.lean); close each card by the builder's one call (the guide's Derived/Test/ToyasCard.lean, 'card_holds'). Laid BY PROGRAM, IN A SANDBOX (cutbox-door.mjs). By AI agents, Wed Nov 11 2026. No macro, syntax, notation, axiom, sorry.
-/
import Derived.Test.YtklakmooaffjpaaDoorRows
import GoSem.ClaimSeven
namespace Go.Proofs.YtklakmooaffjpaaDoor
namespace Rows

/-- THE TIED CARD OF 'umbellaw09.NodeTells'. -/
def nodeTellsCard : Claim7 := { stood := { row := nodeTellsRow, standIns := [], harness := (true, "858e24bc5c87c20df858696fe13e12ff2cd9b05ef03aa3a1009de53e4b5c35e8"), looks := false }, kinds := [], alts := [], laidByText := true, laidKinds := [.data, .data], laidTests := true, laidLooks := .later }
def NodeTellsCardSaid : Prop := Claim7.holds Tryd.pinned (.plain (OpenSpec.ofChange nodeTellsSpec)) nodeTellsCard

/-- THE TIED CARD OF 'umbellaw09.NodeBack'. -/
def nodeBackCard : Claim7 := { stood := { row := nodeBackRow, standIns := [], harness := (true, "858e24bc5c87c20df858696fe13e12ff2cd9b05ef03aa3a1009de53e4b5c35e8"), looks := false }, kinds := [], alts := [], laidByText := true, laidKinds := [.data, .data], laidTests := true, laidLooks := .later }
def NodeBackCardSaid : Prop := Claim7.holds Tryd.pinned (.plain (OpenSpec.ofChange nodeBackSpec)) nodeBackCard

/-- THE TIED CARD OF 'umbellaw09.NodeForms'. -/
def nodeFormsCard : Claim7 := { stood := { row := nodeFormsRow, standIns := [], harness := (true, "858e24bc5c87c20df858696fe13e12ff2cd9b05ef03aa3a1009de53e4b5c35e8"), looks := false }, kinds := [], alts := [], laidByText := true, laidKinds := [.data, .data], laidTests := true, laidLooks := .later }
def NodeFormsCardSaid : Prop := Claim7.holds Tryd.pinned (.plain (OpenSpec.ofChange nodeFormsSpec)) nodeFormsCard

/-- THE TIED CARD OF 'umbellaw09.NodeUnlike'. -/
def nodeUnlikeCard : Claim7 := { stood := { row := nodeUnlikeRow, standIns := [], harness := (true, "858e24bc5c87c20df858696fe13e12ff2cd9b05ef03aa3a1009de53e4b5c35e8"), looks := false }, kinds := [], alts := [], laidByText := true, laidKinds := [.data, .data], laidTests := true, laidLooks := .later }
def NodeUnlikeCardSaid : Prop := Claim7.holds Tryd.pinned (.plain (OpenSpec.ofChange nodeUnlikeSpec)) nodeUnlikeCard

/-- THE SECOND FORM's CARD OF 'umbellaw09.NodeTells'. -/
def nodeTellsUptoCard : Claim7 := { stood := { row := nodeTellsUptoRow, standIns := [], harness := (true, "858e24bc5c87c20df858696fe13e12ff2cd9b05ef03aa3a1009de53e4b5c35e8"), looks := false }, kinds := [], alts := [], laidByText := true, laidKinds := [.data, .data], laidTests := true, laidLooks := .later }
def NodeTellsUptoCardSaid : Prop := Claim7.holds Tryd.pinned (.plain (OpenSpec.upto nodeTellsSpec)) nodeTellsUptoCard

/-- THE SECOND FORM's CARD OF 'umbellaw09.NodeBack'. -/
def nodeBackUptoCard : Claim7 := { stood := { row := nodeBackUptoRow, standIns := [], harness := (true, "858e24bc5c87c20df858696fe13e12ff2cd9b05ef03aa3a1009de53e4b5c35e8"), looks := false }, kinds := [], alts := [], laidByText := true, laidKinds := [.data, .data], laidTests := true, laidLooks := .later }
def NodeBackUptoCardSaid : Prop := Claim7.holds Tryd.pinned (.plain (OpenSpec.upto nodeBackSpec)) nodeBackUptoCard

/-- THE SECOND FORM's CARD OF 'umbellaw09.NodeForms'. -/
def nodeFormsUptoCard : Claim7 := { stood := { row := nodeFormsUptoRow, standIns := [], harness := (true, "858e24bc5c87c20df858696fe13e12ff2cd9b05ef03aa3a1009de53e4b5c35e8"), looks := false }, kinds := [], alts := [], laidByText := true, laidKinds := [.data, .data], laidTests := true, laidLooks := .later }
def NodeFormsUptoCardSaid : Prop := Claim7.holds Tryd.pinned (.plain (OpenSpec.upto nodeFormsSpec)) nodeFormsUptoCard

/-- THE SECOND FORM's CARD OF 'umbellaw09.NodeUnlike'. -/
def nodeUnlikeUptoCard : Claim7 := { stood := { row := nodeUnlikeUptoRow, standIns := [], harness := (true, "858e24bc5c87c20df858696fe13e12ff2cd9b05ef03aa3a1009de53e4b5c35e8"), looks := false }, kinds := [], alts := [], laidByText := true, laidKinds := [.data, .data], laidTests := true, laidLooks := .later }
def NodeUnlikeUptoCardSaid : Prop := Claim7.holds Tryd.pinned (.plain (OpenSpec.upto nodeUnlikeSpec)) nodeUnlikeUptoCard
end Rows
end Go.Proofs.YtklakmooaffjpaaDoor
