/-
  DERIVED. GIVEN WITH THE SEED: THE CARDS: each row of YtiajgmocmnjijaaDoorRows.lean that lists a variable, with what it lists TIED to the program's text (the seventh form; the later family's looks); each row that meets fmt, with fmt's text TOLD by the authors' own Lean function (tested against real Go, not proved from fmt's source: count such statements apart). THE CARD IS WHAT COUNTS. Prove the row's statement (the work); the ties are given (YtiajgmocmnjijaaDoorTie.lean); close each card by the builder's one call (the guide's Derived/Test/ToyasCard.lean, 'card_holds'). Laid BY PROGRAM, IN A SANDBOX (cutbox-door.mjs). By AI agents, Wed Nov 11 2026. No macro, syntax, notation, axiom, sorry.
-/
import Derived.Test.YtiajgmocmnjijaaDoorRows
import GoSem.ClaimSeven
namespace Go.Proofs.YtiajgmocmnjijaaDoor
namespace Rows

/-- THE TIED CARD OF 'umbellaw07.PageTells'. -/
def pageTellsCard : Claim7 := { stood := { row := pageTellsRow, standIns := [], harness := (true, "e1bab8fa2baa906546ab5fc7b0b3da1fc6e1ccabf205d2eb306038162ea23a6a"), looks := false }, kinds := [], alts := [], laidByText := true, laidKinds := [.data], laidTests := true, laidLooks := .later }
def PageTellsCardSaid : Prop := Claim7.holds Tryd.pinned (.plain (OpenSpec.ofChange pageTellsSpec)) pageTellsCard

/-- THE TIED CARD OF 'umbellaw07.PageBack'. -/
def pageBackCard : Claim7 := { stood := { row := pageBackRow, standIns := [], harness := (true, "e1bab8fa2baa906546ab5fc7b0b3da1fc6e1ccabf205d2eb306038162ea23a6a"), looks := false }, kinds := [], alts := [], laidByText := true, laidKinds := [.data], laidTests := true, laidLooks := .later }
def PageBackCardSaid : Prop := Claim7.holds Tryd.pinned (.plain (OpenSpec.ofChange pageBackSpec)) pageBackCard

/-- THE TIED CARD OF 'umbellaw07.PagePlaces'. -/
def pagePlacesCard : Claim7 := { stood := { row := pagePlacesRow, standIns := [], harness := (true, "e1bab8fa2baa906546ab5fc7b0b3da1fc6e1ccabf205d2eb306038162ea23a6a"), looks := false }, kinds := [], alts := [], laidByText := true, laidKinds := [.data], laidTests := true, laidLooks := .later }
def PagePlacesCardSaid : Prop := Claim7.holds Tryd.pinned (.plain (OpenSpec.ofChange pagePlacesSpec)) pagePlacesCard

/-- THE TIED CARD OF 'umbellaw23.SuperTells'. -/
def superTellsCard : Claim7 := { stood := { row := superTellsRow, standIns := [], harness := (true, "e1bab8fa2baa906546ab5fc7b0b3da1fc6e1ccabf205d2eb306038162ea23a6a"), looks := false }, kinds := [], alts := [], laidByText := true, laidKinds := [.data], laidTests := true, laidLooks := .later }
def SuperTellsCardSaid : Prop := Claim7.holds Tryd.pinned (.plain (OpenSpec.ofChange superTellsSpec)) superTellsCard

/-- THE TIED CARD OF 'umbellaw23.SuperTorn'. -/
def superTornCard : Claim7 := { stood := { row := superTornRow, standIns := [], harness := (true, "e1bab8fa2baa906546ab5fc7b0b3da1fc6e1ccabf205d2eb306038162ea23a6a"), looks := false }, kinds := [], alts := [], laidByText := true, laidKinds := [.data], laidTests := true, laidLooks := .later }
def SuperTornCardSaid : Prop := Claim7.holds Tryd.pinned (.plain (OpenSpec.ofChange superTornSpec)) superTornCard

/-- THE TIED CARD OF 'umbellaw23.SuperChooses'. -/
def superChoosesCard : Claim7 := { stood := { row := superChoosesRow, standIns := [], harness := (true, "e1bab8fa2baa906546ab5fc7b0b3da1fc6e1ccabf205d2eb306038162ea23a6a"), looks := false }, kinds := [], alts := [], laidByText := true, laidKinds := [.data], laidTests := true, laidLooks := .later }
def SuperChoosesCardSaid : Prop := Claim7.holds Tryd.pinned (.plain (OpenSpec.ofChange superChoosesSpec)) superChoosesCard

/-- THE TIED CARD OF 'umbellaw23.SuperFields'. -/
def superFieldsCard : Claim7 := { stood := { row := superFieldsRow, standIns := [], harness := (true, "e1bab8fa2baa906546ab5fc7b0b3da1fc6e1ccabf205d2eb306038162ea23a6a"), looks := false }, kinds := [], alts := [], laidByText := true, laidKinds := [.data], laidTests := true, laidLooks := .later }
def SuperFieldsCardSaid : Prop := Claim7.holds Tryd.pinned (.plain (OpenSpec.ofChange superFieldsSpec)) superFieldsCard

/-- THE SECOND FORM's CARD OF 'umbellaw07.PageTells'. -/
def pageTellsUptoCard : Claim7 := { stood := { row := pageTellsUptoRow, standIns := [], harness := (true, "e1bab8fa2baa906546ab5fc7b0b3da1fc6e1ccabf205d2eb306038162ea23a6a"), looks := false }, kinds := [], alts := [], laidByText := true, laidKinds := [.data], laidTests := true, laidLooks := .later }
def PageTellsUptoCardSaid : Prop := Claim7.holds Tryd.pinned (.plain (OpenSpec.upto pageTellsSpec)) pageTellsUptoCard

/-- THE SECOND FORM's CARD OF 'umbellaw07.PageBack'. -/
def pageBackUptoCard : Claim7 := { stood := { row := pageBackUptoRow, standIns := [], harness := (true, "e1bab8fa2baa906546ab5fc7b0b3da1fc6e1ccabf205d2eb306038162ea23a6a"), looks := false }, kinds := [], alts := [], laidByText := true, laidKinds := [.data], laidTests := true, laidLooks := .later }
def PageBackUptoCardSaid : Prop := Claim7.holds Tryd.pinned (.plain (OpenSpec.upto pageBackSpec)) pageBackUptoCard

/-- THE SECOND FORM's CARD OF 'umbellaw07.PagePlaces'. -/
def pagePlacesUptoCard : Claim7 := { stood := { row := pagePlacesUptoRow, standIns := [], harness := (true, "e1bab8fa2baa906546ab5fc7b0b3da1fc6e1ccabf205d2eb306038162ea23a6a"), looks := false }, kinds := [], alts := [], laidByText := true, laidKinds := [.data], laidTests := true, laidLooks := .later }
def PagePlacesUptoCardSaid : Prop := Claim7.holds Tryd.pinned (.plain (OpenSpec.upto pagePlacesSpec)) pagePlacesUptoCard

/-- THE SECOND FORM's CARD OF 'umbellaw23.SuperTells'. -/
def superTellsUptoCard : Claim7 := { stood := { row := superTellsUptoRow, standIns := [], harness := (true, "e1bab8fa2baa906546ab5fc7b0b3da1fc6e1ccabf205d2eb306038162ea23a6a"), looks := false }, kinds := [], alts := [], laidByText := true, laidKinds := [.data], laidTests := true, laidLooks := .later }
def SuperTellsUptoCardSaid : Prop := Claim7.holds Tryd.pinned (.plain (OpenSpec.upto superTellsSpec)) superTellsUptoCard

/-- THE SECOND FORM's CARD OF 'umbellaw23.SuperTorn'. -/
def superTornUptoCard : Claim7 := { stood := { row := superTornUptoRow, standIns := [], harness := (true, "e1bab8fa2baa906546ab5fc7b0b3da1fc6e1ccabf205d2eb306038162ea23a6a"), looks := false }, kinds := [], alts := [], laidByText := true, laidKinds := [.data], laidTests := true, laidLooks := .later }
def SuperTornUptoCardSaid : Prop := Claim7.holds Tryd.pinned (.plain (OpenSpec.upto superTornSpec)) superTornUptoCard

/-- THE SECOND FORM's CARD OF 'umbellaw23.SuperChooses'. -/
def superChoosesUptoCard : Claim7 := { stood := { row := superChoosesUptoRow, standIns := [], harness := (true, "e1bab8fa2baa906546ab5fc7b0b3da1fc6e1ccabf205d2eb306038162ea23a6a"), looks := false }, kinds := [], alts := [], laidByText := true, laidKinds := [.data], laidTests := true, laidLooks := .later }
def SuperChoosesUptoCardSaid : Prop := Claim7.holds Tryd.pinned (.plain (OpenSpec.upto superChoosesSpec)) superChoosesUptoCard

/-- THE SECOND FORM's CARD OF 'umbellaw23.SuperFields'. -/
def superFieldsUptoCard : Claim7 := { stood := { row := superFieldsUptoRow, standIns := [], harness := (true, "e1bab8fa2baa906546ab5fc7b0b3da1fc6e1ccabf205d2eb306038162ea23a6a"), looks := false }, kinds := [], alts := [], laidByText := true, laidKinds := [.data], laidTests := true, laidLooks := .later }
def SuperFieldsUptoCardSaid : Prop := Claim7.holds Tryd.pinned (.plain (OpenSpec.upto superFieldsSpec)) superFieldsUptoCard
end Rows
end Go.Proofs.YtiajgmocmnjijaaDoor
