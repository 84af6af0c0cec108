/-
  DERIVED. GIVEN WITH THE SEED: THE CARDS: each row of YtbphehijikdkjaaDoorRows.lean that lists a variable, with what it lists TIED to the program's text (the seventh form; the later family's looks); each row that meets fmt, with fmt's text TOLD by the authors' own Lean function (tested against real Go, not proved from fmt's source: count such statements apart). THE CARD IS WHAT COUNTS. Prove the row's statement (the work); the ties are given (YtbphehijikdkjaaDoorTie.lean); close each card by the builder's one call (the guide's Derived/Test/ToyasCard.lean, 'card_holds'). Laid BY PROGRAM, IN A SANDBOX (cutbox-door.mjs). By AI agents, Wed Nov 11 2026. No macro, syntax, notation, axiom, sorry.
-/
import Derived.Test.YtbphehijikdkjaaDoorRows
import GoSem.ClaimSeven
namespace Go.Proofs.YtbphehijikdkjaaDoor
namespace Rows

/-- THE TIED CARD OF 'umbellaw04.DigestTells'. -/
def digestTellsCard : Claim7 := { stood := { row := digestTellsRow, standIns := [], harness := (true, "66c41fa6b20b2870e114ffa82fdec8f67051480b9c8398a41dc0a7edbcfed894"), looks := false }, kinds := [], alts := [], laidByText := true, laidKinds := [.data, .data], laidTests := true, laidLooks := .later }
def DigestTellsCardSaid : Prop := Claim7.holds Tryd.pinned (.plain (OpenSpec.ofChange digestTellsSpec)) digestTellsCard

/-- THE TIED CARD OF 'umbellaw04.DigestSteps'. -/
def digestStepsCard : Claim7 := { stood := { row := digestStepsRow, standIns := [], harness := (true, "66c41fa6b20b2870e114ffa82fdec8f67051480b9c8398a41dc0a7edbcfed894"), looks := false }, kinds := [], alts := [], laidByText := true, laidKinds := [.data, .data], laidTests := true, laidLooks := .later }
def DigestStepsCardSaid : Prop := Claim7.holds Tryd.pinned (.plain (OpenSpec.ofChange digestStepsSpec)) digestStepsCard

/-- THE TIED CARD OF 'umbellaw04.DigestPads'. -/
def digestPadsCard : Claim7 := { stood := { row := digestPadsRow, standIns := [], harness := (true, "66c41fa6b20b2870e114ffa82fdec8f67051480b9c8398a41dc0a7edbcfed894"), looks := false }, kinds := [], alts := [], laidByText := true, laidKinds := [.data, .data], laidTests := true, laidLooks := .later }
def DigestPadsCardSaid : Prop := Claim7.holds Tryd.pinned (.plain (OpenSpec.ofChange digestPadsSpec)) digestPadsCard

/-- THE TIED CARD OF 'umbellaw04.DigestHexes'. -/
def digestHexesCard : Claim7 := { stood := { row := digestHexesRow, standIns := [], harness := (true, "66c41fa6b20b2870e114ffa82fdec8f67051480b9c8398a41dc0a7edbcfed894"), looks := false }, kinds := [], alts := [], laidByText := true, laidKinds := [.data, .data], laidTests := true, laidLooks := .later }
def DigestHexesCardSaid : Prop := Claim7.holds Tryd.pinned (.plain (OpenSpec.ofChange digestHexesSpec)) digestHexesCard

/-- THE TIED CARD OF 'umbellaw21.RingTells'. -/
def ringTellsCard : Claim7 := { stood := { row := ringTellsRow, standIns := [], harness := (true, "66c41fa6b20b2870e114ffa82fdec8f67051480b9c8398a41dc0a7edbcfed894"), looks := false }, kinds := [], alts := [], laidByText := true, laidKinds := [.data, .data], laidTests := true, laidLooks := .later }
def RingTellsCardSaid : Prop := Claim7.holds Tryd.pinned (.plain (OpenSpec.ofChange ringTellsSpec)) ringTellsCard

/-- THE TIED CARD OF 'umbellaw21.RingBack'. -/
def ringBackCard : Claim7 := { stood := { row := ringBackRow, standIns := [], harness := (true, "66c41fa6b20b2870e114ffa82fdec8f67051480b9c8398a41dc0a7edbcfed894"), looks := false }, kinds := [], alts := [], laidByText := true, laidKinds := [.data, .data], laidTests := true, laidLooks := .later }
def RingBackCardSaid : Prop := Claim7.holds Tryd.pinned (.plain (OpenSpec.ofChange ringBackSpec)) ringBackCard

/-- THE TIED CARD OF 'umbellaw21.RingRefused'. -/
def ringRefusedCard : Claim7 := { stood := { row := ringRefusedRow, standIns := [], harness := (true, "66c41fa6b20b2870e114ffa82fdec8f67051480b9c8398a41dc0a7edbcfed894"), looks := false }, kinds := [], alts := [], laidByText := true, laidKinds := [.data, .data], laidTests := true, laidLooks := .later }
def RingRefusedCardSaid : Prop := Claim7.holds Tryd.pinned (.plain (OpenSpec.ofChange ringRefusedSpec)) ringRefusedCard

/-- THE SECOND FORM's CARD OF 'umbellaw04.DigestTells'. -/
def digestTellsUptoCard : Claim7 := { stood := { row := digestTellsUptoRow, standIns := [], harness := (true, "66c41fa6b20b2870e114ffa82fdec8f67051480b9c8398a41dc0a7edbcfed894"), looks := false }, kinds := [], alts := [], laidByText := true, laidKinds := [.data, .data], laidTests := true, laidLooks := .later }
def DigestTellsUptoCardSaid : Prop := Claim7.holds Tryd.pinned (.plain (OpenSpec.upto digestTellsSpec)) digestTellsUptoCard

/-- THE SECOND FORM's CARD OF 'umbellaw04.DigestSteps'. -/
def digestStepsUptoCard : Claim7 := { stood := { row := digestStepsUptoRow, standIns := [], harness := (true, "66c41fa6b20b2870e114ffa82fdec8f67051480b9c8398a41dc0a7edbcfed894"), looks := false }, kinds := [], alts := [], laidByText := true, laidKinds := [.data, .data], laidTests := true, laidLooks := .later }
def DigestStepsUptoCardSaid : Prop := Claim7.holds Tryd.pinned (.plain (OpenSpec.upto digestStepsSpec)) digestStepsUptoCard

/-- THE SECOND FORM's CARD OF 'umbellaw04.DigestPads'. -/
def digestPadsUptoCard : Claim7 := { stood := { row := digestPadsUptoRow, standIns := [], harness := (true, "66c41fa6b20b2870e114ffa82fdec8f67051480b9c8398a41dc0a7edbcfed894"), looks := false }, kinds := [], alts := [], laidByText := true, laidKinds := [.data, .data], laidTests := true, laidLooks := .later }
def DigestPadsUptoCardSaid : Prop := Claim7.holds Tryd.pinned (.plain (OpenSpec.upto digestPadsSpec)) digestPadsUptoCard

/-- THE SECOND FORM's CARD OF 'umbellaw04.DigestHexes'. -/
def digestHexesUptoCard : Claim7 := { stood := { row := digestHexesUptoRow, standIns := [], harness := (true, "66c41fa6b20b2870e114ffa82fdec8f67051480b9c8398a41dc0a7edbcfed894"), looks := false }, kinds := [], alts := [], laidByText := true, laidKinds := [.data, .data], laidTests := true, laidLooks := .later }
def DigestHexesUptoCardSaid : Prop := Claim7.holds Tryd.pinned (.plain (OpenSpec.upto digestHexesSpec)) digestHexesUptoCard

/-- THE SECOND FORM's CARD OF 'umbellaw21.RingTells'. -/
def ringTellsUptoCard : Claim7 := { stood := { row := ringTellsUptoRow, standIns := [], harness := (true, "66c41fa6b20b2870e114ffa82fdec8f67051480b9c8398a41dc0a7edbcfed894"), looks := false }, kinds := [], alts := [], laidByText := true, laidKinds := [.data, .data], laidTests := true, laidLooks := .later }
def RingTellsUptoCardSaid : Prop := Claim7.holds Tryd.pinned (.plain (OpenSpec.upto ringTellsSpec)) ringTellsUptoCard

/-- THE SECOND FORM's CARD OF 'umbellaw21.RingBack'. -/
def ringBackUptoCard : Claim7 := { stood := { row := ringBackUptoRow, standIns := [], harness := (true, "66c41fa6b20b2870e114ffa82fdec8f67051480b9c8398a41dc0a7edbcfed894"), looks := false }, kinds := [], alts := [], laidByText := true, laidKinds := [.data, .data], laidTests := true, laidLooks := .later }
def RingBackUptoCardSaid : Prop := Claim7.holds Tryd.pinned (.plain (OpenSpec.upto ringBackSpec)) ringBackUptoCard

/-- THE SECOND FORM's CARD OF 'umbellaw21.RingRefused'. -/
def ringRefusedUptoCard : Claim7 := { stood := { row := ringRefusedUptoRow, standIns := [], harness := (true, "66c41fa6b20b2870e114ffa82fdec8f67051480b9c8398a41dc0a7edbcfed894"), looks := false }, kinds := [], alts := [], laidByText := true, laidKinds := [.data, .data], laidTests := true, laidLooks := .later }
def RingRefusedUptoCardSaid : Prop := Claim7.holds Tryd.pinned (.plain (OpenSpec.upto ringRefusedSpec)) ringRefusedUptoCard
end Rows
end Go.Proofs.YtbphehijikdkjaaDoor
