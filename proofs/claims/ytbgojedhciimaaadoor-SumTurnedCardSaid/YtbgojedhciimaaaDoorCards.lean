/-
  DERIVED. GIVEN WITH THE SEED: THE CARDS: each row of YtbgojedhciimaaaDoorRows.lean that lists a variable, with what it lists TIED to the program's text (the seventh form; the later family's looks); each row that meets fmt, with fmt's text TOLD by the authors' own Lean function (tested against real Go, not proved from fmt's source: count such statements apart). THE CARD IS WHAT COUNTS. Prove the row's statement (the work); the ties are given (YtbgojedhciimaaaDoorTie.lean); close each card by the builder's one call (the guide's Derived/Test/ToyasCard.lean, 'card_holds'). Laid BY PROGRAM, IN A SANDBOX (cutbox-door.mjs). By AI agents, Wed Nov 11 2026. No macro, syntax, notation, axiom, sorry.
-/
import Derived.Test.YtbgojedhciimaaaDoorRows
import GoSem.ClaimSeven
namespace Go.Proofs.YtbgojedhciimaaaDoor
namespace Rows

/-- THE TIED CARD OF 'umbellaw03.SumTells'. -/
def sumTellsCard : Claim7 := { stood := { row := sumTellsRow, standIns := [], harness := (true, "30cd58bb24809dfe4273276fec76ec49c0e9fefe013e65e8fe5f843df8b2e428"), looks := false }, kinds := [], alts := [], laidByText := true, laidKinds := [.data], laidTests := true, laidLooks := .later }
def SumTellsCardSaid : Prop := Claim7.holds Tryd.pinned (.plain (OpenSpec.ofChange sumTellsSpec)) sumTellsCard

/-- THE TIED CARD OF 'umbellaw03.SumRows'. -/
def sumRowsCard : Claim7 := { stood := { row := sumRowsRow, standIns := [], harness := (true, "30cd58bb24809dfe4273276fec76ec49c0e9fefe013e65e8fe5f843df8b2e428"), looks := false }, kinds := [], alts := [], laidByText := true, laidKinds := [.data], laidTests := true, laidLooks := .later }
def SumRowsCardSaid : Prop := Claim7.holds Tryd.pinned (.plain (OpenSpec.ofChange sumRowsSpec)) sumRowsCard

/-- THE TIED CARD OF 'umbellaw03.SumTurned'. -/
def sumTurnedCard : Claim7 := { stood := { row := sumTurnedRow, standIns := [], harness := (true, "30cd58bb24809dfe4273276fec76ec49c0e9fefe013e65e8fe5f843df8b2e428"), looks := false }, kinds := [], alts := [], laidByText := true, laidKinds := [.data], laidTests := true, laidLooks := .later }
def SumTurnedCardSaid : Prop := Claim7.holds Tryd.pinned (.plain (OpenSpec.ofChange sumTurnedSpec)) sumTurnedCard

/-- THE TIED CARD OF 'umbellaw03.SumBits'. -/
def sumBitsCard : Claim7 := { stood := { row := sumBitsRow, standIns := [], harness := (true, "30cd58bb24809dfe4273276fec76ec49c0e9fefe013e65e8fe5f843df8b2e428"), looks := false }, kinds := [], alts := [], laidByText := true, laidKinds := [.data], laidTests := true, laidLooks := .later }
def SumBitsCardSaid : Prop := Claim7.holds Tryd.pinned (.plain (OpenSpec.ofChange sumBitsSpec)) sumBitsCard

/-- THE SECOND FORM's CARD OF 'umbellaw03.SumTells'. -/
def sumTellsUptoCard : Claim7 := { stood := { row := sumTellsUptoRow, standIns := [], harness := (true, "30cd58bb24809dfe4273276fec76ec49c0e9fefe013e65e8fe5f843df8b2e428"), looks := false }, kinds := [], alts := [], laidByText := true, laidKinds := [.data], laidTests := true, laidLooks := .later }
def SumTellsUptoCardSaid : Prop := Claim7.holds Tryd.pinned (.plain (OpenSpec.upto sumTellsSpec)) sumTellsUptoCard

/-- THE SECOND FORM's CARD OF 'umbellaw03.SumRows'. -/
def sumRowsUptoCard : Claim7 := { stood := { row := sumRowsUptoRow, standIns := [], harness := (true, "30cd58bb24809dfe4273276fec76ec49c0e9fefe013e65e8fe5f843df8b2e428"), looks := false }, kinds := [], alts := [], laidByText := true, laidKinds := [.data], laidTests := true, laidLooks := .later }
def SumRowsUptoCardSaid : Prop := Claim7.holds Tryd.pinned (.plain (OpenSpec.upto sumRowsSpec)) sumRowsUptoCard

/-- THE SECOND FORM's CARD OF 'umbellaw03.SumTurned'. -/
def sumTurnedUptoCard : Claim7 := { stood := { row := sumTurnedUptoRow, standIns := [], harness := (true, "30cd58bb24809dfe4273276fec76ec49c0e9fefe013e65e8fe5f843df8b2e428"), looks := false }, kinds := [], alts := [], laidByText := true, laidKinds := [.data], laidTests := true, laidLooks := .later }
def SumTurnedUptoCardSaid : Prop := Claim7.holds Tryd.pinned (.plain (OpenSpec.upto sumTurnedSpec)) sumTurnedUptoCard

/-- THE SECOND FORM's CARD OF 'umbellaw03.SumBits'. -/
def sumBitsUptoCard : Claim7 := { stood := { row := sumBitsUptoRow, standIns := [], harness := (true, "30cd58bb24809dfe4273276fec76ec49c0e9fefe013e65e8fe5f843df8b2e428"), looks := false }, kinds := [], alts := [], laidByText := true, laidKinds := [.data], laidTests := true, laidLooks := .later }
def SumBitsUptoCardSaid : Prop := Claim7.holds Tryd.pinned (.plain (OpenSpec.upto sumBitsSpec)) sumBitsUptoCard
end Rows
end Go.Proofs.YtbgojedhciimaaaDoor
