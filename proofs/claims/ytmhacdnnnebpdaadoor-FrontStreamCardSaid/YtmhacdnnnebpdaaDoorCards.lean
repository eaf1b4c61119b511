/-
  DERIVED. GIVEN WITH THE SEED: THE CARDS: each row of YtmhacdnnnebpdaaDoorRows.lean that lists a variable, with what it lists TIED to the program's text (the seventh form; the later family's looks); each row that meets fmt, with fmt's text TOLD by the authors' own Lean function (tested against real Go, not proved from fmt's source: count such statements apart). THE CARD IS WHAT COUNTS. Prove the row's statement (the work); the ties are given (YtmhacdnnnebpdaaDoorTie.lean); close each card by the builder's one call (the guide's Derived/Test/ToyasCard.lean, 'card_holds'). Laid BY PROGRAM, IN A SANDBOX (cutbox-door.mjs). By AI agents, Wed Nov 11 2026. No macro, syntax, notation, axiom, sorry.
-/
import Derived.Test.YtmhacdnnnebpdaaDoorRows
import GoSem.ClaimSeven
namespace Go.Proofs.YtmhacdnnnebpdaaDoor
namespace Rows

/-- THE TIED CARD OF 'earshotlaw12.DctTells'. -/
def dctTellsCard : Claim7 := { stood := { row := dctTellsRow, standIns := [], harness := (true, "acf9609300405bc69908821f0a489668cbf2064c0067e46138444bb57b028e7c"), looks := false }, kinds := [], alts := [], laidByText := true, laidKinds := [.data], laidTests := true, laidLooks := .later }
def DctTellsCardSaid : Prop := Claim7.holds Tryd.pinned (.plain (OpenSpec.ofChange dctTellsSpec)) dctTellsCard

/-- THE TIED CARD OF 'earshotlaw12.DctLogs'. -/
def dctLogsCard : Claim7 := { stood := { row := dctLogsRow, standIns := [], harness := (true, "acf9609300405bc69908821f0a489668cbf2064c0067e46138444bb57b028e7c"), looks := false }, kinds := [], alts := [], laidByText := true, laidKinds := [.data], laidTests := true, laidLooks := .later }
def DctLogsCardSaid : Prop := Claim7.holds Tryd.pinned (.plain (OpenSpec.ofChange dctLogsSpec)) dctLogsCard

/-- THE TIED CARD OF 'earshotlaw12.DctRows'. -/
def dctRowsCard : Claim7 := { stood := { row := dctRowsRow, standIns := [], harness := (true, "acf9609300405bc69908821f0a489668cbf2064c0067e46138444bb57b028e7c"), looks := false }, kinds := [], alts := [], laidByText := true, laidKinds := [.data], laidTests := true, laidLooks := .later }
def DctRowsCardSaid : Prop := Claim7.holds Tryd.pinned (.plain (OpenSpec.ofChange dctRowsSpec)) dctRowsCard

/-- THE TIED CARD OF 'earshotlaw12.DctFlat'. -/
def dctFlatCard : Claim7 := { stood := { row := dctFlatRow, standIns := [], harness := (true, "acf9609300405bc69908821f0a489668cbf2064c0067e46138444bb57b028e7c"), looks := false }, kinds := [], alts := [], laidByText := true, laidKinds := [.data], laidTests := true, laidLooks := .later }
def DctFlatCardSaid : Prop := Claim7.holds Tryd.pinned (.plain (OpenSpec.ofChange dctFlatSpec)) dctFlatCard

/-- THE TIED CARD OF 'earshotlaw12.DctTurned'. -/
def dctTurnedCard : Claim7 := { stood := { row := dctTurnedRow, standIns := [], harness := (true, "acf9609300405bc69908821f0a489668cbf2064c0067e46138444bb57b028e7c"), looks := false }, kinds := [], alts := [], laidByText := true, laidKinds := [.data], laidTests := true, laidLooks := .later }
def DctTurnedCardSaid : Prop := Claim7.holds Tryd.pinned (.plain (OpenSpec.ofChange dctTurnedSpec)) dctTurnedCard

/-- THE TIED CARD OF 'earshotlaw13.FrontFrames'. -/
def frontFramesCard : Claim7 := { stood := { row := frontFramesRow, standIns := [], harness := (true, "acf9609300405bc69908821f0a489668cbf2064c0067e46138444bb57b028e7c"), looks := false }, kinds := [], alts := [], laidByText := true, laidKinds := [.data], laidTests := true, laidLooks := .later }
def FrontFramesCardSaid : Prop := Claim7.holds Tryd.pinned (.plain (OpenSpec.ofChange frontFramesSpec)) frontFramesCard

/-- THE TIED CARD OF 'earshotlaw13.FrontStream'. -/
def frontStreamCard : Claim7 := { stood := { row := frontStreamRow, standIns := [], harness := (true, "acf9609300405bc69908821f0a489668cbf2064c0067e46138444bb57b028e7c"), looks := false }, kinds := [], alts := [], laidByText := true, laidKinds := [.data], laidTests := true, laidLooks := .later }
def FrontStreamCardSaid : Prop := Claim7.holds Tryd.pinned (.plain (OpenSpec.ofChange frontStreamSpec)) frontStreamCard

/-- THE TIED CARD OF 'earshotlaw13.FrontCuts'. -/
def frontCutsCard : Claim7 := { stood := { row := frontCutsRow, standIns := [], harness := (true, "acf9609300405bc69908821f0a489668cbf2064c0067e46138444bb57b028e7c"), looks := false }, kinds := [], alts := [], laidByText := true, laidKinds := [.data], laidTests := true, laidLooks := .later }
def FrontCutsCardSaid : Prop := Claim7.holds Tryd.pinned (.plain (OpenSpec.ofChange frontCutsSpec)) frontCutsCard

/-- THE TIED CARD OF 'earshotlaw13.FrontMoves'. -/
def frontMovesCard : Claim7 := { stood := { row := frontMovesRow, standIns := [], harness := (true, "acf9609300405bc69908821f0a489668cbf2064c0067e46138444bb57b028e7c"), looks := false }, kinds := [], alts := [], laidByText := true, laidKinds := [.data], laidTests := true, laidLooks := .later }
def FrontMovesCardSaid : Prop := Claim7.holds Tryd.pinned (.plain (OpenSpec.ofChange frontMovesSpec)) frontMovesCard

/-- THE TIED CARD OF 'earshotlaw13.FrontTails'. -/
def frontTailsCard : Claim7 := { stood := { row := frontTailsRow, standIns := [], harness := (true, "acf9609300405bc69908821f0a489668cbf2064c0067e46138444bb57b028e7c"), looks := false }, kinds := [], alts := [], laidByText := true, laidKinds := [.data], laidTests := true, laidLooks := .later }
def FrontTailsCardSaid : Prop := Claim7.holds Tryd.pinned (.plain (OpenSpec.ofChange frontTailsSpec)) frontTailsCard

/-- THE TIED CARD OF 'earshotlaw13.FrontNil'. -/
def frontNilCard : Claim7 := { stood := { row := frontNilRow, standIns := [], harness := (true, "acf9609300405bc69908821f0a489668cbf2064c0067e46138444bb57b028e7c"), looks := false }, kinds := [], alts := [], laidByText := true, laidKinds := [.data], laidTests := true, laidLooks := .later }
def FrontNilCardSaid : Prop := Claim7.holds Tryd.pinned (.plain (OpenSpec.ofChange frontNilSpec)) frontNilCard

/-- THE SECOND FORM's CARD OF 'earshotlaw12.DctTells'. -/
def dctTellsUptoCard : Claim7 := { stood := { row := dctTellsUptoRow, standIns := [], harness := (true, "acf9609300405bc69908821f0a489668cbf2064c0067e46138444bb57b028e7c"), looks := false }, kinds := [], alts := [], laidByText := true, laidKinds := [.data], laidTests := true, laidLooks := .later }
def DctTellsUptoCardSaid : Prop := Claim7.holds Tryd.pinned (.plain (OpenSpec.upto dctTellsSpec)) dctTellsUptoCard

/-- THE SECOND FORM's CARD OF 'earshotlaw12.DctLogs'. -/
def dctLogsUptoCard : Claim7 := { stood := { row := dctLogsUptoRow, standIns := [], harness := (true, "acf9609300405bc69908821f0a489668cbf2064c0067e46138444bb57b028e7c"), looks := false }, kinds := [], alts := [], laidByText := true, laidKinds := [.data], laidTests := true, laidLooks := .later }
def DctLogsUptoCardSaid : Prop := Claim7.holds Tryd.pinned (.plain (OpenSpec.upto dctLogsSpec)) dctLogsUptoCard

/-- THE SECOND FORM's CARD OF 'earshotlaw12.DctRows'. -/
def dctRowsUptoCard : Claim7 := { stood := { row := dctRowsUptoRow, standIns := [], harness := (true, "acf9609300405bc69908821f0a489668cbf2064c0067e46138444bb57b028e7c"), looks := false }, kinds := [], alts := [], laidByText := true, laidKinds := [.data], laidTests := true, laidLooks := .later }
def DctRowsUptoCardSaid : Prop := Claim7.holds Tryd.pinned (.plain (OpenSpec.upto dctRowsSpec)) dctRowsUptoCard

/-- THE SECOND FORM's CARD OF 'earshotlaw12.DctFlat'. -/
def dctFlatUptoCard : Claim7 := { stood := { row := dctFlatUptoRow, standIns := [], harness := (true, "acf9609300405bc69908821f0a489668cbf2064c0067e46138444bb57b028e7c"), looks := false }, kinds := [], alts := [], laidByText := true, laidKinds := [.data], laidTests := true, laidLooks := .later }
def DctFlatUptoCardSaid : Prop := Claim7.holds Tryd.pinned (.plain (OpenSpec.upto dctFlatSpec)) dctFlatUptoCard

/-- THE SECOND FORM's CARD OF 'earshotlaw12.DctTurned'. -/
def dctTurnedUptoCard : Claim7 := { stood := { row := dctTurnedUptoRow, standIns := [], harness := (true, "acf9609300405bc69908821f0a489668cbf2064c0067e46138444bb57b028e7c"), looks := false }, kinds := [], alts := [], laidByText := true, laidKinds := [.data], laidTests := true, laidLooks := .later }
def DctTurnedUptoCardSaid : Prop := Claim7.holds Tryd.pinned (.plain (OpenSpec.upto dctTurnedSpec)) dctTurnedUptoCard

/-- THE SECOND FORM's CARD OF 'earshotlaw13.FrontFrames'. -/
def frontFramesUptoCard : Claim7 := { stood := { row := frontFramesUptoRow, standIns := [], harness := (true, "acf9609300405bc69908821f0a489668cbf2064c0067e46138444bb57b028e7c"), looks := false }, kinds := [], alts := [], laidByText := true, laidKinds := [.data], laidTests := true, laidLooks := .later }
def FrontFramesUptoCardSaid : Prop := Claim7.holds Tryd.pinned (.plain (OpenSpec.upto frontFramesSpec)) frontFramesUptoCard

/-- THE SECOND FORM's CARD OF 'earshotlaw13.FrontStream'. -/
def frontStreamUptoCard : Claim7 := { stood := { row := frontStreamUptoRow, standIns := [], harness := (true, "acf9609300405bc69908821f0a489668cbf2064c0067e46138444bb57b028e7c"), looks := false }, kinds := [], alts := [], laidByText := true, laidKinds := [.data], laidTests := true, laidLooks := .later }
def FrontStreamUptoCardSaid : Prop := Claim7.holds Tryd.pinned (.plain (OpenSpec.upto frontStreamSpec)) frontStreamUptoCard

/-- THE SECOND FORM's CARD OF 'earshotlaw13.FrontCuts'. -/
def frontCutsUptoCard : Claim7 := { stood := { row := frontCutsUptoRow, standIns := [], harness := (true, "acf9609300405bc69908821f0a489668cbf2064c0067e46138444bb57b028e7c"), looks := false }, kinds := [], alts := [], laidByText := true, laidKinds := [.data], laidTests := true, laidLooks := .later }
def FrontCutsUptoCardSaid : Prop := Claim7.holds Tryd.pinned (.plain (OpenSpec.upto frontCutsSpec)) frontCutsUptoCard

/-- THE SECOND FORM's CARD OF 'earshotlaw13.FrontMoves'. -/
def frontMovesUptoCard : Claim7 := { stood := { row := frontMovesUptoRow, standIns := [], harness := (true, "acf9609300405bc69908821f0a489668cbf2064c0067e46138444bb57b028e7c"), looks := false }, kinds := [], alts := [], laidByText := true, laidKinds := [.data], laidTests := true, laidLooks := .later }
def FrontMovesUptoCardSaid : Prop := Claim7.holds Tryd.pinned (.plain (OpenSpec.upto frontMovesSpec)) frontMovesUptoCard

/-- THE SECOND FORM's CARD OF 'earshotlaw13.FrontTails'. -/
def frontTailsUptoCard : Claim7 := { stood := { row := frontTailsUptoRow, standIns := [], harness := (true, "acf9609300405bc69908821f0a489668cbf2064c0067e46138444bb57b028e7c"), looks := false }, kinds := [], alts := [], laidByText := true, laidKinds := [.data], laidTests := true, laidLooks := .later }
def FrontTailsUptoCardSaid : Prop := Claim7.holds Tryd.pinned (.plain (OpenSpec.upto frontTailsSpec)) frontTailsUptoCard

/-- THE SECOND FORM's CARD OF 'earshotlaw13.FrontNil'. -/
def frontNilUptoCard : Claim7 := { stood := { row := frontNilUptoRow, standIns := [], harness := (true, "acf9609300405bc69908821f0a489668cbf2064c0067e46138444bb57b028e7c"), looks := false }, kinds := [], alts := [], laidByText := true, laidKinds := [.data], laidTests := true, laidLooks := .later }
def FrontNilUptoCardSaid : Prop := Claim7.holds Tryd.pinned (.plain (OpenSpec.upto frontNilSpec)) frontNilUptoCard
end Rows
end Go.Proofs.YtmhacdnnnebpdaaDoor
