/-
  DERIVED. GIVEN WITH THE SEED: THE CARDS: each row of YtohmecfjpmapnaaDoorRows.lean that lists a variable, with what it lists TIED to the program's text (the seventh form; the later family's looks); each row that meets fmt, with fmt's text TOLD by the authors' own Lean function (tested against real Go, not proved from fmt's source: count such statements apart). THE CARD IS WHAT COUNTS. Prove the row's statement (the work); the ties are given (YtohmecfjpmapnaaDoorTie.lean); close each card by the builder's one call (the guide's Derived/Test/ToyasCard.lean, 'card_holds'). Laid BY PROGRAM, IN A SANDBOX (cutbox-door.mjs). By AI agents, Wed Nov 11 2026. No macro, syntax, notation, axiom, sorry.
-/
import Derived.Test.YtohmecfjpmapnaaDoorRows
import GoSem.ClaimSeven
namespace Go.Proofs.YtohmecfjpmapnaaDoor
namespace Rows

/-- THE TIED CARD OF 'earshotlaw04.CircleTells'. -/
def circleTellsCard : Claim7 := { stood := { row := circleTellsRow, standIns := [], harness := (true, "461b8a6c427dd843e4fb5cdce73f343af8d07763414fd42972b3a64ab1fd158b"), looks := false }, kinds := [], alts := [], laidByText := true, laidKinds := [.data], laidTests := true, laidLooks := .later }
def CircleTellsCardSaid : Prop := Claim7.holds Tryd.pinned (.plain (OpenSpec.ofChange circleTellsSpec)) circleTellsCard

/-- THE TIED CARD OF 'earshotlaw04.CircleTurns'. -/
def circleTurnsCard : Claim7 := { stood := { row := circleTurnsRow, standIns := [], harness := (true, "461b8a6c427dd843e4fb5cdce73f343af8d07763414fd42972b3a64ab1fd158b"), looks := false }, kinds := [], alts := [], laidByText := true, laidKinds := [.data], laidTests := true, laidLooks := .later }
def CircleTurnsCardSaid : Prop := Claim7.holds Tryd.pinned (.plain (OpenSpec.ofChange circleTurnsSpec)) circleTurnsCard

/-- THE TIED CARD OF 'earshotlaw04.CircleUnit'. -/
def circleUnitCard : Claim7 := { stood := { row := circleUnitRow, standIns := [], harness := (true, "461b8a6c427dd843e4fb5cdce73f343af8d07763414fd42972b3a64ab1fd158b"), looks := false }, kinds := [], alts := [], laidByText := true, laidKinds := [.data], laidTests := true, laidLooks := .later }
def CircleUnitCardSaid : Prop := Claim7.holds Tryd.pinned (.plain (OpenSpec.ofChange circleUnitSpec)) circleUnitCard

/-- THE TIED CARD OF 'earshotlaw04.CircleWindow'. -/
def circleWindowCard : Claim7 := { stood := { row := circleWindowRow, standIns := [], harness := (true, "461b8a6c427dd843e4fb5cdce73f343af8d07763414fd42972b3a64ab1fd158b"), looks := false }, kinds := [], alts := [], laidByText := true, laidKinds := [.data], laidTests := true, laidLooks := .later }
def CircleWindowCardSaid : Prop := Claim7.holds Tryd.pinned (.plain (OpenSpec.ofChange circleWindowSpec)) circleWindowCard

/-- THE TIED CARD OF 'earshotlaw04.CircleNone'. -/
def circleNoneCard : Claim7 := { stood := { row := circleNoneRow, standIns := [], harness := (true, "461b8a6c427dd843e4fb5cdce73f343af8d07763414fd42972b3a64ab1fd158b"), looks := false }, kinds := [], alts := [], laidByText := true, laidKinds := [.data], laidTests := true, laidLooks := .later }
def CircleNoneCardSaid : Prop := Claim7.holds Tryd.pinned (.plain (OpenSpec.ofChange circleNoneSpec)) circleNoneCard

/-- THE SECOND FORM's CARD OF 'earshotlaw04.CircleTells'. -/
def circleTellsUptoCard : Claim7 := { stood := { row := circleTellsUptoRow, standIns := [], harness := (true, "461b8a6c427dd843e4fb5cdce73f343af8d07763414fd42972b3a64ab1fd158b"), looks := false }, kinds := [], alts := [], laidByText := true, laidKinds := [.data], laidTests := true, laidLooks := .later }
def CircleTellsUptoCardSaid : Prop := Claim7.holds Tryd.pinned (.plain (OpenSpec.upto circleTellsSpec)) circleTellsUptoCard

/-- THE SECOND FORM's CARD OF 'earshotlaw04.CircleTurns'. -/
def circleTurnsUptoCard : Claim7 := { stood := { row := circleTurnsUptoRow, standIns := [], harness := (true, "461b8a6c427dd843e4fb5cdce73f343af8d07763414fd42972b3a64ab1fd158b"), looks := false }, kinds := [], alts := [], laidByText := true, laidKinds := [.data], laidTests := true, laidLooks := .later }
def CircleTurnsUptoCardSaid : Prop := Claim7.holds Tryd.pinned (.plain (OpenSpec.upto circleTurnsSpec)) circleTurnsUptoCard

/-- THE SECOND FORM's CARD OF 'earshotlaw04.CircleUnit'. -/
def circleUnitUptoCard : Claim7 := { stood := { row := circleUnitUptoRow, standIns := [], harness := (true, "461b8a6c427dd843e4fb5cdce73f343af8d07763414fd42972b3a64ab1fd158b"), looks := false }, kinds := [], alts := [], laidByText := true, laidKinds := [.data], laidTests := true, laidLooks := .later }
def CircleUnitUptoCardSaid : Prop := Claim7.holds Tryd.pinned (.plain (OpenSpec.upto circleUnitSpec)) circleUnitUptoCard

/-- THE SECOND FORM's CARD OF 'earshotlaw04.CircleWindow'. -/
def circleWindowUptoCard : Claim7 := { stood := { row := circleWindowUptoRow, standIns := [], harness := (true, "461b8a6c427dd843e4fb5cdce73f343af8d07763414fd42972b3a64ab1fd158b"), looks := false }, kinds := [], alts := [], laidByText := true, laidKinds := [.data], laidTests := true, laidLooks := .later }
def CircleWindowUptoCardSaid : Prop := Claim7.holds Tryd.pinned (.plain (OpenSpec.upto circleWindowSpec)) circleWindowUptoCard

/-- THE SECOND FORM's CARD OF 'earshotlaw04.CircleNone'. -/
def circleNoneUptoCard : Claim7 := { stood := { row := circleNoneUptoRow, standIns := [], harness := (true, "461b8a6c427dd843e4fb5cdce73f343af8d07763414fd42972b3a64ab1fd158b"), looks := false }, kinds := [], alts := [], laidByText := true, laidKinds := [.data], laidTests := true, laidLooks := .later }
def CircleNoneUptoCardSaid : Prop := Claim7.holds Tryd.pinned (.plain (OpenSpec.upto circleNoneSpec)) circleNoneUptoCard
end Rows
end Go.Proofs.YtohmecfjpmapnaaDoor
