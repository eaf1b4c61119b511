/-
  DERIVED. GIVEN WITH THE SEED: THE CARDS: each row of YtphmfecabbellaaDoorRows.lean that lists a variable, with what it lists TIED to the program's text (the seventh form; the later family's looks); each row that meets fmt, with fmt's text TOLD by the authors' own Lean function (tested against real Go, not proved from fmt's source: count such statements apart). THE CARD IS WHAT COUNTS. Prove the row's statement (the work); the ties are given (YtphmfecabbellaaDoorTie.lean); close each card by the builder's one call (the guide's Derived/Test/ToyasCard.lean, 'card_holds'). Laid BY PROGRAM, IN A SANDBOX (cutbox-door.mjs). By AI agents, Wed Nov 11 2026. No macro, syntax, notation, axiom, sorry.
-/
import Derived.Test.YtphmfecabbellaaDoorRows
import GoSem.ClaimSeven
namespace Go.Proofs.YtphmfecabbellaaDoor
namespace Rows

/-- THE TIED CARD OF 'earshotlaw09.SpinQuarter'. -/
def spinQuarterCard : Claim7 := { stood := { row := spinQuarterRow, standIns := [], harness := (true, "174ad3b7ec72d93334986376f963bdf941a84b95e6ea367bbe757fbc209597d0"), looks := false }, kinds := [], alts := [], laidByText := true, laidKinds := [.data], laidTests := true, laidLooks := .later }
def SpinQuarterCardSaid : Prop := Claim7.holds Tryd.pinned (.plain (OpenSpec.ofChange spinQuarterSpec)) spinQuarterCard

/-- THE TIED CARD OF 'earshotlaw09.SpinTurns'. -/
def spinTurnsCard : Claim7 := { stood := { row := spinTurnsRow, standIns := [], harness := (true, "174ad3b7ec72d93334986376f963bdf941a84b95e6ea367bbe757fbc209597d0"), looks := false }, kinds := [], alts := [], laidByText := true, laidKinds := [.data], laidTests := true, laidLooks := .later }
def SpinTurnsCardSaid : Prop := Claim7.holds Tryd.pinned (.plain (OpenSpec.ofChange spinTurnsSpec)) spinTurnsCard

/-- THE TIED CARD OF 'earshotlaw09.SpinTells'. -/
def spinTellsCard : Claim7 := { stood := { row := spinTellsRow, standIns := [], harness := (true, "174ad3b7ec72d93334986376f963bdf941a84b95e6ea367bbe757fbc209597d0"), looks := false }, kinds := [], alts := [], laidByText := true, laidKinds := [.data], laidTests := true, laidLooks := .later }
def SpinTellsCardSaid : Prop := Claim7.holds Tryd.pinned (.plain (OpenSpec.ofChange spinTellsSpec)) spinTellsCard

/-- THE TIED CARD OF 'earshotlaw09.SpinSums'. -/
def spinSumsCard : Claim7 := { stood := { row := spinSumsRow, standIns := [], harness := (true, "174ad3b7ec72d93334986376f963bdf941a84b95e6ea367bbe757fbc209597d0"), looks := false }, kinds := [], alts := [], laidByText := true, laidKinds := [.data], laidTests := true, laidLooks := .later }
def SpinSumsCardSaid : Prop := Claim7.holds Tryd.pinned (.plain (OpenSpec.ofChange spinSumsSpec)) spinSumsCard

/-- THE TIED CARD OF 'earshotlaw09.SpinSizes'. -/
def spinSizesCard : Claim7 := { stood := { row := spinSizesRow, standIns := [], harness := (true, "174ad3b7ec72d93334986376f963bdf941a84b95e6ea367bbe757fbc209597d0"), looks := false }, kinds := [], alts := [], laidByText := true, laidKinds := [.data], laidTests := true, laidLooks := .later }
def SpinSizesCardSaid : Prop := Claim7.holds Tryd.pinned (.plain (OpenSpec.ofChange spinSizesSpec)) spinSizesCard

/-- THE TIED CARD OF 'earshotlaw10.FftBack'. -/
def fftBackCard : Claim7 := { stood := { row := fftBackRow, standIns := [], harness := (true, "174ad3b7ec72d93334986376f963bdf941a84b95e6ea367bbe757fbc209597d0"), looks := false }, kinds := [], alts := [], laidByText := true, laidKinds := [.data], laidTests := true, laidLooks := .later }
def FftBackCardSaid : Prop := Claim7.holds Tryd.pinned (.plain (OpenSpec.ofChange fftBackSpec)) fftBackCard

/-- THE TIED CARD OF 'earshotlaw10.FftDirect'. -/
def fftDirectCard : Claim7 := { stood := { row := fftDirectRow, standIns := [], harness := (true, "174ad3b7ec72d93334986376f963bdf941a84b95e6ea367bbe757fbc209597d0"), looks := false }, kinds := [], alts := [], laidByText := true, laidKinds := [.data], laidTests := true, laidLooks := .later }
def FftDirectCardSaid : Prop := Claim7.holds Tryd.pinned (.plain (OpenSpec.ofChange fftDirectSpec)) fftDirectCard

/-- THE TIED CARD OF 'earshotlaw10.FftSums'. -/
def fftSumsCard : Claim7 := { stood := { row := fftSumsRow, standIns := [], harness := (true, "174ad3b7ec72d93334986376f963bdf941a84b95e6ea367bbe757fbc209597d0"), looks := false }, kinds := [], alts := [], laidByText := true, laidKinds := [.data], laidTests := true, laidLooks := .later }
def FftSumsCardSaid : Prop := Claim7.holds Tryd.pinned (.plain (OpenSpec.ofChange fftSumsSpec)) fftSumsCard

/-- THE TIED CARD OF 'earshotlaw10.FftBlock'. -/
def fftBlockCard : Claim7 := { stood := { row := fftBlockRow, standIns := [], harness := (true, "174ad3b7ec72d93334986376f963bdf941a84b95e6ea367bbe757fbc209597d0"), looks := false }, kinds := [], alts := [], laidByText := true, laidKinds := [.data], laidTests := true, laidLooks := .later }
def FftBlockCardSaid : Prop := Claim7.holds Tryd.pinned (.plain (OpenSpec.ofChange fftBlockSpec)) fftBlockCard

/-- THE TIED CARD OF 'earshotlaw10.FftBins'. -/
def fftBinsCard : Claim7 := { stood := { row := fftBinsRow, standIns := [], harness := (true, "174ad3b7ec72d93334986376f963bdf941a84b95e6ea367bbe757fbc209597d0"), looks := false }, kinds := [], alts := [], laidByText := true, laidKinds := [.data], laidTests := true, laidLooks := .later }
def FftBinsCardSaid : Prop := Claim7.holds Tryd.pinned (.plain (OpenSpec.ofChange fftBinsSpec)) fftBinsCard

/-- THE SECOND FORM's CARD OF 'earshotlaw09.SpinQuarter'. -/
def spinQuarterUptoCard : Claim7 := { stood := { row := spinQuarterUptoRow, standIns := [], harness := (true, "174ad3b7ec72d93334986376f963bdf941a84b95e6ea367bbe757fbc209597d0"), looks := false }, kinds := [], alts := [], laidByText := true, laidKinds := [.data], laidTests := true, laidLooks := .later }
def SpinQuarterUptoCardSaid : Prop := Claim7.holds Tryd.pinned (.plain (OpenSpec.upto spinQuarterSpec)) spinQuarterUptoCard

/-- THE SECOND FORM's CARD OF 'earshotlaw09.SpinTurns'. -/
def spinTurnsUptoCard : Claim7 := { stood := { row := spinTurnsUptoRow, standIns := [], harness := (true, "174ad3b7ec72d93334986376f963bdf941a84b95e6ea367bbe757fbc209597d0"), looks := false }, kinds := [], alts := [], laidByText := true, laidKinds := [.data], laidTests := true, laidLooks := .later }
def SpinTurnsUptoCardSaid : Prop := Claim7.holds Tryd.pinned (.plain (OpenSpec.upto spinTurnsSpec)) spinTurnsUptoCard

/-- THE SECOND FORM's CARD OF 'earshotlaw09.SpinTells'. -/
def spinTellsUptoCard : Claim7 := { stood := { row := spinTellsUptoRow, standIns := [], harness := (true, "174ad3b7ec72d93334986376f963bdf941a84b95e6ea367bbe757fbc209597d0"), looks := false }, kinds := [], alts := [], laidByText := true, laidKinds := [.data], laidTests := true, laidLooks := .later }
def SpinTellsUptoCardSaid : Prop := Claim7.holds Tryd.pinned (.plain (OpenSpec.upto spinTellsSpec)) spinTellsUptoCard

/-- THE SECOND FORM's CARD OF 'earshotlaw09.SpinSums'. -/
def spinSumsUptoCard : Claim7 := { stood := { row := spinSumsUptoRow, standIns := [], harness := (true, "174ad3b7ec72d93334986376f963bdf941a84b95e6ea367bbe757fbc209597d0"), looks := false }, kinds := [], alts := [], laidByText := true, laidKinds := [.data], laidTests := true, laidLooks := .later }
def SpinSumsUptoCardSaid : Prop := Claim7.holds Tryd.pinned (.plain (OpenSpec.upto spinSumsSpec)) spinSumsUptoCard

/-- THE SECOND FORM's CARD OF 'earshotlaw09.SpinSizes'. -/
def spinSizesUptoCard : Claim7 := { stood := { row := spinSizesUptoRow, standIns := [], harness := (true, "174ad3b7ec72d93334986376f963bdf941a84b95e6ea367bbe757fbc209597d0"), looks := false }, kinds := [], alts := [], laidByText := true, laidKinds := [.data], laidTests := true, laidLooks := .later }
def SpinSizesUptoCardSaid : Prop := Claim7.holds Tryd.pinned (.plain (OpenSpec.upto spinSizesSpec)) spinSizesUptoCard

/-- THE SECOND FORM's CARD OF 'earshotlaw10.FftBack'. -/
def fftBackUptoCard : Claim7 := { stood := { row := fftBackUptoRow, standIns := [], harness := (true, "174ad3b7ec72d93334986376f963bdf941a84b95e6ea367bbe757fbc209597d0"), looks := false }, kinds := [], alts := [], laidByText := true, laidKinds := [.data], laidTests := true, laidLooks := .later }
def FftBackUptoCardSaid : Prop := Claim7.holds Tryd.pinned (.plain (OpenSpec.upto fftBackSpec)) fftBackUptoCard

/-- THE SECOND FORM's CARD OF 'earshotlaw10.FftDirect'. -/
def fftDirectUptoCard : Claim7 := { stood := { row := fftDirectUptoRow, standIns := [], harness := (true, "174ad3b7ec72d93334986376f963bdf941a84b95e6ea367bbe757fbc209597d0"), looks := false }, kinds := [], alts := [], laidByText := true, laidKinds := [.data], laidTests := true, laidLooks := .later }
def FftDirectUptoCardSaid : Prop := Claim7.holds Tryd.pinned (.plain (OpenSpec.upto fftDirectSpec)) fftDirectUptoCard

/-- THE SECOND FORM's CARD OF 'earshotlaw10.FftSums'. -/
def fftSumsUptoCard : Claim7 := { stood := { row := fftSumsUptoRow, standIns := [], harness := (true, "174ad3b7ec72d93334986376f963bdf941a84b95e6ea367bbe757fbc209597d0"), looks := false }, kinds := [], alts := [], laidByText := true, laidKinds := [.data], laidTests := true, laidLooks := .later }
def FftSumsUptoCardSaid : Prop := Claim7.holds Tryd.pinned (.plain (OpenSpec.upto fftSumsSpec)) fftSumsUptoCard

/-- THE SECOND FORM's CARD OF 'earshotlaw10.FftBlock'. -/
def fftBlockUptoCard : Claim7 := { stood := { row := fftBlockUptoRow, standIns := [], harness := (true, "174ad3b7ec72d93334986376f963bdf941a84b95e6ea367bbe757fbc209597d0"), looks := false }, kinds := [], alts := [], laidByText := true, laidKinds := [.data], laidTests := true, laidLooks := .later }
def FftBlockUptoCardSaid : Prop := Claim7.holds Tryd.pinned (.plain (OpenSpec.upto fftBlockSpec)) fftBlockUptoCard

/-- THE SECOND FORM's CARD OF 'earshotlaw10.FftBins'. -/
def fftBinsUptoCard : Claim7 := { stood := { row := fftBinsUptoRow, standIns := [], harness := (true, "174ad3b7ec72d93334986376f963bdf941a84b95e6ea367bbe757fbc209597d0"), looks := false }, kinds := [], alts := [], laidByText := true, laidKinds := [.data], laidTests := true, laidLooks := .later }
def FftBinsUptoCardSaid : Prop := Claim7.holds Tryd.pinned (.plain (OpenSpec.upto fftBinsSpec)) fftBinsUptoCard
end Rows
end Go.Proofs.YtphmfecabbellaaDoor
