/-
  NARROWER THAN 'FOR EVERY INPUT', by the rows' own cells (each row's printed sentence says how): SpinQuarter: laid · SpinTurns: laid · SpinTells: laid · SpinSums: laid · SpinSizes: laid · FftBack: laid · FftDirect: laid · FftSums: laid · FftBlock: laid · FftBins: laid.
  DERIVED. THE GIVEN ROWS OF THIS SEAT. 10 by the template 'for every input the law returns true; each argument reads behind the call as it read before'; 0 by the template 'total and deterministic' (their statements: YtphmfecabbellaaDoorTotals.lean).
  GIVEN WITH THE SEED: the statements are not yours to turn. If you find one false, say at which input.
  Laid BY PROGRAM, IN A SANDBOX (cutbox-rows.mjs): the forced cells as the released guide's own fill.sh prints them over the translation 31ff360fab6836b8… (all of the seat's roots in one cut). By AI agents, Wed Nov 11 2026. No macro, syntax, notation, axiom, sorry.
-/
import Derived.Test.YtphmfecabbellaaDoorChecked
import GoSem.Claim
import GoSem.ClaimJoined
import GoSem.ClaimMapViews
import Derived.JoinedTies
import Derived.KernelRfl
namespace Go.Proofs.YtphmfecabbellaaDoor
/- THE CELL 'sum', in the pinned program and in every row, IS THE sha256 OF THE DUMP (.gsa) THAT YtphmfecabbellaaDoorProg.lean LOADS. Nothing in Lean hashes anything: it is a label: what it is worth is what the hold of that sum in a sandbox is worth. -/
noncomputable def Tryd.pinned : Pinned := { name := "ytphmfecabbellaadoor", sum := "31ff360fab6836b87549b991450b001dd8c4df5889244407ab5faac8ae659ff3", checked := Tryd.checked }
namespace Rows
def none {H : Type} : Left H := { results := [], args := [] }

/- WHAT THE LISTED PACKAGE-LEVEL VARIABLES READ AS WHEN THE CALL BEGINS. Each datum BY PROGRAM (the guide's laid-datum.mjs) off the statement by which the dump's own 'gosem.cut.vars' lays the variable. In a bare row this is a premise. The card (YtphmfecabbellaaDoorCards.lean) ties it to the program's text. -/
def laid_earshot_circle_cosines {H : Type} : DataW H := .agg [.lit (.int .i64 16384), .lit (.int .i64 16305), .lit (.int .i64 16069), .lit (.int .i64 15679), .lit (.int .i64 15137), .lit (.int .i64 14449), .lit (.int .i64 13623), .lit (.int .i64 12665), .lit (.int .i64 11585), .lit (.int .i64 10394), .lit (.int .i64 9102), .lit (.int .i64 7723), .lit (.int .i64 6270), .lit (.int .i64 4756), .lit (.int .i64 3196), .lit (.int .i64 1606), .lit (.int .i64 0)]

/-- 'earshotlaw09.SpinQuarter': WHATEVER THE INPUT: true; the input reads as it did. -/
def spinQuarterSpec : ChangeSpec := { name := "spinQuarter", fn := fun _ => fun
  | [d1, d2] => { results := [.lit (.bool true)], args := [d1, d2] }
  | _ => none }
def spinQuarterRow : OpenClaim := { program := "ytphmfecabbellaadoor", sum := "31ff360fab6836b87549b991450b001dd8c4df5889244407ab5faac8ae659ff3", func := "earshot/earshotlaw09.SpinQuarter", spec := "spinQuarter", unfollowed := true, recurses := true, named := ["earshot/circle.cosines"], apart := false, laid := [("earshot/circle.cosines", laid_earshot_circle_cosines)] }
def SpinQuarterSaid : Prop := spinQuarterRow.holds Tryd.pinned (OpenSpec.ofChange spinQuarterSpec)

/-- ITS FALSE NEIGHBOUR: 'it returns false'. Refute it at one input. -/
def spinQuarterWrong : ChangeSpec := { name := "spinQuarter", fn := fun _ => fun
  | [d1, d2] => { results := [.lit (.bool false)], args := [d1, d2] }
  | _ => none }
def SpinQuarterWrongFalsely : Prop := spinQuarterRow.holds Tryd.pinned (OpenSpec.ofChange spinQuarterWrong)

/-- 'earshotlaw09.SpinTurns': WHATEVER THE INPUT: true; the input reads as it did. -/
def spinTurnsSpec : ChangeSpec := { name := "spinTurns", fn := fun _ => fun
  | [d1, d2] => { results := [.lit (.bool true)], args := [d1, d2] }
  | _ => none }
def spinTurnsRow : OpenClaim := { program := "ytphmfecabbellaadoor", sum := "31ff360fab6836b87549b991450b001dd8c4df5889244407ab5faac8ae659ff3", func := "earshot/earshotlaw09.SpinTurns", spec := "spinTurns", unfollowed := true, recurses := true, named := ["earshot/circle.cosines"], apart := false, laid := [("earshot/circle.cosines", laid_earshot_circle_cosines)] }
def SpinTurnsSaid : Prop := spinTurnsRow.holds Tryd.pinned (OpenSpec.ofChange spinTurnsSpec)

/-- ITS FALSE NEIGHBOUR: 'it returns false'. Refute it at one input. -/
def spinTurnsWrong : ChangeSpec := { name := "spinTurns", fn := fun _ => fun
  | [d1, d2] => { results := [.lit (.bool false)], args := [d1, d2] }
  | _ => none }
def SpinTurnsWrongFalsely : Prop := spinTurnsRow.holds Tryd.pinned (OpenSpec.ofChange spinTurnsWrong)

/-- 'earshotlaw09.SpinTells': WHATEVER THE INPUT: true; the input reads as it did. -/
def spinTellsSpec : ChangeSpec := { name := "spinTells", fn := fun _ => fun
  | [d1, d2, d3] => { results := [.lit (.bool true)], args := [d1, d2, d3] }
  | _ => none }
def spinTellsRow : OpenClaim := { program := "ytphmfecabbellaadoor", sum := "31ff360fab6836b87549b991450b001dd8c4df5889244407ab5faac8ae659ff3", func := "earshot/earshotlaw09.SpinTells", spec := "spinTells", unfollowed := true, recurses := true, named := ["earshot/circle.cosines"], apart := false, laid := [("earshot/circle.cosines", laid_earshot_circle_cosines)] }
def SpinTellsSaid : Prop := spinTellsRow.holds Tryd.pinned (OpenSpec.ofChange spinTellsSpec)

/-- ITS FALSE NEIGHBOUR: 'it returns false'. Refute it at one input. -/
def spinTellsWrong : ChangeSpec := { name := "spinTells", fn := fun _ => fun
  | [d1, d2, d3] => { results := [.lit (.bool false)], args := [d1, d2, d3] }
  | _ => none }
def SpinTellsWrongFalsely : Prop := spinTellsRow.holds Tryd.pinned (OpenSpec.ofChange spinTellsWrong)

/-- 'earshotlaw09.SpinSums': WHATEVER THE INPUT: true; the input reads as it did. -/
def spinSumsSpec : ChangeSpec := { name := "spinSums", fn := fun _ => fun
  | [d1, d2, d3] => { results := [.lit (.bool true)], args := [d1, d2, d3] }
  | _ => none }
def spinSumsRow : OpenClaim := { program := "ytphmfecabbellaadoor", sum := "31ff360fab6836b87549b991450b001dd8c4df5889244407ab5faac8ae659ff3", func := "earshot/earshotlaw09.SpinSums", spec := "spinSums", unfollowed := true, recurses := true, named := ["earshot/circle.cosines"], apart := false, laid := [("earshot/circle.cosines", laid_earshot_circle_cosines)] }
def SpinSumsSaid : Prop := spinSumsRow.holds Tryd.pinned (OpenSpec.ofChange spinSumsSpec)

/-- ITS FALSE NEIGHBOUR: 'it returns false'. Refute it at one input. -/
def spinSumsWrong : ChangeSpec := { name := "spinSums", fn := fun _ => fun
  | [d1, d2, d3] => { results := [.lit (.bool false)], args := [d1, d2, d3] }
  | _ => none }
def SpinSumsWrongFalsely : Prop := spinSumsRow.holds Tryd.pinned (OpenSpec.ofChange spinSumsWrong)

/-- 'earshotlaw09.SpinSizes': WHATEVER THE INPUT: true; the input reads as it did. -/
def spinSizesSpec : ChangeSpec := { name := "spinSizes", fn := fun _ => fun
  | [d1, d2, d3] => { results := [.lit (.bool true)], args := [d1, d2, d3] }
  | _ => none }
def spinSizesRow : OpenClaim := { program := "ytphmfecabbellaadoor", sum := "31ff360fab6836b87549b991450b001dd8c4df5889244407ab5faac8ae659ff3", func := "earshot/earshotlaw09.SpinSizes", spec := "spinSizes", unfollowed := true, recurses := true, named := ["earshot/circle.cosines"], apart := false, laid := [("earshot/circle.cosines", laid_earshot_circle_cosines)] }
def SpinSizesSaid : Prop := spinSizesRow.holds Tryd.pinned (OpenSpec.ofChange spinSizesSpec)

/-- ITS FALSE NEIGHBOUR: 'it returns false'. Refute it at one input. -/
def spinSizesWrong : ChangeSpec := { name := "spinSizes", fn := fun _ => fun
  | [d1, d2, d3] => { results := [.lit (.bool false)], args := [d1, d2, d3] }
  | _ => none }
def SpinSizesWrongFalsely : Prop := spinSizesRow.holds Tryd.pinned (OpenSpec.ofChange spinSizesWrong)

/-- 'earshotlaw10.FftBack': WHATEVER THE INPUT: true; the input reads as it did. -/
def fftBackSpec : ChangeSpec := { name := "fftBack", fn := fun _ => fun
  | [d1, d2, d3] => { results := [.lit (.bool true)], args := [d1, d2, d3] }
  | _ => none }
def fftBackRow : OpenClaim := { program := "ytphmfecabbellaadoor", sum := "31ff360fab6836b87549b991450b001dd8c4df5889244407ab5faac8ae659ff3", func := "earshot/earshotlaw10.FftBack", spec := "fftBack", unfollowed := true, recurses := true, named := ["earshot/circle.cosines"], apart := false, laid := [("earshot/circle.cosines", laid_earshot_circle_cosines)] }
def FftBackSaid : Prop := fftBackRow.holds Tryd.pinned (OpenSpec.ofChange fftBackSpec)

/-- ITS FALSE NEIGHBOUR: 'it returns false'. Refute it at one input. -/
def fftBackWrong : ChangeSpec := { name := "fftBack", fn := fun _ => fun
  | [d1, d2, d3] => { results := [.lit (.bool false)], args := [d1, d2, d3] }
  | _ => none }
def FftBackWrongFalsely : Prop := fftBackRow.holds Tryd.pinned (OpenSpec.ofChange fftBackWrong)

/-- 'earshotlaw10.FftDirect': WHATEVER THE INPUT: true; the input reads as it did. -/
def fftDirectSpec : ChangeSpec := { name := "fftDirect", fn := fun _ => fun
  | [d1, d2, d3] => { results := [.lit (.bool true)], args := [d1, d2, d3] }
  | _ => none }
def fftDirectRow : OpenClaim := { program := "ytphmfecabbellaadoor", sum := "31ff360fab6836b87549b991450b001dd8c4df5889244407ab5faac8ae659ff3", func := "earshot/earshotlaw10.FftDirect", spec := "fftDirect", unfollowed := true, recurses := true, named := ["earshot/circle.cosines"], apart := false, laid := [("earshot/circle.cosines", laid_earshot_circle_cosines)] }
def FftDirectSaid : Prop := fftDirectRow.holds Tryd.pinned (OpenSpec.ofChange fftDirectSpec)

/-- ITS FALSE NEIGHBOUR: 'it returns false'. Refute it at one input. -/
def fftDirectWrong : ChangeSpec := { name := "fftDirect", fn := fun _ => fun
  | [d1, d2, d3] => { results := [.lit (.bool false)], args := [d1, d2, d3] }
  | _ => none }
def FftDirectWrongFalsely : Prop := fftDirectRow.holds Tryd.pinned (OpenSpec.ofChange fftDirectWrong)

/-- 'earshotlaw10.FftSums': WHATEVER THE INPUT: true; the input reads as it did. -/
def fftSumsSpec : ChangeSpec := { name := "fftSums", fn := fun _ => fun
  | [d1, d2, d3] => { results := [.lit (.bool true)], args := [d1, d2, d3] }
  | _ => none }
def fftSumsRow : OpenClaim := { program := "ytphmfecabbellaadoor", sum := "31ff360fab6836b87549b991450b001dd8c4df5889244407ab5faac8ae659ff3", func := "earshot/earshotlaw10.FftSums", spec := "fftSums", unfollowed := true, recurses := true, named := ["earshot/circle.cosines"], apart := false, laid := [("earshot/circle.cosines", laid_earshot_circle_cosines)] }
def FftSumsSaid : Prop := fftSumsRow.holds Tryd.pinned (OpenSpec.ofChange fftSumsSpec)

/-- ITS FALSE NEIGHBOUR: 'it returns false'. Refute it at one input. -/
def fftSumsWrong : ChangeSpec := { name := "fftSums", fn := fun _ => fun
  | [d1, d2, d3] => { results := [.lit (.bool false)], args := [d1, d2, d3] }
  | _ => none }
def FftSumsWrongFalsely : Prop := fftSumsRow.holds Tryd.pinned (OpenSpec.ofChange fftSumsWrong)

/-- 'earshotlaw10.FftBlock': WHATEVER THE INPUT: true; the input reads as it did. -/
def fftBlockSpec : ChangeSpec := { name := "fftBlock", fn := fun _ => fun
  | [d1, d2, d3] => { results := [.lit (.bool true)], args := [d1, d2, d3] }
  | _ => none }
def fftBlockRow : OpenClaim := { program := "ytphmfecabbellaadoor", sum := "31ff360fab6836b87549b991450b001dd8c4df5889244407ab5faac8ae659ff3", func := "earshot/earshotlaw10.FftBlock", spec := "fftBlock", unfollowed := true, recurses := true, named := ["earshot/circle.cosines"], apart := false, laid := [("earshot/circle.cosines", laid_earshot_circle_cosines)] }
def FftBlockSaid : Prop := fftBlockRow.holds Tryd.pinned (OpenSpec.ofChange fftBlockSpec)

/-- ITS FALSE NEIGHBOUR: 'it returns false'. Refute it at one input. -/
def fftBlockWrong : ChangeSpec := { name := "fftBlock", fn := fun _ => fun
  | [d1, d2, d3] => { results := [.lit (.bool false)], args := [d1, d2, d3] }
  | _ => none }
def FftBlockWrongFalsely : Prop := fftBlockRow.holds Tryd.pinned (OpenSpec.ofChange fftBlockWrong)

/-- 'earshotlaw10.FftBins': WHATEVER THE INPUT: true; the input reads as it did. -/
def fftBinsSpec : ChangeSpec := { name := "fftBins", fn := fun _ => fun
  | [d1, d2] => { results := [.lit (.bool true)], args := [d1, d2] }
  | _ => none }
def fftBinsRow : OpenClaim := { program := "ytphmfecabbellaadoor", sum := "31ff360fab6836b87549b991450b001dd8c4df5889244407ab5faac8ae659ff3", func := "earshot/earshotlaw10.FftBins", spec := "fftBins", unfollowed := true, recurses := true, named := ["earshot/circle.cosines"], apart := false, laid := [("earshot/circle.cosines", laid_earshot_circle_cosines)] }
def FftBinsSaid : Prop := fftBinsRow.holds Tryd.pinned (OpenSpec.ofChange fftBinsSpec)

/-- ITS FALSE NEIGHBOUR: 'it returns false'. Refute it at one input. -/
def fftBinsWrong : ChangeSpec := { name := "fftBins", fn := fun _ => fun
  | [d1, d2] => { results := [.lit (.bool false)], args := [d1, d2] }
  | _ => none }
def FftBinsWrongFalsely : Prop := fftBinsRow.holds Tryd.pinned (OpenSpec.ofChange fftBinsWrong)

/- THE SECOND FORM. 'bulk': how many values and letters a reading holds, each counted each time it is reached (what is shared counts as often as it is met; a slice's spare places count too). A statement '..UptoSaid' is the law's where the arguments, and the package variables that the reading takes, are together of bulk at most 1048576: NARROWER than '..Said'. Prove '..Said' where nothing that the law and all that it calls make is longer than what came in: it says more and counts as full. Else prove '..UptoSaid'. A law counts once. -/
mutual
def uptoBulk {H : Type} : DataW H → Nat
  | .lit (.string bytes) => bytes.length + 1
  | .lit _ => 1
  | .nil => 1
  | .ptr d => uptoBulk d + 1
  | .slice elems spare => uptoBulkAll elems + uptoBulkAll spare + 1
  | .agg parts => uptoBulkAll parts + 1
  | .iface _ d => uptoBulk d + 1
  | .map entries => uptoBulkEntries entries + 1
  | .held _ => 1
def uptoBulkAll {H : Type} : List (DataW H) → Nat
  | [] => 0
  | d :: r => uptoBulk d + uptoBulkAll r
def uptoBulkEntries {H : Type} : List (Lit × DataW H) → Nat
  | [] => 0
  | x :: r => uptoBulkEntry x + uptoBulkEntries r
def uptoBulkEntry {H : Type} : Lit × DataW H → Nat
  | (.string bytes, d) => bytes.length + uptoBulk d + 1
  | (_, d) => uptoBulk d + 1
 end
def uptoSmall : (H : Type) → List (DataW H) → Bool := fun _ ds => decide (uptoBulkAll ds ≤ 1048576)
def OpenSpec.upto (s : _root_.Go.ChangeSpec) : _root_.Go.OpenSpec := { _root_.Go.OpenSpec.ofChange s with cond := some uptoSmall }

/-- 'earshotlaw09.SpinQuarter', WHERE WHAT IT READS IS OF BULK AT MOST 1048576: true; the input reads as it did. -/
def spinQuarterUptoRow : OpenClaim := { program := "ytphmfecabbellaadoor", sum := "31ff360fab6836b87549b991450b001dd8c4df5889244407ab5faac8ae659ff3", func := "earshot/earshotlaw09.SpinQuarter", spec := "spinQuarter", unfollowed := true, recurses := true, named := ["earshot/circle.cosines"], apart := false, laid := [("earshot/circle.cosines", laid_earshot_circle_cosines)], narrowed := true }
def SpinQuarterUptoSaid : Prop := spinQuarterUptoRow.holds Tryd.pinned (OpenSpec.upto spinQuarterSpec)

/-- 'earshotlaw09.SpinTurns', WHERE WHAT IT READS IS OF BULK AT MOST 1048576: true; the input reads as it did. -/
def spinTurnsUptoRow : OpenClaim := { program := "ytphmfecabbellaadoor", sum := "31ff360fab6836b87549b991450b001dd8c4df5889244407ab5faac8ae659ff3", func := "earshot/earshotlaw09.SpinTurns", spec := "spinTurns", unfollowed := true, recurses := true, named := ["earshot/circle.cosines"], apart := false, laid := [("earshot/circle.cosines", laid_earshot_circle_cosines)], narrowed := true }
def SpinTurnsUptoSaid : Prop := spinTurnsUptoRow.holds Tryd.pinned (OpenSpec.upto spinTurnsSpec)

/-- 'earshotlaw09.SpinTells', WHERE WHAT IT READS IS OF BULK AT MOST 1048576: true; the input reads as it did. -/
def spinTellsUptoRow : OpenClaim := { program := "ytphmfecabbellaadoor", sum := "31ff360fab6836b87549b991450b001dd8c4df5889244407ab5faac8ae659ff3", func := "earshot/earshotlaw09.SpinTells", spec := "spinTells", unfollowed := true, recurses := true, named := ["earshot/circle.cosines"], apart := false, laid := [("earshot/circle.cosines", laid_earshot_circle_cosines)], narrowed := true }
def SpinTellsUptoSaid : Prop := spinTellsUptoRow.holds Tryd.pinned (OpenSpec.upto spinTellsSpec)

/-- 'earshotlaw09.SpinSums', WHERE WHAT IT READS IS OF BULK AT MOST 1048576: true; the input reads as it did. -/
def spinSumsUptoRow : OpenClaim := { program := "ytphmfecabbellaadoor", sum := "31ff360fab6836b87549b991450b001dd8c4df5889244407ab5faac8ae659ff3", func := "earshot/earshotlaw09.SpinSums", spec := "spinSums", unfollowed := true, recurses := true, named := ["earshot/circle.cosines"], apart := false, laid := [("earshot/circle.cosines", laid_earshot_circle_cosines)], narrowed := true }
def SpinSumsUptoSaid : Prop := spinSumsUptoRow.holds Tryd.pinned (OpenSpec.upto spinSumsSpec)

/-- 'earshotlaw09.SpinSizes', WHERE WHAT IT READS IS OF BULK AT MOST 1048576: true; the input reads as it did. -/
def spinSizesUptoRow : OpenClaim := { program := "ytphmfecabbellaadoor", sum := "31ff360fab6836b87549b991450b001dd8c4df5889244407ab5faac8ae659ff3", func := "earshot/earshotlaw09.SpinSizes", spec := "spinSizes", unfollowed := true, recurses := true, named := ["earshot/circle.cosines"], apart := false, laid := [("earshot/circle.cosines", laid_earshot_circle_cosines)], narrowed := true }
def SpinSizesUptoSaid : Prop := spinSizesUptoRow.holds Tryd.pinned (OpenSpec.upto spinSizesSpec)

/-- 'earshotlaw10.FftBack', WHERE WHAT IT READS IS OF BULK AT MOST 1048576: true; the input reads as it did. -/
def fftBackUptoRow : OpenClaim := { program := "ytphmfecabbellaadoor", sum := "31ff360fab6836b87549b991450b001dd8c4df5889244407ab5faac8ae659ff3", func := "earshot/earshotlaw10.FftBack", spec := "fftBack", unfollowed := true, recurses := true, named := ["earshot/circle.cosines"], apart := false, laid := [("earshot/circle.cosines", laid_earshot_circle_cosines)], narrowed := true }
def FftBackUptoSaid : Prop := fftBackUptoRow.holds Tryd.pinned (OpenSpec.upto fftBackSpec)

/-- 'earshotlaw10.FftDirect', WHERE WHAT IT READS IS OF BULK AT MOST 1048576: true; the input reads as it did. -/
def fftDirectUptoRow : OpenClaim := { program := "ytphmfecabbellaadoor", sum := "31ff360fab6836b87549b991450b001dd8c4df5889244407ab5faac8ae659ff3", func := "earshot/earshotlaw10.FftDirect", spec := "fftDirect", unfollowed := true, recurses := true, named := ["earshot/circle.cosines"], apart := false, laid := [("earshot/circle.cosines", laid_earshot_circle_cosines)], narrowed := true }
def FftDirectUptoSaid : Prop := fftDirectUptoRow.holds Tryd.pinned (OpenSpec.upto fftDirectSpec)

/-- 'earshotlaw10.FftSums', WHERE WHAT IT READS IS OF BULK AT MOST 1048576: true; the input reads as it did. -/
def fftSumsUptoRow : OpenClaim := { program := "ytphmfecabbellaadoor", sum := "31ff360fab6836b87549b991450b001dd8c4df5889244407ab5faac8ae659ff3", func := "earshot/earshotlaw10.FftSums", spec := "fftSums", unfollowed := true, recurses := true, named := ["earshot/circle.cosines"], apart := false, laid := [("earshot/circle.cosines", laid_earshot_circle_cosines)], narrowed := true }
def FftSumsUptoSaid : Prop := fftSumsUptoRow.holds Tryd.pinned (OpenSpec.upto fftSumsSpec)

/-- 'earshotlaw10.FftBlock', WHERE WHAT IT READS IS OF BULK AT MOST 1048576: true; the input reads as it did. -/
def fftBlockUptoRow : OpenClaim := { program := "ytphmfecabbellaadoor", sum := "31ff360fab6836b87549b991450b001dd8c4df5889244407ab5faac8ae659ff3", func := "earshot/earshotlaw10.FftBlock", spec := "fftBlock", unfollowed := true, recurses := true, named := ["earshot/circle.cosines"], apart := false, laid := [("earshot/circle.cosines", laid_earshot_circle_cosines)], narrowed := true }
def FftBlockUptoSaid : Prop := fftBlockUptoRow.holds Tryd.pinned (OpenSpec.upto fftBlockSpec)

/-- 'earshotlaw10.FftBins', WHERE WHAT IT READS IS OF BULK AT MOST 1048576: true; the input reads as it did. -/
def fftBinsUptoRow : OpenClaim := { program := "ytphmfecabbellaadoor", sum := "31ff360fab6836b87549b991450b001dd8c4df5889244407ab5faac8ae659ff3", func := "earshot/earshotlaw10.FftBins", spec := "fftBins", unfollowed := true, recurses := true, named := ["earshot/circle.cosines"], apart := false, laid := [("earshot/circle.cosines", laid_earshot_circle_cosines)], narrowed := true }
def FftBinsUptoSaid : Prop := fftBinsUptoRow.holds Tryd.pinned (OpenSpec.upto fftBinsSpec)

end Rows
end Go.Proofs.YtphmfecabbellaaDoor
