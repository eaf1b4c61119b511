/-
  NARROWER THAN 'FOR EVERY INPUT', by the rows' own cells (each row's printed sentence says how): DctTells: laid · DctLogs: laid · DctRows: laid · DctFlat: laid · DctTurned: laid · FrontFrames: laid · FrontStream: laid · FrontCuts: laid · FrontMoves: laid · FrontTails: laid · FrontNil: laid.
  DERIVED. THE GIVEN ROWS OF THIS SEAT. 11 by the template 'for every input the law returns true; each argument reads behind the call as it read before'; 0 by the template 'total and deterministic' (their statements: YtmhacdnnnebpdaaDoorTotals.lean).
  GIVEN WITH THE SEED: the statements are not yours to turn. If you find one false, say at which input.
  Laid BY PROGRAM, IN A SANDBOX (cutbox-rows.mjs): the forced cells as the released guide's own fill.sh prints them over the translation 60cf05ba1a9ace33… (all of the seat's roots in one cut). By AI agents, Wed Nov 11 2026. No macro, syntax, notation, axiom, sorry.
-/
import Derived.Test.YtmhacdnnnebpdaaDoorChecked
import GoSem.Claim
import GoSem.ClaimJoined
import GoSem.ClaimMapViews
import Derived.JoinedTies
import Derived.KernelRfl
namespace Go.Proofs.YtmhacdnnnebpdaaDoor
/- THE CELL 'sum', in the pinned program and in every row, IS THE sha256 OF THE DUMP (.gsa) THAT YtmhacdnnnebpdaaDoorProg.lean LOADS. Nothing in Lean hashes anything: it is a label: what it is worth is what the hold of that sum in a sandbox is worth. -/
noncomputable def Tryd.pinned : Pinned := { name := "ytmhacdnnnebpdaadoor", sum := "60cf05ba1a9ace33d98e0c5fde1130cee46cda86e2fa69915290bb95c4d5565a", checked := Tryd.checked }
namespace Rows
def none {H : Type} : Left H := { results := [], args := [] }

/- WHAT THE LISTED PACKAGE-LEVEL VARIABLES READ AS WHEN THE CALL BEGINS. Each datum BY PROGRAM (the guide's laid-datum.mjs) off the statement by which the dump's own 'gosem.cut.vars' lays the variable. In a bare row this is a premise. The card (YtmhacdnnnebpdaaDoorCards.lean) ties it to the program's text. -/
def laid_earshot_circle_cosines {H : Type} : DataW H := .agg [.lit (.int .i64 16384), .lit (.int .i64 16305), .lit (.int .i64 16069), .lit (.int .i64 15679), .lit (.int .i64 15137), .lit (.int .i64 14449), .lit (.int .i64 13623), .lit (.int .i64 12665), .lit (.int .i64 11585), .lit (.int .i64 10394), .lit (.int .i64 9102), .lit (.int .i64 7723), .lit (.int .i64 6270), .lit (.int .i64 4756), .lit (.int .i64 3196), .lit (.int .i64 1606), .lit (.int .i64 0)]

/-- 'earshotlaw12.DctTells': WHATEVER THE INPUT: true; the input reads as it did. -/
def dctTellsSpec : ChangeSpec := { name := "dctTells", fn := fun _ => fun
  | [d1, d2, d3] => { results := [.lit (.bool true)], args := [d1, d2, d3] }
  | _ => none }
def dctTellsRow : OpenClaim := { program := "ytmhacdnnnebpdaadoor", sum := "60cf05ba1a9ace33d98e0c5fde1130cee46cda86e2fa69915290bb95c4d5565a", func := "earshot/earshotlaw12.DctTells", spec := "dctTells", unfollowed := true, recurses := true, named := ["earshot/circle.cosines"], apart := false, laid := [("earshot/circle.cosines", laid_earshot_circle_cosines)] }
def DctTellsSaid : Prop := dctTellsRow.holds Tryd.pinned (OpenSpec.ofChange dctTellsSpec)

/-- ITS FALSE NEIGHBOUR: 'it returns false'. Refute it at one input. -/
def dctTellsWrong : ChangeSpec := { name := "dctTells", fn := fun _ => fun
  | [d1, d2, d3] => { results := [.lit (.bool false)], args := [d1, d2, d3] }
  | _ => none }
def DctTellsWrongFalsely : Prop := dctTellsRow.holds Tryd.pinned (OpenSpec.ofChange dctTellsWrong)

/-- 'earshotlaw12.DctLogs': WHATEVER THE INPUT: true; the input reads as it did. -/
def dctLogsSpec : ChangeSpec := { name := "dctLogs", fn := fun _ => fun
  | [d] => { results := [.lit (.bool true)], args := [d] }
  | _ => none }
def dctLogsRow : OpenClaim := { program := "ytmhacdnnnebpdaadoor", sum := "60cf05ba1a9ace33d98e0c5fde1130cee46cda86e2fa69915290bb95c4d5565a", func := "earshot/earshotlaw12.DctLogs", spec := "dctLogs", unfollowed := true, recurses := true, named := ["earshot/circle.cosines"], apart := false, laid := [("earshot/circle.cosines", laid_earshot_circle_cosines)] }
def DctLogsSaid : Prop := dctLogsRow.holds Tryd.pinned (OpenSpec.ofChange dctLogsSpec)

/-- ITS FALSE NEIGHBOUR: 'it returns false'. Refute it at one input. -/
def dctLogsWrong : ChangeSpec := { name := "dctLogs", fn := fun _ => fun
  | [d] => { results := [.lit (.bool false)], args := [d] }
  | _ => none }
def DctLogsWrongFalsely : Prop := dctLogsRow.holds Tryd.pinned (OpenSpec.ofChange dctLogsWrong)

/-- 'earshotlaw12.DctRows': WHATEVER THE INPUT: true; the input reads as it did. -/
def dctRowsSpec : ChangeSpec := { name := "dctRows", fn := fun _ => fun
  | [d1, d2] => { results := [.lit (.bool true)], args := [d1, d2] }
  | _ => none }
def dctRowsRow : OpenClaim := { program := "ytmhacdnnnebpdaadoor", sum := "60cf05ba1a9ace33d98e0c5fde1130cee46cda86e2fa69915290bb95c4d5565a", func := "earshot/earshotlaw12.DctRows", spec := "dctRows", unfollowed := true, recurses := true, named := ["earshot/circle.cosines"], apart := false, laid := [("earshot/circle.cosines", laid_earshot_circle_cosines)] }
def DctRowsSaid : Prop := dctRowsRow.holds Tryd.pinned (OpenSpec.ofChange dctRowsSpec)

/-- ITS FALSE NEIGHBOUR: 'it returns false'. Refute it at one input. -/
def dctRowsWrong : ChangeSpec := { name := "dctRows", fn := fun _ => fun
  | [d1, d2] => { results := [.lit (.bool false)], args := [d1, d2] }
  | _ => none }
def DctRowsWrongFalsely : Prop := dctRowsRow.holds Tryd.pinned (OpenSpec.ofChange dctRowsWrong)

/-- 'earshotlaw12.DctFlat': WHATEVER THE INPUT: true; the input reads as it did. -/
def dctFlatSpec : ChangeSpec := { name := "dctFlat", fn := fun _ => fun
  | [d1, d2, d3] => { results := [.lit (.bool true)], args := [d1, d2, d3] }
  | _ => none }
def dctFlatRow : OpenClaim := { program := "ytmhacdnnnebpdaadoor", sum := "60cf05ba1a9ace33d98e0c5fde1130cee46cda86e2fa69915290bb95c4d5565a", func := "earshot/earshotlaw12.DctFlat", spec := "dctFlat", unfollowed := true, recurses := true, named := ["earshot/circle.cosines"], apart := false, laid := [("earshot/circle.cosines", laid_earshot_circle_cosines)] }
def DctFlatSaid : Prop := dctFlatRow.holds Tryd.pinned (OpenSpec.ofChange dctFlatSpec)

/-- ITS FALSE NEIGHBOUR: 'it returns false'. Refute it at one input. -/
def dctFlatWrong : ChangeSpec := { name := "dctFlat", fn := fun _ => fun
  | [d1, d2, d3] => { results := [.lit (.bool false)], args := [d1, d2, d3] }
  | _ => none }
def DctFlatWrongFalsely : Prop := dctFlatRow.holds Tryd.pinned (OpenSpec.ofChange dctFlatWrong)

/-- 'earshotlaw12.DctTurned': WHATEVER THE INPUT: true; the input reads as it did. -/
def dctTurnedSpec : ChangeSpec := { name := "dctTurned", fn := fun _ => fun
  | [d1, d2, d3] => { results := [.lit (.bool true)], args := [d1, d2, d3] }
  | _ => none }
def dctTurnedRow : OpenClaim := { program := "ytmhacdnnnebpdaadoor", sum := "60cf05ba1a9ace33d98e0c5fde1130cee46cda86e2fa69915290bb95c4d5565a", func := "earshot/earshotlaw12.DctTurned", spec := "dctTurned", unfollowed := true, recurses := true, named := ["earshot/circle.cosines"], apart := false, laid := [("earshot/circle.cosines", laid_earshot_circle_cosines)] }
def DctTurnedSaid : Prop := dctTurnedRow.holds Tryd.pinned (OpenSpec.ofChange dctTurnedSpec)

/-- ITS FALSE NEIGHBOUR: 'it returns false'. Refute it at one input. -/
def dctTurnedWrong : ChangeSpec := { name := "dctTurned", fn := fun _ => fun
  | [d1, d2, d3] => { results := [.lit (.bool false)], args := [d1, d2, d3] }
  | _ => none }
def DctTurnedWrongFalsely : Prop := dctTurnedRow.holds Tryd.pinned (OpenSpec.ofChange dctTurnedWrong)

/-- 'earshotlaw13.FrontFrames': WHATEVER THE INPUT: true; the input reads as it did. -/
def frontFramesSpec : ChangeSpec := { name := "frontFrames", fn := fun _ => fun
  | [d1, d2, d3] => { results := [.lit (.bool true)], args := [d1, d2, d3] }
  | _ => none }
def frontFramesRow : OpenClaim := { program := "ytmhacdnnnebpdaadoor", sum := "60cf05ba1a9ace33d98e0c5fde1130cee46cda86e2fa69915290bb95c4d5565a", func := "earshot/earshotlaw13.FrontFrames", spec := "frontFrames", unfollowed := true, recurses := true, named := ["earshot/circle.cosines"], apart := false, laid := [("earshot/circle.cosines", laid_earshot_circle_cosines)] }
def FrontFramesSaid : Prop := frontFramesRow.holds Tryd.pinned (OpenSpec.ofChange frontFramesSpec)

/-- ITS FALSE NEIGHBOUR: 'it returns false'. Refute it at one input. -/
def frontFramesWrong : ChangeSpec := { name := "frontFrames", fn := fun _ => fun
  | [d1, d2, d3] => { results := [.lit (.bool false)], args := [d1, d2, d3] }
  | _ => none }
def FrontFramesWrongFalsely : Prop := frontFramesRow.holds Tryd.pinned (OpenSpec.ofChange frontFramesWrong)

/-- 'earshotlaw13.FrontStream': WHATEVER THE INPUT: true; the input reads as it did. -/
def frontStreamSpec : ChangeSpec := { name := "frontStream", fn := fun _ => fun
  | [d1, d2, d3] => { results := [.lit (.bool true)], args := [d1, d2, d3] }
  | _ => none }
def frontStreamRow : OpenClaim := { program := "ytmhacdnnnebpdaadoor", sum := "60cf05ba1a9ace33d98e0c5fde1130cee46cda86e2fa69915290bb95c4d5565a", func := "earshot/earshotlaw13.FrontStream", spec := "frontStream", unfollowed := true, recurses := true, named := ["earshot/circle.cosines"], apart := false, laid := [("earshot/circle.cosines", laid_earshot_circle_cosines)] }
def FrontStreamSaid : Prop := frontStreamRow.holds Tryd.pinned (OpenSpec.ofChange frontStreamSpec)

/-- ITS FALSE NEIGHBOUR: 'it returns false'. Refute it at one input. -/
def frontStreamWrong : ChangeSpec := { name := "frontStream", fn := fun _ => fun
  | [d1, d2, d3] => { results := [.lit (.bool false)], args := [d1, d2, d3] }
  | _ => none }
def FrontStreamWrongFalsely : Prop := frontStreamRow.holds Tryd.pinned (OpenSpec.ofChange frontStreamWrong)

/-- 'earshotlaw13.FrontCuts': WHATEVER THE INPUT: true; the input reads as it did. -/
def frontCutsSpec : ChangeSpec := { name := "frontCuts", fn := fun _ => fun
  | [d1, d2, d3] => { results := [.lit (.bool true)], args := [d1, d2, d3] }
  | _ => none }
def frontCutsRow : OpenClaim := { program := "ytmhacdnnnebpdaadoor", sum := "60cf05ba1a9ace33d98e0c5fde1130cee46cda86e2fa69915290bb95c4d5565a", func := "earshot/earshotlaw13.FrontCuts", spec := "frontCuts", unfollowed := true, recurses := true, named := ["earshot/circle.cosines"], apart := false, laid := [("earshot/circle.cosines", laid_earshot_circle_cosines)] }
def FrontCutsSaid : Prop := frontCutsRow.holds Tryd.pinned (OpenSpec.ofChange frontCutsSpec)

/-- ITS FALSE NEIGHBOUR: 'it returns false'. Refute it at one input. -/
def frontCutsWrong : ChangeSpec := { name := "frontCuts", fn := fun _ => fun
  | [d1, d2, d3] => { results := [.lit (.bool false)], args := [d1, d2, d3] }
  | _ => none }
def FrontCutsWrongFalsely : Prop := frontCutsRow.holds Tryd.pinned (OpenSpec.ofChange frontCutsWrong)

/-- 'earshotlaw13.FrontMoves': WHATEVER THE INPUT: true; the input reads as it did. -/
def frontMovesSpec : ChangeSpec := { name := "frontMoves", fn := fun _ => fun
  | [d1, d2, d3] => { results := [.lit (.bool true)], args := [d1, d2, d3] }
  | _ => none }
def frontMovesRow : OpenClaim := { program := "ytmhacdnnnebpdaadoor", sum := "60cf05ba1a9ace33d98e0c5fde1130cee46cda86e2fa69915290bb95c4d5565a", func := "earshot/earshotlaw13.FrontMoves", spec := "frontMoves", unfollowed := true, recurses := true, named := ["earshot/circle.cosines"], apart := false, laid := [("earshot/circle.cosines", laid_earshot_circle_cosines)] }
def FrontMovesSaid : Prop := frontMovesRow.holds Tryd.pinned (OpenSpec.ofChange frontMovesSpec)

/-- ITS FALSE NEIGHBOUR: 'it returns false'. Refute it at one input. -/
def frontMovesWrong : ChangeSpec := { name := "frontMoves", fn := fun _ => fun
  | [d1, d2, d3] => { results := [.lit (.bool false)], args := [d1, d2, d3] }
  | _ => none }
def FrontMovesWrongFalsely : Prop := frontMovesRow.holds Tryd.pinned (OpenSpec.ofChange frontMovesWrong)

/-- 'earshotlaw13.FrontTails': WHATEVER THE INPUT: true; the input reads as it did. -/
def frontTailsSpec : ChangeSpec := { name := "frontTails", fn := fun _ => fun
  | [d1, d2, d3] => { results := [.lit (.bool true)], args := [d1, d2, d3] }
  | _ => none }
def frontTailsRow : OpenClaim := { program := "ytmhacdnnnebpdaadoor", sum := "60cf05ba1a9ace33d98e0c5fde1130cee46cda86e2fa69915290bb95c4d5565a", func := "earshot/earshotlaw13.FrontTails", spec := "frontTails", unfollowed := true, recurses := true, named := ["earshot/circle.cosines"], apart := false, laid := [("earshot/circle.cosines", laid_earshot_circle_cosines)] }
def FrontTailsSaid : Prop := frontTailsRow.holds Tryd.pinned (OpenSpec.ofChange frontTailsSpec)

/-- ITS FALSE NEIGHBOUR: 'it returns false'. Refute it at one input. -/
def frontTailsWrong : ChangeSpec := { name := "frontTails", fn := fun _ => fun
  | [d1, d2, d3] => { results := [.lit (.bool false)], args := [d1, d2, d3] }
  | _ => none }
def FrontTailsWrongFalsely : Prop := frontTailsRow.holds Tryd.pinned (OpenSpec.ofChange frontTailsWrong)

/-- 'earshotlaw13.FrontNil': WHATEVER THE INPUT: true; the input reads as it did. -/
def frontNilSpec : ChangeSpec := { name := "frontNil", fn := fun _ => fun
  | [d1, d2] => { results := [.lit (.bool true)], args := [d1, d2] }
  | _ => none }
def frontNilRow : OpenClaim := { program := "ytmhacdnnnebpdaadoor", sum := "60cf05ba1a9ace33d98e0c5fde1130cee46cda86e2fa69915290bb95c4d5565a", func := "earshot/earshotlaw13.FrontNil", spec := "frontNil", unfollowed := true, recurses := true, named := ["earshot/circle.cosines"], apart := false, laid := [("earshot/circle.cosines", laid_earshot_circle_cosines)] }
def FrontNilSaid : Prop := frontNilRow.holds Tryd.pinned (OpenSpec.ofChange frontNilSpec)

/-- ITS FALSE NEIGHBOUR: 'it returns false'. Refute it at one input. -/
def frontNilWrong : ChangeSpec := { name := "frontNil", fn := fun _ => fun
  | [d1, d2] => { results := [.lit (.bool false)], args := [d1, d2] }
  | _ => none }
def FrontNilWrongFalsely : Prop := frontNilRow.holds Tryd.pinned (OpenSpec.ofChange frontNilWrong)

/- THE SECOND FORM. 'bulk': how many values and letters a reading holds, each counted each time it is reached (what is shared counts as often as it is met; a slice's spare places count too). A statement '..UptoSaid' is the law's where the arguments, and the package variables that the reading takes, are together of bulk at most 1048576: NARROWER than '..Said'. Prove '..Said' where nothing that the law and all that it calls make is longer than what came in: it says more and counts as full. Else prove '..UptoSaid'. A law counts once. -/
mutual
def uptoBulk {H : Type} : DataW H → Nat
  | .lit (.string bytes) => bytes.length + 1
  | .lit _ => 1
  | .nil => 1
  | .ptr d => uptoBulk d + 1
  | .slice elems spare => uptoBulkAll elems + uptoBulkAll spare + 1
  | .agg parts => uptoBulkAll parts + 1
  | .iface _ d => uptoBulk d + 1
  | .map entries => uptoBulkEntries entries + 1
  | .held _ => 1
def uptoBulkAll {H : Type} : List (DataW H) → Nat
  | [] => 0
  | d :: r => uptoBulk d + uptoBulkAll r
def uptoBulkEntries {H : Type} : List (Lit × DataW H) → Nat
  | [] => 0
  | x :: r => uptoBulkEntry x + uptoBulkEntries r
def uptoBulkEntry {H : Type} : Lit × DataW H → Nat
  | (.string bytes, d) => bytes.length + uptoBulk d + 1
  | (_, d) => uptoBulk d + 1
 end
def uptoSmall : (H : Type) → List (DataW H) → Bool := fun _ ds => decide (uptoBulkAll ds ≤ 1048576)
def OpenSpec.upto (s : _root_.Go.ChangeSpec) : _root_.Go.OpenSpec := { _root_.Go.OpenSpec.ofChange s with cond := some uptoSmall }

/-- 'earshotlaw12.DctTells', WHERE WHAT IT READS IS OF BULK AT MOST 1048576: true; the input reads as it did. -/
def dctTellsUptoRow : OpenClaim := { program := "ytmhacdnnnebpdaadoor", sum := "60cf05ba1a9ace33d98e0c5fde1130cee46cda86e2fa69915290bb95c4d5565a", func := "earshot/earshotlaw12.DctTells", spec := "dctTells", unfollowed := true, recurses := true, named := ["earshot/circle.cosines"], apart := false, laid := [("earshot/circle.cosines", laid_earshot_circle_cosines)], narrowed := true }
def DctTellsUptoSaid : Prop := dctTellsUptoRow.holds Tryd.pinned (OpenSpec.upto dctTellsSpec)

/-- 'earshotlaw12.DctLogs', WHERE WHAT IT READS IS OF BULK AT MOST 1048576: true; the input reads as it did. -/
def dctLogsUptoRow : OpenClaim := { program := "ytmhacdnnnebpdaadoor", sum := "60cf05ba1a9ace33d98e0c5fde1130cee46cda86e2fa69915290bb95c4d5565a", func := "earshot/earshotlaw12.DctLogs", spec := "dctLogs", unfollowed := true, recurses := true, named := ["earshot/circle.cosines"], apart := false, laid := [("earshot/circle.cosines", laid_earshot_circle_cosines)], narrowed := true }
def DctLogsUptoSaid : Prop := dctLogsUptoRow.holds Tryd.pinned (OpenSpec.upto dctLogsSpec)

/-- 'earshotlaw12.DctRows', WHERE WHAT IT READS IS OF BULK AT MOST 1048576: true; the input reads as it did. -/
def dctRowsUptoRow : OpenClaim := { program := "ytmhacdnnnebpdaadoor", sum := "60cf05ba1a9ace33d98e0c5fde1130cee46cda86e2fa69915290bb95c4d5565a", func := "earshot/earshotlaw12.DctRows", spec := "dctRows", unfollowed := true, recurses := true, named := ["earshot/circle.cosines"], apart := false, laid := [("earshot/circle.cosines", laid_earshot_circle_cosines)], narrowed := true }
def DctRowsUptoSaid : Prop := dctRowsUptoRow.holds Tryd.pinned (OpenSpec.upto dctRowsSpec)

/-- 'earshotlaw12.DctFlat', WHERE WHAT IT READS IS OF BULK AT MOST 1048576: true; the input reads as it did. -/
def dctFlatUptoRow : OpenClaim := { program := "ytmhacdnnnebpdaadoor", sum := "60cf05ba1a9ace33d98e0c5fde1130cee46cda86e2fa69915290bb95c4d5565a", func := "earshot/earshotlaw12.DctFlat", spec := "dctFlat", unfollowed := true, recurses := true, named := ["earshot/circle.cosines"], apart := false, laid := [("earshot/circle.cosines", laid_earshot_circle_cosines)], narrowed := true }
def DctFlatUptoSaid : Prop := dctFlatUptoRow.holds Tryd.pinned (OpenSpec.upto dctFlatSpec)

/-- 'earshotlaw12.DctTurned', WHERE WHAT IT READS IS OF BULK AT MOST 1048576: true; the input reads as it did. -/
def dctTurnedUptoRow : OpenClaim := { program := "ytmhacdnnnebpdaadoor", sum := "60cf05ba1a9ace33d98e0c5fde1130cee46cda86e2fa69915290bb95c4d5565a", func := "earshot/earshotlaw12.DctTurned", spec := "dctTurned", unfollowed := true, recurses := true, named := ["earshot/circle.cosines"], apart := false, laid := [("earshot/circle.cosines", laid_earshot_circle_cosines)], narrowed := true }
def DctTurnedUptoSaid : Prop := dctTurnedUptoRow.holds Tryd.pinned (OpenSpec.upto dctTurnedSpec)

/-- 'earshotlaw13.FrontFrames', WHERE WHAT IT READS IS OF BULK AT MOST 1048576: true; the input reads as it did. -/
def frontFramesUptoRow : OpenClaim := { program := "ytmhacdnnnebpdaadoor", sum := "60cf05ba1a9ace33d98e0c5fde1130cee46cda86e2fa69915290bb95c4d5565a", func := "earshot/earshotlaw13.FrontFrames", spec := "frontFrames", unfollowed := true, recurses := true, named := ["earshot/circle.cosines"], apart := false, laid := [("earshot/circle.cosines", laid_earshot_circle_cosines)], narrowed := true }
def FrontFramesUptoSaid : Prop := frontFramesUptoRow.holds Tryd.pinned (OpenSpec.upto frontFramesSpec)

/-- 'earshotlaw13.FrontStream', WHERE WHAT IT READS IS OF BULK AT MOST 1048576: true; the input reads as it did. -/
def frontStreamUptoRow : OpenClaim := { program := "ytmhacdnnnebpdaadoor", sum := "60cf05ba1a9ace33d98e0c5fde1130cee46cda86e2fa69915290bb95c4d5565a", func := "earshot/earshotlaw13.FrontStream", spec := "frontStream", unfollowed := true, recurses := true, named := ["earshot/circle.cosines"], apart := false, laid := [("earshot/circle.cosines", laid_earshot_circle_cosines)], narrowed := true }
def FrontStreamUptoSaid : Prop := frontStreamUptoRow.holds Tryd.pinned (OpenSpec.upto frontStreamSpec)

/-- 'earshotlaw13.FrontCuts', WHERE WHAT IT READS IS OF BULK AT MOST 1048576: true; the input reads as it did. -/
def frontCutsUptoRow : OpenClaim := { program := "ytmhacdnnnebpdaadoor", sum := "60cf05ba1a9ace33d98e0c5fde1130cee46cda86e2fa69915290bb95c4d5565a", func := "earshot/earshotlaw13.FrontCuts", spec := "frontCuts", unfollowed := true, recurses := true, named := ["earshot/circle.cosines"], apart := false, laid := [("earshot/circle.cosines", laid_earshot_circle_cosines)], narrowed := true }
def FrontCutsUptoSaid : Prop := frontCutsUptoRow.holds Tryd.pinned (OpenSpec.upto frontCutsSpec)

/-- 'earshotlaw13.FrontMoves', WHERE WHAT IT READS IS OF BULK AT MOST 1048576: true; the input reads as it did. -/
def frontMovesUptoRow : OpenClaim := { program := "ytmhacdnnnebpdaadoor", sum := "60cf05ba1a9ace33d98e0c5fde1130cee46cda86e2fa69915290bb95c4d5565a", func := "earshot/earshotlaw13.FrontMoves", spec := "frontMoves", unfollowed := true, recurses := true, named := ["earshot/circle.cosines"], apart := false, laid := [("earshot/circle.cosines", laid_earshot_circle_cosines)], narrowed := true }
def FrontMovesUptoSaid : Prop := frontMovesUptoRow.holds Tryd.pinned (OpenSpec.upto frontMovesSpec)

/-- 'earshotlaw13.FrontTails', WHERE WHAT IT READS IS OF BULK AT MOST 1048576: true; the input reads as it did. -/
def frontTailsUptoRow : OpenClaim := { program := "ytmhacdnnnebpdaadoor", sum := "60cf05ba1a9ace33d98e0c5fde1130cee46cda86e2fa69915290bb95c4d5565a", func := "earshot/earshotlaw13.FrontTails", spec := "frontTails", unfollowed := true, recurses := true, named := ["earshot/circle.cosines"], apart := false, laid := [("earshot/circle.cosines", laid_earshot_circle_cosines)], narrowed := true }
def FrontTailsUptoSaid : Prop := frontTailsUptoRow.holds Tryd.pinned (OpenSpec.upto frontTailsSpec)

/-- 'earshotlaw13.FrontNil', WHERE WHAT IT READS IS OF BULK AT MOST 1048576: true; the input reads as it did. -/
def frontNilUptoRow : OpenClaim := { program := "ytmhacdnnnebpdaadoor", sum := "60cf05ba1a9ace33d98e0c5fde1130cee46cda86e2fa69915290bb95c4d5565a", func := "earshot/earshotlaw13.FrontNil", spec := "frontNil", unfollowed := true, recurses := true, named := ["earshot/circle.cosines"], apart := false, laid := [("earshot/circle.cosines", laid_earshot_circle_cosines)], narrowed := true }
def FrontNilUptoSaid : Prop := frontNilUptoRow.holds Tryd.pinned (OpenSpec.upto frontNilSpec)

end Rows
end Go.Proofs.YtmhacdnnnebpdaaDoor
