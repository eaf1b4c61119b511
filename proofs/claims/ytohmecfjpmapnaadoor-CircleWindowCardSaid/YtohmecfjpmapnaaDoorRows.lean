/-
  NARROWER THAN 'FOR EVERY INPUT', by the rows' own cells (each row's printed sentence says how): CircleTells: laid · CircleTurns: laid · CircleUnit: laid · CircleWindow: laid · CircleNone: laid.
  DERIVED. THE GIVEN ROWS OF THIS SEAT. 5 by the template 'for every input the law returns true; each argument reads behind the call as it read before'; 0 by the template 'total and deterministic' (their statements: YtohmecfjpmapnaaDoorTotals.lean).
  GIVEN WITH THE SEED: the statements are not yours to turn. If you find one false, say at which input.
  Laid BY PROGRAM, IN A SANDBOX (cutbox-rows.mjs): the forced cells as the released guide's own fill.sh prints them over the translation 547595319ec94a40… (all of the seat's roots in one cut). By AI agents, Wed Nov 11 2026. No macro, syntax, notation, axiom, sorry.
-/
import Derived.Test.YtohmecfjpmapnaaDoorChecked
import GoSem.Claim
import GoSem.ClaimJoined
import GoSem.ClaimMapViews
import Derived.JoinedTies
import Derived.KernelRfl
namespace Go.Proofs.YtohmecfjpmapnaaDoor
/- THE CELL 'sum', in the pinned program and in every row, IS THE sha256 OF THE DUMP (.gsa) THAT YtohmecfjpmapnaaDoorProg.lean LOADS. Nothing in Lean hashes anything: it is a label: what it is worth is what the hold of that sum in a sandbox is worth. -/
noncomputable def Tryd.pinned : Pinned := { name := "ytohmecfjpmapnaadoor", sum := "547595319ec94a402db50a8a3ea30f65e67b5afaa4567ed1859d9614d4c73d68", checked := Tryd.checked }
namespace Rows
def none {H : Type} : Left H := { results := [], args := [] }

/- WHAT THE LISTED PACKAGE-LEVEL VARIABLES READ AS WHEN THE CALL BEGINS. Each datum BY PROGRAM (the guide's laid-datum.mjs) off the statement by which the dump's own 'gosem.cut.vars' lays the variable. In a bare row this is a premise. The card (YtohmecfjpmapnaaDoorCards.lean) ties it to the program's text. -/
def laid_earshot_circle_cosines {H : Type} : DataW H := .agg [.lit (.int .i64 16384), .lit (.int .i64 16305), .lit (.int .i64 16069), .lit (.int .i64 15679), .lit (.int .i64 15137), .lit (.int .i64 14449), .lit (.int .i64 13623), .lit (.int .i64 12665), .lit (.int .i64 11585), .lit (.int .i64 10394), .lit (.int .i64 9102), .lit (.int .i64 7723), .lit (.int .i64 6270), .lit (.int .i64 4756), .lit (.int .i64 3196), .lit (.int .i64 1606), .lit (.int .i64 0)]

/-- 'earshotlaw04.CircleTells': WHATEVER THE INPUT: true; the input reads as it did. -/
def circleTellsSpec : ChangeSpec := { name := "circleTells", fn := fun _ => fun
  | [d1, d2] => { results := [.lit (.bool true)], args := [d1, d2] }
  | _ => none }
def circleTellsRow : OpenClaim := { program := "ytohmecfjpmapnaadoor", sum := "547595319ec94a402db50a8a3ea30f65e67b5afaa4567ed1859d9614d4c73d68", func := "earshot/earshotlaw04.CircleTells", spec := "circleTells", unfollowed := true, recurses := true, named := ["earshot/circle.cosines"], apart := false, laid := [("earshot/circle.cosines", laid_earshot_circle_cosines)] }
def CircleTellsSaid : Prop := circleTellsRow.holds Tryd.pinned (OpenSpec.ofChange circleTellsSpec)

/-- ITS FALSE NEIGHBOUR: 'it returns false'. Refute it at one input. -/
def circleTellsWrong : ChangeSpec := { name := "circleTells", fn := fun _ => fun
  | [d1, d2] => { results := [.lit (.bool false)], args := [d1, d2] }
  | _ => none }
def CircleTellsWrongFalsely : Prop := circleTellsRow.holds Tryd.pinned (OpenSpec.ofChange circleTellsWrong)

/-- 'earshotlaw04.CircleTurns': WHATEVER THE INPUT: true; the input reads as it did. -/
def circleTurnsSpec : ChangeSpec := { name := "circleTurns", fn := fun _ => fun
  | [d1, d2] => { results := [.lit (.bool true)], args := [d1, d2] }
  | _ => none }
def circleTurnsRow : OpenClaim := { program := "ytohmecfjpmapnaadoor", sum := "547595319ec94a402db50a8a3ea30f65e67b5afaa4567ed1859d9614d4c73d68", func := "earshot/earshotlaw04.CircleTurns", spec := "circleTurns", unfollowed := true, recurses := true, named := ["earshot/circle.cosines"], apart := false, laid := [("earshot/circle.cosines", laid_earshot_circle_cosines)] }
def CircleTurnsSaid : Prop := circleTurnsRow.holds Tryd.pinned (OpenSpec.ofChange circleTurnsSpec)

/-- ITS FALSE NEIGHBOUR: 'it returns false'. Refute it at one input. -/
def circleTurnsWrong : ChangeSpec := { name := "circleTurns", fn := fun _ => fun
  | [d1, d2] => { results := [.lit (.bool false)], args := [d1, d2] }
  | _ => none }
def CircleTurnsWrongFalsely : Prop := circleTurnsRow.holds Tryd.pinned (OpenSpec.ofChange circleTurnsWrong)

/-- 'earshotlaw04.CircleUnit': WHATEVER THE INPUT: true; the input reads as it did. -/
def circleUnitSpec : ChangeSpec := { name := "circleUnit", fn := fun _ => fun
  | [d] => { results := [.lit (.bool true)], args := [d] }
  | _ => none }
def circleUnitRow : OpenClaim := { program := "ytohmecfjpmapnaadoor", sum := "547595319ec94a402db50a8a3ea30f65e67b5afaa4567ed1859d9614d4c73d68", func := "earshot/earshotlaw04.CircleUnit", spec := "circleUnit", unfollowed := true, recurses := true, named := ["earshot/circle.cosines"], apart := false, laid := [("earshot/circle.cosines", laid_earshot_circle_cosines)] }
def CircleUnitSaid : Prop := circleUnitRow.holds Tryd.pinned (OpenSpec.ofChange circleUnitSpec)

/-- ITS FALSE NEIGHBOUR: 'it returns false'. Refute it at one input. -/
def circleUnitWrong : ChangeSpec := { name := "circleUnit", fn := fun _ => fun
  | [d] => { results := [.lit (.bool false)], args := [d] }
  | _ => none }
def CircleUnitWrongFalsely : Prop := circleUnitRow.holds Tryd.pinned (OpenSpec.ofChange circleUnitWrong)

/-- 'earshotlaw04.CircleWindow': WHATEVER THE INPUT: true; the input reads as it did. -/
def circleWindowSpec : ChangeSpec := { name := "circleWindow", fn := fun _ => fun
  | [d1, d2] => { results := [.lit (.bool true)], args := [d1, d2] }
  | _ => none }
def circleWindowRow : OpenClaim := { program := "ytohmecfjpmapnaadoor", sum := "547595319ec94a402db50a8a3ea30f65e67b5afaa4567ed1859d9614d4c73d68", func := "earshot/earshotlaw04.CircleWindow", spec := "circleWindow", unfollowed := true, recurses := true, named := ["earshot/circle.cosines"], apart := false, laid := [("earshot/circle.cosines", laid_earshot_circle_cosines)] }
def CircleWindowSaid : Prop := circleWindowRow.holds Tryd.pinned (OpenSpec.ofChange circleWindowSpec)

/-- ITS FALSE NEIGHBOUR: 'it returns false'. Refute it at one input. -/
def circleWindowWrong : ChangeSpec := { name := "circleWindow", fn := fun _ => fun
  | [d1, d2] => { results := [.lit (.bool false)], args := [d1, d2] }
  | _ => none }
def CircleWindowWrongFalsely : Prop := circleWindowRow.holds Tryd.pinned (OpenSpec.ofChange circleWindowWrong)

/-- 'earshotlaw04.CircleNone': WHATEVER THE INPUT: true; the input reads as it did. -/
def circleNoneSpec : ChangeSpec := { name := "circleNone", fn := fun _ => fun
  | [d] => { results := [.lit (.bool true)], args := [d] }
  | _ => none }
def circleNoneRow : OpenClaim := { program := "ytohmecfjpmapnaadoor", sum := "547595319ec94a402db50a8a3ea30f65e67b5afaa4567ed1859d9614d4c73d68", func := "earshot/earshotlaw04.CircleNone", spec := "circleNone", unfollowed := true, recurses := true, named := ["earshot/circle.cosines"], apart := false, laid := [("earshot/circle.cosines", laid_earshot_circle_cosines)] }
def CircleNoneSaid : Prop := circleNoneRow.holds Tryd.pinned (OpenSpec.ofChange circleNoneSpec)

/-- ITS FALSE NEIGHBOUR: 'it returns false'. Refute it at one input. -/
def circleNoneWrong : ChangeSpec := { name := "circleNone", fn := fun _ => fun
  | [d] => { results := [.lit (.bool false)], args := [d] }
  | _ => none }
def CircleNoneWrongFalsely : Prop := circleNoneRow.holds Tryd.pinned (OpenSpec.ofChange circleNoneWrong)

/- THE SECOND FORM. 'bulk': how many values and letters a reading holds, each counted each time it is reached (what is shared counts as often as it is met; a slice's spare places count too). A statement '..UptoSaid' is the law's where the arguments, and the package variables that the reading takes, are together of bulk at most 1048576: NARROWER than '..Said'. Prove '..Said' where nothing that the law and all that it calls make is longer than what came in: it says more and counts as full. Else prove '..UptoSaid'. A law counts once. -/
mutual
def uptoBulk {H : Type} : DataW H → Nat
  | .lit (.string bytes) => bytes.length + 1
  | .lit _ => 1
  | .nil => 1
  | .ptr d => uptoBulk d + 1
  | .slice elems spare => uptoBulkAll elems + uptoBulkAll spare + 1
  | .agg parts => uptoBulkAll parts + 1
  | .iface _ d => uptoBulk d + 1
  | .map entries => uptoBulkEntries entries + 1
  | .held _ => 1
def uptoBulkAll {H : Type} : List (DataW H) → Nat
  | [] => 0
  | d :: r => uptoBulk d + uptoBulkAll r
def uptoBulkEntries {H : Type} : List (Lit × DataW H) → Nat
  | [] => 0
  | x :: r => uptoBulkEntry x + uptoBulkEntries r
def uptoBulkEntry {H : Type} : Lit × DataW H → Nat
  | (.string bytes, d) => bytes.length + uptoBulk d + 1
  | (_, d) => uptoBulk d + 1
 end
def uptoSmall : (H : Type) → List (DataW H) → Bool := fun _ ds => decide (uptoBulkAll ds ≤ 1048576)
def OpenSpec.upto (s : _root_.Go.ChangeSpec) : _root_.Go.OpenSpec := { _root_.Go.OpenSpec.ofChange s with cond := some uptoSmall }

/-- 'earshotlaw04.CircleTells', WHERE WHAT IT READS IS OF BULK AT MOST 1048576: true; the input reads as it did. -/
def circleTellsUptoRow : OpenClaim := { program := "ytohmecfjpmapnaadoor", sum := "547595319ec94a402db50a8a3ea30f65e67b5afaa4567ed1859d9614d4c73d68", func := "earshot/earshotlaw04.CircleTells", spec := "circleTells", unfollowed := true, recurses := true, named := ["earshot/circle.cosines"], apart := false, laid := [("earshot/circle.cosines", laid_earshot_circle_cosines)], narrowed := true }
def CircleTellsUptoSaid : Prop := circleTellsUptoRow.holds Tryd.pinned (OpenSpec.upto circleTellsSpec)

/-- 'earshotlaw04.CircleTurns', WHERE WHAT IT READS IS OF BULK AT MOST 1048576: true; the input reads as it did. -/
def circleTurnsUptoRow : OpenClaim := { program := "ytohmecfjpmapnaadoor", sum := "547595319ec94a402db50a8a3ea30f65e67b5afaa4567ed1859d9614d4c73d68", func := "earshot/earshotlaw04.CircleTurns", spec := "circleTurns", unfollowed := true, recurses := true, named := ["earshot/circle.cosines"], apart := false, laid := [("earshot/circle.cosines", laid_earshot_circle_cosines)], narrowed := true }
def CircleTurnsUptoSaid : Prop := circleTurnsUptoRow.holds Tryd.pinned (OpenSpec.upto circleTurnsSpec)

/-- 'earshotlaw04.CircleUnit', WHERE WHAT IT READS IS OF BULK AT MOST 1048576: true; the input reads as it did. -/
def circleUnitUptoRow : OpenClaim := { program := "ytohmecfjpmapnaadoor", sum := "547595319ec94a402db50a8a3ea30f65e67b5afaa4567ed1859d9614d4c73d68", func := "earshot/earshotlaw04.CircleUnit", spec := "circleUnit", unfollowed := true, recurses := true, named := ["earshot/circle.cosines"], apart := false, laid := [("earshot/circle.cosines", laid_earshot_circle_cosines)], narrowed := true }
def CircleUnitUptoSaid : Prop := circleUnitUptoRow.holds Tryd.pinned (OpenSpec.upto circleUnitSpec)

/-- 'earshotlaw04.CircleWindow', WHERE WHAT IT READS IS OF BULK AT MOST 1048576: true; the input reads as it did. -/
def circleWindowUptoRow : OpenClaim := { program := "ytohmecfjpmapnaadoor", sum := "547595319ec94a402db50a8a3ea30f65e67b5afaa4567ed1859d9614d4c73d68", func := "earshot/earshotlaw04.CircleWindow", spec := "circleWindow", unfollowed := true, recurses := true, named := ["earshot/circle.cosines"], apart := false, laid := [("earshot/circle.cosines", laid_earshot_circle_cosines)], narrowed := true }
def CircleWindowUptoSaid : Prop := circleWindowUptoRow.holds Tryd.pinned (OpenSpec.upto circleWindowSpec)

/-- 'earshotlaw04.CircleNone', WHERE WHAT IT READS IS OF BULK AT MOST 1048576: true; the input reads as it did. -/
def circleNoneUptoRow : OpenClaim := { program := "ytohmecfjpmapnaadoor", sum := "547595319ec94a402db50a8a3ea30f65e67b5afaa4567ed1859d9614d4c73d68", func := "earshot/earshotlaw04.CircleNone", spec := "circleNone", unfollowed := true, recurses := true, named := ["earshot/circle.cosines"], apart := false, laid := [("earshot/circle.cosines", laid_earshot_circle_cosines)], narrowed := true }
def CircleNoneUptoSaid : Prop := circleNoneUptoRow.holds Tryd.pinned (OpenSpec.upto circleNoneSpec)

end Rows
end Go.Proofs.YtohmecfjpmapnaaDoor
