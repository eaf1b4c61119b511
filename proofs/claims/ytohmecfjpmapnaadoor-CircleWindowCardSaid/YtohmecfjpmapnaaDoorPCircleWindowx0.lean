-- Written by a program of this work (wip/tools) for this claim; Lean checks it.
import Derived.Test.YtohmecfjpmapnaaDoorProg
import Derived.Below
import Derived.Deep.Draws
import Derived.Deep.AppendLies
import Derived.Maps.AppendAt
import Derived.OwnWalk
import Derived.Laws.BytesArg
import Derived.Laws.MakeOwn
import Derived.Laws.OwnMore
import Derived.Deep.OwnRows
import Derived.Tactics
import Derived.Lib.ConvBytes
import Derived.Laws.Slices
import Derived.WalkKit
import Derived.KernelRfl
import Derived.RowKit3
import Derived.Deep.LoopGhost
import Derived.Deep.QuietTactic
import Derived.BigQuiet
import Derived.WideLaws
import Derived.Deep.DeepCutAuto
import Derived.Deep.CutBlock
import Derived.Deep.RegionHeld3
import Derived.Laws.Rows
import Derived.Lib.AppendStr
import Derived.ArgAppend
import Derived.Laws.IdiomCopy
import Derived.OrdersHeld
import Derived.Laws.BitsLemmas
import Derived.RowKit
import Derived.IntWalk
import Derived.Test.YtohmecfjpmapnaaDoorWWords
import Derived.Test.YtohmecfjpmapnaaDoorWLast
import Derived.Test.YtohmecfjpmapnaaDoorWTab
import Derived.Test.YtohmecfjpmapnaaDoorWFour
import Derived.Test.YtohmecfjpmapnaaDoorWQPut
import Derived.Test.YtohmecfjpmapnaaDoorWApart
import Derived.Test.YtohmecfjpmapnaaDoorWArr
import Derived.Test.YtohmecfjpmapnaaDoorWZeros
import Derived.Test.YtohmecfjpmapnaaDoorWFoot
import Derived.Test.YtohmecfjpmapnaaDoorWKept
import Derived.Test.YtohmecfjpmapnaaDoorWShare
import Derived.Test.YtohmecfjpmapnaaDoorWN
import Derived.Test.YtohmecfjpmapnaaDoorWFootNe
import Derived.Test.YtohmecfjpmapnaaDoorWAt
import Derived.Test.YtohmecfjpmapnaaDoorWEqStruct
import Derived.Test.YtohmecfjpmapnaaDoorWRepsOne
import Derived.Test.YtohmecfjpmapnaaDoorWInv
import Derived.Test.YtohmecfjpmapnaaDoorWInvWords
import Derived.Test.YtohmecfjpmapnaaDoorWGuard
import Derived.Test.YtohmecfjpmapnaaDoorWNEv
import Derived.Test.YtohmecfjpmapnaaDoorWMore
namespace Go.Proofs.YtohmecfjpmapnaaDoor.PCircleWindow
open Go.RowKit Go.Proofs.YtohmecfjpmapnaaDoorW.PrintWords Go.Proofs.YtohmecfjpmapnaaDoorW.PrintLast Go.Proofs.YtohmecfjpmapnaaDoorW.PrintMore
attribute [local go_sem] max2_int min2_int max_two min_two max_three min_three max_four min_four   -- for this text's walks alone
set_option linter.unusedVariables false
set_option linter.unusedSimpArgs false



def errW : Option Int → Value
  | none => .nilIface
  | some c => .iface 0 (.int .i64 c)
theorem errW_none : errW none = .nilIface := rfl
theorem errW_some (c : Int) : errW (some c) = .iface 0 (.int .i64 c) := rfl

-- the values' own types

end Go.Proofs.YtohmecfjpmapnaaDoor.PCircleWindow
