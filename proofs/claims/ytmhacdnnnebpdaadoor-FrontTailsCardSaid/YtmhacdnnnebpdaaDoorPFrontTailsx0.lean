-- Written by a program of this work (wip/tools) for this claim; Lean checks it.
import Derived.Test.YtmhacdnnnebpdaaDoorProg
import Derived.Below
import Derived.Deep.Draws
import Derived.Deep.AppendLies
import Derived.Maps.AppendAt
import Derived.OwnWalk
import Derived.Laws.BytesArg
import Derived.Laws.MakeOwn
import Derived.Laws.OwnMore
import Derived.Deep.OwnRows
import Derived.Tactics
import Derived.Lib.ConvBytes
import Derived.Laws.Slices
import Derived.WalkKit
import Derived.KernelRfl
import Derived.RowKit3
import Derived.Deep.LoopGhost
import Derived.Deep.QuietTactic
import Derived.BigQuiet
import Derived.WideLaws
import Derived.Deep.DeepCutAuto
import Derived.Deep.CutBlock
import Derived.Deep.RegionHeld3
import Derived.Laws.Rows
import Derived.Lib.AppendStr
import Derived.ArgAppend
import Derived.Laws.IdiomCopy
import Derived.OrdersHeld
import Derived.Laws.BitsLemmas
import Derived.RowKit
import Derived.Test.YtmhacdnnnebpdaaDoorLen64
import Derived.Laws.BitsAllLaws
import Derived.ArgAppend
import Derived.Deep.RegionLaw
import Derived.Laws.Cover3
import Derived.Deep.CutRange
import Derived.Deep.RegionHeld3
import Derived.Test.YtmhacdnnnebpdaaDoorWWords
import Derived.Test.YtmhacdnnnebpdaaDoorWLast
import Derived.Test.YtmhacdnnnebpdaaDoorWTab
import Derived.Test.YtmhacdnnnebpdaaDoorWFour
import Derived.Test.YtmhacdnnnebpdaaDoorWQPut
import Derived.Test.YtmhacdnnnebpdaaDoorWApart
import Derived.Test.YtmhacdnnnebpdaaDoorWArr
import Derived.Test.YtmhacdnnnebpdaaDoorWZeros
import Derived.Test.YtmhacdnnnebpdaaDoorWFoot
import Derived.Test.YtmhacdnnnebpdaaDoorWKept
import Derived.Test.YtmhacdnnnebpdaaDoorWShare
import Derived.Test.YtmhacdnnnebpdaaDoorWN
import Derived.Test.YtmhacdnnnebpdaaDoorWFootNe
import Derived.Test.YtmhacdnnnebpdaaDoorWAt
import Derived.Test.YtmhacdnnnebpdaaDoorWEqStruct
import Derived.Test.YtmhacdnnnebpdaaDoorWRepsOne
import Derived.Test.YtmhacdnnnebpdaaDoorWInv
import Derived.Test.YtmhacdnnnebpdaaDoorWInvWords
import Derived.Test.YtmhacdnnnebpdaaDoorWGuard
import Derived.Test.YtmhacdnnnebpdaaDoorWNEv
import Derived.Test.YtmhacdnnnebpdaaDoorWMore
namespace Go.Proofs.YtmhacdnnnebpdaaDoor.PFrontTails
open Go.RowKit Go.Proofs.YtmhacdnnnebpdaaDoorW.PrintWords Go.Proofs.YtmhacdnnnebpdaaDoorW.PrintLast Go.Proofs.YtmhacdnnnebpdaaDoorW.PrintMore
attribute [local go_sem] max2_int min2_int max_two min_two max_three min_three max_four min_four   -- for this text's walks alone
set_option linter.unusedVariables false
set_option linter.unusedSimpArgs false



def errW : Option Int → Value
  | none => .nilIface
  | some c => .iface 0 (.int .i64 c)
theorem errW_none : errW none = .nilIface := rfl
theorem errW_some (c : Int) : errW (some c) = .iface 0 (.int .i64 c) := rfl

theorem info3 : (Tryd.prog.info? 3).map (fun i => (i.zero, i.size, i.bytes)) = some (some (.int .i64 0), 1, 8) := by kernel_rfl
-- the values' own types

end Go.Proofs.YtmhacdnnnebpdaaDoor.PFrontTails
