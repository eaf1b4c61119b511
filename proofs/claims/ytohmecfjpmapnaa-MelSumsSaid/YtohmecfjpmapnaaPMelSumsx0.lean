-- Written by a program of this work (wip/tools) for this claim; Lean checks it.
import Derived.Test.YtohmecfjpmapnaaProg
import Derived.Below
import Derived.Deep.Draws
import Derived.Deep.AppendLies
import Derived.Maps.AppendAt
import Derived.OwnWalk
import Derived.Laws.BytesArg
import Derived.Laws.MakeOwn
import Derived.Laws.OwnMore
import Derived.Deep.OwnRows
import Derived.Tactics
import Derived.Lib.ConvBytes
import Derived.Laws.Slices
import Derived.WalkKit
import Derived.KernelRfl
import Derived.RowKit3
import Derived.Deep.LoopGhost
import Derived.Deep.QuietTactic
import Derived.BigQuiet
import Derived.WideLaws
import Derived.Deep.DeepCutAuto
import Derived.Deep.CutBlock
import Derived.Deep.RegionHeld3
import Derived.Laws.Rows
import Derived.Lib.AppendStr
import Derived.ArgAppend
import Derived.Laws.IdiomCopy
import Derived.OrdersHeld
import Derived.Laws.BitsLemmas
import Derived.RowKit
import Derived.Test.YtohmecfjpmapnaaLen64
import Derived.Laws.BitsAllLaws
import Derived.Test.YtohmecfjpmapnaaWWords
import Derived.Test.YtohmecfjpmapnaaWLast
import Derived.Test.YtohmecfjpmapnaaWTab
import Derived.Test.YtohmecfjpmapnaaWFour
import Derived.Test.YtohmecfjpmapnaaWQPut
import Derived.Test.YtohmecfjpmapnaaWApart
import Derived.Test.YtohmecfjpmapnaaWArr
import Derived.Test.YtohmecfjpmapnaaWZeros
import Derived.Test.YtohmecfjpmapnaaWFoot
import Derived.Test.YtohmecfjpmapnaaWKept
import Derived.Test.YtohmecfjpmapnaaWShare
import Derived.Test.YtohmecfjpmapnaaWN
import Derived.Test.YtohmecfjpmapnaaWFootNe
import Derived.Test.YtohmecfjpmapnaaWAt
import Derived.Test.YtohmecfjpmapnaaWEqStruct
import Derived.Test.YtohmecfjpmapnaaWRepsOne
import Derived.Test.YtohmecfjpmapnaaWInv
import Derived.Test.YtohmecfjpmapnaaWInvWords
import Derived.Test.YtohmecfjpmapnaaWGuard
import Derived.Test.YtohmecfjpmapnaaWNEv
import Derived.Test.YtohmecfjpmapnaaWMore
namespace Go.Proofs.Ytohmecfjpmapnaa.PMelSums
open Go.RowKit Go.Proofs.YtohmecfjpmapnaaW.PrintWords Go.Proofs.YtohmecfjpmapnaaW.PrintLast Go.Proofs.YtohmecfjpmapnaaW.PrintMore
attribute [local go_sem] max2_int min2_int max_two min_two max_three min_three max_four min_four   -- for this text's walks alone
set_option linter.unusedVariables false
set_option linter.unusedSimpArgs false



def errW : Option Int → Value
  | none => .nilIface
  | some c => .iface 0 (.int .i64 c)
theorem errW_none : errW none = .nilIface := rfl
theorem errW_some (c : Int) : errW (some c) = .iface 0 (.int .i64 c) := rfl

theorem info3 : (Try.prog.info? 3).map (fun i => (i.zero, i.size, i.bytes)) = some (some (.int .i64 0), 1, 8) := by kernel_rfl
-- the values' own types

end Go.Proofs.Ytohmecfjpmapnaa.PMelSums
