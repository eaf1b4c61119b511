-- Written by a program of this work (wip/tools) for this claim; Lean checks it.
import Derived.Test.YteihjdpbahfnnaaProg
import Derived.Below
import Derived.Deep.Draws
import Derived.Deep.AppendLies
import Derived.Maps.AppendAt
import Derived.OwnWalk
import Derived.Laws.BytesArg
import Derived.Laws.MakeOwn
import Derived.Laws.OwnMore
import Derived.Deep.OwnRows
import Derived.Tactics
import Derived.Lib.ConvBytes
import Derived.Laws.Slices
import Derived.WalkKit
import Derived.KernelRfl
import Derived.RowKit3
import Derived.Deep.LoopGhost
import Derived.Deep.QuietTactic
import Derived.BigQuiet
import Derived.WideLaws
import Derived.Deep.DeepCutAuto
import Derived.Deep.CutBlock
import Derived.Deep.RegionHeld3
import Derived.Laws.Rows
import Derived.Lib.AppendStr
import Derived.ArgAppend
import Derived.Laws.IdiomCopy
import Derived.OrdersHeld
import Derived.Laws.BitsLemmas
import Derived.RowKit
import Derived.Test.YteihjdpbahfnnaaLen64
import Derived.Laws.BitsAllLaws
import Derived.Test.YteihjdpbahfnnaaWWords
import Derived.Test.YteihjdpbahfnnaaWLast
import Derived.Test.YteihjdpbahfnnaaWTab
import Derived.Test.YteihjdpbahfnnaaWFour
import Derived.Test.YteihjdpbahfnnaaWQPut
import Derived.Test.YteihjdpbahfnnaaWApart
import Derived.Test.YteihjdpbahfnnaaWArr
import Derived.Test.YteihjdpbahfnnaaWZeros
import Derived.Test.YteihjdpbahfnnaaWFoot
import Derived.Test.YteihjdpbahfnnaaWKept
import Derived.Test.YteihjdpbahfnnaaWShare
import Derived.Test.YteihjdpbahfnnaaWN
import Derived.Test.YteihjdpbahfnnaaWFootNe
import Derived.Test.YteihjdpbahfnnaaWAt
import Derived.Test.YteihjdpbahfnnaaWEqStruct
import Derived.Test.YteihjdpbahfnnaaWRepsOne
import Derived.Test.YteihjdpbahfnnaaWInv
import Derived.Test.YteihjdpbahfnnaaWInvWords
import Derived.Test.YteihjdpbahfnnaaWGuard
import Derived.Test.YteihjdpbahfnnaaWNEv
import Derived.Test.YteihjdpbahfnnaaWMore
namespace Go.Proofs.Yteihjdpbahfnnaa.PLogsNorm
open Go.RowKit Go.Proofs.YteihjdpbahfnnaaW.PrintWords Go.Proofs.YteihjdpbahfnnaaW.PrintLast Go.Proofs.YteihjdpbahfnnaaW.PrintMore
attribute [local go_sem] max2_int min2_int max_two min_two max_three min_three max_four min_four   -- for this text's walks alone
set_option linter.unusedVariables false
set_option linter.unusedSimpArgs false



def errW : Option Int → Value
  | none => .nilIface
  | some c => .iface 0 (.int .i64 c)
theorem errW_none : errW none = .nilIface := rfl
theorem errW_some (c : Int) : errW (some c) = .iface 0 (.int .i64 c) := rfl

theorem info3 : (Try.prog.info? 3).map (fun i => (i.zero, i.size, i.bytes)) = some (some (.int .i64 0), 1, 8) := by kernel_rfl
-- the values' own types

end Go.Proofs.Yteihjdpbahfnnaa.PLogsNorm
