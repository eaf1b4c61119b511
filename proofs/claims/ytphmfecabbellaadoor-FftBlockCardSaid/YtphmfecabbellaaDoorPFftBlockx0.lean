-- Written by a program of this work (wip/tools) for this claim; Lean checks it.
import Derived.Test.YtphmfecabbellaaDoorProg
import Derived.Below
import Derived.Deep.Draws
import Derived.Deep.AppendLies
import Derived.Maps.AppendAt
import Derived.OwnWalk
import Derived.Laws.BytesArg
import Derived.Laws.MakeOwn
import Derived.Laws.OwnMore
import Derived.Deep.OwnRows
import Derived.Tactics
import Derived.Lib.ConvBytes
import Derived.Laws.Slices
import Derived.WalkKit
import Derived.KernelRfl
import Derived.RowKit3
import Derived.Deep.LoopGhost
import Derived.Deep.QuietTactic
import Derived.BigQuiet
import Derived.WideLaws
import Derived.Deep.DeepCutAuto
import Derived.Deep.CutBlock
import Derived.Deep.RegionHeld3
import Derived.Laws.Rows
import Derived.Lib.AppendStr
import Derived.ArgAppend
import Derived.Laws.IdiomCopy
import Derived.OrdersHeld
import Derived.Laws.BitsLemmas
import Derived.RowKit
import Derived.Test.YtphmfecabbellaaDoorLen64
import Derived.Laws.BitsAllLaws
import Derived.ArgAppend
import Derived.Deep.RegionLaw
import Derived.Test.YtphmfecabbellaaDoorWWords
import Derived.Test.YtphmfecabbellaaDoorWLast
import Derived.Test.YtphmfecabbellaaDoorWTab
import Derived.Test.YtphmfecabbellaaDoorWFour
import Derived.Test.YtphmfecabbellaaDoorWQPut
import Derived.Test.YtphmfecabbellaaDoorWApart
import Derived.Test.YtphmfecabbellaaDoorWArr
import Derived.Test.YtphmfecabbellaaDoorWZeros
import Derived.Test.YtphmfecabbellaaDoorWFoot
import Derived.Test.YtphmfecabbellaaDoorWKept
import Derived.Test.YtphmfecabbellaaDoorWShare
import Derived.Test.YtphmfecabbellaaDoorWN
import Derived.Test.YtphmfecabbellaaDoorWFootNe
import Derived.Test.YtphmfecabbellaaDoorWAt
import Derived.Test.YtphmfecabbellaaDoorWEqStruct
import Derived.Test.YtphmfecabbellaaDoorWRepsOne
import Derived.Test.YtphmfecabbellaaDoorWInv
import Derived.Test.YtphmfecabbellaaDoorWInvWords
import Derived.Test.YtphmfecabbellaaDoorWGuard
import Derived.Test.YtphmfecabbellaaDoorWNEv
import Derived.Test.YtphmfecabbellaaDoorWMore
namespace Go.Proofs.YtphmfecabbellaaDoor.PFftBlock
open Go.RowKit Go.Proofs.YtphmfecabbellaaDoorW.PrintWords Go.Proofs.YtphmfecabbellaaDoorW.PrintLast Go.Proofs.YtphmfecabbellaaDoorW.PrintMore
attribute [local go_sem] max2_int min2_int max_two min_two max_three min_three max_four min_four   -- for this text's walks alone
set_option linter.unusedVariables false
set_option linter.unusedSimpArgs false



def errW : Option Int → Value
  | none => .nilIface
  | some c => .iface 0 (.int .i64 c)
theorem errW_none : errW none = .nilIface := rfl
theorem errW_some (c : Int) : errW (some c) = .iface 0 (.int .i64 c) := rfl

-- the values' own types

end Go.Proofs.YtphmfecabbellaaDoor.PFftBlock
