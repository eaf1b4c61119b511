-- Written by a program of this work (wip/tools) for this claim; Lean checks it.
import Derived.Test.YteihjdpbahfnnaaPLogsNormx0
import Derived.Test.YteihjdpbahfnnaaPLogsNormx1
import Derived.Test.YteihjdpbahfnnaaPLogsNormx2
namespace Go.Proofs.Yteihjdpbahfnnaa.PLogsNorm
open Go.RowKit Go.Proofs.YteihjdpbahfnnaaW.PrintWords Go.Proofs.YteihjdpbahfnnaaW.PrintLast Go.Proofs.YteihjdpbahfnnaaW.PrintMore
attribute [local go_sem] max2_int min2_int max_two min_two max_three min_three max_four min_four   -- for this text's walks alone
set_option linter.unusedVariables false
set_option linter.unusedSimpArgs false

end Go.Proofs.Yteihjdpbahfnnaa.PLogsNorm
