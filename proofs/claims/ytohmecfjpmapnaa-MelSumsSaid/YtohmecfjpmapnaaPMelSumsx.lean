-- Written by a program of this work (wip/tools) for this claim; Lean checks it.
import Derived.Test.YtohmecfjpmapnaaPMelSumsx0
import Derived.Test.YtohmecfjpmapnaaPMelSumsx1
import Derived.Test.YtohmecfjpmapnaaPMelSumsx2
import Derived.Test.YtohmecfjpmapnaaPMelSumsx3
namespace Go.Proofs.Ytohmecfjpmapnaa.PMelSums
open Go.RowKit Go.Proofs.YtohmecfjpmapnaaW.PrintWords Go.Proofs.YtohmecfjpmapnaaW.PrintLast Go.Proofs.YtohmecfjpmapnaaW.PrintMore
attribute [local go_sem] max2_int min2_int max_two min_two max_three min_three max_four min_four   -- for this text's walks alone
set_option linter.unusedVariables false
set_option linter.unusedSimpArgs false

end Go.Proofs.Ytohmecfjpmapnaa.PMelSums
