-- Written by a program of this work (wip/tools) for this claim; Lean checks it.
import Derived.Test.YtohmecfjpmapnaaPMelTellsx0
import Derived.Test.YtohmecfjpmapnaaPMelTellsx1
import Derived.Test.YtohmecfjpmapnaaPMelTellsx2
import Derived.Test.YtohmecfjpmapnaaPMelTellsx3
import Derived.Test.YtohmecfjpmapnaaPMelTellsx4
namespace Go.Proofs.Ytohmecfjpmapnaa.PMelTells
open Go.RowKit Go.Proofs.YtohmecfjpmapnaaW.PrintWords Go.Proofs.YtohmecfjpmapnaaW.PrintLast Go.Proofs.YtohmecfjpmapnaaW.PrintMore
attribute [local go_sem] max2_int min2_int max_two min_two max_three min_three max_four min_four   -- for this text's walks alone
set_option linter.unusedVariables false
set_option linter.unusedSimpArgs false

end Go.Proofs.Ytohmecfjpmapnaa.PMelTells
