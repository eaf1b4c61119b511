-- Written by a program of this work (wip/tools) for this claim; Lean checks it.
import Derived.Test.YtmhacdnnnebpdaaDoorPFrontCutsx0
import Derived.Test.YtmhacdnnnebpdaaDoorPFrontCutsx1
import Derived.Test.YtmhacdnnnebpdaaDoorPFrontCutsx2
import Derived.Test.YtmhacdnnnebpdaaDoorPFrontCutsx3
import Derived.Test.YtmhacdnnnebpdaaDoorPFrontCutsx4
import Derived.Test.YtmhacdnnnebpdaaDoorPFrontCutsx5
import Derived.Test.YtmhacdnnnebpdaaDoorPFrontCutsx6
import Derived.Test.YtmhacdnnnebpdaaDoorPFrontCutsx7
import Derived.Test.YtmhacdnnnebpdaaDoorPFrontCutsx8
import Derived.Test.YtmhacdnnnebpdaaDoorPFrontCutsx9
import Derived.Test.YtmhacdnnnebpdaaDoorPFrontCutsx10
namespace Go.Proofs.YtmhacdnnnebpdaaDoor.PFrontCuts
open Go.RowKit Go.Proofs.YtmhacdnnnebpdaaDoorW.PrintWords Go.Proofs.YtmhacdnnnebpdaaDoorW.PrintLast Go.Proofs.YtmhacdnnnebpdaaDoorW.PrintMore
attribute [local go_sem] max2_int min2_int max_two min_two max_three min_three max_four min_four   -- for this text's walks alone
set_option linter.unusedVariables false
set_option linter.unusedSimpArgs false

end Go.Proofs.YtmhacdnnnebpdaaDoor.PFrontCuts
