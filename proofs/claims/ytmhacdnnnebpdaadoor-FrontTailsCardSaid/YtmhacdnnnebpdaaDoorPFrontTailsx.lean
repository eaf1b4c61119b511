-- Written by a program of this work (wip/tools) for this claim; Lean checks it.
import Derived.Test.YtmhacdnnnebpdaaDoorPFrontTailsx0
import Derived.Test.YtmhacdnnnebpdaaDoorPFrontTailsx1
import Derived.Test.YtmhacdnnnebpdaaDoorPFrontTailsx2
import Derived.Test.YtmhacdnnnebpdaaDoorPFrontTailsx3
import Derived.Test.YtmhacdnnnebpdaaDoorPFrontTailsx4
import Derived.Test.YtmhacdnnnebpdaaDoorPFrontTailsx5
import Derived.Test.YtmhacdnnnebpdaaDoorPFrontTailsx6
import Derived.Test.YtmhacdnnnebpdaaDoorPFrontTailsx7
import Derived.Test.YtmhacdnnnebpdaaDoorPFrontTailsx8
import Derived.Test.YtmhacdnnnebpdaaDoorPFrontTailsx9
import Derived.Test.YtmhacdnnnebpdaaDoorPFrontTailsx10
import Derived.Test.YtmhacdnnnebpdaaDoorPFrontTailsx11
import Derived.Test.YtmhacdnnnebpdaaDoorPFrontTailsx12
namespace Go.Proofs.YtmhacdnnnebpdaaDoor.PFrontTails
open Go.RowKit Go.Proofs.YtmhacdnnnebpdaaDoorW.PrintWords Go.Proofs.YtmhacdnnnebpdaaDoorW.PrintLast Go.Proofs.YtmhacdnnnebpdaaDoorW.PrintMore
attribute [local go_sem] max2_int min2_int max_two min_two max_three min_three max_four min_four   -- for this text's walks alone
set_option linter.unusedVariables false
set_option linter.unusedSimpArgs false

end Go.Proofs.YtmhacdnnnebpdaaDoor.PFrontTails
