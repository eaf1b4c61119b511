-- Written by a program of this work (wip/tools) for this claim; Lean checks it.
import Derived.Test.YtmhacdnnnebpdaaDoorPFrontNilx0
import Derived.Test.YtmhacdnnnebpdaaDoorPFrontNilx1
import Derived.Test.YtmhacdnnnebpdaaDoorPFrontNilx2
import Derived.Test.YtmhacdnnnebpdaaDoorPFrontNilx3
import Derived.Test.YtmhacdnnnebpdaaDoorPFrontNilx4
import Derived.Test.YtmhacdnnnebpdaaDoorPFrontNilx5
import Derived.Test.YtmhacdnnnebpdaaDoorPFrontNilx6
import Derived.Test.YtmhacdnnnebpdaaDoorPFrontNilx7
import Derived.Test.YtmhacdnnnebpdaaDoorPFrontNilx8
import Derived.Test.YtmhacdnnnebpdaaDoorPFrontNilx9
namespace Go.Proofs.YtmhacdnnnebpdaaDoor.PFrontNil
open Go.RowKit Go.Proofs.YtmhacdnnnebpdaaDoorW.PrintWords Go.Proofs.YtmhacdnnnebpdaaDoorW.PrintLast Go.Proofs.YtmhacdnnnebpdaaDoorW.PrintMore
attribute [local go_sem] max2_int min2_int max_two min_two max_three min_three max_four min_four   -- for this text's walks alone
set_option linter.unusedVariables false
set_option linter.unusedSimpArgs false

end Go.Proofs.YtmhacdnnnebpdaaDoor.PFrontNil
