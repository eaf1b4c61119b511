-- Written by a program of this work (wip/tools) for this claim; Lean checks it.
import Derived.Test.YtmhacdnnnebpdaaDoorPDctTurnedx0
import Derived.Test.YtmhacdnnnebpdaaDoorPDctTurnedx1
import Derived.Test.YtmhacdnnnebpdaaDoorPDctTurnedx2
import Derived.Test.YtmhacdnnnebpdaaDoorPDctTurnedx3
import Derived.Test.YtmhacdnnnebpdaaDoorPDctTurnedx4
namespace Go.Proofs.YtmhacdnnnebpdaaDoor.PDctTurned
open Go.RowKit Go.Proofs.YtmhacdnnnebpdaaDoorW.PrintWords Go.Proofs.YtmhacdnnnebpdaaDoorW.PrintLast Go.Proofs.YtmhacdnnnebpdaaDoorW.PrintMore
attribute [local go_sem] max2_int min2_int max_two min_two max_three min_three max_four min_four   -- for this text's walks alone
set_option linter.unusedVariables false
set_option linter.unusedSimpArgs false

end Go.Proofs.YtmhacdnnnebpdaaDoor.PDctTurned
