-- Written by a program of this work (wip/tools) for this claim; Lean checks it.
import Derived.Test.YtmhacdnnnebpdaaDoorPFrontMovesx0
import Derived.Test.YtmhacdnnnebpdaaDoorPFrontMovesx1
import Derived.Test.YtmhacdnnnebpdaaDoorPFrontMovesx2
import Derived.Test.YtmhacdnnnebpdaaDoorPFrontMovesx3
import Derived.Test.YtmhacdnnnebpdaaDoorPFrontMovesx4
import Derived.Test.YtmhacdnnnebpdaaDoorPFrontMovesx5
import Derived.Test.YtmhacdnnnebpdaaDoorPFrontMovesx6
import Derived.Test.YtmhacdnnnebpdaaDoorPFrontMovesx7
import Derived.Test.YtmhacdnnnebpdaaDoorPFrontMovesx8
import Derived.Test.YtmhacdnnnebpdaaDoorPFrontMovesx9
import Derived.Test.YtmhacdnnnebpdaaDoorPFrontMovesx10
import Derived.Test.YtmhacdnnnebpdaaDoorPFrontMovesx11
import Derived.Test.YtmhacdnnnebpdaaDoorPFrontMovesx12
import Derived.Test.YtmhacdnnnebpdaaDoorPFrontMovesx13
namespace Go.Proofs.YtmhacdnnnebpdaaDoor.PFrontMoves
open Go.RowKit Go.Proofs.YtmhacdnnnebpdaaDoorW.PrintWords Go.Proofs.YtmhacdnnnebpdaaDoorW.PrintLast Go.Proofs.YtmhacdnnnebpdaaDoorW.PrintMore
attribute [local go_sem] max2_int min2_int max_two min_two max_three min_three max_four min_four   -- for this text's walks alone
set_option linter.unusedVariables false
set_option linter.unusedSimpArgs false

end Go.Proofs.YtmhacdnnnebpdaaDoor.PFrontMoves
