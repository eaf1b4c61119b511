-- Written by a program of this work (wip/tools) for this claim; Lean checks it.
import Derived.Test.YtohmecfjpmapnaaDoorPCircleWindowx0
import Derived.Test.YtohmecfjpmapnaaDoorPCircleWindowx1
import Derived.Test.YtohmecfjpmapnaaDoorPCircleWindowx2
namespace Go.Proofs.YtohmecfjpmapnaaDoor.PCircleWindow
open Go.RowKit Go.Proofs.YtohmecfjpmapnaaDoorW.PrintWords Go.Proofs.YtohmecfjpmapnaaDoorW.PrintLast Go.Proofs.YtohmecfjpmapnaaDoorW.PrintMore
attribute [local go_sem] max2_int min2_int max_two min_two max_three min_three max_four min_four   -- for this text's walks alone
set_option linter.unusedVariables false
set_option linter.unusedSimpArgs false

end Go.Proofs.YtohmecfjpmapnaaDoor.PCircleWindow
