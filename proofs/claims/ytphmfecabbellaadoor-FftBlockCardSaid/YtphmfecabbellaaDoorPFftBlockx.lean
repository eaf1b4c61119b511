-- Written by a program of this work (wip/tools) for this claim; Lean checks it.
import Derived.Test.YtphmfecabbellaaDoorPFftBlockx0
import Derived.Test.YtphmfecabbellaaDoorPFftBlockx1
import Derived.Test.YtphmfecabbellaaDoorPFftBlockx2
import Derived.Test.YtphmfecabbellaaDoorPFftBlockx3
import Derived.Test.YtphmfecabbellaaDoorPFftBlockx4
import Derived.Test.YtphmfecabbellaaDoorPFftBlockx5
import Derived.Test.YtphmfecabbellaaDoorPFftBlockx6
namespace Go.Proofs.YtphmfecabbellaaDoor.PFftBlock
open Go.RowKit Go.Proofs.YtphmfecabbellaaDoorW.PrintWords Go.Proofs.YtphmfecabbellaaDoorW.PrintLast Go.Proofs.YtphmfecabbellaaDoorW.PrintMore
attribute [local go_sem] max2_int min2_int max_two min_two max_three min_three max_four min_four   -- for this text's walks alone
set_option linter.unusedVariables false
set_option linter.unusedSimpArgs false

end Go.Proofs.YtphmfecabbellaaDoor.PFftBlock
