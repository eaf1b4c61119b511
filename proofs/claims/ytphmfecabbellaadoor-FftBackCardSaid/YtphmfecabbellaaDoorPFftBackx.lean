-- Written by a program of this work (wip/tools) for this claim; Lean checks it.
import Derived.Test.YtphmfecabbellaaDoorPFftBackx0
import Derived.Test.YtphmfecabbellaaDoorPFftBackx1
import Derived.Test.YtphmfecabbellaaDoorPFftBackx2
import Derived.Test.YtphmfecabbellaaDoorPFftBackx3
import Derived.Test.YtphmfecabbellaaDoorPFftBackx4
import Derived.Test.YtphmfecabbellaaDoorPFftBackx5
import Derived.Test.YtphmfecabbellaaDoorPFftBackx6
namespace Go.Proofs.YtphmfecabbellaaDoor.PFftBack
open Go.RowKit Go.Proofs.YtphmfecabbellaaDoorW.PrintWords Go.Proofs.YtphmfecabbellaaDoorW.PrintLast Go.Proofs.YtphmfecabbellaaDoorW.PrintMore
attribute [local go_sem] max2_int min2_int max_two min_two max_three min_three max_four min_four   -- for this text's walks alone
set_option linter.unusedVariables false
set_option linter.unusedSimpArgs false

end Go.Proofs.YtphmfecabbellaaDoor.PFftBack
