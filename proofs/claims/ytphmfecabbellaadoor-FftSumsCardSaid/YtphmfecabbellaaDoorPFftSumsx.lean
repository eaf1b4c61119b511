-- Written by a program of this work (wip/tools) for this claim; Lean checks it.
import Derived.Test.YtphmfecabbellaaDoorPFftSumsx0
import Derived.Test.YtphmfecabbellaaDoorPFftSumsx1
import Derived.Test.YtphmfecabbellaaDoorPFftSumsx2
import Derived.Test.YtphmfecabbellaaDoorPFftSumsx3
import Derived.Test.YtphmfecabbellaaDoorPFftSumsx4
import Derived.Test.YtphmfecabbellaaDoorPFftSumsx5
import Derived.Test.YtphmfecabbellaaDoorPFftSumsx6
namespace Go.Proofs.YtphmfecabbellaaDoor.PFftSums
open Go.RowKit Go.Proofs.YtphmfecabbellaaDoorW.PrintWords Go.Proofs.YtphmfecabbellaaDoorW.PrintLast Go.Proofs.YtphmfecabbellaaDoorW.PrintMore
attribute [local go_sem] max2_int min2_int max_two min_two max_three min_three max_four min_four   -- for this text's walks alone
set_option linter.unusedVariables false
set_option linter.unusedSimpArgs false

end Go.Proofs.YtphmfecabbellaaDoor.PFftSums
