-- Written by a program of this work (wip/tools) for this claim; Lean checks it.
import Derived.Test.YtphmfecabbellaaDoorPFftBinsx0
import Derived.Test.YtphmfecabbellaaDoorPFftBinsx1
import Derived.Test.YtphmfecabbellaaDoorPFftBinsx2
import Derived.Test.YtphmfecabbellaaDoorPFftBinsx3
import Derived.Test.YtphmfecabbellaaDoorPFftBinsx4
import Derived.Test.YtphmfecabbellaaDoorPFftBinsx5
import Derived.Test.YtphmfecabbellaaDoorPFftBinsx6
import Derived.Test.YtphmfecabbellaaDoorPFftBinsx7
import Derived.Test.YtphmfecabbellaaDoorPFftBinsx8
import Derived.Test.YtphmfecabbellaaDoorPFftBinsx9
import Derived.Test.YtphmfecabbellaaDoorPFftBinsx10
import Derived.Test.YtphmfecabbellaaDoorPFftBinsx11
import Derived.Test.YtphmfecabbellaaDoorPFftBinsx12
namespace Go.Proofs.YtphmfecabbellaaDoor.PFftBins
open Go.RowKit Go.Proofs.YtphmfecabbellaaDoorW.PrintWords Go.Proofs.YtphmfecabbellaaDoorW.PrintLast Go.Proofs.YtphmfecabbellaaDoorW.PrintMore
attribute [local go_sem] max2_int min2_int max_two min_two max_three min_three max_four min_four   -- for this text's walks alone
set_option linter.unusedVariables false
set_option linter.unusedSimpArgs false

end Go.Proofs.YtphmfecabbellaaDoor.PFftBins
