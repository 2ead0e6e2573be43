-- Written by a program of this session (wip/oprint): after the pattern of the kit's print, which does not take this law. -- trimmed
import Derived.Test.YtkfoicfbmhalbaaPReachSumsx0
import Derived.Test.YtkfoicfbmhalbaaPReachSumsx1
import Derived.Test.YtkfoicfbmhalbaaPReachSumsx2
import Derived.Test.YtkfoicfbmhalbaaPReachSumsx3
import Derived.Test.YtkfoicfbmhalbaaPReachSumsx4
import Derived.Test.YtkfoicfbmhalbaaPReachSumsx5
import Derived.Test.YtkfoicfbmhalbaaPReachSumsx6
import Derived.Test.YtkfoicfbmhalbaaPReachSumsx7
import Derived.Test.YtkfoicfbmhalbaaPReachSumsx8
import Derived.Test.YtkfoicfbmhalbaaPReachSumsx9
namespace Go.Proofs.Ytkfoicfbmhalbaa.PReachSums
open Go.RowKit Go.Proofs.YtkfoicfbmhalbaaW.PrintWords Go.Proofs.YtkfoicfbmhalbaaW.PrintLast Go.Proofs.YtkfoicfbmhalbaaW.PrintMore
attribute [local go_sem] max2_int min2_int max_two min_two max_three min_three max_four min_four   -- for this text's walks alone
set_option linter.unusedVariables false
set_option linter.unusedSimpArgs false

end Go.Proofs.Ytkfoicfbmhalbaa.PReachSums
