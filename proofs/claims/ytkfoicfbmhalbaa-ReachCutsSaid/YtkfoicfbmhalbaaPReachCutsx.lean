-- Written by a program of this session (wip/oprint): after the pattern of the kit's print, which does not take this law. -- trimmed
import Derived.Test.YtkfoicfbmhalbaaPReachCutsx0
import Derived.Test.YtkfoicfbmhalbaaPReachCutsx1
import Derived.Test.YtkfoicfbmhalbaaPReachCutsx2
import Derived.Test.YtkfoicfbmhalbaaPReachCutsx3
import Derived.Test.YtkfoicfbmhalbaaPReachCutsx4
import Derived.Test.YtkfoicfbmhalbaaPReachCutsx5
import Derived.Test.YtkfoicfbmhalbaaPReachCutsx6
import Derived.Test.YtkfoicfbmhalbaaPReachCutsx7
import Derived.Test.YtkfoicfbmhalbaaPReachCutsx8
import Derived.Test.YtkfoicfbmhalbaaPReachCutsx9
import Derived.Test.YtkfoicfbmhalbaaPReachCutsx10
import Derived.Test.YtkfoicfbmhalbaaPReachCutsx11
namespace Go.Proofs.Ytkfoicfbmhalbaa.PReachCuts
open Go.RowKit Go.Proofs.YtkfoicfbmhalbaaW.PrintWords Go.Proofs.YtkfoicfbmhalbaaW.PrintLast Go.Proofs.YtkfoicfbmhalbaaW.PrintMore
attribute [local go_sem] max2_int min2_int max_two min_two max_three min_three max_four min_four   -- for this text's walks alone
set_option linter.unusedVariables false
set_option linter.unusedSimpArgs false

end Go.Proofs.Ytkfoicfbmhalbaa.PReachCuts
