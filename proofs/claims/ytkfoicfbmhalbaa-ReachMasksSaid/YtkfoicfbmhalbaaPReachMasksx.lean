-- Written by a program of this session (wip/oprint): after the pattern of the kit's print, which does not take this law. -- trimmed
import Derived.Test.YtkfoicfbmhalbaaPReachMasksx0
import Derived.Test.YtkfoicfbmhalbaaPReachMasksx1
import Derived.Test.YtkfoicfbmhalbaaPReachMasksx2
import Derived.Test.YtkfoicfbmhalbaaPReachMasksx3
import Derived.Test.YtkfoicfbmhalbaaPReachMasksx4
import Derived.Test.YtkfoicfbmhalbaaPReachMasksx5
import Derived.Test.YtkfoicfbmhalbaaPReachMasksx6
import Derived.Test.YtkfoicfbmhalbaaPReachMasksx7
import Derived.Test.YtkfoicfbmhalbaaPReachMasksx8
import Derived.Test.YtkfoicfbmhalbaaPReachMasksx9
import Derived.Test.YtkfoicfbmhalbaaPReachMasksx10
namespace Go.Proofs.Ytkfoicfbmhalbaa.PReachMasks
open Go.RowKit Go.Proofs.YtkfoicfbmhalbaaW.PrintWords Go.Proofs.YtkfoicfbmhalbaaW.PrintLast Go.Proofs.YtkfoicfbmhalbaaW.PrintMore
attribute [local go_sem] max2_int min2_int max_two min_two max_three min_three max_four min_four   -- for this text's walks alone
set_option linter.unusedVariables false
set_option linter.unusedSimpArgs false

end Go.Proofs.Ytkfoicfbmhalbaa.PReachMasks
