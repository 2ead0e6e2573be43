-- Written by a program of this session (wip/oprint): after the pattern of the kit's print, which does not take this law. -- trimmed
import Derived.Test.YtkfoicfbmhalbaaPReachLessx0
import Derived.Test.YtkfoicfbmhalbaaPReachLessx1
import Derived.Test.YtkfoicfbmhalbaaPReachLessx2
import Derived.Test.YtkfoicfbmhalbaaPReachLessx3
import Derived.Test.YtkfoicfbmhalbaaPReachLessx4
import Derived.Test.YtkfoicfbmhalbaaPReachLessx5
import Derived.Test.YtkfoicfbmhalbaaPReachLessx6
import Derived.Test.YtkfoicfbmhalbaaPReachLessx7
import Derived.Test.YtkfoicfbmhalbaaPReachLessx8
import Derived.Test.YtkfoicfbmhalbaaPReachLessx9
namespace Go.Proofs.Ytkfoicfbmhalbaa.PReachLess
open Go.RowKit Go.Proofs.YtkfoicfbmhalbaaW.PrintWords Go.Proofs.YtkfoicfbmhalbaaW.PrintLast Go.Proofs.YtkfoicfbmhalbaaW.PrintMore
attribute [local go_sem] max2_int min2_int max_two min_two max_three min_three max_four min_four   -- for this text's walks alone
set_option linter.unusedVariables false
set_option linter.unusedSimpArgs false

end Go.Proofs.Ytkfoicfbmhalbaa.PReachLess
