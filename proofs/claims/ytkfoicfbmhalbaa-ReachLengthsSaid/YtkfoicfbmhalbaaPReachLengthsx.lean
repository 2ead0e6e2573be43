-- Written by a program of this session (wip/oprint): after the pattern of the kit's print, which does not take this law. -- trimmed
import Derived.Test.YtkfoicfbmhalbaaPReachLengthsx0
import Derived.Test.YtkfoicfbmhalbaaPReachLengthsx1
import Derived.Test.YtkfoicfbmhalbaaPReachLengthsx2
import Derived.Test.YtkfoicfbmhalbaaPReachLengthsx3
import Derived.Test.YtkfoicfbmhalbaaPReachLengthsx4
import Derived.Test.YtkfoicfbmhalbaaPReachLengthsx5
import Derived.Test.YtkfoicfbmhalbaaPReachLengthsx6
import Derived.Test.YtkfoicfbmhalbaaPReachLengthsx7
import Derived.Test.YtkfoicfbmhalbaaPReachLengthsx8
import Derived.Test.YtkfoicfbmhalbaaPReachLengthsx9
import Derived.Test.YtkfoicfbmhalbaaPReachLengthsx10
import Derived.Test.YtkfoicfbmhalbaaPReachLengthsx11
import Derived.Test.YtkfoicfbmhalbaaPReachLengthsx12
namespace Go.Proofs.Ytkfoicfbmhalbaa.PReachLengths
open Go.RowKit Go.Proofs.YtkfoicfbmhalbaaW.PrintWords Go.Proofs.YtkfoicfbmhalbaaW.PrintLast Go.Proofs.YtkfoicfbmhalbaaW.PrintMore
attribute [local go_sem] max2_int min2_int max_two min_two max_three min_three max_four min_four   -- for this text's walks alone
set_option linter.unusedVariables false
set_option linter.unusedSimpArgs false

end Go.Proofs.Ytkfoicfbmhalbaa.PReachLengths
