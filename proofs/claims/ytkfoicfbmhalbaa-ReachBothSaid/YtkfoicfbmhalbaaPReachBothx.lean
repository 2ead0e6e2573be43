-- Written by a program of this session (wip/oprint): after the pattern of the kit's print, which does not take this law. -- trimmed
import Derived.Test.YtkfoicfbmhalbaaPReachBothx0
import Derived.Test.YtkfoicfbmhalbaaPReachBothx1
import Derived.Test.YtkfoicfbmhalbaaPReachBothx2
import Derived.Test.YtkfoicfbmhalbaaPReachBothx3
import Derived.Test.YtkfoicfbmhalbaaPReachBothx4
import Derived.Test.YtkfoicfbmhalbaaPReachBothx5
import Derived.Test.YtkfoicfbmhalbaaPReachBothx6
import Derived.Test.YtkfoicfbmhalbaaPReachBothx7
import Derived.Test.YtkfoicfbmhalbaaPReachBothx8
import Derived.Test.YtkfoicfbmhalbaaPReachBothx9
import Derived.Test.YtkfoicfbmhalbaaPReachBothx10
namespace Go.Proofs.Ytkfoicfbmhalbaa.PReachBoth
open Go.RowKit Go.Proofs.YtkfoicfbmhalbaaW.PrintWords Go.Proofs.YtkfoicfbmhalbaaW.PrintLast Go.Proofs.YtkfoicfbmhalbaaW.PrintMore
attribute [local go_sem] max2_int min2_int max_two min_two max_three min_three max_four min_four   -- for this text's walks alone
set_option linter.unusedVariables false
set_option linter.unusedSimpArgs false

end Go.Proofs.Ytkfoicfbmhalbaa.PReachBoth
