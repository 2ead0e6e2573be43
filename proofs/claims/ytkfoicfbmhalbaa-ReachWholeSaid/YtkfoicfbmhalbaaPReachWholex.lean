-- Written by a program of this session (wip/oprint): after the pattern of the kit's print, which does not take this law. -- trimmed
import Derived.Test.YtkfoicfbmhalbaaPReachWholex0
import Derived.Test.YtkfoicfbmhalbaaPReachWholex1
import Derived.Test.YtkfoicfbmhalbaaPReachWholex2
import Derived.Test.YtkfoicfbmhalbaaPReachWholex3
import Derived.Test.YtkfoicfbmhalbaaPReachWholex4
import Derived.Test.YtkfoicfbmhalbaaPReachWholex5
import Derived.Test.YtkfoicfbmhalbaaPReachWholex6
import Derived.Test.YtkfoicfbmhalbaaPReachWholex7
import Derived.Test.YtkfoicfbmhalbaaPReachWholex8
import Derived.Test.YtkfoicfbmhalbaaPReachWholex9
import Derived.Test.YtkfoicfbmhalbaaPReachWholex10
import Derived.Test.YtkfoicfbmhalbaaPReachWholex11
import Derived.Test.YtkfoicfbmhalbaaPReachWholex12
namespace Go.Proofs.Ytkfoicfbmhalbaa.PReachWhole
open Go.RowKit Go.Proofs.YtkfoicfbmhalbaaW.PrintWords Go.Proofs.YtkfoicfbmhalbaaW.PrintLast Go.Proofs.YtkfoicfbmhalbaaW.PrintMore
attribute [local go_sem] max2_int min2_int max_two min_two max_three min_three max_four min_four   -- for this text's walks alone
set_option linter.unusedVariables false
set_option linter.unusedSimpArgs false

end Go.Proofs.Ytkfoicfbmhalbaa.PReachWhole
