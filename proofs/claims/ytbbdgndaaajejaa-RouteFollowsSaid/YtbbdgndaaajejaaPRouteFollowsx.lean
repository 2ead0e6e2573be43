-- Written by a program of this session (wip/oprint): after the pattern of the kit's print, which does not take this law. -- trimmed
import Derived.Test.YtbbdgndaaajejaaPRouteFollowsx0
import Derived.Test.YtbbdgndaaajejaaPRouteFollowsx1
import Derived.Test.YtbbdgndaaajejaaPRouteFollowsx2
import Derived.Test.YtbbdgndaaajejaaPRouteFollowsx3
import Derived.Test.YtbbdgndaaajejaaPRouteFollowsx4
import Derived.Test.YtbbdgndaaajejaaPRouteFollowsx5
import Derived.Test.YtbbdgndaaajejaaPRouteFollowsx6
import Derived.Test.YtbbdgndaaajejaaPRouteFollowsx7
import Derived.Test.YtbbdgndaaajejaaPRouteFollowsx8
import Derived.Test.YtbbdgndaaajejaaPRouteFollowsx9
import Derived.Test.YtbbdgndaaajejaaPRouteFollowsx10
import Derived.Test.YtbbdgndaaajejaaPRouteFollowsx11
import Derived.Test.YtbbdgndaaajejaaPRouteFollowsx12
namespace Go.Proofs.Ytbbdgndaaajejaa.PRouteFollows
open Go.RowKit Go.Proofs.YtbbdgndaaajejaaW.PrintWords Go.Proofs.YtbbdgndaaajejaaW.PrintLast Go.Proofs.YtbbdgndaaajejaaW.PrintMore
attribute [local go_sem] max2_int min2_int max_two min_two max_three min_three max_four min_four   -- for this text's walks alone
set_option linter.unusedVariables false
set_option linter.unusedSimpArgs false

end Go.Proofs.Ytbbdgndaaajejaa.PRouteFollows
