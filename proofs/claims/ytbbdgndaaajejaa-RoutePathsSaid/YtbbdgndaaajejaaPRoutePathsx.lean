-- Written by a program of this session (wip/oprint): after the pattern of the kit's print, which does not take this law. -- trimmed
import Derived.Test.YtbbdgndaaajejaaPRoutePathsx0
import Derived.Test.YtbbdgndaaajejaaPRoutePathsx1
import Derived.Test.YtbbdgndaaajejaaPRoutePathsx2
import Derived.Test.YtbbdgndaaajejaaPRoutePathsx3
import Derived.Test.YtbbdgndaaajejaaPRoutePathsx4
import Derived.Test.YtbbdgndaaajejaaPRoutePathsx5
import Derived.Test.YtbbdgndaaajejaaPRoutePathsx6
import Derived.Test.YtbbdgndaaajejaaPRoutePathsx7
import Derived.Test.YtbbdgndaaajejaaPRoutePathsx8
import Derived.Test.YtbbdgndaaajejaaPRoutePathsx9
import Derived.Test.YtbbdgndaaajejaaPRoutePathsx10
import Derived.Test.YtbbdgndaaajejaaPRoutePathsx11
import Derived.Test.YtbbdgndaaajejaaPRoutePathsx12
import Derived.Test.YtbbdgndaaajejaaPRoutePathsx13
import Derived.Test.YtbbdgndaaajejaaPRoutePathsx14
import Derived.Test.YtbbdgndaaajejaaPRoutePathsx15
namespace Go.Proofs.Ytbbdgndaaajejaa.PRoutePaths
open Go.RowKit Go.Proofs.YtbbdgndaaajejaaW.PrintWords Go.Proofs.YtbbdgndaaajejaaW.PrintLast Go.Proofs.YtbbdgndaaajejaaW.PrintMore
attribute [local go_sem] max2_int min2_int max_two min_two max_three min_three max_four min_four   -- for this text's walks alone
set_option linter.unusedVariables false
set_option linter.unusedSimpArgs false

end Go.Proofs.Ytbbdgndaaajejaa.PRoutePaths
