-- Written by a program of this session (wip/oprint): after the pattern of the kit's print, which does not take this law. -- trimmed
import Derived.Test.YtbbdgndaaajejaaPRouteWalksx0
import Derived.Test.YtbbdgndaaajejaaPRouteWalksx1
import Derived.Test.YtbbdgndaaajejaaPRouteWalksx2
import Derived.Test.YtbbdgndaaajejaaPRouteWalksx3
import Derived.Test.YtbbdgndaaajejaaPRouteWalksx4
import Derived.Test.YtbbdgndaaajejaaPRouteWalksx5
import Derived.Test.YtbbdgndaaajejaaPRouteWalksx6
import Derived.Test.YtbbdgndaaajejaaPRouteWalksx7
import Derived.Test.YtbbdgndaaajejaaPRouteWalksx8
import Derived.Test.YtbbdgndaaajejaaPRouteWalksx9
import Derived.Test.YtbbdgndaaajejaaPRouteWalksx10
import Derived.Test.YtbbdgndaaajejaaPRouteWalksx11
import Derived.Test.YtbbdgndaaajejaaPRouteWalksx12
namespace Go.Proofs.Ytbbdgndaaajejaa.PRouteWalks
open Go.RowKit Go.Proofs.YtbbdgndaaajejaaW.PrintWords Go.Proofs.YtbbdgndaaajejaaW.PrintLast Go.Proofs.YtbbdgndaaajejaaW.PrintMore
attribute [local go_sem] max2_int min2_int max_two min_two max_three min_three max_four min_four   -- for this text's walks alone
set_option linter.unusedVariables false
set_option linter.unusedSimpArgs false

end Go.Proofs.Ytbbdgndaaajejaa.PRouteWalks
