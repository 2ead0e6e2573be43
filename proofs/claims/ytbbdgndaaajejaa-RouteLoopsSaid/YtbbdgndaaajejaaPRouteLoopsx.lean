-- Written by a program of this session (wip/oprint): after the pattern of the kit's print, which does not take this law. -- trimmed
import Derived.Test.YtbbdgndaaajejaaPRouteLoopsx0
import Derived.Test.YtbbdgndaaajejaaPRouteLoopsx1
import Derived.Test.YtbbdgndaaajejaaPRouteLoopsx2
import Derived.Test.YtbbdgndaaajejaaPRouteLoopsx3
import Derived.Test.YtbbdgndaaajejaaPRouteLoopsx4
import Derived.Test.YtbbdgndaaajejaaPRouteLoopsx5
import Derived.Test.YtbbdgndaaajejaaPRouteLoopsx6
import Derived.Test.YtbbdgndaaajejaaPRouteLoopsx7
import Derived.Test.YtbbdgndaaajejaaPRouteLoopsx8
import Derived.Test.YtbbdgndaaajejaaPRouteLoopsx9
import Derived.Test.YtbbdgndaaajejaaPRouteLoopsx10
import Derived.Test.YtbbdgndaaajejaaPRouteLoopsx11
import Derived.Test.YtbbdgndaaajejaaPRouteLoopsx12
namespace Go.Proofs.Ytbbdgndaaajejaa.PRouteLoops
open Go.RowKit Go.Proofs.YtbbdgndaaajejaaW.PrintWords Go.Proofs.YtbbdgndaaajejaaW.PrintLast Go.Proofs.YtbbdgndaaajejaaW.PrintMore
attribute [local go_sem] max2_int min2_int max_two min_two max_three min_three max_four min_four   -- for this text's walks alone
set_option linter.unusedVariables false
set_option linter.unusedSimpArgs false

end Go.Proofs.Ytbbdgndaaajejaa.PRouteLoops
