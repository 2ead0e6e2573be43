-- Written by a program of this session (wip/oprint): after the pattern of the kit's print, which does not take this law. -- trimmed
import Derived.Test.YtbbdgndaaajejaaPRouteAvoidsx0
import Derived.Test.YtbbdgndaaajejaaPRouteAvoidsx1
import Derived.Test.YtbbdgndaaajejaaPRouteAvoidsx2
import Derived.Test.YtbbdgndaaajejaaPRouteAvoidsx3
import Derived.Test.YtbbdgndaaajejaaPRouteAvoidsx4
import Derived.Test.YtbbdgndaaajejaaPRouteAvoidsx5
import Derived.Test.YtbbdgndaaajejaaPRouteAvoidsx6
import Derived.Test.YtbbdgndaaajejaaPRouteAvoidsx7
import Derived.Test.YtbbdgndaaajejaaPRouteAvoidsx8
import Derived.Test.YtbbdgndaaajejaaPRouteAvoidsx9
import Derived.Test.YtbbdgndaaajejaaPRouteAvoidsx10
import Derived.Test.YtbbdgndaaajejaaPRouteAvoidsx11
import Derived.Test.YtbbdgndaaajejaaPRouteAvoidsx12
namespace Go.Proofs.Ytbbdgndaaajejaa.PRouteAvoids
open Go.RowKit Go.Proofs.YtbbdgndaaajejaaW.PrintWords Go.Proofs.YtbbdgndaaajejaaW.PrintLast Go.Proofs.YtbbdgndaaajejaaW.PrintMore
attribute [local go_sem] max2_int min2_int max_two min_two max_three min_three max_four min_four   -- for this text's walks alone
set_option linter.unusedVariables false
set_option linter.unusedSimpArgs false

end Go.Proofs.Ytbbdgndaaajejaa.PRouteAvoids
