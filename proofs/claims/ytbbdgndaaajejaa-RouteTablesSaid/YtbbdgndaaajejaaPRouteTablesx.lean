-- Written by a program of this session (wip/oprint): after the pattern of the kit's print, which does not take this law. -- trimmed
import Derived.Test.YtbbdgndaaajejaaPRouteTablesx0
import Derived.Test.YtbbdgndaaajejaaPRouteTablesx1
import Derived.Test.YtbbdgndaaajejaaPRouteTablesx2
import Derived.Test.YtbbdgndaaajejaaPRouteTablesx3
import Derived.Test.YtbbdgndaaajejaaPRouteTablesx4
import Derived.Test.YtbbdgndaaajejaaPRouteTablesx5
import Derived.Test.YtbbdgndaaajejaaPRouteTablesx6
import Derived.Test.YtbbdgndaaajejaaPRouteTablesx7
import Derived.Test.YtbbdgndaaajejaaPRouteTablesx8
import Derived.Test.YtbbdgndaaajejaaPRouteTablesx9
import Derived.Test.YtbbdgndaaajejaaPRouteTablesx10
import Derived.Test.YtbbdgndaaajejaaPRouteTablesx11
import Derived.Test.YtbbdgndaaajejaaPRouteTablesx12
import Derived.Test.YtbbdgndaaajejaaPRouteTablesx13
import Derived.Test.YtbbdgndaaajejaaPRouteTablesx14
import Derived.Test.YtbbdgndaaajejaaPRouteTablesx15
import Derived.Test.YtbbdgndaaajejaaPRouteTablesx16
import Derived.Test.YtbbdgndaaajejaaPRouteTablesx17
namespace Go.Proofs.Ytbbdgndaaajejaa.PRouteTables
open Go.RowKit Go.Proofs.YtbbdgndaaajejaaW.PrintWords Go.Proofs.YtbbdgndaaajejaaW.PrintLast Go.Proofs.YtbbdgndaaajejaaW.PrintMore
attribute [local go_sem] max2_int min2_int max_two min_two max_three min_three max_four min_four   -- for this text's walks alone
set_option linter.unusedVariables false
set_option linter.unusedSimpArgs false

end Go.Proofs.Ytbbdgndaaajejaa.PRouteTables
