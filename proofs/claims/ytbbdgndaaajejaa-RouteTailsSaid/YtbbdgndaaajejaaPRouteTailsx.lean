-- Written by a program of this session (wip/oprint): after the pattern of the kit's print, which does not take this law. -- trimmed
import Derived.Test.YtbbdgndaaajejaaPRouteTailsx0
import Derived.Test.YtbbdgndaaajejaaPRouteTailsx1
import Derived.Test.YtbbdgndaaajejaaPRouteTailsx2
import Derived.Test.YtbbdgndaaajejaaPRouteTailsx3
import Derived.Test.YtbbdgndaaajejaaPRouteTailsx4
import Derived.Test.YtbbdgndaaajejaaPRouteTailsx5
import Derived.Test.YtbbdgndaaajejaaPRouteTailsx6
import Derived.Test.YtbbdgndaaajejaaPRouteTailsx7
import Derived.Test.YtbbdgndaaajejaaPRouteTailsx8
import Derived.Test.YtbbdgndaaajejaaPRouteTailsx9
import Derived.Test.YtbbdgndaaajejaaPRouteTailsx10
import Derived.Test.YtbbdgndaaajejaaPRouteTailsx11
import Derived.Test.YtbbdgndaaajejaaPRouteTailsx12
namespace Go.Proofs.Ytbbdgndaaajejaa.PRouteTails
open Go.RowKit Go.Proofs.YtbbdgndaaajejaaW.PrintWords Go.Proofs.YtbbdgndaaajejaaW.PrintLast Go.Proofs.YtbbdgndaaajejaaW.PrintMore
attribute [local go_sem] max2_int min2_int max_two min_two max_three min_three max_four min_four   -- for this text's walks alone
set_option linter.unusedVariables false
set_option linter.unusedSimpArgs false

end Go.Proofs.Ytbbdgndaaajejaa.PRouteTails
