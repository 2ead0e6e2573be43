-- Written by a program of this session (wip/oprint): after the pattern of the kit's print, which does not take this law.
import Derived.Test.YtabkmjimdpdfaaaPTeleOwnx0
import Derived.Test.YtabkmjimdpdfaaaPTeleOwnx1
import Derived.Test.YtabkmjimdpdfaaaPTeleOwnx2
import Derived.Test.YtabkmjimdpdfaaaPTeleOwnx3
import Derived.Test.YtabkmjimdpdfaaaPTeleOwnx4
import Derived.Test.YtabkmjimdpdfaaaPTeleOwnx5
import Derived.Test.YtabkmjimdpdfaaaPTeleOwnx6
import Derived.Test.YtabkmjimdpdfaaaPTeleOwnx7
import Derived.Test.YtabkmjimdpdfaaaPTeleOwnx8
namespace Go.Proofs.Ytabkmjimdpdfaaa.PTeleOwn
open Go.RowKit Go.Proofs.YtabkmjimdpdfaaaW.PrintWords Go.Proofs.YtabkmjimdpdfaaaW.PrintLast Go.Proofs.YtabkmjimdpdfaaaW.PrintMore
attribute [local go_sem] max2_int min2_int max_two min_two max_three min_three max_four min_four   -- for this text's walks alone
set_option linter.unusedVariables false
set_option linter.unusedSimpArgs false

end Go.Proofs.Ytabkmjimdpdfaaa.PTeleOwn
