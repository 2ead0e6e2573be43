-- Written by a program of this session (wip/oprint): after the pattern of the kit's print, which does not take this law. -- trimmed
import Derived.Test.YtabkmjimdpdfaaaPTeleSplitsx0
import Derived.Test.YtabkmjimdpdfaaaPTeleSplitsx1
import Derived.Test.YtabkmjimdpdfaaaPTeleSplitsx2
import Derived.Test.YtabkmjimdpdfaaaPTeleSplitsx3
import Derived.Test.YtabkmjimdpdfaaaPTeleSplitsx4
import Derived.Test.YtabkmjimdpdfaaaPTeleSplitsx5
import Derived.Test.YtabkmjimdpdfaaaPTeleSplitsx6
import Derived.Test.YtabkmjimdpdfaaaPTeleSplitsx7
import Derived.Test.YtabkmjimdpdfaaaPTeleSplitsx8
import Derived.Test.YtabkmjimdpdfaaaPTeleSplitsx9
import Derived.Test.YtabkmjimdpdfaaaPTeleSplitsx10
namespace Go.Proofs.Ytabkmjimdpdfaaa.PTeleSplits
open Go.RowKit Go.Proofs.YtabkmjimdpdfaaaW.PrintWords Go.Proofs.YtabkmjimdpdfaaaW.PrintLast Go.Proofs.YtabkmjimdpdfaaaW.PrintMore
attribute [local go_sem] max2_int min2_int max_two min_two max_three min_three max_four min_four   -- for this text's walks alone
set_option linter.unusedVariables false
set_option linter.unusedSimpArgs false

end Go.Proofs.Ytabkmjimdpdfaaa.PTeleSplits
