-- Written by a program of this session (wip/oprint): after the pattern of the kit's print, which does not take this law. -- trimmed
import Derived.Test.YtabkmjimdpdfaaaPTelePiecesx0
import Derived.Test.YtabkmjimdpdfaaaPTelePiecesx1
import Derived.Test.YtabkmjimdpdfaaaPTelePiecesx2
import Derived.Test.YtabkmjimdpdfaaaPTelePiecesx3
import Derived.Test.YtabkmjimdpdfaaaPTelePiecesx4
import Derived.Test.YtabkmjimdpdfaaaPTelePiecesx5
import Derived.Test.YtabkmjimdpdfaaaPTelePiecesx6
import Derived.Test.YtabkmjimdpdfaaaPTelePiecesx7
namespace Go.Proofs.Ytabkmjimdpdfaaa.PTelePieces
open Go.RowKit Go.Proofs.YtabkmjimdpdfaaaW.PrintWords Go.Proofs.YtabkmjimdpdfaaaW.PrintLast Go.Proofs.YtabkmjimdpdfaaaW.PrintMore
attribute [local go_sem] max2_int min2_int max_two min_two max_three min_three max_four min_four   -- for this text's walks alone
set_option linter.unusedVariables false
set_option linter.unusedSimpArgs false

end Go.Proofs.Ytabkmjimdpdfaaa.PTelePieces
