-- Written by a program of this session (wip/oprint): after the pattern of the kit's print, which does not take this law. -- trimmed
import Derived.Test.YtkdfohmceokchaaPZonePiecesx0
import Derived.Test.YtkdfohmceokchaaPZonePiecesx1
import Derived.Test.YtkdfohmceokchaaPZonePiecesx2
import Derived.Test.YtkdfohmceokchaaPZonePiecesx3
import Derived.Test.YtkdfohmceokchaaPZonePiecesx4
import Derived.Test.YtkdfohmceokchaaPZonePiecesx5
import Derived.Test.YtkdfohmceokchaaPZonePiecesx6
import Derived.Test.YtkdfohmceokchaaPZonePiecesx7
import Derived.Test.YtkdfohmceokchaaPZonePiecesx8
import Derived.Test.YtkdfohmceokchaaPZonePiecesx9
import Derived.Test.YtkdfohmceokchaaPZonePiecesx10
import Derived.Test.YtkdfohmceokchaaPZonePiecesx11
namespace Go.Proofs.Ytkdfohmceokchaa.PZonePieces
open Go.RowKit Go.Proofs.YtkdfohmceokchaaW.PrintWords Go.Proofs.YtkdfohmceokchaaW.PrintLast Go.Proofs.YtkdfohmceokchaaW.PrintMore
attribute [local go_sem] max2_int min2_int max_two min_two max_three min_three max_four min_four   -- for this text's walks alone
set_option linter.unusedVariables false
set_option linter.unusedSimpArgs false

end Go.Proofs.Ytkdfohmceokchaa.PZonePieces
