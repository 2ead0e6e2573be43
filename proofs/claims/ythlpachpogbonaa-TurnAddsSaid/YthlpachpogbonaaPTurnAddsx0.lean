-- Written by a program of this session (wip/oprint): after the pattern of the kit's print, which does not take this law.
import Derived.Test.YthlpachpogbonaaProg
import Derived.Below
import Derived.Deep.Draws
import Derived.Deep.AppendLies
import Derived.Maps.AppendAt
import Derived.OwnWalk
import Derived.Laws.BytesArg
import Derived.Laws.MakeOwn
import Derived.Laws.OwnMore
import Derived.Deep.OwnRows
import Derived.Tactics
import Derived.Lib.ConvBytes
import Derived.Laws.Slices
import Derived.WalkKit
import Derived.KernelRfl
import Derived.RowKit3
import Derived.Deep.LoopGhost
import Derived.Deep.QuietTactic
import Derived.BigQuiet
import Derived.WideLaws
import Derived.Deep.DeepCutAuto
import Derived.Deep.CutBlock
import Derived.Deep.RegionHeld3
import Derived.Laws.Rows
import Derived.Lib.AppendStr
import Derived.ArgAppend
import Derived.Laws.IdiomCopy
import Derived.OrdersHeld
import Derived.Laws.BitsLemmas
import Derived.RowKit
import Derived.Test.YthlpachpogbonaaWWords
import Derived.Test.YthlpachpogbonaaWLast
import Derived.Test.YthlpachpogbonaaWTab
import Derived.Test.YthlpachpogbonaaWFour
import Derived.Test.YthlpachpogbonaaWQPut
import Derived.Test.YthlpachpogbonaaWApart
import Derived.Test.YthlpachpogbonaaWArr
import Derived.Test.YthlpachpogbonaaWZeros
import Derived.Test.YthlpachpogbonaaWFoot
import Derived.Test.YthlpachpogbonaaWKept
import Derived.Test.YthlpachpogbonaaWShare
import Derived.Test.YthlpachpogbonaaWN
import Derived.Test.YthlpachpogbonaaWFootNe
import Derived.Test.YthlpachpogbonaaWAt
import Derived.Test.YthlpachpogbonaaWEqStruct
import Derived.Test.YthlpachpogbonaaWRepsOne
import Derived.Test.YthlpachpogbonaaWInv
import Derived.Test.YthlpachpogbonaaWInvWords
import Derived.Test.YthlpachpogbonaaWGuard
import Derived.Test.YthlpachpogbonaaWNEv
import Derived.Test.YthlpachpogbonaaWMore
namespace Go.Proofs.Ythlpachpogbonaa.PTurnAdds
open Go.RowKit Go.Proofs.YthlpachpogbonaaW.PrintWords Go.Proofs.YthlpachpogbonaaW.PrintLast Go.Proofs.YthlpachpogbonaaW.PrintMore
attribute [local go_sem] max2_int min2_int max_two min_two max_three min_three max_four min_four   -- for this text's walks alone
set_option linter.unusedVariables false
set_option linter.unusedSimpArgs false



def errW : Option Int → Value
  | none => .nilIface
  | some c => .iface 0 (.int .i64 c)
theorem errW_none : errW none = .nilIface := rfl
theorem errW_some (c : Int) : errW (some c) = .iface 0 (.int .i64 c) := rfl

-- the values' own types

end Go.Proofs.Ythlpachpogbonaa.PTurnAdds
