-- Written by a program of this session (wip/oprint): after the pattern of the kit's print, which does not take this law.
import Derived.Test.YtpcgjnjgenfhiaaProg
import Derived.Below
import Derived.Deep.Draws
import Derived.Deep.AppendLies
import Derived.Maps.AppendAt
import Derived.OwnWalk
import Derived.Laws.BytesArg
import Derived.Laws.MakeOwn
import Derived.Laws.OwnMore
import Derived.Deep.OwnRows
import Derived.Tactics
import Derived.Lib.ConvBytes
import Derived.Laws.Slices
import Derived.WalkKit
import Derived.KernelRfl
import Derived.RowKit3
import Derived.Deep.LoopGhost
import Derived.Deep.QuietTactic
import Derived.BigQuiet
import Derived.WideLaws
import Derived.Deep.DeepCutAuto
import Derived.Deep.CutBlock
import Derived.Deep.RegionHeld3
import Derived.Laws.Rows
import Derived.Lib.AppendStr
import Derived.ArgAppend
import Derived.Laws.IdiomCopy
import Derived.OrdersHeld
import Derived.Laws.BitsLemmas
import Derived.RowKit
import Derived.ChangeKeysEq
import Derived.Lib.SlBytesConst
import Derived.Test.YtpcgjnjgenfhiaaWWords
import Derived.Test.YtpcgjnjgenfhiaaWLast
import Derived.Test.YtpcgjnjgenfhiaaWTab
import Derived.Test.YtpcgjnjgenfhiaaWFour
import Derived.Test.YtpcgjnjgenfhiaaWQPut
import Derived.Test.YtpcgjnjgenfhiaaWApart
import Derived.Test.YtpcgjnjgenfhiaaWArr
import Derived.Test.YtpcgjnjgenfhiaaWZeros
import Derived.Test.YtpcgjnjgenfhiaaWFoot
import Derived.Test.YtpcgjnjgenfhiaaWKept
import Derived.Test.YtpcgjnjgenfhiaaWShare
import Derived.Test.YtpcgjnjgenfhiaaWN
import Derived.Test.YtpcgjnjgenfhiaaWFootNe
import Derived.Test.YtpcgjnjgenfhiaaWAt
import Derived.Test.YtpcgjnjgenfhiaaWEqStruct
import Derived.Test.YtpcgjnjgenfhiaaWRepsOne
import Derived.Test.YtpcgjnjgenfhiaaWInv
import Derived.Test.YtpcgjnjgenfhiaaWInvWords
import Derived.Test.YtpcgjnjgenfhiaaWGuard
import Derived.Test.YtpcgjnjgenfhiaaWNEv
import Derived.Test.YtpcgjnjgenfhiaaWMore
namespace Go.Proofs.Ytpcgjnjgenfhiaa.PCrcOwn
open Go.RowKit Go.Proofs.YtpcgjnjgenfhiaaW.PrintWords Go.Proofs.YtpcgjnjgenfhiaaW.PrintLast Go.Proofs.YtpcgjnjgenfhiaaW.PrintMore
attribute [local go_sem] max2_int min2_int max_two min_two max_three min_three max_four min_four   -- for this text's walks alone
set_option linter.unusedVariables false
set_option linter.unusedSimpArgs false



def errW : Option Int → Value
  | none => .nilIface
  | some c => .iface 0 (.int .i64 c)
theorem errW_none : errW none = .nilIface := rfl
theorem errW_some (c : Int) : errW (some c) = .iface 0 (.int .i64 c) := rfl

-- the values' own types

end Go.Proofs.Ytpcgjnjgenfhiaa.PCrcOwn
