-- Written by a program of this session (wip/oprint): after the pattern of the kit's print, which does not take this law.
import Derived.Test.YtjigeblechiffaaProg
import Derived.Below
import Derived.Deep.Draws
import Derived.Deep.AppendLies
import Derived.Maps.AppendAt
import Derived.OwnWalk
import Derived.Laws.BytesArg
import Derived.Laws.MakeOwn
import Derived.Laws.OwnMore
import Derived.Deep.OwnRows
import Derived.Tactics
import Derived.Lib.ConvBytes
import Derived.Laws.Slices
import Derived.WalkKit
import Derived.KernelRfl
import Derived.RowKit3
import Derived.Deep.LoopGhost
import Derived.Deep.QuietTactic
import Derived.BigQuiet
import Derived.WideLaws
import Derived.Deep.DeepCutAuto
import Derived.Deep.CutBlock
import Derived.Deep.RegionHeld3
import Derived.Laws.Rows
import Derived.Lib.AppendStr
import Derived.ArgAppend
import Derived.Laws.IdiomCopy
import Derived.OrdersHeld
import Derived.Laws.BitsLemmas
import Derived.RowKit
import Derived.ChangeKeysEq
import Derived.Lib.SliceRun
import Derived.Test.YtjigeblechiffaaWWords
import Derived.Test.YtjigeblechiffaaWLast
import Derived.Test.YtjigeblechiffaaWTab
import Derived.Test.YtjigeblechiffaaWFour
import Derived.Test.YtjigeblechiffaaWQPut
import Derived.Test.YtjigeblechiffaaWApart
import Derived.Test.YtjigeblechiffaaWArr
import Derived.Test.YtjigeblechiffaaWZeros
import Derived.Test.YtjigeblechiffaaWFoot
import Derived.Test.YtjigeblechiffaaWKept
import Derived.Test.YtjigeblechiffaaWShare
import Derived.Test.YtjigeblechiffaaWN
import Derived.Test.YtjigeblechiffaaWFootNe
import Derived.Test.YtjigeblechiffaaWAt
import Derived.Test.YtjigeblechiffaaWEqStruct
import Derived.Test.YtjigeblechiffaaWRepsOne
import Derived.Test.YtjigeblechiffaaWInv
import Derived.Test.YtjigeblechiffaaWInvWords
import Derived.Test.YtjigeblechiffaaWGuard
import Derived.Test.YtjigeblechiffaaWNEv
import Derived.Test.YtjigeblechiffaaWMore
namespace Go.Proofs.Ytjigeblechiffaa.PIntake
open Go.RowKit Go.Proofs.YtjigeblechiffaaW.PrintWords Go.Proofs.YtjigeblechiffaaW.PrintLast Go.Proofs.YtjigeblechiffaaW.PrintMore
attribute [local go_sem] max2_int min2_int max_two min_two max_three min_three max_four min_four   -- for this text's walks alone
set_option linter.unusedVariables false
set_option linter.unusedSimpArgs false



def errW : Option Int → Value
  | none => .nilIface
  | some c => .iface 0 (.int .i64 c)
theorem errW_none : errW none = .nilIface := rfl
theorem errW_some (c : Int) : errW (some c) = .iface 0 (.int .i64 c) := rfl

theorem info5 : (Try.prog.info? 5).map (fun i => (i.zero, i.size, i.bytes)) = some (some (.int .u8 0), 1, 1) := by kernel_rfl
-- the values' own types

end Go.Proofs.Ytjigeblechiffaa.PIntake
