-- Of the words that print.sh lays for this seat: those that the laws' texts name (put together by a program of this session, wip/oprint/slimall.py).
import Derived.Test.YtbbdgndaaajejaaVN
/-! ### 52. A row that stays read whatever happens to a block (a set of blocks) doesn't lie there -/
namespace Go.Proofs.YtbbdgndaaajejaaW.PrintWords
open Go.RowKit
namespace Kd
section
variable {α : Type} {d : Kd α} {W : World} {g n : Nat} {S ok : Nat → Prop} {A : Option Addr} {ad : Addr} {xs : List α}
end
end Kd
end Go.Proofs.YtbbdgndaaajejaaW.PrintWords
