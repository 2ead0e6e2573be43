/-
  No cell of these rows narrows 'for every input' (looked for: loops, veiled, ifaces, maps, wideKeys, modest, calm, conditions, laid).
  DERIVED. THE GIVEN ROWS OF THIS SEAT. 7 by the template 'for every input the law returns true; each argument reads behind the call as it read before'; 0 by the template 'total and deterministic' (their statements: YtbbdgndaaajejaaTotals.lean).
  GIVEN WITH THE SEED: the statements are not yours to turn. If you find one false, say at which input.
  Laid BY PROGRAM, IN A SANDBOX (cutbox-rows.mjs): the forced cells as the released guide's own fill.sh prints them over the translation 528187a4e5618bcf… (all of the seat's roots in one cut). By AI agents, Wed Nov 11 2026. No macro, syntax, notation, axiom, sorry.
-/
import Derived.Test.YtbbdgndaaajejaaChecked
import GoSem.Claim
import GoSem.ClaimJoined
import GoSem.ClaimMapViews
import Derived.JoinedTies
import Derived.KernelRfl
namespace Go.Proofs.Ytbbdgndaaajejaa
/- THE CELL 'sum', in the pinned program and in every row, IS THE sha256 OF THE DUMP (.gsa) THAT YtbbdgndaaajejaaProg.lean LOADS. Nothing in Lean hashes anything: it is a label: what it is worth is what the hold of that sum in a sandbox is worth. -/
noncomputable def Try.pinned : Pinned := { name := "ytbbdgndaaajejaa", sum := "528187a4e5618bcf88fb5f0a9878668d70b8edf97ba8808921dd7ebb735855c7", checked := Try.checked }
namespace Rows
def none {H : Type} : Left H := { results := [], args := [] }

/-- 'stillagelaw08.RouteTables': WHATEVER THE INPUT: true; the input reads as it did. -/
def routeTablesSpec : ChangeSpec := { name := "routeTables", fn := fun _ => fun
  | [d1, d2, d3] => { results := [.lit (.bool true)], args := [d1, d2, d3] }
  | _ => none }
def routeTablesRow : OpenClaim := { program := "ytbbdgndaaajejaa", sum := "528187a4e5618bcf88fb5f0a9878668d70b8edf97ba8808921dd7ebb735855c7", func := "stillage/stillagelaw08.RouteTables", spec := "routeTables", unfollowed := true, recurses := true, apart := false }
def RouteTablesSaid : Prop := routeTablesRow.holds Try.pinned (OpenSpec.ofChange routeTablesSpec)

/-- ITS FALSE NEIGHBOUR: 'it returns false'. Refute it at one input. -/
def routeTablesWrong : ChangeSpec := { name := "routeTables", fn := fun _ => fun
  | [d1, d2, d3] => { results := [.lit (.bool false)], args := [d1, d2, d3] }
  | _ => none }
def RouteTablesWrongFalsely : Prop := routeTablesRow.holds Try.pinned (OpenSpec.ofChange routeTablesWrong)

/-- 'stillagelaw08.RoutePaths': WHATEVER THE INPUT: true; the input reads as it did. -/
def routePathsSpec : ChangeSpec := { name := "routePaths", fn := fun _ => fun
  | [d1, d2, d3] => { results := [.lit (.bool true)], args := [d1, d2, d3] }
  | _ => none }
def routePathsRow : OpenClaim := { program := "ytbbdgndaaajejaa", sum := "528187a4e5618bcf88fb5f0a9878668d70b8edf97ba8808921dd7ebb735855c7", func := "stillage/stillagelaw08.RoutePaths", spec := "routePaths", unfollowed := true, recurses := true, apart := false }
def RoutePathsSaid : Prop := routePathsRow.holds Try.pinned (OpenSpec.ofChange routePathsSpec)

/-- ITS FALSE NEIGHBOUR: 'it returns false'. Refute it at one input. -/
def routePathsWrong : ChangeSpec := { name := "routePaths", fn := fun _ => fun
  | [d1, d2, d3] => { results := [.lit (.bool false)], args := [d1, d2, d3] }
  | _ => none }
def RoutePathsWrongFalsely : Prop := routePathsRow.holds Try.pinned (OpenSpec.ofChange routePathsWrong)

/-- 'stillagelaw08.RouteAvoids': WHATEVER THE INPUT: true; the input reads as it did. -/
def routeAvoidsSpec : ChangeSpec := { name := "routeAvoids", fn := fun _ => fun
  | [d1, d2, d3] => { results := [.lit (.bool true)], args := [d1, d2, d3] }
  | _ => none }
def routeAvoidsRow : OpenClaim := { program := "ytbbdgndaaajejaa", sum := "528187a4e5618bcf88fb5f0a9878668d70b8edf97ba8808921dd7ebb735855c7", func := "stillage/stillagelaw08.RouteAvoids", spec := "routeAvoids", unfollowed := true, recurses := true, apart := false }
def RouteAvoidsSaid : Prop := routeAvoidsRow.holds Try.pinned (OpenSpec.ofChange routeAvoidsSpec)

/-- ITS FALSE NEIGHBOUR: 'it returns false'. Refute it at one input. -/
def routeAvoidsWrong : ChangeSpec := { name := "routeAvoids", fn := fun _ => fun
  | [d1, d2, d3] => { results := [.lit (.bool false)], args := [d1, d2, d3] }
  | _ => none }
def RouteAvoidsWrongFalsely : Prop := routeAvoidsRow.holds Try.pinned (OpenSpec.ofChange routeAvoidsWrong)

/-- 'stillagelaw08.RouteFollows': WHATEVER THE INPUT: true; the input reads as it did. -/
def routeFollowsSpec : ChangeSpec := { name := "routeFollows", fn := fun _ => fun
  | [d1, d2, d3] => { results := [.lit (.bool true)], args := [d1, d2, d3] }
  | _ => none }
def routeFollowsRow : OpenClaim := { program := "ytbbdgndaaajejaa", sum := "528187a4e5618bcf88fb5f0a9878668d70b8edf97ba8808921dd7ebb735855c7", func := "stillage/stillagelaw08.RouteFollows", spec := "routeFollows", unfollowed := true, recurses := true, apart := false }
def RouteFollowsSaid : Prop := routeFollowsRow.holds Try.pinned (OpenSpec.ofChange routeFollowsSpec)

/-- ITS FALSE NEIGHBOUR: 'it returns false'. Refute it at one input. -/
def routeFollowsWrong : ChangeSpec := { name := "routeFollows", fn := fun _ => fun
  | [d1, d2, d3] => { results := [.lit (.bool false)], args := [d1, d2, d3] }
  | _ => none }
def RouteFollowsWrongFalsely : Prop := routeFollowsRow.holds Try.pinned (OpenSpec.ofChange routeFollowsWrong)

/-- 'stillagelaw08.RouteWalks': WHATEVER THE INPUT: true; the input reads as it did. -/
def routeWalksSpec : ChangeSpec := { name := "routeWalks", fn := fun _ => fun
  | [d1, d2, d3] => { results := [.lit (.bool true)], args := [d1, d2, d3] }
  | _ => none }
def routeWalksRow : OpenClaim := { program := "ytbbdgndaaajejaa", sum := "528187a4e5618bcf88fb5f0a9878668d70b8edf97ba8808921dd7ebb735855c7", func := "stillage/stillagelaw08.RouteWalks", spec := "routeWalks", unfollowed := true, recurses := true, apart := false }
def RouteWalksSaid : Prop := routeWalksRow.holds Try.pinned (OpenSpec.ofChange routeWalksSpec)

/-- ITS FALSE NEIGHBOUR: 'it returns false'. Refute it at one input. -/
def routeWalksWrong : ChangeSpec := { name := "routeWalks", fn := fun _ => fun
  | [d1, d2, d3] => { results := [.lit (.bool false)], args := [d1, d2, d3] }
  | _ => none }
def RouteWalksWrongFalsely : Prop := routeWalksRow.holds Try.pinned (OpenSpec.ofChange routeWalksWrong)

/-- 'stillagelaw08.RouteLoops': WHATEVER THE INPUT: true; the input reads as it did. -/
def routeLoopsSpec : ChangeSpec := { name := "routeLoops", fn := fun _ => fun
  | [d1, d2] => { results := [.lit (.bool true)], args := [d1, d2] }
  | _ => none }
def routeLoopsRow : OpenClaim := { program := "ytbbdgndaaajejaa", sum := "528187a4e5618bcf88fb5f0a9878668d70b8edf97ba8808921dd7ebb735855c7", func := "stillage/stillagelaw08.RouteLoops", spec := "routeLoops", unfollowed := true, recurses := true, apart := false }
def RouteLoopsSaid : Prop := routeLoopsRow.holds Try.pinned (OpenSpec.ofChange routeLoopsSpec)

/-- ITS FALSE NEIGHBOUR: 'it returns false'. Refute it at one input. -/
def routeLoopsWrong : ChangeSpec := { name := "routeLoops", fn := fun _ => fun
  | [d1, d2] => { results := [.lit (.bool false)], args := [d1, d2] }
  | _ => none }
def RouteLoopsWrongFalsely : Prop := routeLoopsRow.holds Try.pinned (OpenSpec.ofChange routeLoopsWrong)

/-- 'stillagelaw08.RouteTails': WHATEVER THE INPUT: true; the input reads as it did. -/
def routeTailsSpec : ChangeSpec := { name := "routeTails", fn := fun _ => fun
  | [d1, d2, d3] => { results := [.lit (.bool true)], args := [d1, d2, d3] }
  | _ => none }
def routeTailsRow : OpenClaim := { program := "ytbbdgndaaajejaa", sum := "528187a4e5618bcf88fb5f0a9878668d70b8edf97ba8808921dd7ebb735855c7", func := "stillage/stillagelaw08.RouteTails", spec := "routeTails", unfollowed := true, recurses := true, apart := false }
def RouteTailsSaid : Prop := routeTailsRow.holds Try.pinned (OpenSpec.ofChange routeTailsSpec)

/-- ITS FALSE NEIGHBOUR: 'it returns false'. Refute it at one input. -/
def routeTailsWrong : ChangeSpec := { name := "routeTails", fn := fun _ => fun
  | [d1, d2, d3] => { results := [.lit (.bool false)], args := [d1, d2, d3] }
  | _ => none }
def RouteTailsWrongFalsely : Prop := routeTailsRow.holds Try.pinned (OpenSpec.ofChange routeTailsWrong)

/- THE SECOND FORM. 'bulk': how many values and letters a reading holds, each counted each time it is reached (what is shared counts as often as it is met; a slice's spare places count too). A statement '..UptoSaid' is the law's where the arguments, and the package variables that the reading takes, are together of bulk at most 1048576: NARROWER than '..Said'. Prove '..Said' where nothing that the law and all that it calls make is longer than what came in: it says more and counts as full. Else prove '..UptoSaid'. A law counts once. -/
mutual
def uptoBulk {H : Type} : DataW H → Nat
  | .lit (.string bytes) => bytes.length + 1
  | .lit _ => 1
  | .nil => 1
  | .ptr d => uptoBulk d + 1
  | .slice elems spare => uptoBulkAll elems + uptoBulkAll spare + 1
  | .agg parts => uptoBulkAll parts + 1
  | .iface _ d => uptoBulk d + 1
  | .map entries => uptoBulkEntries entries + 1
  | .held _ => 1
def uptoBulkAll {H : Type} : List (DataW H) → Nat
  | [] => 0
  | d :: r => uptoBulk d + uptoBulkAll r
def uptoBulkEntries {H : Type} : List (Lit × DataW H) → Nat
  | [] => 0
  | x :: r => uptoBulkEntry x + uptoBulkEntries r
def uptoBulkEntry {H : Type} : Lit × DataW H → Nat
  | (.string bytes, d) => bytes.length + uptoBulk d + 1
  | (_, d) => uptoBulk d + 1
 end
def uptoSmall : (H : Type) → List (DataW H) → Bool := fun _ ds => decide (uptoBulkAll ds ≤ 1048576)
def OpenSpec.upto (s : _root_.Go.ChangeSpec) : _root_.Go.OpenSpec := { _root_.Go.OpenSpec.ofChange s with cond := some uptoSmall }

/-- 'stillagelaw08.RouteTables', WHERE WHAT IT READS IS OF BULK AT MOST 1048576: true; the input reads as it did. -/
def routeTablesUptoRow : OpenClaim := { program := "ytbbdgndaaajejaa", sum := "528187a4e5618bcf88fb5f0a9878668d70b8edf97ba8808921dd7ebb735855c7", func := "stillage/stillagelaw08.RouteTables", spec := "routeTables", unfollowed := true, recurses := true, apart := false, narrowed := true }
def RouteTablesUptoSaid : Prop := routeTablesUptoRow.holds Try.pinned (OpenSpec.upto routeTablesSpec)

/-- 'stillagelaw08.RoutePaths', WHERE WHAT IT READS IS OF BULK AT MOST 1048576: true; the input reads as it did. -/
def routePathsUptoRow : OpenClaim := { program := "ytbbdgndaaajejaa", sum := "528187a4e5618bcf88fb5f0a9878668d70b8edf97ba8808921dd7ebb735855c7", func := "stillage/stillagelaw08.RoutePaths", spec := "routePaths", unfollowed := true, recurses := true, apart := false, narrowed := true }
def RoutePathsUptoSaid : Prop := routePathsUptoRow.holds Try.pinned (OpenSpec.upto routePathsSpec)

/-- 'stillagelaw08.RouteAvoids', WHERE WHAT IT READS IS OF BULK AT MOST 1048576: true; the input reads as it did. -/
def routeAvoidsUptoRow : OpenClaim := { program := "ytbbdgndaaajejaa", sum := "528187a4e5618bcf88fb5f0a9878668d70b8edf97ba8808921dd7ebb735855c7", func := "stillage/stillagelaw08.RouteAvoids", spec := "routeAvoids", unfollowed := true, recurses := true, apart := false, narrowed := true }
def RouteAvoidsUptoSaid : Prop := routeAvoidsUptoRow.holds Try.pinned (OpenSpec.upto routeAvoidsSpec)

/-- 'stillagelaw08.RouteFollows', WHERE WHAT IT READS IS OF BULK AT MOST 1048576: true; the input reads as it did. -/
def routeFollowsUptoRow : OpenClaim := { program := "ytbbdgndaaajejaa", sum := "528187a4e5618bcf88fb5f0a9878668d70b8edf97ba8808921dd7ebb735855c7", func := "stillage/stillagelaw08.RouteFollows", spec := "routeFollows", unfollowed := true, recurses := true, apart := false, narrowed := true }
def RouteFollowsUptoSaid : Prop := routeFollowsUptoRow.holds Try.pinned (OpenSpec.upto routeFollowsSpec)

/-- 'stillagelaw08.RouteWalks', WHERE WHAT IT READS IS OF BULK AT MOST 1048576: true; the input reads as it did. -/
def routeWalksUptoRow : OpenClaim := { program := "ytbbdgndaaajejaa", sum := "528187a4e5618bcf88fb5f0a9878668d70b8edf97ba8808921dd7ebb735855c7", func := "stillage/stillagelaw08.RouteWalks", spec := "routeWalks", unfollowed := true, recurses := true, apart := false, narrowed := true }
def RouteWalksUptoSaid : Prop := routeWalksUptoRow.holds Try.pinned (OpenSpec.upto routeWalksSpec)

/-- 'stillagelaw08.RouteLoops', WHERE WHAT IT READS IS OF BULK AT MOST 1048576: true; the input reads as it did. -/
def routeLoopsUptoRow : OpenClaim := { program := "ytbbdgndaaajejaa", sum := "528187a4e5618bcf88fb5f0a9878668d70b8edf97ba8808921dd7ebb735855c7", func := "stillage/stillagelaw08.RouteLoops", spec := "routeLoops", unfollowed := true, recurses := true, apart := false, narrowed := true }
def RouteLoopsUptoSaid : Prop := routeLoopsUptoRow.holds Try.pinned (OpenSpec.upto routeLoopsSpec)

/-- 'stillagelaw08.RouteTails', WHERE WHAT IT READS IS OF BULK AT MOST 1048576: true; the input reads as it did. -/
def routeTailsUptoRow : OpenClaim := { program := "ytbbdgndaaajejaa", sum := "528187a4e5618bcf88fb5f0a9878668d70b8edf97ba8808921dd7ebb735855c7", func := "stillage/stillagelaw08.RouteTails", spec := "routeTails", unfollowed := true, recurses := true, apart := false, narrowed := true }
def RouteTailsUptoSaid : Prop := routeTailsUptoRow.holds Try.pinned (OpenSpec.upto routeTailsSpec)

end Rows
end Go.Proofs.Ytbbdgndaaajejaa
