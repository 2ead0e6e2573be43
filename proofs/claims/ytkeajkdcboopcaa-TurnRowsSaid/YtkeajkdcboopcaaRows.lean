/-
  No cell of these rows narrows 'for every input' (looked for: loops, veiled, ifaces, maps, wideKeys, modest, calm, conditions, laid).
  DERIVED. THE GIVEN ROWS OF THIS SEAT. 2 by the template 'for every input the law returns true; each argument reads behind the call as it read before'; 0 by the template 'total and deterministic' (their statements: YtkeajkdcboopcaaTotals.lean).
  GIVEN WITH THE SEED: the statements are not yours to turn. If you find one false, say at which input.
  Laid BY PROGRAM, IN A SANDBOX (cutbox-rows.mjs): the forced cells as the released guide's own fill.sh prints them over the translation 774ff749c0dbcf79… (all of the seat's roots in one cut). By AI agents, Wed Nov 11 2026. No macro, syntax, notation, axiom, sorry.
-/
import Derived.Test.YtkeajkdcboopcaaChecked
import GoSem.Claim
import GoSem.ClaimJoined
import GoSem.ClaimMapViews
import Derived.JoinedTies
import Derived.KernelRfl
namespace Go.Proofs.Ytkeajkdcboopcaa
/- THE CELL 'sum', in the pinned program and in every row, IS THE sha256 OF THE DUMP (.gsa) THAT YtkeajkdcboopcaaProg.lean LOADS. Nothing in Lean hashes anything: it is a label: what it is worth is what the hold of that sum in a sandbox is worth. -/
noncomputable def Try.pinned : Pinned := { name := "ytkeajkdcboopcaa", sum := "774ff749c0dbcf79adf46b48c847d483f00dcdee11cc00bf330389a79f32aacb", checked := Try.checked }
namespace Rows
def none {H : Type} : Left H := { results := [], args := [] }

/-- 'stillagelaw03.TurnOrders': WHATEVER THE INPUT: true; the input reads as it did. -/
def turnOrdersSpec : ChangeSpec := { name := "turnOrders", fn := fun _ => fun
  | [d1, d2] => { results := [.lit (.bool true)], args := [d1, d2] }
  | _ => none }
def turnOrdersRow : OpenClaim := { program := "ytkeajkdcboopcaa", sum := "774ff749c0dbcf79adf46b48c847d483f00dcdee11cc00bf330389a79f32aacb", func := "stillage/stillagelaw03.TurnOrders", spec := "turnOrders", unfollowed := true, recurses := true, apart := false }
def TurnOrdersSaid : Prop := turnOrdersRow.holds Try.pinned (OpenSpec.ofChange turnOrdersSpec)

/-- ITS FALSE NEIGHBOUR: 'it returns false'. Refute it at one input. -/
def turnOrdersWrong : ChangeSpec := { name := "turnOrders", fn := fun _ => fun
  | [d1, d2] => { results := [.lit (.bool false)], args := [d1, d2] }
  | _ => none }
def TurnOrdersWrongFalsely : Prop := turnOrdersRow.holds Try.pinned (OpenSpec.ofChange turnOrdersWrong)

/-- 'stillagelaw03.TurnRows': WHATEVER THE INPUT: true; the input reads as it did. -/
def turnRowsSpec : ChangeSpec := { name := "turnRows", fn := fun _ => fun
  | [d1, d2, d3] => { results := [.lit (.bool true)], args := [d1, d2, d3] }
  | _ => none }
def turnRowsRow : OpenClaim := { program := "ytkeajkdcboopcaa", sum := "774ff749c0dbcf79adf46b48c847d483f00dcdee11cc00bf330389a79f32aacb", func := "stillage/stillagelaw03.TurnRows", spec := "turnRows", unfollowed := true, recurses := true, apart := false }
def TurnRowsSaid : Prop := turnRowsRow.holds Try.pinned (OpenSpec.ofChange turnRowsSpec)

/-- ITS FALSE NEIGHBOUR: 'it returns false'. Refute it at one input. -/
def turnRowsWrong : ChangeSpec := { name := "turnRows", fn := fun _ => fun
  | [d1, d2, d3] => { results := [.lit (.bool false)], args := [d1, d2, d3] }
  | _ => none }
def TurnRowsWrongFalsely : Prop := turnRowsRow.holds Try.pinned (OpenSpec.ofChange turnRowsWrong)

/- THE SECOND FORM. 'bulk': how many values and letters a reading holds, each counted each time it is reached (what is shared counts as often as it is met; a slice's spare places count too). A statement '..UptoSaid' is the law's where the arguments, and the package variables that the reading takes, are together of bulk at most 1048576: NARROWER than '..Said'. Prove '..Said' where nothing that the law and all that it calls make is longer than what came in: it says more and counts as full. Else prove '..UptoSaid'. A law counts once. -/
mutual
def uptoBulk {H : Type} : DataW H → Nat
  | .lit (.string bytes) => bytes.length + 1
  | .lit _ => 1
  | .nil => 1
  | .ptr d => uptoBulk d + 1
  | .slice elems spare => uptoBulkAll elems + uptoBulkAll spare + 1
  | .agg parts => uptoBulkAll parts + 1
  | .iface _ d => uptoBulk d + 1
  | .map entries => uptoBulkEntries entries + 1
  | .held _ => 1
def uptoBulkAll {H : Type} : List (DataW H) → Nat
  | [] => 0
  | d :: r => uptoBulk d + uptoBulkAll r
def uptoBulkEntries {H : Type} : List (Lit × DataW H) → Nat
  | [] => 0
  | x :: r => uptoBulkEntry x + uptoBulkEntries r
def uptoBulkEntry {H : Type} : Lit × DataW H → Nat
  | (.string bytes, d) => bytes.length + uptoBulk d + 1
  | (_, d) => uptoBulk d + 1
 end
def uptoSmall : (H : Type) → List (DataW H) → Bool := fun _ ds => decide (uptoBulkAll ds ≤ 1048576)
def OpenSpec.upto (s : _root_.Go.ChangeSpec) : _root_.Go.OpenSpec := { _root_.Go.OpenSpec.ofChange s with cond := some uptoSmall }

/-- 'stillagelaw03.TurnOrders', WHERE WHAT IT READS IS OF BULK AT MOST 1048576: true; the input reads as it did. -/
def turnOrdersUptoRow : OpenClaim := { program := "ytkeajkdcboopcaa", sum := "774ff749c0dbcf79adf46b48c847d483f00dcdee11cc00bf330389a79f32aacb", func := "stillage/stillagelaw03.TurnOrders", spec := "turnOrders", unfollowed := true, recurses := true, apart := false, narrowed := true }
def TurnOrdersUptoSaid : Prop := turnOrdersUptoRow.holds Try.pinned (OpenSpec.upto turnOrdersSpec)

/-- 'stillagelaw03.TurnRows', WHERE WHAT IT READS IS OF BULK AT MOST 1048576: true; the input reads as it did. -/
def turnRowsUptoRow : OpenClaim := { program := "ytkeajkdcboopcaa", sum := "774ff749c0dbcf79adf46b48c847d483f00dcdee11cc00bf330389a79f32aacb", func := "stillage/stillagelaw03.TurnRows", spec := "turnRows", unfollowed := true, recurses := true, apart := false, narrowed := true }
def TurnRowsUptoSaid : Prop := turnRowsUptoRow.holds Try.pinned (OpenSpec.upto turnRowsSpec)

end Rows
end Go.Proofs.Ytkeajkdcboopcaa
