/-
  No cell of these rows narrows 'for every input' (looked for: loops, veiled, ifaces, maps, wideKeys, modest, calm, conditions, laid).
  DERIVED. THE GIVEN ROWS OF THIS SEAT. 5 by the template 'for every input the law returns true; each argument reads behind the call as it read before'; 0 by the template 'total and deterministic' (their statements: YthlpachpogbonaaTotals.lean).
  GIVEN WITH THE SEED: the statements are not yours to turn. If you find one false, say at which input.
  Laid BY PROGRAM, IN A SANDBOX (cutbox-rows.mjs): the forced cells as the released guide's own fill.sh prints them over the translation 67219182715f969e… (all of the seat's roots in one cut). By AI agents, Wed Nov 11 2026. No macro, syntax, notation, axiom, sorry.
-/
import Derived.Test.YthlpachpogbonaaChecked
import GoSem.Claim
import GoSem.ClaimJoined
import GoSem.ClaimMapViews
import Derived.JoinedTies
import Derived.KernelRfl
namespace Go.Proofs.Ythlpachpogbonaa
/- THE CELL 'sum', in the pinned program and in every row, IS THE sha256 OF THE DUMP (.gsa) THAT YthlpachpogbonaaProg.lean LOADS. Nothing in Lean hashes anything: it is a label: what it is worth is what the hold of that sum in a sandbox is worth. -/
noncomputable def Try.pinned : Pinned := { name := "ythlpachpogbonaa", sum := "67219182715f969e7f7574f5bc0a6915d12f4513311d72db320e1c28f399f59c", checked := Try.checked }
namespace Rows
def none {H : Type} : Left H := { results := [], args := [] }

/-- 'stillagelaw03.TurnWithin': WHATEVER THE INPUT: true; the input reads as it did. -/
def turnWithinSpec : ChangeSpec := { name := "turnWithin", fn := fun _ => fun
  | [d1, d2, d3] => { results := [.lit (.bool true)], args := [d1, d2, d3] }
  | _ => none }
def turnWithinRow : OpenClaim := { program := "ythlpachpogbonaa", sum := "67219182715f969e7f7574f5bc0a6915d12f4513311d72db320e1c28f399f59c", func := "stillage/stillagelaw03.TurnWithin", spec := "turnWithin", apart := false }
def TurnWithinSaid : Prop := turnWithinRow.holds Try.pinned (OpenSpec.ofChange turnWithinSpec)

/-- ITS FALSE NEIGHBOUR: 'it returns false'. Refute it at one input. -/
def turnWithinWrong : ChangeSpec := { name := "turnWithin", fn := fun _ => fun
  | [d1, d2, d3] => { results := [.lit (.bool false)], args := [d1, d2, d3] }
  | _ => none }
def TurnWithinWrongFalsely : Prop := turnWithinRow.holds Try.pinned (OpenSpec.ofChange turnWithinWrong)

/-- 'stillagelaw03.TurnLikely': WHATEVER THE INPUT: true; the input reads as it did. -/
def turnLikelySpec : ChangeSpec := { name := "turnLikely", fn := fun _ => fun
  | [d1, d2] => { results := [.lit (.bool true)], args := [d1, d2] }
  | _ => none }
def turnLikelyRow : OpenClaim := { program := "ythlpachpogbonaa", sum := "67219182715f969e7f7574f5bc0a6915d12f4513311d72db320e1c28f399f59c", func := "stillage/stillagelaw03.TurnLikely", spec := "turnLikely", apart := false }
def TurnLikelySaid : Prop := turnLikelyRow.holds Try.pinned (OpenSpec.ofChange turnLikelySpec)

/-- ITS FALSE NEIGHBOUR: 'it returns false'. Refute it at one input. -/
def turnLikelyWrong : ChangeSpec := { name := "turnLikely", fn := fun _ => fun
  | [d1, d2] => { results := [.lit (.bool false)], args := [d1, d2] }
  | _ => none }
def TurnLikelyWrongFalsely : Prop := turnLikelyRow.holds Try.pinned (OpenSpec.ofChange turnLikelyWrong)

/-- 'stillagelaw03.TurnFound': WHATEVER THE INPUT: true; the input reads as it did. -/
def turnFoundSpec : ChangeSpec := { name := "turnFound", fn := fun _ => fun
  | [d1, d2] => { results := [.lit (.bool true)], args := [d1, d2] }
  | _ => none }
def turnFoundRow : OpenClaim := { program := "ythlpachpogbonaa", sum := "67219182715f969e7f7574f5bc0a6915d12f4513311d72db320e1c28f399f59c", func := "stillage/stillagelaw03.TurnFound", spec := "turnFound", apart := false }
def TurnFoundSaid : Prop := turnFoundRow.holds Try.pinned (OpenSpec.ofChange turnFoundSpec)

/-- ITS FALSE NEIGHBOUR: 'it returns false'. Refute it at one input. -/
def turnFoundWrong : ChangeSpec := { name := "turnFound", fn := fun _ => fun
  | [d1, d2] => { results := [.lit (.bool false)], args := [d1, d2] }
  | _ => none }
def TurnFoundWrongFalsely : Prop := turnFoundRow.holds Try.pinned (OpenSpec.ofChange turnFoundWrong)

/-- 'stillagelaw03.TurnAdds': WHATEVER THE INPUT: true; the input reads as it did. -/
def turnAddsSpec : ChangeSpec := { name := "turnAdds", fn := fun _ => fun
  | [d1, d2] => { results := [.lit (.bool true)], args := [d1, d2] }
  | _ => none }
def turnAddsRow : OpenClaim := { program := "ythlpachpogbonaa", sum := "67219182715f969e7f7574f5bc0a6915d12f4513311d72db320e1c28f399f59c", func := "stillage/stillagelaw03.TurnAdds", spec := "turnAdds", apart := false }
def TurnAddsSaid : Prop := turnAddsRow.holds Try.pinned (OpenSpec.ofChange turnAddsSpec)

/-- ITS FALSE NEIGHBOUR: 'it returns false'. Refute it at one input. -/
def turnAddsWrong : ChangeSpec := { name := "turnAdds", fn := fun _ => fun
  | [d1, d2] => { results := [.lit (.bool false)], args := [d1, d2] }
  | _ => none }
def TurnAddsWrongFalsely : Prop := turnAddsRow.holds Try.pinned (OpenSpec.ofChange turnAddsWrong)

/-- 'stillagelaw03.TurnDists': WHATEVER THE INPUT: true; the input reads as it did. -/
def turnDistsSpec : ChangeSpec := { name := "turnDists", fn := fun _ => fun
  | [d1, d2] => { results := [.lit (.bool true)], args := [d1, d2] }
  | _ => none }
def turnDistsRow : OpenClaim := { program := "ythlpachpogbonaa", sum := "67219182715f969e7f7574f5bc0a6915d12f4513311d72db320e1c28f399f59c", func := "stillage/stillagelaw03.TurnDists", spec := "turnDists", apart := false }
def TurnDistsSaid : Prop := turnDistsRow.holds Try.pinned (OpenSpec.ofChange turnDistsSpec)

/-- ITS FALSE NEIGHBOUR: 'it returns false'. Refute it at one input. -/
def turnDistsWrong : ChangeSpec := { name := "turnDists", fn := fun _ => fun
  | [d1, d2] => { results := [.lit (.bool false)], args := [d1, d2] }
  | _ => none }
def TurnDistsWrongFalsely : Prop := turnDistsRow.holds Try.pinned (OpenSpec.ofChange turnDistsWrong)

/- THE SECOND FORM. 'bulk': how many values and letters a reading holds, each counted each time it is reached (what is shared counts as often as it is met; a slice's spare places count too). A statement '..UptoSaid' is the law's where the arguments, and the package variables that the reading takes, are together of bulk at most 1048576: NARROWER than '..Said'. Prove '..Said' where nothing that the law and all that it calls make is longer than what came in: it says more and counts as full. Else prove '..UptoSaid'. A law counts once. -/
mutual
def uptoBulk {H : Type} : DataW H → Nat
  | .lit (.string bytes) => bytes.length + 1
  | .lit _ => 1
  | .nil => 1
  | .ptr d => uptoBulk d + 1
  | .slice elems spare => uptoBulkAll elems + uptoBulkAll spare + 1
  | .agg parts => uptoBulkAll parts + 1
  | .iface _ d => uptoBulk d + 1
  | .map entries => uptoBulkEntries entries + 1
  | .held _ => 1
def uptoBulkAll {H : Type} : List (DataW H) → Nat
  | [] => 0
  | d :: r => uptoBulk d + uptoBulkAll r
def uptoBulkEntries {H : Type} : List (Lit × DataW H) → Nat
  | [] => 0
  | x :: r => uptoBulkEntry x + uptoBulkEntries r
def uptoBulkEntry {H : Type} : Lit × DataW H → Nat
  | (.string bytes, d) => bytes.length + uptoBulk d + 1
  | (_, d) => uptoBulk d + 1
 end
def uptoSmall : (H : Type) → List (DataW H) → Bool := fun _ ds => decide (uptoBulkAll ds ≤ 1048576)
def OpenSpec.upto (s : _root_.Go.ChangeSpec) : _root_.Go.OpenSpec := { _root_.Go.OpenSpec.ofChange s with cond := some uptoSmall }

/-- 'stillagelaw03.TurnWithin', WHERE WHAT IT READS IS OF BULK AT MOST 1048576: true; the input reads as it did. -/
def turnWithinUptoRow : OpenClaim := { program := "ythlpachpogbonaa", sum := "67219182715f969e7f7574f5bc0a6915d12f4513311d72db320e1c28f399f59c", func := "stillage/stillagelaw03.TurnWithin", spec := "turnWithin", apart := false, narrowed := true }
def TurnWithinUptoSaid : Prop := turnWithinUptoRow.holds Try.pinned (OpenSpec.upto turnWithinSpec)

/-- 'stillagelaw03.TurnLikely', WHERE WHAT IT READS IS OF BULK AT MOST 1048576: true; the input reads as it did. -/
def turnLikelyUptoRow : OpenClaim := { program := "ythlpachpogbonaa", sum := "67219182715f969e7f7574f5bc0a6915d12f4513311d72db320e1c28f399f59c", func := "stillage/stillagelaw03.TurnLikely", spec := "turnLikely", apart := false, narrowed := true }
def TurnLikelyUptoSaid : Prop := turnLikelyUptoRow.holds Try.pinned (OpenSpec.upto turnLikelySpec)

/-- 'stillagelaw03.TurnFound', WHERE WHAT IT READS IS OF BULK AT MOST 1048576: true; the input reads as it did. -/
def turnFoundUptoRow : OpenClaim := { program := "ythlpachpogbonaa", sum := "67219182715f969e7f7574f5bc0a6915d12f4513311d72db320e1c28f399f59c", func := "stillage/stillagelaw03.TurnFound", spec := "turnFound", apart := false, narrowed := true }
def TurnFoundUptoSaid : Prop := turnFoundUptoRow.holds Try.pinned (OpenSpec.upto turnFoundSpec)

/-- 'stillagelaw03.TurnAdds', WHERE WHAT IT READS IS OF BULK AT MOST 1048576: true; the input reads as it did. -/
def turnAddsUptoRow : OpenClaim := { program := "ythlpachpogbonaa", sum := "67219182715f969e7f7574f5bc0a6915d12f4513311d72db320e1c28f399f59c", func := "stillage/stillagelaw03.TurnAdds", spec := "turnAdds", apart := false, narrowed := true }
def TurnAddsUptoSaid : Prop := turnAddsUptoRow.holds Try.pinned (OpenSpec.upto turnAddsSpec)

/-- 'stillagelaw03.TurnDists', WHERE WHAT IT READS IS OF BULK AT MOST 1048576: true; the input reads as it did. -/
def turnDistsUptoRow : OpenClaim := { program := "ythlpachpogbonaa", sum := "67219182715f969e7f7574f5bc0a6915d12f4513311d72db320e1c28f399f59c", func := "stillage/stillagelaw03.TurnDists", spec := "turnDists", apart := false, narrowed := true }
def TurnDistsUptoSaid : Prop := turnDistsUptoRow.holds Try.pinned (OpenSpec.upto turnDistsSpec)

end Rows
end Go.Proofs.Ythlpachpogbonaa
