/-
  No cell of these rows narrows 'for every input' (looked for: loops, veiled, ifaces, maps, wideKeys, modest, calm, conditions, laid).
  DERIVED. THE GIVEN ROWS OF THIS SEAT. 7 by the template 'for every input the law returns true; each argument reads behind the call as it read before'; 0 by the template 'total and deterministic' (their statements: YtkfoicfbmhalbaaTotals.lean).
  GIVEN WITH THE SEED: the statements are not yours to turn. If you find one false, say at which input.
  Laid BY PROGRAM, IN A SANDBOX (cutbox-rows.mjs): the forced cells as the released guide's own fill.sh prints them over the translation 1438bd6bf3e28fcc… (all of the seat's roots in one cut). By AI agents, Wed Nov 11 2026. No macro, syntax, notation, axiom, sorry.
-/
import Derived.Test.YtkfoicfbmhalbaaChecked
import GoSem.Claim
import GoSem.ClaimJoined
import GoSem.ClaimMapViews
import Derived.JoinedTies
import Derived.KernelRfl
namespace Go.Proofs.Ytkfoicfbmhalbaa
/- THE CELL 'sum', in the pinned program and in every row, IS THE sha256 OF THE DUMP (.gsa) THAT YtkfoicfbmhalbaaProg.lean LOADS. Nothing in Lean hashes anything: it is a label: what it is worth is what the hold of that sum in a sandbox is worth. -/
noncomputable def Try.pinned : Pinned := { name := "ytkfoicfbmhalbaa", sum := "1438bd6bf3e28fccf1871c021d715f061621b9d89b0983661de3f3b7d6585300", checked := Try.checked }
namespace Rows
def none {H : Type} : Left H := { results := [], args := [] }

/-- 'stillagelaw07.ReachCuts': WHATEVER THE INPUT: true; the input reads as it did. -/
def reachCutsSpec : ChangeSpec := { name := "reachCuts", fn := fun _ => fun
  | [d1, d2, d3] => { results := [.lit (.bool true)], args := [d1, d2, d3] }
  | _ => none }
def reachCutsRow : OpenClaim := { program := "ytkfoicfbmhalbaa", sum := "1438bd6bf3e28fccf1871c021d715f061621b9d89b0983661de3f3b7d6585300", func := "stillage/stillagelaw07.ReachCuts", spec := "reachCuts", apart := false }
def ReachCutsSaid : Prop := reachCutsRow.holds Try.pinned (OpenSpec.ofChange reachCutsSpec)

/-- ITS FALSE NEIGHBOUR: 'it returns false'. Refute it at one input. -/
def reachCutsWrong : ChangeSpec := { name := "reachCuts", fn := fun _ => fun
  | [d1, d2, d3] => { results := [.lit (.bool false)], args := [d1, d2, d3] }
  | _ => none }
def ReachCutsWrongFalsely : Prop := reachCutsRow.holds Try.pinned (OpenSpec.ofChange reachCutsWrong)

/-- 'stillagelaw07.ReachLess': WHATEVER THE INPUT: true; the input reads as it did. -/
def reachLessSpec : ChangeSpec := { name := "reachLess", fn := fun _ => fun
  | [d1, d2, d3] => { results := [.lit (.bool true)], args := [d1, d2, d3] }
  | _ => none }
def reachLessRow : OpenClaim := { program := "ytkfoicfbmhalbaa", sum := "1438bd6bf3e28fccf1871c021d715f061621b9d89b0983661de3f3b7d6585300", func := "stillage/stillagelaw07.ReachLess", spec := "reachLess", apart := false }
def ReachLessSaid : Prop := reachLessRow.holds Try.pinned (OpenSpec.ofChange reachLessSpec)

/-- ITS FALSE NEIGHBOUR: 'it returns false'. Refute it at one input. -/
def reachLessWrong : ChangeSpec := { name := "reachLess", fn := fun _ => fun
  | [d1, d2, d3] => { results := [.lit (.bool false)], args := [d1, d2, d3] }
  | _ => none }
def ReachLessWrongFalsely : Prop := reachLessRow.holds Try.pinned (OpenSpec.ofChange reachLessWrong)

/-- 'stillagelaw07.ReachSums': WHATEVER THE INPUT: true; the input reads as it did. -/
def reachSumsSpec : ChangeSpec := { name := "reachSums", fn := fun _ => fun
  | [d1, d2] => { results := [.lit (.bool true)], args := [d1, d2] }
  | _ => none }
def reachSumsRow : OpenClaim := { program := "ytkfoicfbmhalbaa", sum := "1438bd6bf3e28fccf1871c021d715f061621b9d89b0983661de3f3b7d6585300", func := "stillage/stillagelaw07.ReachSums", spec := "reachSums", apart := false }
def ReachSumsSaid : Prop := reachSumsRow.holds Try.pinned (OpenSpec.ofChange reachSumsSpec)

/-- ITS FALSE NEIGHBOUR: 'it returns false'. Refute it at one input. -/
def reachSumsWrong : ChangeSpec := { name := "reachSums", fn := fun _ => fun
  | [d1, d2] => { results := [.lit (.bool false)], args := [d1, d2] }
  | _ => none }
def ReachSumsWrongFalsely : Prop := reachSumsRow.holds Try.pinned (OpenSpec.ofChange reachSumsWrong)

/-- 'stillagelaw07.ReachLengths': WHATEVER THE INPUT: true; the input reads as it did. -/
def reachLengthsSpec : ChangeSpec := { name := "reachLengths", fn := fun _ => fun
  | [d1, d2, d3] => { results := [.lit (.bool true)], args := [d1, d2, d3] }
  | _ => none }
def reachLengthsRow : OpenClaim := { program := "ytkfoicfbmhalbaa", sum := "1438bd6bf3e28fccf1871c021d715f061621b9d89b0983661de3f3b7d6585300", func := "stillage/stillagelaw07.ReachLengths", spec := "reachLengths", apart := false }
def ReachLengthsSaid : Prop := reachLengthsRow.holds Try.pinned (OpenSpec.ofChange reachLengthsSpec)

/-- ITS FALSE NEIGHBOUR: 'it returns false'. Refute it at one input. -/
def reachLengthsWrong : ChangeSpec := { name := "reachLengths", fn := fun _ => fun
  | [d1, d2, d3] => { results := [.lit (.bool false)], args := [d1, d2, d3] }
  | _ => none }
def ReachLengthsWrongFalsely : Prop := reachLengthsRow.holds Try.pinned (OpenSpec.ofChange reachLengthsWrong)

/-- 'stillagelaw07.ReachBoth': WHATEVER THE INPUT: true; the input reads as it did. -/
def reachBothSpec : ChangeSpec := { name := "reachBoth", fn := fun _ => fun
  | [d1, d2] => { results := [.lit (.bool true)], args := [d1, d2] }
  | _ => none }
def reachBothRow : OpenClaim := { program := "ytkfoicfbmhalbaa", sum := "1438bd6bf3e28fccf1871c021d715f061621b9d89b0983661de3f3b7d6585300", func := "stillage/stillagelaw07.ReachBoth", spec := "reachBoth", apart := false }
def ReachBothSaid : Prop := reachBothRow.holds Try.pinned (OpenSpec.ofChange reachBothSpec)

/-- ITS FALSE NEIGHBOUR: 'it returns false'. Refute it at one input. -/
def reachBothWrong : ChangeSpec := { name := "reachBoth", fn := fun _ => fun
  | [d1, d2] => { results := [.lit (.bool false)], args := [d1, d2] }
  | _ => none }
def ReachBothWrongFalsely : Prop := reachBothRow.holds Try.pinned (OpenSpec.ofChange reachBothWrong)

/-- 'stillagelaw07.ReachWhole': WHATEVER THE INPUT: true; the input reads as it did. -/
def reachWholeSpec : ChangeSpec := { name := "reachWhole", fn := fun _ => fun
  | [d1, d2] => { results := [.lit (.bool true)], args := [d1, d2] }
  | _ => none }
def reachWholeRow : OpenClaim := { program := "ytkfoicfbmhalbaa", sum := "1438bd6bf3e28fccf1871c021d715f061621b9d89b0983661de3f3b7d6585300", func := "stillage/stillagelaw07.ReachWhole", spec := "reachWhole", apart := false }
def ReachWholeSaid : Prop := reachWholeRow.holds Try.pinned (OpenSpec.ofChange reachWholeSpec)

/-- ITS FALSE NEIGHBOUR: 'it returns false'. Refute it at one input. -/
def reachWholeWrong : ChangeSpec := { name := "reachWhole", fn := fun _ => fun
  | [d1, d2] => { results := [.lit (.bool false)], args := [d1, d2] }
  | _ => none }
def ReachWholeWrongFalsely : Prop := reachWholeRow.holds Try.pinned (OpenSpec.ofChange reachWholeWrong)

/-- 'stillagelaw07.ReachMasks': WHATEVER THE INPUT: true; the input reads as it did. -/
def reachMasksSpec : ChangeSpec := { name := "reachMasks", fn := fun _ => fun
  | [d1, d2, d3] => { results := [.lit (.bool true)], args := [d1, d2, d3] }
  | _ => none }
def reachMasksRow : OpenClaim := { program := "ytkfoicfbmhalbaa", sum := "1438bd6bf3e28fccf1871c021d715f061621b9d89b0983661de3f3b7d6585300", func := "stillage/stillagelaw07.ReachMasks", spec := "reachMasks", apart := false }
def ReachMasksSaid : Prop := reachMasksRow.holds Try.pinned (OpenSpec.ofChange reachMasksSpec)

/-- ITS FALSE NEIGHBOUR: 'it returns false'. Refute it at one input. -/
def reachMasksWrong : ChangeSpec := { name := "reachMasks", fn := fun _ => fun
  | [d1, d2, d3] => { results := [.lit (.bool false)], args := [d1, d2, d3] }
  | _ => none }
def ReachMasksWrongFalsely : Prop := reachMasksRow.holds Try.pinned (OpenSpec.ofChange reachMasksWrong)

/- THE SECOND FORM. 'bulk': how many values and letters a reading holds, each counted each time it is reached (what is shared counts as often as it is met; a slice's spare places count too). A statement '..UptoSaid' is the law's where the arguments, and the package variables that the reading takes, are together of bulk at most 1048576: NARROWER than '..Said'. Prove '..Said' where nothing that the law and all that it calls make is longer than what came in: it says more and counts as full. Else prove '..UptoSaid'. A law counts once. -/
mutual
def uptoBulk {H : Type} : DataW H → Nat
  | .lit (.string bytes) => bytes.length + 1
  | .lit _ => 1
  | .nil => 1
  | .ptr d => uptoBulk d + 1
  | .slice elems spare => uptoBulkAll elems + uptoBulkAll spare + 1
  | .agg parts => uptoBulkAll parts + 1
  | .iface _ d => uptoBulk d + 1
  | .map entries => uptoBulkEntries entries + 1
  | .held _ => 1
def uptoBulkAll {H : Type} : List (DataW H) → Nat
  | [] => 0
  | d :: r => uptoBulk d + uptoBulkAll r
def uptoBulkEntries {H : Type} : List (Lit × DataW H) → Nat
  | [] => 0
  | x :: r => uptoBulkEntry x + uptoBulkEntries r
def uptoBulkEntry {H : Type} : Lit × DataW H → Nat
  | (.string bytes, d) => bytes.length + uptoBulk d + 1
  | (_, d) => uptoBulk d + 1
 end
def uptoSmall : (H : Type) → List (DataW H) → Bool := fun _ ds => decide (uptoBulkAll ds ≤ 1048576)
def OpenSpec.upto (s : _root_.Go.ChangeSpec) : _root_.Go.OpenSpec := { _root_.Go.OpenSpec.ofChange s with cond := some uptoSmall }

/-- 'stillagelaw07.ReachCuts', WHERE WHAT IT READS IS OF BULK AT MOST 1048576: true; the input reads as it did. -/
def reachCutsUptoRow : OpenClaim := { program := "ytkfoicfbmhalbaa", sum := "1438bd6bf3e28fccf1871c021d715f061621b9d89b0983661de3f3b7d6585300", func := "stillage/stillagelaw07.ReachCuts", spec := "reachCuts", apart := false, narrowed := true }
def ReachCutsUptoSaid : Prop := reachCutsUptoRow.holds Try.pinned (OpenSpec.upto reachCutsSpec)

/-- 'stillagelaw07.ReachLess', WHERE WHAT IT READS IS OF BULK AT MOST 1048576: true; the input reads as it did. -/
def reachLessUptoRow : OpenClaim := { program := "ytkfoicfbmhalbaa", sum := "1438bd6bf3e28fccf1871c021d715f061621b9d89b0983661de3f3b7d6585300", func := "stillage/stillagelaw07.ReachLess", spec := "reachLess", apart := false, narrowed := true }
def ReachLessUptoSaid : Prop := reachLessUptoRow.holds Try.pinned (OpenSpec.upto reachLessSpec)

/-- 'stillagelaw07.ReachSums', WHERE WHAT IT READS IS OF BULK AT MOST 1048576: true; the input reads as it did. -/
def reachSumsUptoRow : OpenClaim := { program := "ytkfoicfbmhalbaa", sum := "1438bd6bf3e28fccf1871c021d715f061621b9d89b0983661de3f3b7d6585300", func := "stillage/stillagelaw07.ReachSums", spec := "reachSums", apart := false, narrowed := true }
def ReachSumsUptoSaid : Prop := reachSumsUptoRow.holds Try.pinned (OpenSpec.upto reachSumsSpec)

/-- 'stillagelaw07.ReachLengths', WHERE WHAT IT READS IS OF BULK AT MOST 1048576: true; the input reads as it did. -/
def reachLengthsUptoRow : OpenClaim := { program := "ytkfoicfbmhalbaa", sum := "1438bd6bf3e28fccf1871c021d715f061621b9d89b0983661de3f3b7d6585300", func := "stillage/stillagelaw07.ReachLengths", spec := "reachLengths", apart := false, narrowed := true }
def ReachLengthsUptoSaid : Prop := reachLengthsUptoRow.holds Try.pinned (OpenSpec.upto reachLengthsSpec)

/-- 'stillagelaw07.ReachBoth', WHERE WHAT IT READS IS OF BULK AT MOST 1048576: true; the input reads as it did. -/
def reachBothUptoRow : OpenClaim := { program := "ytkfoicfbmhalbaa", sum := "1438bd6bf3e28fccf1871c021d715f061621b9d89b0983661de3f3b7d6585300", func := "stillage/stillagelaw07.ReachBoth", spec := "reachBoth", apart := false, narrowed := true }
def ReachBothUptoSaid : Prop := reachBothUptoRow.holds Try.pinned (OpenSpec.upto reachBothSpec)

/-- 'stillagelaw07.ReachWhole', WHERE WHAT IT READS IS OF BULK AT MOST 1048576: true; the input reads as it did. -/
def reachWholeUptoRow : OpenClaim := { program := "ytkfoicfbmhalbaa", sum := "1438bd6bf3e28fccf1871c021d715f061621b9d89b0983661de3f3b7d6585300", func := "stillage/stillagelaw07.ReachWhole", spec := "reachWhole", apart := false, narrowed := true }
def ReachWholeUptoSaid : Prop := reachWholeUptoRow.holds Try.pinned (OpenSpec.upto reachWholeSpec)

/-- 'stillagelaw07.ReachMasks', WHERE WHAT IT READS IS OF BULK AT MOST 1048576: true; the input reads as it did. -/
def reachMasksUptoRow : OpenClaim := { program := "ytkfoicfbmhalbaa", sum := "1438bd6bf3e28fccf1871c021d715f061621b9d89b0983661de3f3b7d6585300", func := "stillage/stillagelaw07.ReachMasks", spec := "reachMasks", apart := false, narrowed := true }
def ReachMasksUptoSaid : Prop := reachMasksUptoRow.holds Try.pinned (OpenSpec.upto reachMasksSpec)

end Rows
end Go.Proofs.Ytkfoicfbmhalbaa
