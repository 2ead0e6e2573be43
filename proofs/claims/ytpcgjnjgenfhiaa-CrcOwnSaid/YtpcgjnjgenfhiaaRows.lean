/-
  No cell of these rows narrows 'for every input' (looked for: loops, veiled, ifaces, maps, wideKeys, modest, calm, conditions, laid).
  DERIVED. THE GIVEN ROWS OF THIS SEAT. 8 by the template 'for every input the law returns true; each argument reads behind the call as it read before'; 0 by the template 'total and deterministic' (their statements: YtpcgjnjgenfhiaaTotals.lean).
  GIVEN WITH THE SEED: the statements are not yours to turn. If you find one false, say at which input.
  Laid BY PROGRAM, IN A SANDBOX (cutbox-rows.mjs): the forced cells as the released guide's own fill.sh prints them over the translation bc22fd9217e80f2c… (all of the seat's roots in one cut). By AI agents, Wed Nov 11 2026. No macro, syntax, notation, axiom, sorry.
-/
import Derived.Test.YtpcgjnjgenfhiaaChecked
import GoSem.Claim
import GoSem.ClaimJoined
import GoSem.ClaimMapViews
import Derived.JoinedTies
import Derived.KernelRfl
namespace Go.Proofs.Ytpcgjnjgenfhiaa
/- THE CELL 'sum', in the pinned program and in every row, IS THE sha256 OF THE DUMP (.gsa) THAT YtpcgjnjgenfhiaaProg.lean LOADS. Nothing in Lean hashes anything: it is a label: what it is worth is what the hold of that sum in a sandbox is worth. -/
noncomputable def Try.pinned : Pinned := { name := "ytpcgjnjgenfhiaa", sum := "bc22fd9217e80f2c3ddc272c776ff6ed9b9f5cfe629260a8c8d05a616051353e", checked := Try.checked }
namespace Rows
def none {H : Type} : Left H := { results := [], args := [] }

/-- 'stillagelaw01.CrcSteps': WHATEVER THE INPUT: true; the input reads as it did. -/
def crcStepsSpec : ChangeSpec := { name := "crcSteps", fn := fun _ => fun
  | [d1, d2] => { results := [.lit (.bool true)], args := [d1, d2] }
  | _ => none }
def crcStepsRow : OpenClaim := { program := "ytpcgjnjgenfhiaa", sum := "bc22fd9217e80f2c3ddc272c776ff6ed9b9f5cfe629260a8c8d05a616051353e", func := "stillage/stillagelaw01.CrcSteps", spec := "crcSteps", apart := false }
def CrcStepsSaid : Prop := crcStepsRow.holds Try.pinned (OpenSpec.ofChange crcStepsSpec)

/-- ITS FALSE NEIGHBOUR: 'it returns false'. Refute it at one input. -/
def crcStepsWrong : ChangeSpec := { name := "crcSteps", fn := fun _ => fun
  | [d1, d2] => { results := [.lit (.bool false)], args := [d1, d2] }
  | _ => none }
def CrcStepsWrongFalsely : Prop := crcStepsRow.holds Try.pinned (OpenSpec.ofChange crcStepsWrong)

/-- 'stillagelaw01.CrcSums': WHATEVER THE INPUT: true; the input reads as it did. -/
def crcSumsSpec : ChangeSpec := { name := "crcSums", fn := fun _ => fun
  | [d] => { results := [.lit (.bool true)], args := [d] }
  | _ => none }
def crcSumsRow : OpenClaim := { program := "ytpcgjnjgenfhiaa", sum := "bc22fd9217e80f2c3ddc272c776ff6ed9b9f5cfe629260a8c8d05a616051353e", func := "stillage/stillagelaw01.CrcSums", spec := "crcSums", apart := false }
def CrcSumsSaid : Prop := crcSumsRow.holds Try.pinned (OpenSpec.ofChange crcSumsSpec)

/-- ITS FALSE NEIGHBOUR: 'it returns false'. Refute it at one input. -/
def crcSumsWrong : ChangeSpec := { name := "crcSums", fn := fun _ => fun
  | [d] => { results := [.lit (.bool false)], args := [d] }
  | _ => none }
def CrcSumsWrongFalsely : Prop := crcSumsRow.holds Try.pinned (OpenSpec.ofChange crcSumsWrong)

/-- 'stillagelaw01.CrcRolls': WHATEVER THE INPUT: true; the input reads as it did. -/
def crcRollsSpec : ChangeSpec := { name := "crcRolls", fn := fun _ => fun
  | [d1, d2, d3] => { results := [.lit (.bool true)], args := [d1, d2, d3] }
  | _ => none }
def crcRollsRow : OpenClaim := { program := "ytpcgjnjgenfhiaa", sum := "bc22fd9217e80f2c3ddc272c776ff6ed9b9f5cfe629260a8c8d05a616051353e", func := "stillage/stillagelaw01.CrcRolls", spec := "crcRolls", apart := false }
def CrcRollsSaid : Prop := crcRollsRow.holds Try.pinned (OpenSpec.ofChange crcRollsSpec)

/-- ITS FALSE NEIGHBOUR: 'it returns false'. Refute it at one input. -/
def crcRollsWrong : ChangeSpec := { name := "crcRolls", fn := fun _ => fun
  | [d1, d2, d3] => { results := [.lit (.bool false)], args := [d1, d2, d3] }
  | _ => none }
def CrcRollsWrongFalsely : Prop := crcRollsRow.holds Try.pinned (OpenSpec.ofChange crcRollsWrong)

/-- 'stillagelaw01.CrcOwn': WHATEVER THE INPUT: true; the input reads as it did. -/
def crcOwnSpec : ChangeSpec := { name := "crcOwn", fn := fun _ => fun
  | [d1, d2] => { results := [.lit (.bool true)], args := [d1, d2] }
  | _ => none }
def crcOwnRow : OpenClaim := { program := "ytpcgjnjgenfhiaa", sum := "bc22fd9217e80f2c3ddc272c776ff6ed9b9f5cfe629260a8c8d05a616051353e", func := "stillage/stillagelaw01.CrcOwn", spec := "crcOwn", unfollowed := true, recurses := true, apart := false }
def CrcOwnSaid : Prop := crcOwnRow.holds Try.pinned (OpenSpec.ofChange crcOwnSpec)

/-- ITS FALSE NEIGHBOUR: 'it returns false'. Refute it at one input. -/
def crcOwnWrong : ChangeSpec := { name := "crcOwn", fn := fun _ => fun
  | [d1, d2] => { results := [.lit (.bool false)], args := [d1, d2] }
  | _ => none }
def CrcOwnWrongFalsely : Prop := crcOwnRow.holds Try.pinned (OpenSpec.ofChange crcOwnWrong)

/-- 'stillagelaw01.CrcMixed': WHATEVER THE INPUT: true; the input reads as it did. -/
def crcMixedSpec : ChangeSpec := { name := "crcMixed", fn := fun _ => fun
  | [d1, d2, d3] => { results := [.lit (.bool true)], args := [d1, d2, d3] }
  | _ => none }
def crcMixedRow : OpenClaim := { program := "ytpcgjnjgenfhiaa", sum := "bc22fd9217e80f2c3ddc272c776ff6ed9b9f5cfe629260a8c8d05a616051353e", func := "stillage/stillagelaw01.CrcMixed", spec := "crcMixed", apart := false }
def CrcMixedSaid : Prop := crcMixedRow.holds Try.pinned (OpenSpec.ofChange crcMixedSpec)

/-- ITS FALSE NEIGHBOUR: 'it returns false'. Refute it at one input. -/
def crcMixedWrong : ChangeSpec := { name := "crcMixed", fn := fun _ => fun
  | [d1, d2, d3] => { results := [.lit (.bool false)], args := [d1, d2, d3] }
  | _ => none }
def CrcMixedWrongFalsely : Prop := crcMixedRow.holds Try.pinned (OpenSpec.ofChange crcMixedWrong)

/-- 'stillagelaw01.CrcJoins': WHATEVER THE INPUT: true; the input reads as it did. -/
def crcJoinsSpec : ChangeSpec := { name := "crcJoins", fn := fun _ => fun
  | [d1, d2, d3] => { results := [.lit (.bool true)], args := [d1, d2, d3] }
  | _ => none }
def crcJoinsRow : OpenClaim := { program := "ytpcgjnjgenfhiaa", sum := "bc22fd9217e80f2c3ddc272c776ff6ed9b9f5cfe629260a8c8d05a616051353e", func := "stillage/stillagelaw01.CrcJoins", spec := "crcJoins", apart := false }
def CrcJoinsSaid : Prop := crcJoinsRow.holds Try.pinned (OpenSpec.ofChange crcJoinsSpec)

/-- ITS FALSE NEIGHBOUR: 'it returns false'. Refute it at one input. -/
def crcJoinsWrong : ChangeSpec := { name := "crcJoins", fn := fun _ => fun
  | [d1, d2, d3] => { results := [.lit (.bool false)], args := [d1, d2, d3] }
  | _ => none }
def CrcJoinsWrongFalsely : Prop := crcJoinsRow.holds Try.pinned (OpenSpec.ofChange crcJoinsWrong)

/-- 'stillagelaw01.CrcFinds': WHATEVER THE INPUT: true; the input reads as it did. -/
def crcFindsSpec : ChangeSpec := { name := "crcFinds", fn := fun _ => fun
  | [d1, d2] => { results := [.lit (.bool true)], args := [d1, d2] }
  | _ => none }
def crcFindsRow : OpenClaim := { program := "ytpcgjnjgenfhiaa", sum := "bc22fd9217e80f2c3ddc272c776ff6ed9b9f5cfe629260a8c8d05a616051353e", func := "stillage/stillagelaw01.CrcFinds", spec := "crcFinds", apart := false }
def CrcFindsSaid : Prop := crcFindsRow.holds Try.pinned (OpenSpec.ofChange crcFindsSpec)

/-- ITS FALSE NEIGHBOUR: 'it returns false'. Refute it at one input. -/
def crcFindsWrong : ChangeSpec := { name := "crcFinds", fn := fun _ => fun
  | [d1, d2] => { results := [.lit (.bool false)], args := [d1, d2] }
  | _ => none }
def CrcFindsWrongFalsely : Prop := crcFindsRow.holds Try.pinned (OpenSpec.ofChange crcFindsWrong)

/-- 'stillagelaw01.CrcTells': WHATEVER THE INPUT: true; the input reads as it did. -/
def crcTellsSpec : ChangeSpec := { name := "crcTells", fn := fun _ => fun
  | [d1, d2, d3] => { results := [.lit (.bool true)], args := [d1, d2, d3] }
  | _ => none }
def crcTellsRow : OpenClaim := { program := "ytpcgjnjgenfhiaa", sum := "bc22fd9217e80f2c3ddc272c776ff6ed9b9f5cfe629260a8c8d05a616051353e", func := "stillage/stillagelaw01.CrcTells", spec := "crcTells", apart := false }
def CrcTellsSaid : Prop := crcTellsRow.holds Try.pinned (OpenSpec.ofChange crcTellsSpec)

/-- ITS FALSE NEIGHBOUR: 'it returns false'. Refute it at one input. -/
def crcTellsWrong : ChangeSpec := { name := "crcTells", fn := fun _ => fun
  | [d1, d2, d3] => { results := [.lit (.bool false)], args := [d1, d2, d3] }
  | _ => none }
def CrcTellsWrongFalsely : Prop := crcTellsRow.holds Try.pinned (OpenSpec.ofChange crcTellsWrong)

/- THE SECOND FORM. 'bulk': how many values and letters a reading holds, each counted each time it is reached (what is shared counts as often as it is met; a slice's spare places count too). A statement '..UptoSaid' is the law's where the arguments, and the package variables that the reading takes, are together of bulk at most 1048576: NARROWER than '..Said'. Prove '..Said' where nothing that the law and all that it calls make is longer than what came in: it says more and counts as full. Else prove '..UptoSaid'. A law counts once. -/
mutual
def uptoBulk {H : Type} : DataW H → Nat
  | .lit (.string bytes) => bytes.length + 1
  | .lit _ => 1
  | .nil => 1
  | .ptr d => uptoBulk d + 1
  | .slice elems spare => uptoBulkAll elems + uptoBulkAll spare + 1
  | .agg parts => uptoBulkAll parts + 1
  | .iface _ d => uptoBulk d + 1
  | .map entries => uptoBulkEntries entries + 1
  | .held _ => 1
def uptoBulkAll {H : Type} : List (DataW H) → Nat
  | [] => 0
  | d :: r => uptoBulk d + uptoBulkAll r
def uptoBulkEntries {H : Type} : List (Lit × DataW H) → Nat
  | [] => 0
  | x :: r => uptoBulkEntry x + uptoBulkEntries r
def uptoBulkEntry {H : Type} : Lit × DataW H → Nat
  | (.string bytes, d) => bytes.length + uptoBulk d + 1
  | (_, d) => uptoBulk d + 1
 end
def uptoSmall : (H : Type) → List (DataW H) → Bool := fun _ ds => decide (uptoBulkAll ds ≤ 1048576)
def OpenSpec.upto (s : _root_.Go.ChangeSpec) : _root_.Go.OpenSpec := { _root_.Go.OpenSpec.ofChange s with cond := some uptoSmall }

/-- 'stillagelaw01.CrcSteps', WHERE WHAT IT READS IS OF BULK AT MOST 1048576: true; the input reads as it did. -/
def crcStepsUptoRow : OpenClaim := { program := "ytpcgjnjgenfhiaa", sum := "bc22fd9217e80f2c3ddc272c776ff6ed9b9f5cfe629260a8c8d05a616051353e", func := "stillage/stillagelaw01.CrcSteps", spec := "crcSteps", apart := false, narrowed := true }
def CrcStepsUptoSaid : Prop := crcStepsUptoRow.holds Try.pinned (OpenSpec.upto crcStepsSpec)

/-- 'stillagelaw01.CrcSums', WHERE WHAT IT READS IS OF BULK AT MOST 1048576: true; the input reads as it did. -/
def crcSumsUptoRow : OpenClaim := { program := "ytpcgjnjgenfhiaa", sum := "bc22fd9217e80f2c3ddc272c776ff6ed9b9f5cfe629260a8c8d05a616051353e", func := "stillage/stillagelaw01.CrcSums", spec := "crcSums", apart := false, narrowed := true }
def CrcSumsUptoSaid : Prop := crcSumsUptoRow.holds Try.pinned (OpenSpec.upto crcSumsSpec)

/-- 'stillagelaw01.CrcRolls', WHERE WHAT IT READS IS OF BULK AT MOST 1048576: true; the input reads as it did. -/
def crcRollsUptoRow : OpenClaim := { program := "ytpcgjnjgenfhiaa", sum := "bc22fd9217e80f2c3ddc272c776ff6ed9b9f5cfe629260a8c8d05a616051353e", func := "stillage/stillagelaw01.CrcRolls", spec := "crcRolls", apart := false, narrowed := true }
def CrcRollsUptoSaid : Prop := crcRollsUptoRow.holds Try.pinned (OpenSpec.upto crcRollsSpec)

/-- 'stillagelaw01.CrcOwn', WHERE WHAT IT READS IS OF BULK AT MOST 1048576: true; the input reads as it did. -/
def crcOwnUptoRow : OpenClaim := { program := "ytpcgjnjgenfhiaa", sum := "bc22fd9217e80f2c3ddc272c776ff6ed9b9f5cfe629260a8c8d05a616051353e", func := "stillage/stillagelaw01.CrcOwn", spec := "crcOwn", unfollowed := true, recurses := true, apart := false, narrowed := true }
def CrcOwnUptoSaid : Prop := crcOwnUptoRow.holds Try.pinned (OpenSpec.upto crcOwnSpec)

/-- 'stillagelaw01.CrcMixed', WHERE WHAT IT READS IS OF BULK AT MOST 1048576: true; the input reads as it did. -/
def crcMixedUptoRow : OpenClaim := { program := "ytpcgjnjgenfhiaa", sum := "bc22fd9217e80f2c3ddc272c776ff6ed9b9f5cfe629260a8c8d05a616051353e", func := "stillage/stillagelaw01.CrcMixed", spec := "crcMixed", apart := false, narrowed := true }
def CrcMixedUptoSaid : Prop := crcMixedUptoRow.holds Try.pinned (OpenSpec.upto crcMixedSpec)

/-- 'stillagelaw01.CrcJoins', WHERE WHAT IT READS IS OF BULK AT MOST 1048576: true; the input reads as it did. -/
def crcJoinsUptoRow : OpenClaim := { program := "ytpcgjnjgenfhiaa", sum := "bc22fd9217e80f2c3ddc272c776ff6ed9b9f5cfe629260a8c8d05a616051353e", func := "stillage/stillagelaw01.CrcJoins", spec := "crcJoins", apart := false, narrowed := true }
def CrcJoinsUptoSaid : Prop := crcJoinsUptoRow.holds Try.pinned (OpenSpec.upto crcJoinsSpec)

/-- 'stillagelaw01.CrcFinds', WHERE WHAT IT READS IS OF BULK AT MOST 1048576: true; the input reads as it did. -/
def crcFindsUptoRow : OpenClaim := { program := "ytpcgjnjgenfhiaa", sum := "bc22fd9217e80f2c3ddc272c776ff6ed9b9f5cfe629260a8c8d05a616051353e", func := "stillage/stillagelaw01.CrcFinds", spec := "crcFinds", apart := false, narrowed := true }
def CrcFindsUptoSaid : Prop := crcFindsUptoRow.holds Try.pinned (OpenSpec.upto crcFindsSpec)

/-- 'stillagelaw01.CrcTells', WHERE WHAT IT READS IS OF BULK AT MOST 1048576: true; the input reads as it did. -/
def crcTellsUptoRow : OpenClaim := { program := "ytpcgjnjgenfhiaa", sum := "bc22fd9217e80f2c3ddc272c776ff6ed9b9f5cfe629260a8c8d05a616051353e", func := "stillage/stillagelaw01.CrcTells", spec := "crcTells", apart := false, narrowed := true }
def CrcTellsUptoSaid : Prop := crcTellsUptoRow.holds Try.pinned (OpenSpec.upto crcTellsSpec)

end Rows
end Go.Proofs.Ytpcgjnjgenfhiaa
