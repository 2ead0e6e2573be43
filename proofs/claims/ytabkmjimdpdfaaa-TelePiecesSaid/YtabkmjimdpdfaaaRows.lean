/-
  No cell of these rows narrows 'for every input' (looked for: loops, veiled, ifaces, maps, wideKeys, modest, calm, conditions, laid).
  DERIVED. THE GIVEN ROWS OF THIS SEAT. 8 by the template 'for every input the law returns true; each argument reads behind the call as it read before'; 0 by the template 'total and deterministic' (their statements: YtabkmjimdpdfaaaTotals.lean).
  GIVEN WITH THE SEED: the statements are not yours to turn. If you find one false, say at which input.
  Laid BY PROGRAM, IN A SANDBOX (cutbox-rows.mjs): the forced cells as the released guide's own fill.sh prints them over the translation eaa6e7e310b0c8b8… (all of the seat's roots in one cut). By AI agents, Wed Nov 11 2026. No macro, syntax, notation, axiom, sorry.
-/
import Derived.Test.YtabkmjimdpdfaaaChecked
import GoSem.Claim
import GoSem.ClaimJoined
import GoSem.ClaimMapViews
import Derived.JoinedTies
import Derived.KernelRfl
namespace Go.Proofs.Ytabkmjimdpdfaaa
/- THE CELL 'sum', in the pinned program and in every row, IS THE sha256 OF THE DUMP (.gsa) THAT YtabkmjimdpdfaaaProg.lean LOADS. Nothing in Lean hashes anything: it is a label: what it is worth is what the hold of that sum in a sandbox is worth. -/
noncomputable def Try.pinned : Pinned := { name := "ytabkmjimdpdfaaa", sum := "eaa6e7e310b0c8b8b0acec599c4dd39faf0b2f185ee1457d4df1173e0dca4a28", checked := Try.checked }
namespace Rows
def none {H : Type} : Left H := { results := [], args := [] }

/-- 'stillagelaw02.TeleApart': WHATEVER THE INPUT: true; the input reads as it did. -/
def teleApartSpec : ChangeSpec := { name := "teleApart", fn := fun _ => fun
  | [d1, d2] => { results := [.lit (.bool true)], args := [d1, d2] }
  | _ => none }
def teleApartRow : OpenClaim := { program := "ytabkmjimdpdfaaa", sum := "eaa6e7e310b0c8b8b0acec599c4dd39faf0b2f185ee1457d4df1173e0dca4a28", func := "stillage/stillagelaw02.TeleApart", spec := "teleApart", apart := false }
def TeleApartSaid : Prop := teleApartRow.holds Try.pinned (OpenSpec.ofChange teleApartSpec)

/-- ITS FALSE NEIGHBOUR: 'it returns false'. Refute it at one input. -/
def teleApartWrong : ChangeSpec := { name := "teleApart", fn := fun _ => fun
  | [d1, d2] => { results := [.lit (.bool false)], args := [d1, d2] }
  | _ => none }
def TeleApartWrongFalsely : Prop := teleApartRow.holds Try.pinned (OpenSpec.ofChange teleApartWrong)

/-- 'stillagelaw02.TeleWrites': WHATEVER THE INPUT: true; the input reads as it did. -/
def teleWritesSpec : ChangeSpec := { name := "teleWrites", fn := fun _ => fun
  | [d] => { results := [.lit (.bool true)], args := [d] }
  | _ => none }
def teleWritesRow : OpenClaim := { program := "ytabkmjimdpdfaaa", sum := "eaa6e7e310b0c8b8b0acec599c4dd39faf0b2f185ee1457d4df1173e0dca4a28", func := "stillage/stillagelaw02.TeleWrites", spec := "teleWrites", apart := false }
def TeleWritesSaid : Prop := teleWritesRow.holds Try.pinned (OpenSpec.ofChange teleWritesSpec)

/-- ITS FALSE NEIGHBOUR: 'it returns false'. Refute it at one input. -/
def teleWritesWrong : ChangeSpec := { name := "teleWrites", fn := fun _ => fun
  | [d] => { results := [.lit (.bool false)], args := [d] }
  | _ => none }
def TeleWritesWrongFalsely : Prop := teleWritesRow.holds Try.pinned (OpenSpec.ofChange teleWritesWrong)

/-- 'stillagelaw02.TeleReads': WHATEVER THE INPUT: true; the input reads as it did. -/
def teleReadsSpec : ChangeSpec := { name := "teleReads", fn := fun _ => fun
  | [d] => { results := [.lit (.bool true)], args := [d] }
  | _ => none }
def teleReadsRow : OpenClaim := { program := "ytabkmjimdpdfaaa", sum := "eaa6e7e310b0c8b8b0acec599c4dd39faf0b2f185ee1457d4df1173e0dca4a28", func := "stillage/stillagelaw02.TeleReads", spec := "teleReads", apart := false }
def TeleReadsSaid : Prop := teleReadsRow.holds Try.pinned (OpenSpec.ofChange teleReadsSpec)

/-- ITS FALSE NEIGHBOUR: 'it returns false'. Refute it at one input. -/
def teleReadsWrong : ChangeSpec := { name := "teleReads", fn := fun _ => fun
  | [d] => { results := [.lit (.bool false)], args := [d] }
  | _ => none }
def TeleReadsWrongFalsely : Prop := teleReadsRow.holds Try.pinned (OpenSpec.ofChange teleReadsWrong)

/-- 'stillagelaw02.TeleTurned': WHATEVER THE INPUT: true; the input reads as it did. -/
def teleTurnedSpec : ChangeSpec := { name := "teleTurned", fn := fun _ => fun
  | [d1, d2] => { results := [.lit (.bool true)], args := [d1, d2] }
  | _ => none }
def teleTurnedRow : OpenClaim := { program := "ytabkmjimdpdfaaa", sum := "eaa6e7e310b0c8b8b0acec599c4dd39faf0b2f185ee1457d4df1173e0dca4a28", func := "stillage/stillagelaw02.TeleTurned", spec := "teleTurned", apart := false }
def TeleTurnedSaid : Prop := teleTurnedRow.holds Try.pinned (OpenSpec.ofChange teleTurnedSpec)

/-- ITS FALSE NEIGHBOUR: 'it returns false'. Refute it at one input. -/
def teleTurnedWrong : ChangeSpec := { name := "teleTurned", fn := fun _ => fun
  | [d1, d2] => { results := [.lit (.bool false)], args := [d1, d2] }
  | _ => none }
def TeleTurnedWrongFalsely : Prop := teleTurnedRow.holds Try.pinned (OpenSpec.ofChange teleTurnedWrong)

/-- 'stillagelaw02.TeleSplits': WHATEVER THE INPUT: true; the input reads as it did. -/
def teleSplitsSpec : ChangeSpec := { name := "teleSplits", fn := fun _ => fun
  | [d] => { results := [.lit (.bool true)], args := [d] }
  | _ => none }
def teleSplitsRow : OpenClaim := { program := "ytabkmjimdpdfaaa", sum := "eaa6e7e310b0c8b8b0acec599c4dd39faf0b2f185ee1457d4df1173e0dca4a28", func := "stillage/stillagelaw02.TeleSplits", spec := "teleSplits", apart := false }
def TeleSplitsSaid : Prop := teleSplitsRow.holds Try.pinned (OpenSpec.ofChange teleSplitsSpec)

/-- ITS FALSE NEIGHBOUR: 'it returns false'. Refute it at one input. -/
def teleSplitsWrong : ChangeSpec := { name := "teleSplits", fn := fun _ => fun
  | [d] => { results := [.lit (.bool false)], args := [d] }
  | _ => none }
def TeleSplitsWrongFalsely : Prop := teleSplitsRow.holds Try.pinned (OpenSpec.ofChange teleSplitsWrong)

/-- 'stillagelaw02.TelePieces': WHATEVER THE INPUT: true; the input reads as it did. -/
def telePiecesSpec : ChangeSpec := { name := "telePieces", fn := fun _ => fun
  | [d1, d2] => { results := [.lit (.bool true)], args := [d1, d2] }
  | _ => none }
def telePiecesRow : OpenClaim := { program := "ytabkmjimdpdfaaa", sum := "eaa6e7e310b0c8b8b0acec599c4dd39faf0b2f185ee1457d4df1173e0dca4a28", func := "stillage/stillagelaw02.TelePieces", spec := "telePieces", apart := false }
def TelePiecesSaid : Prop := telePiecesRow.holds Try.pinned (OpenSpec.ofChange telePiecesSpec)

/-- ITS FALSE NEIGHBOUR: 'it returns false'. Refute it at one input. -/
def telePiecesWrong : ChangeSpec := { name := "telePieces", fn := fun _ => fun
  | [d1, d2] => { results := [.lit (.bool false)], args := [d1, d2] }
  | _ => none }
def TelePiecesWrongFalsely : Prop := telePiecesRow.holds Try.pinned (OpenSpec.ofChange telePiecesWrong)

/-- 'stillagelaw02.TeleOwn': WHATEVER THE INPUT: true; the input reads as it did. -/
def teleOwnSpec : ChangeSpec := { name := "teleOwn", fn := fun _ => fun
  | [d1, d2] => { results := [.lit (.bool true)], args := [d1, d2] }
  | _ => none }
def teleOwnRow : OpenClaim := { program := "ytabkmjimdpdfaaa", sum := "eaa6e7e310b0c8b8b0acec599c4dd39faf0b2f185ee1457d4df1173e0dca4a28", func := "stillage/stillagelaw02.TeleOwn", spec := "teleOwn", apart := false }
def TeleOwnSaid : Prop := teleOwnRow.holds Try.pinned (OpenSpec.ofChange teleOwnSpec)

/-- ITS FALSE NEIGHBOUR: 'it returns false'. Refute it at one input. -/
def teleOwnWrong : ChangeSpec := { name := "teleOwn", fn := fun _ => fun
  | [d1, d2] => { results := [.lit (.bool false)], args := [d1, d2] }
  | _ => none }
def TeleOwnWrongFalsely : Prop := teleOwnRow.holds Try.pinned (OpenSpec.ofChange teleOwnWrong)

/-- 'stillagelaw02.TeleNoise': WHATEVER THE INPUT: true; the input reads as it did. -/
def teleNoiseSpec : ChangeSpec := { name := "teleNoise", fn := fun _ => fun
  | [d1, d2, d3] => { results := [.lit (.bool true)], args := [d1, d2, d3] }
  | _ => none }
def teleNoiseRow : OpenClaim := { program := "ytabkmjimdpdfaaa", sum := "eaa6e7e310b0c8b8b0acec599c4dd39faf0b2f185ee1457d4df1173e0dca4a28", func := "stillage/stillagelaw02.TeleNoise", spec := "teleNoise", apart := false }
def TeleNoiseSaid : Prop := teleNoiseRow.holds Try.pinned (OpenSpec.ofChange teleNoiseSpec)

/-- ITS FALSE NEIGHBOUR: 'it returns false'. Refute it at one input. -/
def teleNoiseWrong : ChangeSpec := { name := "teleNoise", fn := fun _ => fun
  | [d1, d2, d3] => { results := [.lit (.bool false)], args := [d1, d2, d3] }
  | _ => none }
def TeleNoiseWrongFalsely : Prop := teleNoiseRow.holds Try.pinned (OpenSpec.ofChange teleNoiseWrong)

/- THE SECOND FORM. 'bulk': how many values and letters a reading holds, each counted each time it is reached (what is shared counts as often as it is met; a slice's spare places count too). A statement '..UptoSaid' is the law's where the arguments, and the package variables that the reading takes, are together of bulk at most 1048576: NARROWER than '..Said'. Prove '..Said' where nothing that the law and all that it calls make is longer than what came in: it says more and counts as full. Else prove '..UptoSaid'. A law counts once. -/
mutual
def uptoBulk {H : Type} : DataW H → Nat
  | .lit (.string bytes) => bytes.length + 1
  | .lit _ => 1
  | .nil => 1
  | .ptr d => uptoBulk d + 1
  | .slice elems spare => uptoBulkAll elems + uptoBulkAll spare + 1
  | .agg parts => uptoBulkAll parts + 1
  | .iface _ d => uptoBulk d + 1
  | .map entries => uptoBulkEntries entries + 1
  | .held _ => 1
def uptoBulkAll {H : Type} : List (DataW H) → Nat
  | [] => 0
  | d :: r => uptoBulk d + uptoBulkAll r
def uptoBulkEntries {H : Type} : List (Lit × DataW H) → Nat
  | [] => 0
  | x :: r => uptoBulkEntry x + uptoBulkEntries r
def uptoBulkEntry {H : Type} : Lit × DataW H → Nat
  | (.string bytes, d) => bytes.length + uptoBulk d + 1
  | (_, d) => uptoBulk d + 1
 end
def uptoSmall : (H : Type) → List (DataW H) → Bool := fun _ ds => decide (uptoBulkAll ds ≤ 1048576)
def OpenSpec.upto (s : _root_.Go.ChangeSpec) : _root_.Go.OpenSpec := { _root_.Go.OpenSpec.ofChange s with cond := some uptoSmall }

/-- 'stillagelaw02.TeleApart', WHERE WHAT IT READS IS OF BULK AT MOST 1048576: true; the input reads as it did. -/
def teleApartUptoRow : OpenClaim := { program := "ytabkmjimdpdfaaa", sum := "eaa6e7e310b0c8b8b0acec599c4dd39faf0b2f185ee1457d4df1173e0dca4a28", func := "stillage/stillagelaw02.TeleApart", spec := "teleApart", apart := false, narrowed := true }
def TeleApartUptoSaid : Prop := teleApartUptoRow.holds Try.pinned (OpenSpec.upto teleApartSpec)

/-- 'stillagelaw02.TeleWrites', WHERE WHAT IT READS IS OF BULK AT MOST 1048576: true; the input reads as it did. -/
def teleWritesUptoRow : OpenClaim := { program := "ytabkmjimdpdfaaa", sum := "eaa6e7e310b0c8b8b0acec599c4dd39faf0b2f185ee1457d4df1173e0dca4a28", func := "stillage/stillagelaw02.TeleWrites", spec := "teleWrites", apart := false, narrowed := true }
def TeleWritesUptoSaid : Prop := teleWritesUptoRow.holds Try.pinned (OpenSpec.upto teleWritesSpec)

/-- 'stillagelaw02.TeleReads', WHERE WHAT IT READS IS OF BULK AT MOST 1048576: true; the input reads as it did. -/
def teleReadsUptoRow : OpenClaim := { program := "ytabkmjimdpdfaaa", sum := "eaa6e7e310b0c8b8b0acec599c4dd39faf0b2f185ee1457d4df1173e0dca4a28", func := "stillage/stillagelaw02.TeleReads", spec := "teleReads", apart := false, narrowed := true }
def TeleReadsUptoSaid : Prop := teleReadsUptoRow.holds Try.pinned (OpenSpec.upto teleReadsSpec)

/-- 'stillagelaw02.TeleTurned', WHERE WHAT IT READS IS OF BULK AT MOST 1048576: true; the input reads as it did. -/
def teleTurnedUptoRow : OpenClaim := { program := "ytabkmjimdpdfaaa", sum := "eaa6e7e310b0c8b8b0acec599c4dd39faf0b2f185ee1457d4df1173e0dca4a28", func := "stillage/stillagelaw02.TeleTurned", spec := "teleTurned", apart := false, narrowed := true }
def TeleTurnedUptoSaid : Prop := teleTurnedUptoRow.holds Try.pinned (OpenSpec.upto teleTurnedSpec)

/-- 'stillagelaw02.TeleSplits', WHERE WHAT IT READS IS OF BULK AT MOST 1048576: true; the input reads as it did. -/
def teleSplitsUptoRow : OpenClaim := { program := "ytabkmjimdpdfaaa", sum := "eaa6e7e310b0c8b8b0acec599c4dd39faf0b2f185ee1457d4df1173e0dca4a28", func := "stillage/stillagelaw02.TeleSplits", spec := "teleSplits", apart := false, narrowed := true }
def TeleSplitsUptoSaid : Prop := teleSplitsUptoRow.holds Try.pinned (OpenSpec.upto teleSplitsSpec)

/-- 'stillagelaw02.TelePieces', WHERE WHAT IT READS IS OF BULK AT MOST 1048576: true; the input reads as it did. -/
def telePiecesUptoRow : OpenClaim := { program := "ytabkmjimdpdfaaa", sum := "eaa6e7e310b0c8b8b0acec599c4dd39faf0b2f185ee1457d4df1173e0dca4a28", func := "stillage/stillagelaw02.TelePieces", spec := "telePieces", apart := false, narrowed := true }
def TelePiecesUptoSaid : Prop := telePiecesUptoRow.holds Try.pinned (OpenSpec.upto telePiecesSpec)

/-- 'stillagelaw02.TeleOwn', WHERE WHAT IT READS IS OF BULK AT MOST 1048576: true; the input reads as it did. -/
def teleOwnUptoRow : OpenClaim := { program := "ytabkmjimdpdfaaa", sum := "eaa6e7e310b0c8b8b0acec599c4dd39faf0b2f185ee1457d4df1173e0dca4a28", func := "stillage/stillagelaw02.TeleOwn", spec := "teleOwn", apart := false, narrowed := true }
def TeleOwnUptoSaid : Prop := teleOwnUptoRow.holds Try.pinned (OpenSpec.upto teleOwnSpec)

/-- 'stillagelaw02.TeleNoise', WHERE WHAT IT READS IS OF BULK AT MOST 1048576: true; the input reads as it did. -/
def teleNoiseUptoRow : OpenClaim := { program := "ytabkmjimdpdfaaa", sum := "eaa6e7e310b0c8b8b0acec599c4dd39faf0b2f185ee1457d4df1173e0dca4a28", func := "stillage/stillagelaw02.TeleNoise", spec := "teleNoise", apart := false, narrowed := true }
def TeleNoiseUptoSaid : Prop := teleNoiseUptoRow.holds Try.pinned (OpenSpec.upto teleNoiseSpec)

end Rows
end Go.Proofs.Ytabkmjimdpdfaaa
