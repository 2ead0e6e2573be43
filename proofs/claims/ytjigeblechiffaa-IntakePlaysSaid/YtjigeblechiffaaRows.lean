/-
  No cell of these rows narrows 'for every input' (looked for: loops, veiled, ifaces, maps, wideKeys, modest, calm, conditions, laid).
  DERIVED. THE GIVEN ROWS OF THIS SEAT. 6 by the template 'for every input the law returns true; each argument reads behind the call as it read before'; 0 by the template 'total and deterministic' (their statements: YtjigeblechiffaaTotals.lean).
  GIVEN WITH THE SEED: the statements are not yours to turn. If you find one false, say at which input.
  Laid BY PROGRAM, IN A SANDBOX (cutbox-rows.mjs): the forced cells as the released guide's own fill.sh prints them over the translation 9c34e6ff86e1b204… (all of the seat's roots in one cut). By AI agents, Wed Nov 11 2026. No macro, syntax, notation, axiom, sorry.
-/
import Derived.Test.YtjigeblechiffaaChecked
import GoSem.Claim
import GoSem.ClaimJoined
import GoSem.ClaimMapViews
import Derived.JoinedTies
import Derived.KernelRfl
namespace Go.Proofs.Ytjigeblechiffaa
/- THE CELL 'sum', in the pinned program and in every row, IS THE sha256 OF THE DUMP (.gsa) THAT YtjigeblechiffaaProg.lean LOADS. Nothing in Lean hashes anything: it is a label: what it is worth is what the hold of that sum in a sandbox is worth. -/
noncomputable def Try.pinned : Pinned := { name := "ytjigeblechiffaa", sum := "9c34e6ff86e1b2040e916b5cd64b38b08a79a69b6adec0b25bb455f08da4c581", checked := Try.checked }
namespace Rows
def none {H : Type} : Left H := { results := [], args := [] }

/-- 'stillagelaw04.IntakeOnce': WHATEVER THE INPUT: true; the input reads as it did. -/
def intakeOnceSpec : ChangeSpec := { name := "intakeOnce", fn := fun _ => fun
  | [d1, d2, d3] => { results := [.lit (.bool true)], args := [d1, d2, d3] }
  | _ => none }
def intakeOnceRow : OpenClaim := { program := "ytjigeblechiffaa", sum := "9c34e6ff86e1b2040e916b5cd64b38b08a79a69b6adec0b25bb455f08da4c581", func := "stillage/stillagelaw04.IntakeOnce", spec := "intakeOnce", apart := false }
def IntakeOnceSaid : Prop := intakeOnceRow.holds Try.pinned (OpenSpec.ofChange intakeOnceSpec)

/-- ITS FALSE NEIGHBOUR: 'it returns false'. Refute it at one input. -/
def intakeOnceWrong : ChangeSpec := { name := "intakeOnce", fn := fun _ => fun
  | [d1, d2, d3] => { results := [.lit (.bool false)], args := [d1, d2, d3] }
  | _ => none }
def IntakeOnceWrongFalsely : Prop := intakeOnceRow.holds Try.pinned (OpenSpec.ofChange intakeOnceWrong)

/-- 'stillagelaw04.IntakeFills': WHATEVER THE INPUT: true; the input reads as it did. -/
def intakeFillsSpec : ChangeSpec := { name := "intakeFills", fn := fun _ => fun
  | [d1, d2] => { results := [.lit (.bool true)], args := [d1, d2] }
  | _ => none }
def intakeFillsRow : OpenClaim := { program := "ytjigeblechiffaa", sum := "9c34e6ff86e1b2040e916b5cd64b38b08a79a69b6adec0b25bb455f08da4c581", func := "stillage/stillagelaw04.IntakeFills", spec := "intakeFills", apart := false }
def IntakeFillsSaid : Prop := intakeFillsRow.holds Try.pinned (OpenSpec.ofChange intakeFillsSpec)

/-- ITS FALSE NEIGHBOUR: 'it returns false'. Refute it at one input. -/
def intakeFillsWrong : ChangeSpec := { name := "intakeFills", fn := fun _ => fun
  | [d1, d2] => { results := [.lit (.bool false)], args := [d1, d2] }
  | _ => none }
def IntakeFillsWrongFalsely : Prop := intakeFillsRow.holds Try.pinned (OpenSpec.ofChange intakeFillsWrong)

/-- 'stillagelaw04.IntakeFar': WHATEVER THE INPUT: true; the input reads as it did. -/
def intakeFarSpec : ChangeSpec := { name := "intakeFar", fn := fun _ => fun
  | [d1, d2, d3] => { results := [.lit (.bool true)], args := [d1, d2, d3] }
  | _ => none }
def intakeFarRow : OpenClaim := { program := "ytjigeblechiffaa", sum := "9c34e6ff86e1b2040e916b5cd64b38b08a79a69b6adec0b25bb455f08da4c581", func := "stillage/stillagelaw04.IntakeFar", spec := "intakeFar", unfollowed := true, recurses := true, apart := false }
def IntakeFarSaid : Prop := intakeFarRow.holds Try.pinned (OpenSpec.ofChange intakeFarSpec)

/-- ITS FALSE NEIGHBOUR: 'it returns false'. Refute it at one input. -/
def intakeFarWrong : ChangeSpec := { name := "intakeFar", fn := fun _ => fun
  | [d1, d2, d3] => { results := [.lit (.bool false)], args := [d1, d2, d3] }
  | _ => none }
def IntakeFarWrongFalsely : Prop := intakeFarRow.holds Try.pinned (OpenSpec.ofChange intakeFarWrong)

/-- 'stillagelaw04.IntakePlays': WHATEVER THE INPUT: true; the input reads as it did. -/
def intakePlaysSpec : ChangeSpec := { name := "intakePlays", fn := fun _ => fun
  | [d1, d2, d3] => { results := [.lit (.bool true)], args := [d1, d2, d3] }
  | _ => none }
def intakePlaysRow : OpenClaim := { program := "ytjigeblechiffaa", sum := "9c34e6ff86e1b2040e916b5cd64b38b08a79a69b6adec0b25bb455f08da4c581", func := "stillage/stillagelaw04.IntakePlays", spec := "intakePlays", unfollowed := true, recurses := true, apart := false }
def IntakePlaysSaid : Prop := intakePlaysRow.holds Try.pinned (OpenSpec.ofChange intakePlaysSpec)

/-- ITS FALSE NEIGHBOUR: 'it returns false'. Refute it at one input. -/
def intakePlaysWrong : ChangeSpec := { name := "intakePlays", fn := fun _ => fun
  | [d1, d2, d3] => { results := [.lit (.bool false)], args := [d1, d2, d3] }
  | _ => none }
def IntakePlaysWrongFalsely : Prop := intakePlaysRow.holds Try.pinned (OpenSpec.ofChange intakePlaysWrong)

/-- 'stillagelaw04.IntakeOwn': WHATEVER THE INPUT: true; the input reads as it did. -/
def intakeOwnSpec : ChangeSpec := { name := "intakeOwn", fn := fun _ => fun
  | [d1, d2] => { results := [.lit (.bool true)], args := [d1, d2] }
  | _ => none }
def intakeOwnRow : OpenClaim := { program := "ytjigeblechiffaa", sum := "9c34e6ff86e1b2040e916b5cd64b38b08a79a69b6adec0b25bb455f08da4c581", func := "stillage/stillagelaw04.IntakeOwn", spec := "intakeOwn", unfollowed := true, recurses := true, apart := false }
def IntakeOwnSaid : Prop := intakeOwnRow.holds Try.pinned (OpenSpec.ofChange intakeOwnSpec)

/-- ITS FALSE NEIGHBOUR: 'it returns false'. Refute it at one input. -/
def intakeOwnWrong : ChangeSpec := { name := "intakeOwn", fn := fun _ => fun
  | [d1, d2] => { results := [.lit (.bool false)], args := [d1, d2] }
  | _ => none }
def IntakeOwnWrongFalsely : Prop := intakeOwnRow.holds Try.pinned (OpenSpec.ofChange intakeOwnWrong)

/-- 'stillagelaw04.IntakeAny': WHATEVER THE INPUT: true; the input reads as it did. -/
def intakeAnySpec : ChangeSpec := { name := "intakeAny", fn := fun _ => fun
  | [d1, d2] => { results := [.lit (.bool true)], args := [d1, d2] }
  | _ => none }
def intakeAnyRow : OpenClaim := { program := "ytjigeblechiffaa", sum := "9c34e6ff86e1b2040e916b5cd64b38b08a79a69b6adec0b25bb455f08da4c581", func := "stillage/stillagelaw04.IntakeAny", spec := "intakeAny", unfollowed := true, recurses := true, apart := false }
def IntakeAnySaid : Prop := intakeAnyRow.holds Try.pinned (OpenSpec.ofChange intakeAnySpec)

/-- ITS FALSE NEIGHBOUR: 'it returns false'. Refute it at one input. -/
def intakeAnyWrong : ChangeSpec := { name := "intakeAny", fn := fun _ => fun
  | [d1, d2] => { results := [.lit (.bool false)], args := [d1, d2] }
  | _ => none }
def IntakeAnyWrongFalsely : Prop := intakeAnyRow.holds Try.pinned (OpenSpec.ofChange intakeAnyWrong)

/- THE SECOND FORM. 'bulk': how many values and letters a reading holds, each counted each time it is reached (what is shared counts as often as it is met; a slice's spare places count too). A statement '..UptoSaid' is the law's where the arguments, and the package variables that the reading takes, are together of bulk at most 1048576: NARROWER than '..Said'. Prove '..Said' where nothing that the law and all that it calls make is longer than what came in: it says more and counts as full. Else prove '..UptoSaid'. A law counts once. -/
mutual
def uptoBulk {H : Type} : DataW H → Nat
  | .lit (.string bytes) => bytes.length + 1
  | .lit _ => 1
  | .nil => 1
  | .ptr d => uptoBulk d + 1
  | .slice elems spare => uptoBulkAll elems + uptoBulkAll spare + 1
  | .agg parts => uptoBulkAll parts + 1
  | .iface _ d => uptoBulk d + 1
  | .map entries => uptoBulkEntries entries + 1
  | .held _ => 1
def uptoBulkAll {H : Type} : List (DataW H) → Nat
  | [] => 0
  | d :: r => uptoBulk d + uptoBulkAll r
def uptoBulkEntries {H : Type} : List (Lit × DataW H) → Nat
  | [] => 0
  | x :: r => uptoBulkEntry x + uptoBulkEntries r
def uptoBulkEntry {H : Type} : Lit × DataW H → Nat
  | (.string bytes, d) => bytes.length + uptoBulk d + 1
  | (_, d) => uptoBulk d + 1
 end
def uptoSmall : (H : Type) → List (DataW H) → Bool := fun _ ds => decide (uptoBulkAll ds ≤ 1048576)
def OpenSpec.upto (s : _root_.Go.ChangeSpec) : _root_.Go.OpenSpec := { _root_.Go.OpenSpec.ofChange s with cond := some uptoSmall }

/-- 'stillagelaw04.IntakeOnce', WHERE WHAT IT READS IS OF BULK AT MOST 1048576: true; the input reads as it did. -/
def intakeOnceUptoRow : OpenClaim := { program := "ytjigeblechiffaa", sum := "9c34e6ff86e1b2040e916b5cd64b38b08a79a69b6adec0b25bb455f08da4c581", func := "stillage/stillagelaw04.IntakeOnce", spec := "intakeOnce", apart := false, narrowed := true }
def IntakeOnceUptoSaid : Prop := intakeOnceUptoRow.holds Try.pinned (OpenSpec.upto intakeOnceSpec)

/-- 'stillagelaw04.IntakeFills', WHERE WHAT IT READS IS OF BULK AT MOST 1048576: true; the input reads as it did. -/
def intakeFillsUptoRow : OpenClaim := { program := "ytjigeblechiffaa", sum := "9c34e6ff86e1b2040e916b5cd64b38b08a79a69b6adec0b25bb455f08da4c581", func := "stillage/stillagelaw04.IntakeFills", spec := "intakeFills", apart := false, narrowed := true }
def IntakeFillsUptoSaid : Prop := intakeFillsUptoRow.holds Try.pinned (OpenSpec.upto intakeFillsSpec)

/-- 'stillagelaw04.IntakeFar', WHERE WHAT IT READS IS OF BULK AT MOST 1048576: true; the input reads as it did. -/
def intakeFarUptoRow : OpenClaim := { program := "ytjigeblechiffaa", sum := "9c34e6ff86e1b2040e916b5cd64b38b08a79a69b6adec0b25bb455f08da4c581", func := "stillage/stillagelaw04.IntakeFar", spec := "intakeFar", unfollowed := true, recurses := true, apart := false, narrowed := true }
def IntakeFarUptoSaid : Prop := intakeFarUptoRow.holds Try.pinned (OpenSpec.upto intakeFarSpec)

/-- 'stillagelaw04.IntakePlays', WHERE WHAT IT READS IS OF BULK AT MOST 1048576: true; the input reads as it did. -/
def intakePlaysUptoRow : OpenClaim := { program := "ytjigeblechiffaa", sum := "9c34e6ff86e1b2040e916b5cd64b38b08a79a69b6adec0b25bb455f08da4c581", func := "stillage/stillagelaw04.IntakePlays", spec := "intakePlays", unfollowed := true, recurses := true, apart := false, narrowed := true }
def IntakePlaysUptoSaid : Prop := intakePlaysUptoRow.holds Try.pinned (OpenSpec.upto intakePlaysSpec)

/-- 'stillagelaw04.IntakeOwn', WHERE WHAT IT READS IS OF BULK AT MOST 1048576: true; the input reads as it did. -/
def intakeOwnUptoRow : OpenClaim := { program := "ytjigeblechiffaa", sum := "9c34e6ff86e1b2040e916b5cd64b38b08a79a69b6adec0b25bb455f08da4c581", func := "stillage/stillagelaw04.IntakeOwn", spec := "intakeOwn", unfollowed := true, recurses := true, apart := false, narrowed := true }
def IntakeOwnUptoSaid : Prop := intakeOwnUptoRow.holds Try.pinned (OpenSpec.upto intakeOwnSpec)

/-- 'stillagelaw04.IntakeAny', WHERE WHAT IT READS IS OF BULK AT MOST 1048576: true; the input reads as it did. -/
def intakeAnyUptoRow : OpenClaim := { program := "ytjigeblechiffaa", sum := "9c34e6ff86e1b2040e916b5cd64b38b08a79a69b6adec0b25bb455f08da4c581", func := "stillage/stillagelaw04.IntakeAny", spec := "intakeAny", unfollowed := true, recurses := true, apart := false, narrowed := true }
def IntakeAnyUptoSaid : Prop := intakeAnyUptoRow.holds Try.pinned (OpenSpec.upto intakeAnySpec)

end Rows
end Go.Proofs.Ytjigeblechiffaa
