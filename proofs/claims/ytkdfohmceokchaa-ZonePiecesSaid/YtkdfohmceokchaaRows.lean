/-
  No cell of these rows narrows 'for every input' (looked for: loops, veiled, ifaces, maps, wideKeys, modest, calm, conditions, laid).
  DERIVED. THE GIVEN ROWS OF THIS SEAT. 6 by the template 'for every input the law returns true; each argument reads behind the call as it read before'; 0 by the template 'total and deterministic' (their statements: YtkdfohmceokchaaTotals.lean).
  GIVEN WITH THE SEED: the statements are not yours to turn. If you find one false, say at which input.
  Laid BY PROGRAM, IN A SANDBOX (cutbox-rows.mjs): the forced cells as the released guide's own fill.sh prints them over the translation d4dd8c99f09f0f28… (all of the seat's roots in one cut). By AI agents, Wed Nov 11 2026. No macro, syntax, notation, axiom, sorry.
-/
import Derived.Test.YtkdfohmceokchaaChecked
import GoSem.Claim
import GoSem.ClaimJoined
import GoSem.ClaimMapViews
import Derived.JoinedTies
import Derived.KernelRfl
namespace Go.Proofs.Ytkdfohmceokchaa
/- THE CELL 'sum', in the pinned program and in every row, IS THE sha256 OF THE DUMP (.gsa) THAT YtkdfohmceokchaaProg.lean LOADS. Nothing in Lean hashes anything: it is a label: what it is worth is what the hold of that sum in a sandbox is worth. -/
noncomputable def Try.pinned : Pinned := { name := "ytkdfohmceokchaa", sum := "d4dd8c99f09f0f285aac90904f332b7a57105119d31f116c893ef5e2d57e4f7c", checked := Try.checked }
namespace Rows
def none {H : Type} : Left H := { results := [], args := [] }

/-- 'stillagelaw09.ZonePieces': WHATEVER THE INPUT: true; the input reads as it did. -/
def zonePiecesSpec : ChangeSpec := { name := "zonePieces", fn := fun _ => fun
  | [d1, d2] => { results := [.lit (.bool true)], args := [d1, d2] }
  | _ => none }
def zonePiecesRow : OpenClaim := { program := "ytkdfohmceokchaa", sum := "d4dd8c99f09f0f285aac90904f332b7a57105119d31f116c893ef5e2d57e4f7c", func := "stillage/stillagelaw09.ZonePieces", spec := "zonePieces", unfollowed := true, recurses := true, apart := false }
def ZonePiecesSaid : Prop := zonePiecesRow.holds Try.pinned (OpenSpec.ofChange zonePiecesSpec)

/-- ITS FALSE NEIGHBOUR: 'it returns false'. Refute it at one input. -/
def zonePiecesWrong : ChangeSpec := { name := "zonePieces", fn := fun _ => fun
  | [d1, d2] => { results := [.lit (.bool false)], args := [d1, d2] }
  | _ => none }
def ZonePiecesWrongFalsely : Prop := zonePiecesRow.holds Try.pinned (OpenSpec.ofChange zonePiecesWrong)

/-- 'stillagelaw09.ZoneJoined': WHATEVER THE INPUT: true; the input reads as it did. -/
def zoneJoinedSpec : ChangeSpec := { name := "zoneJoined", fn := fun _ => fun
  | [d1, d2, d3] => { results := [.lit (.bool true)], args := [d1, d2, d3] }
  | _ => none }
def zoneJoinedRow : OpenClaim := { program := "ytkdfohmceokchaa", sum := "d4dd8c99f09f0f285aac90904f332b7a57105119d31f116c893ef5e2d57e4f7c", func := "stillage/stillagelaw09.ZoneJoined", spec := "zoneJoined", unfollowed := true, recurses := true, apart := false }
def ZoneJoinedSaid : Prop := zoneJoinedRow.holds Try.pinned (OpenSpec.ofChange zoneJoinedSpec)

/-- ITS FALSE NEIGHBOUR: 'it returns false'. Refute it at one input. -/
def zoneJoinedWrong : ChangeSpec := { name := "zoneJoined", fn := fun _ => fun
  | [d1, d2, d3] => { results := [.lit (.bool false)], args := [d1, d2, d3] }
  | _ => none }
def ZoneJoinedWrongFalsely : Prop := zoneJoinedRow.holds Try.pinned (OpenSpec.ofChange zoneJoinedWrong)

/-- 'stillagelaw09.ZoneOrders': WHATEVER THE INPUT: true; the input reads as it did. -/
def zoneOrdersSpec : ChangeSpec := { name := "zoneOrders", fn := fun _ => fun
  | [d] => { results := [.lit (.bool true)], args := [d] }
  | _ => none }
def zoneOrdersRow : OpenClaim := { program := "ytkdfohmceokchaa", sum := "d4dd8c99f09f0f285aac90904f332b7a57105119d31f116c893ef5e2d57e4f7c", func := "stillage/stillagelaw09.ZoneOrders", spec := "zoneOrders", unfollowed := true, recurses := true, apart := false }
def ZoneOrdersSaid : Prop := zoneOrdersRow.holds Try.pinned (OpenSpec.ofChange zoneOrdersSpec)

/-- ITS FALSE NEIGHBOUR: 'it returns false'. Refute it at one input. -/
def zoneOrdersWrong : ChangeSpec := { name := "zoneOrders", fn := fun _ => fun
  | [d] => { results := [.lit (.bool false)], args := [d] }
  | _ => none }
def ZoneOrdersWrongFalsely : Prop := zoneOrdersRow.holds Try.pinned (OpenSpec.ofChange zoneOrdersWrong)

/-- 'stillagelaw09.ZoneStuck': WHATEVER THE INPUT: true; the input reads as it did. -/
def zoneStuckSpec : ChangeSpec := { name := "zoneStuck", fn := fun _ => fun
  | [d] => { results := [.lit (.bool true)], args := [d] }
  | _ => none }
def zoneStuckRow : OpenClaim := { program := "ytkdfohmceokchaa", sum := "d4dd8c99f09f0f285aac90904f332b7a57105119d31f116c893ef5e2d57e4f7c", func := "stillage/stillagelaw09.ZoneStuck", spec := "zoneStuck", unfollowed := true, recurses := true, apart := false }
def ZoneStuckSaid : Prop := zoneStuckRow.holds Try.pinned (OpenSpec.ofChange zoneStuckSpec)

/-- ITS FALSE NEIGHBOUR: 'it returns false'. Refute it at one input. -/
def zoneStuckWrong : ChangeSpec := { name := "zoneStuck", fn := fun _ => fun
  | [d] => { results := [.lit (.bool false)], args := [d] }
  | _ => none }
def ZoneStuckWrongFalsely : Prop := zoneStuckRow.holds Try.pinned (OpenSpec.ofChange zoneStuckWrong)

/-- 'stillagelaw09.ZoneSafe': WHATEVER THE INPUT: true; the input reads as it did. -/
def zoneSafeSpec : ChangeSpec := { name := "zoneSafe", fn := fun _ => fun
  | [d1, d2] => { results := [.lit (.bool true)], args := [d1, d2] }
  | _ => none }
def zoneSafeRow : OpenClaim := { program := "ytkdfohmceokchaa", sum := "d4dd8c99f09f0f285aac90904f332b7a57105119d31f116c893ef5e2d57e4f7c", func := "stillage/stillagelaw09.ZoneSafe", spec := "zoneSafe", unfollowed := true, recurses := true, apart := false }
def ZoneSafeSaid : Prop := zoneSafeRow.holds Try.pinned (OpenSpec.ofChange zoneSafeSpec)

/-- ITS FALSE NEIGHBOUR: 'it returns false'. Refute it at one input. -/
def zoneSafeWrong : ChangeSpec := { name := "zoneSafe", fn := fun _ => fun
  | [d1, d2] => { results := [.lit (.bool false)], args := [d1, d2] }
  | _ => none }
def ZoneSafeWrongFalsely : Prop := zoneSafeRow.holds Try.pinned (OpenSpec.ofChange zoneSafeWrong)

/-- 'stillagelaw09.ZoneRings': WHATEVER THE INPUT: true; the input reads as it did. -/
def zoneRingsSpec : ChangeSpec := { name := "zoneRings", fn := fun _ => fun
  | [d1, d2, d3] => { results := [.lit (.bool true)], args := [d1, d2, d3] }
  | _ => none }
def zoneRingsRow : OpenClaim := { program := "ytkdfohmceokchaa", sum := "d4dd8c99f09f0f285aac90904f332b7a57105119d31f116c893ef5e2d57e4f7c", func := "stillage/stillagelaw09.ZoneRings", spec := "zoneRings", unfollowed := true, recurses := true, apart := false }
def ZoneRingsSaid : Prop := zoneRingsRow.holds Try.pinned (OpenSpec.ofChange zoneRingsSpec)

/-- ITS FALSE NEIGHBOUR: 'it returns false'. Refute it at one input. -/
def zoneRingsWrong : ChangeSpec := { name := "zoneRings", fn := fun _ => fun
  | [d1, d2, d3] => { results := [.lit (.bool false)], args := [d1, d2, d3] }
  | _ => none }
def ZoneRingsWrongFalsely : Prop := zoneRingsRow.holds Try.pinned (OpenSpec.ofChange zoneRingsWrong)

/- THE SECOND FORM. 'bulk': how many values and letters a reading holds, each counted each time it is reached (what is shared counts as often as it is met; a slice's spare places count too). A statement '..UptoSaid' is the law's where the arguments, and the package variables that the reading takes, are together of bulk at most 1048576: NARROWER than '..Said'. Prove '..Said' where nothing that the law and all that it calls make is longer than what came in: it says more and counts as full. Else prove '..UptoSaid'. A law counts once. -/
mutual
def uptoBulk {H : Type} : DataW H → Nat
  | .lit (.string bytes) => bytes.length + 1
  | .lit _ => 1
  | .nil => 1
  | .ptr d => uptoBulk d + 1
  | .slice elems spare => uptoBulkAll elems + uptoBulkAll spare + 1
  | .agg parts => uptoBulkAll parts + 1
  | .iface _ d => uptoBulk d + 1
  | .map entries => uptoBulkEntries entries + 1
  | .held _ => 1
def uptoBulkAll {H : Type} : List (DataW H) → Nat
  | [] => 0
  | d :: r => uptoBulk d + uptoBulkAll r
def uptoBulkEntries {H : Type} : List (Lit × DataW H) → Nat
  | [] => 0
  | x :: r => uptoBulkEntry x + uptoBulkEntries r
def uptoBulkEntry {H : Type} : Lit × DataW H → Nat
  | (.string bytes, d) => bytes.length + uptoBulk d + 1
  | (_, d) => uptoBulk d + 1
 end
def uptoSmall : (H : Type) → List (DataW H) → Bool := fun _ ds => decide (uptoBulkAll ds ≤ 1048576)
def OpenSpec.upto (s : _root_.Go.ChangeSpec) : _root_.Go.OpenSpec := { _root_.Go.OpenSpec.ofChange s with cond := some uptoSmall }

/-- 'stillagelaw09.ZonePieces', WHERE WHAT IT READS IS OF BULK AT MOST 1048576: true; the input reads as it did. -/
def zonePiecesUptoRow : OpenClaim := { program := "ytkdfohmceokchaa", sum := "d4dd8c99f09f0f285aac90904f332b7a57105119d31f116c893ef5e2d57e4f7c", func := "stillage/stillagelaw09.ZonePieces", spec := "zonePieces", unfollowed := true, recurses := true, apart := false, narrowed := true }
def ZonePiecesUptoSaid : Prop := zonePiecesUptoRow.holds Try.pinned (OpenSpec.upto zonePiecesSpec)

/-- 'stillagelaw09.ZoneJoined', WHERE WHAT IT READS IS OF BULK AT MOST 1048576: true; the input reads as it did. -/
def zoneJoinedUptoRow : OpenClaim := { program := "ytkdfohmceokchaa", sum := "d4dd8c99f09f0f285aac90904f332b7a57105119d31f116c893ef5e2d57e4f7c", func := "stillage/stillagelaw09.ZoneJoined", spec := "zoneJoined", unfollowed := true, recurses := true, apart := false, narrowed := true }
def ZoneJoinedUptoSaid : Prop := zoneJoinedUptoRow.holds Try.pinned (OpenSpec.upto zoneJoinedSpec)

/-- 'stillagelaw09.ZoneOrders', WHERE WHAT IT READS IS OF BULK AT MOST 1048576: true; the input reads as it did. -/
def zoneOrdersUptoRow : OpenClaim := { program := "ytkdfohmceokchaa", sum := "d4dd8c99f09f0f285aac90904f332b7a57105119d31f116c893ef5e2d57e4f7c", func := "stillage/stillagelaw09.ZoneOrders", spec := "zoneOrders", unfollowed := true, recurses := true, apart := false, narrowed := true }
def ZoneOrdersUptoSaid : Prop := zoneOrdersUptoRow.holds Try.pinned (OpenSpec.upto zoneOrdersSpec)

/-- 'stillagelaw09.ZoneStuck', WHERE WHAT IT READS IS OF BULK AT MOST 1048576: true; the input reads as it did. -/
def zoneStuckUptoRow : OpenClaim := { program := "ytkdfohmceokchaa", sum := "d4dd8c99f09f0f285aac90904f332b7a57105119d31f116c893ef5e2d57e4f7c", func := "stillage/stillagelaw09.ZoneStuck", spec := "zoneStuck", unfollowed := true, recurses := true, apart := false, narrowed := true }
def ZoneStuckUptoSaid : Prop := zoneStuckUptoRow.holds Try.pinned (OpenSpec.upto zoneStuckSpec)

/-- 'stillagelaw09.ZoneSafe', WHERE WHAT IT READS IS OF BULK AT MOST 1048576: true; the input reads as it did. -/
def zoneSafeUptoRow : OpenClaim := { program := "ytkdfohmceokchaa", sum := "d4dd8c99f09f0f285aac90904f332b7a57105119d31f116c893ef5e2d57e4f7c", func := "stillage/stillagelaw09.ZoneSafe", spec := "zoneSafe", unfollowed := true, recurses := true, apart := false, narrowed := true }
def ZoneSafeUptoSaid : Prop := zoneSafeUptoRow.holds Try.pinned (OpenSpec.upto zoneSafeSpec)

/-- 'stillagelaw09.ZoneRings', WHERE WHAT IT READS IS OF BULK AT MOST 1048576: true; the input reads as it did. -/
def zoneRingsUptoRow : OpenClaim := { program := "ytkdfohmceokchaa", sum := "d4dd8c99f09f0f285aac90904f332b7a57105119d31f116c893ef5e2d57e4f7c", func := "stillage/stillagelaw09.ZoneRings", spec := "zoneRings", unfollowed := true, recurses := true, apart := false, narrowed := true }
def ZoneRingsUptoSaid : Prop := zoneRingsUptoRow.holds Try.pinned (OpenSpec.upto zoneRingsSpec)

end Rows
end Go.Proofs.Ytkdfohmceokchaa
