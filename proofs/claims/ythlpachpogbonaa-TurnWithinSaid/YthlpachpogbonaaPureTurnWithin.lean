/- stillagelaw03.TurnWithin is true at every s, lo and n: no condition. -/
import Derived.OpenShut
import Derived.Test.YthlpachpogbonaaPTurnWithinx1
set_option linter.unusedVariables false
set_option linter.unusedSimpArgs false
namespace Go.Proofs.Ythlpachpogbonaa.Pure
open Go.RowKit Go.Proofs.Ythlpachpogbonaa.PTurnWithin Go.Proofs.YthlpachpogbonaaW.PrintWords Go.Proofs.YthlpachpogbonaaW.PrintLast

theorem w16 (n : Int) : IntKind.u16.wrap n = n % 65536 := by simp [IntKind.wrap, IntKind.bits, IntKind.signed]
theorem wi16 (n : Int) : IntKind.i16.wrap n = (n + 32768) % 65536 - 32768 := by simp [IntKind.wrap, IntKind.bits, IntKind.signed]; omega
theorem wu64 (n : Int) : IntKind.u64.wrap n = n % 18446744073709551616 := by simp [IntKind.wrap, IntKind.bits, IntKind.signed]
theorem w64 {n : Int} (h1 : -9223372036854775808 ≤ n) (h2 : n ≤ 9223372036854775807) : wrap64 n = n := by unfold wrap64; omega

theorem awake1 : stillagelaw03_awake.f 1 = some true := by decide +kernel
theorem awake (k : Nat) (h : 1 ≤ k) : stillagelaw03_awake.f k = some true := at_rounds (fun k => stillagelaw03_awake.mono k) h awake1

theorem TurnWithin : stillagelaw03_TurnWithin.Pure := by
  intro a0 a1 a2 h0 h1 h2
  have b0 := bounds_u16 h0
  have b1 := bounds_u16 h1
  have b2 := bounds_i64 h2
  refine ⟨1, ?_⟩
  unfold stillagelaw03_TurnWithin.f
  rw [awake1]
  simp only [Option.bind_some, if_true]
  have hw : turn_Within.f a0 a1 a2 = some (decide ((a0 - a1) % 65536 < a2)) := by
    unfold turn_Within.f
    rw [w16, w64 (by omega) (by omega)]
  have hr : stillageref03_Within.f a0 a1 a2 = some (decide ((a0 - a1) % 65536 < a2)) := by
    unfold stillageref03_Within.f
    rw [w64 (n := a0) (by omega) (by omega), w64 (n := a1) (by omega) (by omega), w64 (n := a0 - a1) (by omega) (by omega), w64 (n := a0 - a1 + 65536) (by omega) (by omega)]
    split
    · rw [show (a0 - a1) % 65536 = a0 - a1 + 65536 by omega]
    · rw [show (a0 - a1) % 65536 = a0 - a1 by omega]
  rw [hw, hr]
  simp only [Option.bind_some, beq_self_eq_true, if_true]
  by_cases h : (a0 - a1) % 65536 < a2
  · rw [decide_eq_true h]
    simp only [if_true]
    repeat' split
    all_goals first | rfl | (exfalso; omega)
  · rw [decide_eq_false h]
    repeat' split
    all_goals first | rfl | (exfalso; omega)

end Go.Proofs.Ythlpachpogbonaa.Pure
