/- stillagelaw03.TurnDists is true at every two numbers: no condition. -/
import Derived.OpenShut
import Derived.Test.YthlpachpogbonaaPTurnDistsx1
set_option linter.unusedVariables false
set_option linter.unusedSimpArgs false
namespace Go.Proofs.Ythlpachpogbonaa.Pure
open Go.RowKit Go.Proofs.Ythlpachpogbonaa.PTurnDists Go.Proofs.YthlpachpogbonaaW.PrintWords Go.Proofs.YthlpachpogbonaaW.PrintLast

theorem w16 (n : Int) : IntKind.u16.wrap n = n % 65536 := by simp [IntKind.wrap, IntKind.bits, IntKind.signed]
theorem wi16 (n : Int) : IntKind.i16.wrap n = (n + 32768) % 65536 - 32768 := by simp [IntKind.wrap, IntKind.bits, IntKind.signed]; omega
theorem wu64 (n : Int) : IntKind.u64.wrap n = n % 18446744073709551616 := by simp [IntKind.wrap, IntKind.bits, IntKind.signed]
theorem w64 {n : Int} (h1 : -9223372036854775808 ≤ n) (h2 : n ≤ 9223372036854775807) : wrap64 n = n := by unfold wrap64; omega

theorem awake1 : stillagelaw03_awake.f 1 = some true := by decide +kernel
theorem awake (k : Nat) (h : 1 ≤ k) : stillagelaw03_awake.f k = some true := at_rounds (fun k => stillagelaw03_awake.mono k) h awake1

theorem dist (a b : Int) : turn_Dist.f a b = some (((b - a) % 65536 + 32768) % 65536 - 32768) := by
  unfold turn_Dist.f
  rw [w16, wi16, w64 (by omega) (by omega)]

theorem rdist (a b : Int) (a0 : 0 ≤ a) (a1 : a ≤ 65535) (b0 : 0 ≤ b) (b1 : b ≤ 65535) : ∀ k, 3 < k → stillageref03_Dist.f k a b = some (((b - a) % 65536 + 32768) % 65536 - 32768) := by
  intro k hk
  obtain ⟨k, rfl⟩ : ∃ m, k = m + 4 := ⟨k - 4, by omega⟩
  unfold stillageref03_Dist.f
  simp only [stillageref03_Dist.l0]
  rw [w64 (n := a) (by omega) (by omega), w64 (n := b) (by omega) (by omega), w64 (n := b - a) (by omega) (by omega)]
  rw [show wrap64 (-1 + 1) = 0 from by decide +kernel, show wrap64 (0 + 1) = 1 from by decide +kernel, show wrap64 (1 + 1) = 2 from by decide +kernel, show wrap64 (-1 * 65536) = -65536 from by decide +kernel, show wrap64 (0 * 65536) = 0 from by decide +kernel, show wrap64 (1 * 65536) = 65536 from by decide +kernel]
  simp only [Int.reduceLE, Int.reduceNeg, Int.reduceLT, if_true, if_false]
  rw [w64 (n := b - a + -65536) (by omega) (by omega), w64 (n := b - a + 0) (by omega) (by omega), w64 (n := b - a + 65536) (by omega) (by omega)]
  repeat' split
  all_goals first | (exfalso; omega) | (refine congrArg some ?_; omega)
theorem TurnDists : stillagelaw03_TurnDists.Pure := by
  intro a0 a1 h0 h1
  have b0 := bounds_u16 h0
  have b1 := bounds_u16 h1
  refine ⟨4, ?_⟩
  unfold stillagelaw03_TurnDists.f turn_Behind.f
  rw [dist, dist, rdist a0 a1 (by omega) (by omega) (by omega) (by omega) 4 (by omega), show stillagelaw03_awake.f 4 = some true from by decide +kernel]
  simp only [Option.bind_some, if_true, beq_self_eq_true]
  rw [w64 (by omega) (by omega)]
  split
  · rfl
  · rename_i h
    congr 1
    rw [beq_iff_eq]
    omega

end Go.Proofs.Ythlpachpogbonaa.Pure
