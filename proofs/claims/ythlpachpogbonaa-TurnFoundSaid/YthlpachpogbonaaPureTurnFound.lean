/- stillagelaw03.TurnFound is true at every two numbers: no condition. -/
import Derived.OpenShut
import Derived.Test.YthlpachpogbonaaPTurnFoundx1
set_option linter.unusedVariables false
set_option linter.unusedSimpArgs false
namespace Go.Proofs.Ythlpachpogbonaa.Pure
open Go.RowKit Go.Proofs.Ythlpachpogbonaa.PTurnFound Go.Proofs.YthlpachpogbonaaW.PrintWords Go.Proofs.YthlpachpogbonaaW.PrintLast

theorem w16 (n : Int) : IntKind.u16.wrap n = n % 65536 := by simp [IntKind.wrap, IntKind.bits, IntKind.signed]
theorem wi16 (n : Int) : IntKind.i16.wrap n = (n + 32768) % 65536 - 32768 := by simp [IntKind.wrap, IntKind.bits, IntKind.signed]; omega
theorem wu64 (n : Int) : IntKind.u64.wrap n = n % 18446744073709551616 := by simp [IntKind.wrap, IntKind.bits, IntKind.signed]
theorem w64 {n : Int} (h1 : -9223372036854775808 ≤ n) (h2 : n ≤ 9223372036854775807) : wrap64 n = n := by unfold wrap64; omega

theorem awake1 : stillagelaw03_awake.f 1 = some true := by decide +kernel
theorem awake (k : Nat) (h : 1 ≤ k) : stillagelaw03_awake.f k = some true := at_rounds (fun k => stillagelaw03_awake.mono k) h awake1

theorem dist (a b : Int) : turn_Dist.f a b = some (((b - a) % 65536 + 32768) % 65536 - 32768) := by
  unfold turn_Dist.f
  rw [w16, wi16, w64 (by omega) (by omega)]

theorem lik (a s : Int) (a0 : 0 ≤ a) (a1 : a ≤ 4611686018427387904) (s0 : 0 ≤ s) (s1 : s ≤ 65535) : turn_Likely.f 1 a s = some (if a + (((s - a) % 65536 + 32768) % 65536 - 32768) < 0 then a + (((s - a) % 65536 + 32768) % 65536 - 32768) + 65536 else a + (((s - a) % 65536 + 32768) % 65536 - 32768), 0) := by
  unfold turn_Likely.f
  rw [if_neg (by omega), decide_eq_false (by omega)]
  simp only [turn_Likely.j0, Bool.false_eq_true, if_false]
  rw [dist, w16]
  simp only [Option.bind_some]
  rw [show (s - a % 65536) % 65536 = (s - a) % 65536 by omega, w64 (n := a + _) (by omega) (by omega), w64 (by omega) (by omega)]
  split <;> rfl

theorem lik' (a s v : Int) (a0 : 0 ≤ a) (a1 : a ≤ 4611686018427387904) (s0 : 0 ≤ s) (s1 : s ≤ 65535) (hv : v = a + (((s - a) % 65536 + 32768) % 65536 - 32768) ∧ 0 ≤ v ∨ v = a + (((s - a) % 65536 + 32768) % 65536 - 32768) + 65536 ∧ v < 65536) : turn_Likely.f 1 a s = some (v, 0) := by
  rw [lik a s a0 a1 s0 s1]
  congr 2
  split <;> omega
theorem and61 (a : Int) : 0 ≤ Go.bits .and .i64 a 2305843009213693951 ∧ Go.bits .and .i64 a 2305843009213693951 < 2305843009213693952 := by
  have h61 : (BitVec.ofInt 64 2305843009213693951).toNat = 2 ^ 61 - 1 := by decide
  have key : (BitVec.ofInt 64 a &&& BitVec.ofInt 64 2305843009213693951).toNat = (a % ((2 ^ 64 : Nat) : Int)).toNat % 2 ^ 61 := by
    rw [BitVec.toNat_and, BitVec.toNat_ofInt, h61, Nat.and_two_pow_sub_one_eq_mod]
  show 0 ≤ IntKind.i64.wrap ((BitVec.ofInt 64 a &&& BitVec.ofInt 64 2305843009213693951).toNat : Nat) ∧ IntKind.i64.wrap ((BitVec.ofInt 64 a &&& BitVec.ofInt 64 2305843009213693951).toNat : Nat) < 2305843009213693952
  rw [key, IntKind.wrap_i64]
  omega
theorem TurnFound : stillagelaw03_TurnFound.Pure := by
  intro a0 a1 h0 h1
  have b0 := bounds_i64 h0
  have b1 := bounds_i64 h1
  obtain ⟨n, hn⟩ : ∃ n, n = Go.bits .and .i64 a0 2305843009213693951 := ⟨_, rfl⟩
  have hb : 0 ≤ n ∧ n < 2305843009213693952 := by rw [hn]; exact and61 a0
  refine ⟨1, ?_⟩
  unfold stillagelaw03_TurnFound.f
  rw [awake1, ← hn]
  clear hn
  obtain ⟨d, hd⟩ : ∃ d, d = (a1 % 18446744073709551616) % 65535 - 32767 := ⟨_, rfl⟩
  have hdb : -32767 ≤ d ∧ d ≤ 32767 := by omega
  rw [wu64, Int.tmod_eq_emod_of_nonneg (a := a1 % 18446744073709551616) (by omega), w64 (n := a1 % 18446744073709551616 % 65535) (by omega) (by omega), w64 (n := a1 % 18446744073709551616 % 65535 - 32767) (by omega) (by omega), ← hd, w64 (n := n + d) (by omega) (by omega), Int.tmod_eq_emod_of_nonneg (a := n) (by omega), w16]
  clear hd
  simp only [Option.bind_some, if_true]
  split
  · rw [lik' n _ n (by omega) (by omega) (by omega) (by omega) (by omega), dist]
    simp only [Option.bind_some, if_true]
    refine congrArg some ?_
    rw [beq_iff_eq]
    omega
  · rw [lik' (n + d) _ n (by omega) (by omega) (by omega) (by omega) (by omega), dist, Int.tmod_eq_emod_of_nonneg (a := n + d) (by omega), w16]
    simp only [Option.bind_some, if_true]
    refine congrArg some ?_
    rw [beq_iff_eq]
    omega

end Go.Proofs.Ythlpachpogbonaa.Pure
