/- stillagelaw03.TurnLikely is true at every number and every 16 bits: no condition. -/
import Derived.OpenShut
import Derived.Test.YthlpachpogbonaaPTurnLikelyx1
set_option linter.unusedVariables false
set_option linter.unusedSimpArgs false
namespace Go.Proofs.Ythlpachpogbonaa.Pure
open Go.RowKit Go.Proofs.Ythlpachpogbonaa.PTurnLikely Go.Proofs.YthlpachpogbonaaW.PrintWords Go.Proofs.YthlpachpogbonaaW.PrintLast

theorem w16 (n : Int) : IntKind.u16.wrap n = n % 65536 := by simp [IntKind.wrap, IntKind.bits, IntKind.signed]
theorem wi16 (n : Int) : IntKind.i16.wrap n = (n + 32768) % 65536 - 32768 := by simp [IntKind.wrap, IntKind.bits, IntKind.signed]; omega
theorem wu64 (n : Int) : IntKind.u64.wrap n = n % 18446744073709551616 := by simp [IntKind.wrap, IntKind.bits, IntKind.signed]
theorem w64 {n : Int} (h1 : -9223372036854775808 ≤ n) (h2 : n ≤ 9223372036854775807) : wrap64 n = n := by unfold wrap64; omega

theorem awake1 : stillagelaw03_awake.f 1 = some true := by decide +kernel
theorem awake (k : Nat) (h : 1 ≤ k) : stillagelaw03_awake.f k = some true := at_rounds (fun k => stillagelaw03_awake.mono k) h awake1

theorem dist (a b : Int) : turn_Dist.f a b = some (((b - a) % 65536 + 32768) % 65536 - 32768) := by
  unfold turn_Dist.f
  rw [w16, wi16, w64 (by omega) (by omega)]

theorem lik (a s : Int) (a0 : 0 ≤ a) (a1 : a ≤ 4611686018427387904) (s0 : 0 ≤ s) (s1 : s ≤ 65535) : turn_Likely.f 1 a s = some (if a + (((s - a) % 65536 + 32768) % 65536 - 32768) < 0 then a + (((s - a) % 65536 + 32768) % 65536 - 32768) + 65536 else a + (((s - a) % 65536 + 32768) % 65536 - 32768), 0) := by
  unfold turn_Likely.f
  rw [if_neg (by omega), decide_eq_false (by omega)]
  simp only [turn_Likely.j0, Bool.false_eq_true, if_false]
  rw [dist, w16]
  simp only [Option.bind_some]
  rw [show (s - a % 65536) % 65536 = (s - a) % 65536 by omega, w64 (n := a + _) (by omega) (by omega), w64 (by omega) (by omega)]
  split <;> rfl

theorem far (a b : Int) (a0 : 0 ≤ a) (a1 : a ≤ 4611686018427600000) (b0 : 0 ≤ b) (b1 : b ≤ 4611686018427600000) : stillageref03_far.f a b = some (if a > b then a - b else b - a) := by
  unfold stillageref03_far.f
  rw [w64 (n := a - b) (by omega) (by omega), w64 (n := b - a) (by omega) (by omega)]
  split <;> rfl
theorem tdiv_pos (a : Int) (h : 0 ≤ a) : Int.tdiv a 65536 = a / 65536 := Int.tdiv_eq_ediv_of_nonneg h
def ab (a b : Int) : Int := if a > b then a - b else b - a
def better (a best k : Int) : Int := if k < 0 then best else if best < 0 then k else if ab k a < ab best a then k else best
theorem better_le (a best k : Int) (h1 : best ≤ 4611686018427600000) (h2 : k ≤ 4611686018427600000) : better a best k ≤ 4611686018427600000 := by
  unfold better
  repeat' split
  all_goals omega
theorem round (a best base j : Int) (a0 : 0 ≤ a) (a1 : a ≤ 4611686018427600000) (b1 : best ≤ 4611686018427600000) (b2 : -9223372036854775808 ≤ best) (c0 : 0 ≤ base) (c1 : base ≤ 4611686018427500000) (j0 : -1 ≤ j) (j1 : j ≤ 1) (k : Nat) : stillageref03_Likely.l0 (k + 1) a best base j = stillageref03_Likely.l0 k a (better a best (base + j * 65536)) base (j + 1) := by
  simp only [stillageref03_Likely.l0]
  rw [if_pos j1, w64 (n := j * 65536) (by omega) (by omega), w64 (n := base + j * 65536) (by omega) (by omega), w64 (n := j + 1) (by omega) (by omega)]
  unfold better
  by_cases h : base + j * 65536 < 0
  · rw [if_neg (by omega), if_pos h]
  · rw [if_pos (by omega), if_neg h]
    by_cases g : best < 0
    · rw [if_pos g, if_pos g]
    · rw [if_neg g, if_neg g, far _ _ (by omega) (by omega) (by omega) (by omega), far _ _ (by omega) (by omega) (by omega) (by omega)]
      simp only [Option.bind_some]
      unfold ab
      generalize (if base + j * 65536 > a then base + j * 65536 - a else a - (base + j * 65536)) = x
      generalize (if best > a then best - a else a - best) = y
      by_cases hxy : x < y
      · rw [if_pos hxy, if_pos hxy]
      · rw [if_neg hxy, if_neg hxy]
theorem better_lo (a best k : Int) (h1 : -1 ≤ best) : -1 ≤ better a best k := by
  unfold better
  repeat' split
  all_goals omega
theorem rlik (a s : Int) (a0 : 0 ≤ a) (a1 : a ≤ 4611686018427387904) (s0 : 0 ≤ s) (s1 : s ≤ 65535) : ∃ k, ∀ m, k ≤ m → stillageref03_Likely.f m a s = some (if a + (((s - a) % 65536 + 32768) % 65536 - 32768) < 0 then a + (((s - a) % 65536 + 32768) % 65536 - 32768) + 65536 else a + (((s - a) % 65536 + 32768) % 65536 - 32768), 0) := by
  refine ⟨5, fun m hm => ?_⟩
  obtain ⟨k, rfl⟩ : ∃ j, m = j + 5 := ⟨m - 5, by omega⟩
  unfold stillageref03_Likely.f
  rw [if_neg (by omega), decide_eq_false (by omega)]
  simp only [stillageref03_Likely.j0, Bool.false_eq_true, if_false]
  rw [tdiv_pos a a0, w64 (n := a / 65536) (by omega) (by omega), w64 (n := a / 65536 * 65536) (by omega) (by omega), w64 (n := s) (by omega) (by omega), w64 (n := a / 65536 * 65536 + s) (by omega) (by omega)]
  obtain ⟨b, hb⟩ : ∃ b, b = a / 65536 * 65536 + s := ⟨_, rfl⟩
  rw [← hb, round a (-1) b (-1) (by omega) (by omega) (by omega) (by omega) (by omega) (by omega) (by omega) (by omega)]
  have g1 := better_le a (-1) (b + -1 * 65536) (by omega) (by omega)
  have g2 := better_lo a (-1) (b + -1 * 65536) (by omega)
  rw [show (-1 : Int) + 1 = 0 by omega, round a _ b 0 (by omega) (by omega) g1 (by omega) (by omega) (by omega) (by omega) (by omega)]
  have g3 := better_le a _ (b + 0 * 65536) g1 (by omega)
  have g4 := better_lo a _ (b + 0 * 65536) g2
  rw [show (0 : Int) + 1 = 1 by omega, round a _ b 1 (by omega) (by omega) g3 (by omega) (by omega) (by omega) (by omega) (by omega)]
  simp only [stillageref03_Likely.l0]
  rw [if_neg (by omega)]
  refine congrArg (fun x : Int => some (x, (0 : Int))) ?_
  clear g1 g2 g3 g4
  have hd : ((s - a) % 65536 + 32768) % 65536 - 32768 = ((b - a) % 65536 + 32768) % 65536 - 32768 := by omega
  rw [hd]
  have h1 : b - a < 65536 := by omega
  have h2 : -65536 < b - a := by omega
  have h3 : 0 ≤ b := by omega
  clear hd hb
  unfold better ab
  by_cases hb : b + -1 * 65536 < 0
  · simp only [if_pos hb]
    rw [if_neg (show ¬ (b + 0 * 65536 < 0) by omega), if_pos (show (-1 : Int) < 0 by omega), if_neg (show ¬ (b + 1 * 65536 < 0) by omega), if_neg (show ¬ (b + 0 * 65536 < 0) by omega)]
    repeat' split
    all_goals omega
  · simp only [if_neg hb]
    rw [if_neg (show ¬ (b + 0 * 65536 < 0) by omega), if_pos (show (-1 : Int) < 0 by omega), if_neg (show ¬ (b + -1 * 65536 < 0) by omega), if_neg (show ¬ (b + 1 * 65536 < 0) by omega)]
    repeat' split
    all_goals omega
theorem TurnLikely : stillagelaw03_TurnLikely.Pure := by
  intro a s h0 h1
  have b0 := bounds_i64 h0
  have b1 := bounds_u16 h1
  by_cases ho : a < 0 ∨ 4611686018427387904 < a
  · refine ⟨6, ?_⟩
    unfold stillagelaw03_TurnLikely.f
    rw [show stillagelaw03_awake.f 6 = some true from by decide +kernel]
    simp only [Option.bind_some, if_true]
    have e1 : turn_Likely.f 6 a s = some (0, 1) := by
      unfold turn_Likely.f
      split
      · simp [turn_Likely.j0]
      · rw [decide_eq_true (by omega)]; simp [turn_Likely.j0]
    have e2 : stillageref03_Likely.f 6 a s = some (0, 1) := by
      unfold stillageref03_Likely.f
      split
      · simp [stillageref03_Likely.j0]
      · rw [decide_eq_true (by omega)]; simp [stillageref03_Likely.j0]
    rw [e1, e2]
    simp
  · obtain ⟨k, hk⟩ := rlik a s (by omega) (by omega) (by omega) (by omega)
    refine ⟨k + 1, ?_⟩
    unfold stillagelaw03_TurnLikely.f
    have hl := at_rounds (fun k => turn_Likely.mono a s k) (show 1 ≤ k + 1 by omega) (lik a s (by omega) (by omega) (by omega) (by omega))
    rw [awake _ (by omega), hk (k + 1) (by omega)]
    simp only [Option.bind_some, if_true]
    rw [hl]
    simp

end Go.Proofs.Ythlpachpogbonaa.Pure
