/- stillagelaw03.TurnAdds is true at every number and every list of steps: no condition. -/
import Derived.OpenShut
import Derived.Test.YthlpachpogbonaaPTurnAddsx1
set_option linter.unusedVariables false
set_option linter.unusedSimpArgs false
namespace Go.Proofs.Ythlpachpogbonaa.Pure
open Go.RowKit Go.Proofs.Ythlpachpogbonaa.PTurnAdds Go.Proofs.YthlpachpogbonaaW.PrintWords Go.Proofs.YthlpachpogbonaaW.PrintLast

theorem w16 (n : Int) : IntKind.u16.wrap n = n % 65536 := by simp [IntKind.wrap, IntKind.bits, IntKind.signed]
theorem wi16 (n : Int) : IntKind.i16.wrap n = (n + 32768) % 65536 - 32768 := by simp [IntKind.wrap, IntKind.bits, IntKind.signed]; omega
theorem wu64 (n : Int) : IntKind.u64.wrap n = n % 18446744073709551616 := by simp [IntKind.wrap, IntKind.bits, IntKind.signed]
theorem w64 {n : Int} (h1 : -9223372036854775808 ≤ n) (h2 : n ≤ 9223372036854775807) : wrap64 n = n := by unfold wrap64; omega

theorem awake1 : stillagelaw03_awake.f 1 = some true := by decide +kernel
theorem awake (k : Nat) (h : 1 ≤ k) : stillagelaw03_awake.f k = some true := at_rounds (fun k => stillagelaw03_awake.mono k) h awake1

theorem dist (a b : Int) : turn_Dist.f a b = some (((b - a) % 65536 + 32768) % 65536 - 32768) := by
  unfold turn_Dist.f
  rw [w16, wi16, w64 (by omega) (by omega)]

theorem step (x : Int) (h1 : -32768 ≤ x) (h2 : x ≤ 32767) : ∃ t, Int.tmod (wrap64 x) 30 = t ∧ -30 < t ∧ t < 30 := by
  rw [w64 (by omega) (by omega)]
  refine ⟨_, rfl, ?_, ?_⟩
  · exact Int.lt_tmod_of_pos x (by omega)
  · exact Int.tmod_lt_of_pos x (by omega)
theorem rd_wf (l : List Int) (hl : ∀ x ∈ l, (Lit.int .i16 x).wf = true) (i : Int) : -32768 ≤ rd l i ∧ rd l i ≤ 32767 := by
  unfold rd
  by_cases h : i.toNat < l.length
  · have : l.getD i.toNat 0 ∈ l := by rw [List.getD_eq_getElem?_getD, List.getElem?_eq_getElem h]; exact List.getElem_mem h
    exact bounds_i16 (hl _ this)
  · rw [List.getD_eq_getElem?_getD, List.getElem?_eq_none (by omega)]; simp
theorem loop (a0 : Int) (l : List Int) (ha : 0 ≤ a0 ∧ a0 ≤ 65535) (hl : ∀ x ∈ l, (Lit.int .i16 x).wf = true) (hn : l.length ≤ 1000) (d : Nat) :
    ∀ (k : Nat) (s x i : Int), 0 ≤ i → i ≤ l.length → (l.length : Int) - i = d → d < k → -(30 * i) ≤ s → s ≤ 30 * i → x = (a0 + s) % 65536 → stillagelaw03_TurnAdds.l0 k a0 l s x l.length i = some true := by
  induction d with
  | zero =>
    intro k s x i h0 h1 hd hk s0 s1 hx
    obtain ⟨k, rfl⟩ : ∃ m, k = m + 1 := ⟨k - 1, by omega⟩
    simp only [stillagelaw03_TurnAdds.l0]
    rw [if_neg (by omega), dist]
    simp only [Option.bind_some]
    congr 1
    rw [beq_iff_eq]
    omega
  | succ d ih =>
    intro k s x i h0 h1 hd hk s0 s1 hx
    obtain ⟨k, rfl⟩ : ∃ m, k = m + 1 := ⟨k - 1, by omega⟩
    simp only [stillagelaw03_TurnAdds.l0]
    have hr := rd_wf l hl i
    obtain ⟨t, ht, t0, t1⟩ := step (rd l i) hr.1 hr.2
    rw [if_pos (by omega), if_pos h0, if_pos (by omega), ht, w64 (n := x) (by omega) (by omega), w64 (n := x + t) (by omega) (by omega), w64 (n := x + t + 65536) (by omega) (by omega), Int.tmod_eq_emod_of_nonneg (a := x + t + 65536) (by omega), w16, dist]
    simp only [Option.bind_some]
    rw [if_pos (by omega), w64 (n := s + t) (by omega) (by omega), w64 (n := i + 1) (by omega) (by omega)]
    exact ih k _ _ _ (by omega) (by omega) (by omega) (by omega) (by omega) (by omega) (by omega)
theorem TurnAdds : stillagelaw03_TurnAdds.Pure := by
  intro a0 l h0 hm hs hl
  have b0 := bounds_u16 h0
  by_cases hn : l.length ≤ 1000
  · refine ⟨l.length + 2, ?_⟩
    unfold stillagelaw03_TurnAdds.f
    rw [awake _ (by omega)]
    simp only [Option.bind_some, if_true]
    rw [decide_eq_false (by omega)]
    simp only [stillagelaw03_TurnAdds.j0, Bool.false_eq_true, if_false]
    exact loop a0 l b0 hl hn l.length _ _ _ _ (by omega) (by omega) (by omega) (by omega) (by omega) (by omega) (by omega)
  · refine ⟨2, ?_⟩
    unfold stillagelaw03_TurnAdds.f
    rw [awake _ (by omega)]
    simp only [Option.bind_some, if_true]
    rw [decide_eq_true (by omega)]
    simp only [stillagelaw03_TurnAdds.j0, if_true, awake1, Option.bind_some]

end Go.Proofs.Ythlpachpogbonaa.Pure
