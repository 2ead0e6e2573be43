-- Written by a program of this session (wip/plain/row.py): after the pattern of the kit's print, which does not take this law's parameters.
import Derived.Test.YtkdfohmceokchaaRows
import Derived.Test.YtkdfohmceokchaaPZoneSafex4
import Derived.Test.YtkdfohmceokchaaPureZoneSafe
import Derived.Test.YtkdfohmceokchaaOpen
import Derived.WalkKit
import Derived.ProofKit
import Derived.OpenShut
import Derived.ShutString
import Derived.ChangeOld
import Derived.Below
import Derived.SizedLaws
import Derived.Test.YtkdfohmceokchaaWSized
namespace Go.Proofs.Ytkdfohmceokchaa.zoneSafe
open Go.ChangeShapes Go.WideShapes Go.ChangeAt Go.RowKit Go.Proofs.YtkdfohmceokchaaW.PrintWords Go.Proofs.YtkdfohmceokchaaOpen PZoneSafe
set_option linter.unusedVariables false
set_option linter.unusedSimpArgs false
theorem own : ownKnob Try.prog.godebug = none := by kernel_rfl
theorem laidOut : laidOutB Try.prog = true := by kernel_rfl

set_option maxRecDepth 100000 in
theorem lifted (os : Os) (started : os.Started) (H : Type) (enc : TypeId × Value → H) :
    ReturnsInHanded {} Try.checked os 7 .any (Rows.zoneSafeSpec.pre6 enc Try.prog Try.f7 Rows.zoneSafeRow.domain false) (Rows.zoneSafeSpec.post enc Try.prog Try.f7 false true false false) := by
  refine returnsInHanded_of_change_sized (C := Try.checked) own started (by kernel_rfl) Try.func7
    (ChangeSpec.witness6 (enc := enc) (C := Try.checked) false ⟨#[], #[.agg #[.int .i64 0, .int .i64 0, .int .i64 0, .int .i64 0, .int .i64 0, .int .i64 0, .int .i64 0, .int .i64 0], .slice none 0 0], []⟩ 8 (by kernel_rfl) (by kernel_rfl) (by kernel_rfl) (by kernel_rfl)) ?_
  intro W base args ds gs before hval0 hW hcnd hsz0 _
  have hsz : (DataW.weightsEach Try.prog (Try.f7.params.toList ++ Rows.zoneSafeSpec.plain.varTypes Try.prog) (ds ++ gs)).all (· ≤ reachBytes) = true := hsz0
  have hval : ∀ (j : Nat) t v, Try.f7.params[j]? = some t → args[j]? = some v → Value.okWide Try.prog W .any base t v := hval0
  have hW' := hW
  obtain ⟨p, q, hA0, hV, rfl, hfz, hnd⟩ := hW
  have hA : DataW.TrodAll enc Try.prog W 0 (fun _ => true) true Try.f7.params.toList args.toList ds p := hA0
  rw [Try.params7] at hA hval hsz
  obtain ⟨v0, vs0, d0, ds0, p0, q0, hargs, rfl, rfl, h0, r0⟩ := trodAll_cons hA
  obtain ⟨v1, vs1, d1, ds1, p1, q1, rfl, rfl, rfl, h1, r1⟩ := trodAll_cons r0
  obtain ⟨rfl, rfl, rfl⟩ := trodAll_nil r1
  obtain rfl : args = #[v0, v1] := by cases args; simp_all
  obtain ⟨rfl, rfl⟩ := trodVars_none hV
  have k0 := h0
  have lt0 : ∀ x ∈ p0, x.block < W.heap.size := by obtain ⟨m, hm⟩ := k0; exact DataW.trod_lt m _ _ _ hm
  obtain ⟨l0, hl0, hc0, w0⟩ := arg_nums Try.underlying60 Try.underlying3 (by kernel_rfl) (by kernel_rfl) h0
  obtain ⟨a0_0, a0_1, a0_2, a0_3, a0_4, a0_5, a0_6, a0_7, rfl⟩ : ∃ a0_0 a0_1 a0_2 a0_3 a0_4 a0_5 a0_6 a0_7 : Int, l0 = [a0_0, a0_1, a0_2, a0_3, a0_4, a0_5, a0_6, a0_7] := by
    match l0, hl0 with
    | [a0_0, a0_1, a0_2, a0_3, a0_4, a0_5, a0_6, a0_7], _ => exact ⟨a0_0, a0_1, a0_2, a0_3, a0_4, a0_5, a0_6, a0_7, rfl⟩
  simp only [List.map_cons, List.map_nil] at hc0
  obtain rfl := arg_arr Try.underlying60 (hval 0 60 v0 rfl rfl) hc0
  have k1 := h1
  have lt1 : ∀ x ∈ p1, x.block < W.heap.size := by obtain ⟨m, hm⟩ := k1; exact DataW.trod_lt m _ _ _ hm
  obtain ⟨A1, l1, c1, rfl, hc1, hr1, hm1, hw1⟩ := arg_slice Try.underlying26 (by kernel_rfl) (opens_int Try.underlying3) (hval 1 26 v1 rfl rfl) h1
  have y1 : l1.length * 8 ≤ 140737488351232 := Go.Proofs.YtkdfohmceokchaaW.PrintWords.sized_ints hsz (j := 1) (t := 26) rfl rfl Try.underlying26 Try.underlying3 (by kernel_rfl) (by kernel_rfl) h1
  clear hA0 hval0 hsz0 hsz
  obtain ⟨K, hK⟩ := Pure.ZoneSafe a0_0 a0_1 a0_2 a0_3 a0_4 a0_5 a0_6 a0_7 l1 w0 hm1 hw1 y1
  refine (PZoneSafe.stillagelaw09_ZoneSafe.calls K a0_0 a0_1 a0_2 a0_3 a0_4 a0_5 a0_6 a0_7 _ _ l1 true W hr1 hc1 hK).mono fun e W' ⟨he, bel⟩ => ?_
  subst he
  exact ⟨_, rfl, _, _, _, [], _, [], hW', trodAll_mk1 (shut_bool Try.underlying4 _), (trodAll_cons_mk (Below.trod laidOut (by kernel_rfl) (of_decide_eq_true (by kernel_rfl)) k0 bel lt0) (trodAll_cons_mk (Below.trod laidOut (by kernel_rfl) (of_decide_eq_true (by kernel_rfl)) k1 bel lt1) trodAll_mk0)), rfl, bel.frame _, fun h => by cases h⟩
theorem over : Rows.zoneSafeRow.holds Try.pinned (OpenSpec.ofChange Rows.zoneSafeSpec) :=
  OpenClaim.holds_of_wide 7 Try.f7 rfl rfl rfl rfl rfl rfl rfl ⟨rfl, rfl, rfl, rfl, rfl⟩ rfl rfl rfl rfl rfl (by kernel_rfl) Try.func7 (by kernel_rfl)
    (of_decide_eq_true (by kernel_rfl)) (by unfold Func.isWrapper; first | (rw [if_pos (by decide +kernel)]; kernel_rfl) | (rw [if_neg (by decide +kernel)]; exact ⟨rfl, rfl⟩))
    (fun os started H enc _ => lifted os started H enc)
theorem proved : Rows.ZoneSafeSaid := over
#print axioms proved
end Go.Proofs.Ytkdfohmceokchaa.zoneSafe
namespace Go.Proofs.Ytkdfohmceokchaa
/-- The row, under a short name, for the claim. -/
theorem zoneSafe_holds : Rows.ZoneSafeSaid := zoneSafe.proved
end Go.Proofs.Ytkdfohmceokchaa
