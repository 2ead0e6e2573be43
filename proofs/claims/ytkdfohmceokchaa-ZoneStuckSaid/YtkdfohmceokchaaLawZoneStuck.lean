-- Written by a program of this session (wip/plain/row.py): after the pattern of the kit's print, which does not take this law's parameters.
import Derived.Test.YtkdfohmceokchaaRows
import Derived.Test.YtkdfohmceokchaaPZoneStuckx6
import Derived.Test.YtkdfohmceokchaaPureZoneStuck
import Derived.Test.YtkdfohmceokchaaOpen
import Derived.WalkKit
import Derived.ProofKit
import Derived.OpenShut
import Derived.ShutString
import Derived.ChangeOld
import Derived.Below
import Derived.SizedLaws
import Derived.Test.YtkdfohmceokchaaWSized
namespace Go.Proofs.Ytkdfohmceokchaa.zoneStuck
open Go.ChangeShapes Go.WideShapes Go.ChangeAt Go.RowKit Go.Proofs.YtkdfohmceokchaaW.PrintWords Go.Proofs.YtkdfohmceokchaaOpen PZoneStuck
set_option linter.unusedVariables false
set_option linter.unusedSimpArgs false
theorem own : ownKnob Try.prog.godebug = none := by kernel_rfl
theorem laidOut : laidOutB Try.prog = true := by kernel_rfl
theorem opens62 : Opens Try.prog 62 k62 (fun x => (x.f0.length ≤ maxLen ∧ ∀ y ∈ x.f0, (Lit.int .i64 y).wf = true) ∧ (Lit.int .i64 x.f1).wf = true) := opens_struct2 (fun x : S62 => (x.f0, x.f1)) (fun p : List Int × Int => ⟨p.1, p.2⟩ : List Int × Int → S62) (fun _ => rfl) Try.underlying62 rfl rfl (by kernel_rfl) (by kernel_rfl) (by kernel_rfl) (opens_slice Try.underlying26 (by kernel_rfl) (opens_int Try.underlying3)) (opens_int Try.underlying3)
set_option maxRecDepth 100000 in
theorem lifted (os : Os) (started : os.Started) (H : Type) (enc : TypeId × Value → H) :
    ReturnsInHanded {} Try.checked os 6 .any (Rows.zoneStuckSpec.pre6 enc Try.prog Try.f6 Rows.zoneStuckRow.domain false) (Rows.zoneStuckSpec.post enc Try.prog Try.f6 false true false false) := by
  refine returnsInHanded_of_change_sized (C := Try.checked) own started (by kernel_rfl) Try.func6
    (ChangeSpec.witness6 (enc := enc) (C := Try.checked) false ⟨#[], #[.slice none 0 0], []⟩ 8 (by kernel_rfl) (by kernel_rfl) (by kernel_rfl) (by kernel_rfl)) ?_
  intro W base args ds gs before hval0 hW hcnd hsz0 _
  have hsz : (DataW.weightsEach Try.prog (Try.f6.params.toList ++ Rows.zoneStuckSpec.plain.varTypes Try.prog) (ds ++ gs)).all (· ≤ reachBytes) = true := hsz0
  have hval : ∀ (j : Nat) t v, Try.f6.params[j]? = some t → args[j]? = some v → Value.okWide Try.prog W .any base t v := hval0
  have hW' := hW
  obtain ⟨p, q, hA0, hV, rfl, hfz, hnd⟩ := hW
  have hA : DataW.TrodAll enc Try.prog W 0 (fun _ => true) true Try.f6.params.toList args.toList ds p := hA0
  rw [Try.params6] at hA hval hsz
  obtain ⟨v0, vs0, d0, ds0, p0, q0, hargs, rfl, rfl, h0, r0⟩ := trodAll_cons hA
  obtain ⟨rfl, rfl, rfl⟩ := trodAll_nil r0
  obtain rfl : args = #[v0] := by cases args; simp_all
  obtain ⟨rfl, rfl⟩ := trodVars_none hV
  have k0 := h0
  have lt0 : ∀ x ∈ p0, x.block < W.heap.size := by obtain ⟨m, hm⟩ := k0; exact DataW.trod_lt m _ _ _ hm
  obtain ⟨A0, l0, c0, rfl, hc0, hr0, hm0, hw0⟩ := arg_slice Try.underlying52 (by kernel_rfl) opens62 (hval 0 52 v0 rfl rfl) h0
  clear hA0 hval0 hsz0 hsz
  obtain ⟨K, hK⟩ := Pure.ZoneStuck l0 hm0 hw0
  refine (PZoneStuck.stillagelaw09_ZoneStuck.calls K _ _ l0 true W hr0 hc0 hK).mono fun e W' ⟨he, bel⟩ => ?_
  subst he
  exact ⟨_, rfl, _, _, _, [], _, [], hW', trodAll_mk1 (shut_bool Try.underlying4 _), (trodAll_cons_mk (Below.trod laidOut (by kernel_rfl) (of_decide_eq_true (by kernel_rfl)) k0 bel lt0) trodAll_mk0), rfl, bel.frame _, fun h => by cases h⟩
theorem over : Rows.zoneStuckRow.holds Try.pinned (OpenSpec.ofChange Rows.zoneStuckSpec) :=
  OpenClaim.holds_of_wide 6 Try.f6 rfl rfl rfl rfl rfl rfl rfl ⟨rfl, rfl, rfl, rfl, rfl⟩ rfl rfl rfl rfl rfl (by kernel_rfl) Try.func6 (by kernel_rfl)
    (of_decide_eq_true (by kernel_rfl)) (by unfold Func.isWrapper; first | (rw [if_pos (by decide +kernel)]; kernel_rfl) | (rw [if_neg (by decide +kernel)]; exact ⟨rfl, rfl⟩))
    (fun os started H enc _ => lifted os started H enc)
theorem proved : Rows.ZoneStuckSaid := over
#print axioms proved
end Go.Proofs.Ytkdfohmceokchaa.zoneStuck
namespace Go.Proofs.Ytkdfohmceokchaa
/-- The row, under a short name, for the claim. -/
theorem zoneStuck_holds : Rows.ZoneStuckSaid := zoneStuck.proved
end Go.Proofs.Ytkdfohmceokchaa
