-- Written by a program of this session (wip/plain/row.py): after the pattern of the kit's print, which does not take this law's parameters.
import Derived.Test.YtabkmjimdpdfaaaRows
import Derived.Test.YtabkmjimdpdfaaaPTeleWritesx9
import Derived.Test.YtabkmjimdpdfaaaPureTeleWrites
import Derived.Test.YtabkmjimdpdfaaaOpen
import Derived.WalkKit
import Derived.ProofKit
import Derived.OpenShut
import Derived.ShutString
import Derived.ChangeOld
import Derived.Below
import Derived.SizedLaws
import Derived.Test.YtabkmjimdpdfaaaWSized
namespace Go.Proofs.Ytabkmjimdpdfaaa.teleWrites
open Go.ChangeShapes Go.WideShapes Go.ChangeAt Go.RowKit Go.Proofs.YtabkmjimdpdfaaaW.PrintWords Go.Proofs.YtabkmjimdpdfaaaOpen PTeleWrites
set_option linter.unusedVariables false
set_option linter.unusedSimpArgs false
theorem own : ownKnob Try.prog.godebug = none := by kernel_rfl
theorem laidOut : laidOutB Try.prog = true := by kernel_rfl

set_option maxRecDepth 100000 in
theorem lifted (os : Os) (started : os.Started) (H : Type) (enc : TypeId × Value → H) :
    ReturnsInHanded {} Try.checked os 4 .any (Rows.teleWritesSpec.pre6 enc Try.prog Try.f4 Rows.teleWritesRow.domain false) (Rows.teleWritesSpec.post enc Try.prog Try.f4 false true false false) := by
  refine returnsInHanded_of_change_sized (C := Try.checked) own started (by kernel_rfl) Try.func4
    (ChangeSpec.witness6 (enc := enc) (C := Try.checked) false ⟨#[], #[.agg #[.int .u8 0, .int .u16 0, .int .u16 0, .int .u16 0, .int .u16 0]], []⟩ 8 (by kernel_rfl) (by kernel_rfl) (by kernel_rfl) (by kernel_rfl)) ?_
  intro W base args ds gs before hval0 hW hcnd hsz0 _
  have hsz : (DataW.weightsEach Try.prog (Try.f4.params.toList ++ Rows.teleWritesSpec.plain.varTypes Try.prog) (ds ++ gs)).all (· ≤ reachBytes) = true := hsz0
  have hval : ∀ (j : Nat) t v, Try.f4.params[j]? = some t → args[j]? = some v → Value.okWide Try.prog W .any base t v := hval0
  have hW' := hW
  obtain ⟨p, q, hA0, hV, rfl, hfz, hnd⟩ := hW
  have hA : DataW.TrodAll enc Try.prog W 0 (fun _ => true) true Try.f4.params.toList args.toList ds p := hA0
  rw [Try.params4] at hA hval hsz
  obtain ⟨v0, vs0, d0, ds0, p0, q0, hargs, rfl, rfl, h0, r0⟩ := trodAll_cons hA
  obtain ⟨rfl, rfl, rfl⟩ := trodAll_nil r0
  obtain rfl : args = #[v0] := by cases args; simp_all
  obtain ⟨rfl, rfl⟩ := trodVars_none hV
  have k0 := h0
  have lt0 : ∀ x ∈ p0, x.block < W.heap.size := by obtain ⟨m, hm⟩ := k0; exact DataW.trod_lt m _ _ _ hm
  obtain ⟨X0, K0, O0⟩ := arg_open (opens_struct5 (d1 := (Kd.int .u8)) (d2 := (Kd.int .u16)) (d3 := (Kd.int .u16)) (d4 := (Kd.int .u16)) (d5 := (Kd.int .u16)) (fun x : (Int) × (Int) × (Int) × (Int) × (Int) => x) (fun x => x) (fun _ => rfl) Try.underlying24 rfl rfl rfl rfl rfl (by kernel_rfl) (by kernel_rfl) (by kernel_rfl) (by kernel_rfl) (by kernel_rfl) (by kernel_rfl) (opens_int Try.underlying5) (opens_int Try.underlying22) (opens_int Try.underlying22) (opens_int Try.underlying22) (opens_int Try.underlying22)) h0
  obtain ⟨a0_0, a0_1, a0_2, a0_3, a0_4⟩ := X0
  obtain ⟨x0_0, z0_0, e0_0, rfl, ⟨x0_1, z0_1, e0_1, rfl, ⟨x0_2, z0_2, e0_2, rfl, ⟨x0_3, z0_3, e0_3, rfl, rfl⟩⟩⟩⟩ := K0
  rw [e0_1] at e0_0
  rw [e0_2] at e0_0
  rw [e0_3] at e0_0
  obtain rfl := arg_agg Try.underlying24 (hval 0 24 v0 rfl rfl) e0_0
  obtain ⟨w0_0, w0_1, w0_2, w0_3, w0_4⟩ := O0
  clear hA0 hval0 hsz0 hsz
  obtain ⟨K, hK⟩ := Pure.TeleWrites a0_0 a0_1 a0_2 a0_3 a0_4 w0_0 w0_1 w0_2 w0_3 w0_4
  refine (PTeleWrites.stillagelaw02_TeleWrites.calls K a0_0 a0_1 a0_2 a0_3 a0_4 true W  hK).mono fun e W' ⟨he, bel⟩ => ?_
  subst he
  exact ⟨_, rfl, _, _, _, [], _, [], hW', trodAll_mk1 (shut_bool Try.underlying4 _), (trodAll_cons_mk (Below.trod laidOut (by kernel_rfl) (of_decide_eq_true (by kernel_rfl)) k0 bel lt0) trodAll_mk0), rfl, bel.frame _, fun h => by cases h⟩
theorem over : Rows.teleWritesRow.holds Try.pinned (OpenSpec.ofChange Rows.teleWritesSpec) :=
  OpenClaim.holds_of_wide 4 Try.f4 rfl rfl rfl rfl rfl rfl rfl ⟨rfl, rfl, rfl, rfl, rfl⟩ rfl rfl rfl rfl rfl (by kernel_rfl) Try.func4 (by kernel_rfl)
    (of_decide_eq_true (by kernel_rfl)) (by unfold Func.isWrapper; first | (rw [if_pos (by decide +kernel)]; kernel_rfl) | (rw [if_neg (by decide +kernel)]; exact ⟨rfl, rfl⟩))
    (fun os started H enc _ => lifted os started H enc)
theorem proved : Rows.TeleWritesSaid := over
#print axioms proved
end Go.Proofs.Ytabkmjimdpdfaaa.teleWrites
namespace Go.Proofs.Ytabkmjimdpdfaaa
/-- The row, under a short name, for the claim. -/
theorem teleWrites_holds : Rows.TeleWritesSaid := teleWrites.proved
end Go.Proofs.Ytabkmjimdpdfaaa
