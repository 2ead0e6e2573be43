-- Written by a program of this session (wip/plain/row.py): after the pattern of the kit's print, which does not take this law's parameters.
import Derived.Test.YtabkmjimdpdfaaaRows
import Derived.Test.YtabkmjimdpdfaaaPTeleTurnedx6
import Derived.Test.YtabkmjimdpdfaaaPureTeleTurned
import Derived.Test.YtabkmjimdpdfaaaOpen
import Derived.WalkKit
import Derived.ProofKit
import Derived.OpenShut
import Derived.ShutString
import Derived.ChangeOld
import Derived.Below
import Derived.SizedLaws
import Derived.Test.YtabkmjimdpdfaaaWSized
namespace Go.Proofs.Ytabkmjimdpdfaaa.teleTurned
open Go.ChangeShapes Go.WideShapes Go.ChangeAt Go.RowKit Go.Proofs.YtabkmjimdpdfaaaW.PrintWords Go.Proofs.YtabkmjimdpdfaaaOpen PTeleTurned
set_option linter.unusedVariables false
set_option linter.unusedSimpArgs false
theorem own : ownKnob Try.prog.godebug = none := by kernel_rfl
theorem laidOut : laidOutB Try.prog = true := by kernel_rfl

set_option maxRecDepth 100000 in
theorem lifted (os : Os) (started : os.Started) (H : Type) (enc : TypeId × Value → H) :
    ReturnsInHanded {} Try.checked os 6 .any (Rows.teleTurnedSpec.pre6 enc Try.prog Try.f6 Rows.teleTurnedRow.domain false) (Rows.teleTurnedSpec.post enc Try.prog Try.f6 false true false false) := by
  refine returnsInHanded_of_change_sized (C := Try.checked) own started (by kernel_rfl) Try.func6
    (ChangeSpec.witness6 (enc := enc) (C := Try.checked) false ⟨#[], #[.agg #[.int .u8 0, .int .u16 0, .int .u16 0, .int .u16 0, .int .u16 0], .agg #[.int .i64 0, .int .i64 0, .int .i64 0]], []⟩ 8 (by kernel_rfl) (by kernel_rfl) (by kernel_rfl) (by kernel_rfl)) ?_
  intro W base args ds gs before hval0 hW hcnd hsz0 _
  have hsz : (DataW.weightsEach Try.prog (Try.f6.params.toList ++ Rows.teleTurnedSpec.plain.varTypes Try.prog) (ds ++ gs)).all (· ≤ reachBytes) = true := hsz0
  have hval : ∀ (j : Nat) t v, Try.f6.params[j]? = some t → args[j]? = some v → Value.okWide Try.prog W .any base t v := hval0
  have hW' := hW
  obtain ⟨p, q, hA0, hV, rfl, hfz, hnd⟩ := hW
  have hA : DataW.TrodAll enc Try.prog W 0 (fun _ => true) true Try.f6.params.toList args.toList ds p := hA0
  rw [Try.params6] at hA hval hsz
  obtain ⟨v0, vs0, d0, ds0, p0, q0, hargs, rfl, rfl, h0, r0⟩ := trodAll_cons hA
  obtain ⟨v1, vs1, d1, ds1, p1, q1, rfl, rfl, rfl, h1, r1⟩ := trodAll_cons r0
  obtain ⟨rfl, rfl, rfl⟩ := trodAll_nil r1
  obtain rfl : args = #[v0, v1] := by cases args; simp_all
  obtain ⟨rfl, rfl⟩ := trodVars_none hV
  have k0 := h0
  have lt0 : ∀ x ∈ p0, x.block < W.heap.size := by obtain ⟨m, hm⟩ := k0; exact DataW.trod_lt m _ _ _ hm
  obtain ⟨X0, K0, O0⟩ := arg_open (opens_struct5 (d1 := (Kd.int .u8)) (d2 := (Kd.int .u16)) (d3 := (Kd.int .u16)) (d4 := (Kd.int .u16)) (d5 := (Kd.int .u16)) (fun x : (Int) × (Int) × (Int) × (Int) × (Int) => x) (fun x => x) (fun _ => rfl) Try.underlying24 rfl rfl rfl rfl rfl (by kernel_rfl) (by kernel_rfl) (by kernel_rfl) (by kernel_rfl) (by kernel_rfl) (by kernel_rfl) (opens_int Try.underlying5) (opens_int Try.underlying22) (opens_int Try.underlying22) (opens_int Try.underlying22) (opens_int Try.underlying22)) h0
  obtain ⟨a0_0, a0_1, a0_2, a0_3, a0_4⟩ := X0
  obtain ⟨x0_0, z0_0, e0_0, rfl, ⟨x0_1, z0_1, e0_1, rfl, ⟨x0_2, z0_2, e0_2, rfl, ⟨x0_3, z0_3, e0_3, rfl, rfl⟩⟩⟩⟩ := K0
  rw [e0_1] at e0_0
  rw [e0_2] at e0_0
  rw [e0_3] at e0_0
  obtain rfl := arg_agg Try.underlying24 (hval 0 24 v0 rfl rfl) e0_0
  obtain ⟨w0_0, w0_1, w0_2, w0_3, w0_4⟩ := O0
  have k1 := h1
  have lt1 : ∀ x ∈ p1, x.block < W.heap.size := by obtain ⟨m, hm⟩ := k1; exact DataW.trod_lt m _ _ _ hm
  obtain ⟨X1, K1, O1⟩ := arg_open (opens_array3 (d := (Kd.int .i64)) (fun x : Int × Int × Int => x) (fun x => x) (fun _ => rfl) Try.underlying40 (by kernel_rfl) (by kernel_rfl) (opens_int Try.underlying3)) h1
  obtain ⟨a1_0, a1_1, a1_2⟩ := X1
  obtain ⟨x1_0, z1_0, e1_0, rfl, ⟨x1_1, z1_1, e1_1, rfl, rfl⟩⟩ := K1
  rw [e1_1] at e1_0
  obtain rfl := arg_arr Try.underlying40 (hval 1 40 v1 rfl rfl) e1_0
  obtain ⟨w1_0, w1_1, w1_2⟩ := O1
  clear hA0 hval0 hsz0 hsz
  obtain ⟨K, hK⟩ := Pure.TeleTurned a0_0 a0_1 a0_2 a0_3 a0_4 a1_0 a1_1 a1_2 w0_0 w0_1 w0_2 w0_3 w0_4 w1_0 w1_1 w1_2
  refine (PTeleTurned.stillagelaw02_TeleTurned.calls K a0_0 a0_1 a0_2 a0_3 a0_4 a1_0 a1_1 a1_2 true W  hK).mono fun e W' ⟨he, bel⟩ => ?_
  subst he
  exact ⟨_, rfl, _, _, _, [], _, [], hW', trodAll_mk1 (shut_bool Try.underlying4 _), (trodAll_cons_mk (Below.trod laidOut (by kernel_rfl) (of_decide_eq_true (by kernel_rfl)) k0 bel lt0) (trodAll_cons_mk (Below.trod laidOut (by kernel_rfl) (of_decide_eq_true (by kernel_rfl)) k1 bel lt1) trodAll_mk0)), rfl, bel.frame _, fun h => by cases h⟩
theorem over : Rows.teleTurnedRow.holds Try.pinned (OpenSpec.ofChange Rows.teleTurnedSpec) :=
  OpenClaim.holds_of_wide 6 Try.f6 rfl rfl rfl rfl rfl rfl rfl ⟨rfl, rfl, rfl, rfl, rfl⟩ rfl rfl rfl rfl rfl (by kernel_rfl) Try.func6 (by kernel_rfl)
    (of_decide_eq_true (by kernel_rfl)) (by unfold Func.isWrapper; first | (rw [if_pos (by decide +kernel)]; kernel_rfl) | (rw [if_neg (by decide +kernel)]; exact ⟨rfl, rfl⟩))
    (fun os started H enc _ => lifted os started H enc)
theorem proved : Rows.TeleTurnedSaid := over
#print axioms proved
end Go.Proofs.Ytabkmjimdpdfaaa.teleTurned
namespace Go.Proofs.Ytabkmjimdpdfaaa
/-- The row, under a short name, for the claim. -/
theorem teleTurned_holds : Rows.TeleTurnedSaid := teleTurned.proved
end Go.Proofs.Ytabkmjimdpdfaaa
