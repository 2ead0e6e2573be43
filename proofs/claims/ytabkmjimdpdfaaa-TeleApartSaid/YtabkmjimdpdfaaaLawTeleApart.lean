-- Written by a program of this session (wip/plain/row.py): after the pattern of the kit's print, which does not take this law's parameters.
import Derived.Test.YtabkmjimdpdfaaaRows
import Derived.Test.YtabkmjimdpdfaaaPTeleApartx4
import Derived.Test.YtabkmjimdpdfaaaPureTeleApart
import Derived.Test.YtabkmjimdpdfaaaOpen
import Derived.WalkKit
import Derived.ProofKit
import Derived.OpenShut
import Derived.ShutString
import Derived.ChangeOld
import Derived.Below
import Derived.SizedLaws
import Derived.Test.YtabkmjimdpdfaaaWSized
namespace Go.Proofs.Ytabkmjimdpdfaaa.teleApart
open Go.ChangeShapes Go.WideShapes Go.ChangeAt Go.RowKit Go.Proofs.YtabkmjimdpdfaaaW.PrintWords Go.Proofs.YtabkmjimdpdfaaaOpen PTeleApart
set_option linter.unusedVariables false
set_option linter.unusedSimpArgs false
theorem own : ownKnob Try.prog.godebug = none := by kernel_rfl
theorem laidOut : laidOutB Try.prog = true := by kernel_rfl

set_option maxRecDepth 100000 in
theorem lifted (os : Os) (started : os.Started) (H : Type) (enc : TypeId × Value → H) :
    ReturnsInHanded {} Try.checked os 3 .any (Rows.teleApartSpec.pre6 enc Try.prog Try.f3 Rows.teleApartRow.domain false) (Rows.teleApartSpec.post enc Try.prog Try.f3 false true false false) := by
  refine returnsInHanded_of_change_sized (C := Try.checked) own started (by kernel_rfl) Try.func3
    (ChangeSpec.witness6 (enc := enc) (C := Try.checked) false ⟨#[], #[.agg #[.int .u8 0, .int .u16 0, .int .u16 0, .int .u16 0, .int .u16 0], .agg #[.int .u8 0, .int .u16 0, .int .u16 0, .int .u16 0, .int .u16 0]], []⟩ 8 (by kernel_rfl) (by kernel_rfl) (by kernel_rfl) (by kernel_rfl)) ?_
  intro W base args ds gs before hval0 hW hcnd hsz0 _
  have hsz : (DataW.weightsEach Try.prog (Try.f3.params.toList ++ Rows.teleApartSpec.plain.varTypes Try.prog) (ds ++ gs)).all (· ≤ reachBytes) = true := hsz0
  have hval : ∀ (j : Nat) t v, Try.f3.params[j]? = some t → args[j]? = some v → Value.okWide Try.prog W .any base t v := hval0
  have hW' := hW
  obtain ⟨p, q, hA0, hV, rfl, hfz, hnd⟩ := hW
  have hA : DataW.TrodAll enc Try.prog W 0 (fun _ => true) true Try.f3.params.toList args.toList ds p := hA0
  rw [Try.params3] at hA hval hsz
  obtain ⟨v0, vs0, d0, ds0, p0, q0, hargs, rfl, rfl, h0, r0⟩ := trodAll_cons hA
  obtain ⟨v1, vs1, d1, ds1, p1, q1, rfl, rfl, rfl, h1, r1⟩ := trodAll_cons r0
  obtain ⟨rfl, rfl, rfl⟩ := trodAll_nil r1
  obtain rfl : args = #[v0, v1] := by cases args; simp_all
  obtain ⟨rfl, rfl⟩ := trodVars_none hV
  have k0 := h0
  have lt0 : ∀ x ∈ p0, x.block < W.heap.size := by obtain ⟨m, hm⟩ := k0; exact DataW.trod_lt m _ _ _ hm
  obtain ⟨X0, K0, O0⟩ := arg_open (opens_struct5 (d1 := (Kd.int .u8)) (d2 := (Kd.int .u16)) (d3 := (Kd.int .u16)) (d4 := (Kd.int .u16)) (d5 := (Kd.int .u16)) (fun x : (Int) × (Int) × (Int) × (Int) × (Int) => x) (fun x => x) (fun _ => rfl) Try.underlying24 rfl rfl rfl rfl rfl (by kernel_rfl) (by kernel_rfl) (by kernel_rfl) (by kernel_rfl) (by kernel_rfl) (by kernel_rfl) (opens_int Try.underlying5) (opens_int Try.underlying22) (opens_int Try.underlying22) (opens_int Try.underlying22) (opens_int Try.underlying22)) h0
  obtain ⟨a0_0, a0_1, a0_2, a0_3, a0_4⟩ := X0
  obtain ⟨x0_0, z0_0, e0_0, rfl, ⟨x0_1, z0_1, e0_1, rfl, ⟨x0_2, z0_2, e0_2, rfl, ⟨x0_3, z0_3, e0_3, rfl, rfl⟩⟩⟩⟩ := K0
  rw [e0_1] at e0_0
  rw [e0_2] at e0_0
  rw [e0_3] at e0_0
  obtain rfl := arg_agg Try.underlying24 (hval 0 24 v0 rfl rfl) e0_0
  obtain ⟨w0_0, w0_1, w0_2, w0_3, w0_4⟩ := O0
  have k1 := h1
  have lt1 : ∀ x ∈ p1, x.block < W.heap.size := by obtain ⟨m, hm⟩ := k1; exact DataW.trod_lt m _ _ _ hm
  obtain ⟨X1, K1, O1⟩ := arg_open (opens_struct5 (d1 := (Kd.int .u8)) (d2 := (Kd.int .u16)) (d3 := (Kd.int .u16)) (d4 := (Kd.int .u16)) (d5 := (Kd.int .u16)) (fun x : (Int) × (Int) × (Int) × (Int) × (Int) => x) (fun x => x) (fun _ => rfl) Try.underlying24 rfl rfl rfl rfl rfl (by kernel_rfl) (by kernel_rfl) (by kernel_rfl) (by kernel_rfl) (by kernel_rfl) (by kernel_rfl) (opens_int Try.underlying5) (opens_int Try.underlying22) (opens_int Try.underlying22) (opens_int Try.underlying22) (opens_int Try.underlying22)) h1
  obtain ⟨a1_0, a1_1, a1_2, a1_3, a1_4⟩ := X1
  obtain ⟨x1_0, z1_0, e1_0, rfl, ⟨x1_1, z1_1, e1_1, rfl, ⟨x1_2, z1_2, e1_2, rfl, ⟨x1_3, z1_3, e1_3, rfl, rfl⟩⟩⟩⟩ := K1
  rw [e1_1] at e1_0
  rw [e1_2] at e1_0
  rw [e1_3] at e1_0
  obtain rfl := arg_agg Try.underlying24 (hval 1 24 v1 rfl rfl) e1_0
  obtain ⟨w1_0, w1_1, w1_2, w1_3, w1_4⟩ := O1
  clear hA0 hval0 hsz0 hsz
  obtain ⟨K, hK⟩ := Pure.TeleApart a0_0 a0_1 a0_2 a0_3 a0_4 a1_0 a1_1 a1_2 a1_3 a1_4 w0_0 w0_1 w0_2 w0_3 w0_4 w1_0 w1_1 w1_2 w1_3 w1_4
  refine (PTeleApart.stillagelaw02_TeleApart.calls K a0_0 a0_1 a0_2 a0_3 a0_4 a1_0 a1_1 a1_2 a1_3 a1_4 true W  hK).mono fun e W' ⟨he, bel⟩ => ?_
  subst he
  exact ⟨_, rfl, _, _, _, [], _, [], hW', trodAll_mk1 (shut_bool Try.underlying4 _), (trodAll_cons_mk (Below.trod laidOut (by kernel_rfl) (of_decide_eq_true (by kernel_rfl)) k0 bel lt0) (trodAll_cons_mk (Below.trod laidOut (by kernel_rfl) (of_decide_eq_true (by kernel_rfl)) k1 bel lt1) trodAll_mk0)), rfl, bel.frame _, fun h => by cases h⟩
theorem over : Rows.teleApartRow.holds Try.pinned (OpenSpec.ofChange Rows.teleApartSpec) :=
  OpenClaim.holds_of_wide 3 Try.f3 rfl rfl rfl rfl rfl rfl rfl ⟨rfl, rfl, rfl, rfl, rfl⟩ rfl rfl rfl rfl rfl (by kernel_rfl) Try.func3 (by kernel_rfl)
    (of_decide_eq_true (by kernel_rfl)) (by unfold Func.isWrapper; first | (rw [if_pos (by decide +kernel)]; kernel_rfl) | (rw [if_neg (by decide +kernel)]; exact ⟨rfl, rfl⟩))
    (fun os started H enc _ => lifted os started H enc)
theorem proved : Rows.TeleApartSaid := over
#print axioms proved
end Go.Proofs.Ytabkmjimdpdfaaa.teleApart
namespace Go.Proofs.Ytabkmjimdpdfaaa
/-- The row, under a short name, for the claim. -/
theorem teleApart_holds : Rows.TeleApartSaid := teleApart.proved
end Go.Proofs.Ytabkmjimdpdfaaa
