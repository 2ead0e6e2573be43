-- Written by a program of this session (wip/plain/row.py): after the pattern of the kit's print, which does not take this law's parameters.
import Derived.Test.YtabkmjimdpdfaaaRows
import Derived.Test.YtabkmjimdpdfaaaPTeleNoisex7
import Derived.Test.YtabkmjimdpdfaaaPureTeleNoise
import Derived.Test.YtabkmjimdpdfaaaOpen
import Derived.WalkKit
import Derived.ProofKit
import Derived.OpenShut
import Derived.ShutString
import Derived.ChangeOld
import Derived.Below
import Derived.SizedLaws
import Derived.Test.YtabkmjimdpdfaaaWSized
namespace Go.Proofs.Ytabkmjimdpdfaaa.teleNoise
open Go.ChangeShapes Go.WideShapes Go.ChangeAt Go.RowKit Go.Proofs.YtabkmjimdpdfaaaW.PrintWords Go.Proofs.YtabkmjimdpdfaaaOpen PTeleNoise
set_option linter.unusedVariables false
set_option linter.unusedSimpArgs false
theorem own : ownKnob Try.prog.godebug = none := by kernel_rfl
theorem laidOut : laidOutB Try.prog = true := by kernel_rfl

set_option maxRecDepth 100000 in
theorem lifted (os : Os) (started : os.Started) (H : Type) (enc : TypeId × Value → H) :
    ReturnsInHanded {} Try.checked os 10 .any (Rows.teleNoiseSpec.pre6 enc Try.prog Try.f10 Rows.teleNoiseRow.domain false) (Rows.teleNoiseSpec.post enc Try.prog Try.f10 false true false false) := by
  refine returnsInHanded_of_change_sized (C := Try.checked) own started (by kernel_rfl) Try.func10
    (ChangeSpec.witness6 (enc := enc) (C := Try.checked) false ⟨#[], #[.slice none 0 0, .agg #[.int .u8 0, .int .u16 0, .int .u16 0, .int .u16 0, .int .u16 0], .int .i64 0], []⟩ 8 (by kernel_rfl) (by kernel_rfl) (by kernel_rfl) (by kernel_rfl)) ?_
  intro W base args ds gs before hval0 hW hcnd hsz0 _
  have hsz : (DataW.weightsEach Try.prog (Try.f10.params.toList ++ Rows.teleNoiseSpec.plain.varTypes Try.prog) (ds ++ gs)).all (· ≤ reachBytes) = true := hsz0
  have hval : ∀ (j : Nat) t v, Try.f10.params[j]? = some t → args[j]? = some v → Value.okWide Try.prog W .any base t v := hval0
  have hW' := hW
  obtain ⟨p, q, hA0, hV, rfl, hfz, hnd⟩ := hW
  have hA : DataW.TrodAll enc Try.prog W 0 (fun _ => true) true Try.f10.params.toList args.toList ds p := hA0
  rw [Try.params10] at hA hval hsz
  obtain ⟨v0, vs0, d0, ds0, p0, q0, hargs, rfl, rfl, h0, r0⟩ := trodAll_cons hA
  obtain ⟨v1, vs1, d1, ds1, p1, q1, rfl, rfl, rfl, h1, r1⟩ := trodAll_cons r0
  obtain ⟨v2, vs2, d2, ds2, p2, q2, rfl, rfl, rfl, h2, r2⟩ := trodAll_cons r1
  obtain ⟨rfl, rfl, rfl⟩ := trodAll_nil r2
  obtain rfl : args = #[v0, v1, v2] := by cases args; simp_all
  obtain ⟨rfl, rfl⟩ := trodVars_none hV
  have k0 := h0
  have lt0 : ∀ x ∈ p0, x.block < W.heap.size := by obtain ⟨m, hm⟩ := k0; exact DataW.trod_lt m _ _ _ hm
  obtain ⟨A0, l0, c0, rfl, hc0, hr0, hm0, hw0⟩ := arg_slice Try.underlying26 (by kernel_rfl) (opens_int Try.underlying5) (hval 0 26 v0 rfl rfl) h0
  have y0 : l0.length * 1 ≤ 140737488351232 := Go.Proofs.YtabkmjimdpdfaaaW.PrintWords.sized_ints hsz (j := 0) (t := 26) rfl rfl Try.underlying26 Try.underlying5 (by kernel_rfl) (by kernel_rfl) h0
  have k1 := h1
  have lt1 : ∀ x ∈ p1, x.block < W.heap.size := by obtain ⟨m, hm⟩ := k1; exact DataW.trod_lt m _ _ _ hm
  obtain ⟨X1, K1, O1⟩ := arg_open (opens_struct5 (d1 := (Kd.int .u8)) (d2 := (Kd.int .u16)) (d3 := (Kd.int .u16)) (d4 := (Kd.int .u16)) (d5 := (Kd.int .u16)) (fun x : (Int) × (Int) × (Int) × (Int) × (Int) => x) (fun x => x) (fun _ => rfl) Try.underlying24 rfl rfl rfl rfl rfl (by kernel_rfl) (by kernel_rfl) (by kernel_rfl) (by kernel_rfl) (by kernel_rfl) (by kernel_rfl) (opens_int Try.underlying5) (opens_int Try.underlying22) (opens_int Try.underlying22) (opens_int Try.underlying22) (opens_int Try.underlying22)) h1
  obtain ⟨a1_0, a1_1, a1_2, a1_3, a1_4⟩ := X1
  obtain ⟨x1_0, z1_0, e1_0, rfl, ⟨x1_1, z1_1, e1_1, rfl, ⟨x1_2, z1_2, e1_2, rfl, ⟨x1_3, z1_3, e1_3, rfl, rfl⟩⟩⟩⟩ := K1
  rw [e1_1] at e1_0
  rw [e1_2] at e1_0
  rw [e1_3] at e1_0
  obtain rfl := arg_agg Try.underlying24 (hval 1 24 v1 rfl rfl) e1_0
  obtain ⟨w1_0, w1_1, w1_2, w1_3, w1_4⟩ := O1
  obtain ⟨a2, rfl, rfl, rfl, w2⟩ := open_int Try.underlying3 (hval 2 3 v2 rfl rfl) h2
  clear hA0 hval0 hsz0 hsz
  obtain ⟨K, hK⟩ := Pure.TeleNoise l0 a1_0 a1_1 a1_2 a1_3 a1_4 a2 hm0 hw0 y0 w1_0 w1_1 w1_2 w1_3 w1_4 w2
  refine (PTeleNoise.stillagelaw02_TeleNoise.calls K _ _ l0 a1_0 a1_1 a1_2 a1_3 a1_4 a2 true W hr0 hc0 hK).mono fun e W' ⟨he, bel⟩ => ?_
  subst he
  exact ⟨_, rfl, _, _, _, [], _, [], hW', trodAll_mk1 (shut_bool Try.underlying4 _), (trodAll_cons_mk (Below.trod laidOut (by kernel_rfl) (of_decide_eq_true (by kernel_rfl)) k0 bel lt0) (trodAll_cons_mk (Below.trod laidOut (by kernel_rfl) (of_decide_eq_true (by kernel_rfl)) k1 bel lt1) (trodAll_cons_mk (shut_int Try.underlying3 w2) trodAll_mk0))), rfl, bel.frame _, fun h => by cases h⟩
theorem over : Rows.teleNoiseRow.holds Try.pinned (OpenSpec.ofChange Rows.teleNoiseSpec) :=
  OpenClaim.holds_of_wide 10 Try.f10 rfl rfl rfl rfl rfl rfl rfl ⟨rfl, rfl, rfl, rfl, rfl⟩ rfl rfl rfl rfl rfl (by kernel_rfl) Try.func10 (by kernel_rfl)
    (of_decide_eq_true (by kernel_rfl)) (by unfold Func.isWrapper; first | (rw [if_pos (by decide +kernel)]; kernel_rfl) | (rw [if_neg (by decide +kernel)]; exact ⟨rfl, rfl⟩))
    (fun os started H enc _ => lifted os started H enc)
theorem proved : Rows.TeleNoiseSaid := over
#print axioms proved
end Go.Proofs.Ytabkmjimdpdfaaa.teleNoise
namespace Go.Proofs.Ytabkmjimdpdfaaa
/-- The row, under a short name, for the claim. -/
theorem teleNoise_holds : Rows.TeleNoiseSaid := teleNoise.proved
end Go.Proofs.Ytabkmjimdpdfaaa
