-- Written by a program of this session (wip/plain/row.py): after the pattern of the kit's print, which does not take this law's parameters.
import Derived.Test.YtkdfohmceokchaaRows
import Derived.Test.YtkdfohmceokchaaPZonePiecesx11
import Derived.Test.YtkdfohmceokchaaPureZonePieces
import Derived.Test.YtkdfohmceokchaaOpen
import Derived.WalkKit
import Derived.ProofKit
import Derived.OpenShut
import Derived.ShutString
import Derived.ChangeOld
import Derived.Below
import Derived.SizedLaws
import Derived.Test.YtkdfohmceokchaaVSized
namespace Go.Proofs.Ytkdfohmceokchaa.zonePieces
open Go.ChangeShapes Go.WideShapes Go.ChangeAt Go.RowKit Go.Proofs.YtkdfohmceokchaaW.PrintWords Go.Proofs.YtkdfohmceokchaaOpen PZonePieces
set_option linter.unusedVariables false
set_option linter.unusedSimpArgs false
theorem own : ownKnob Try.prog.godebug = none := by kernel_rfl
theorem laidOut : laidOutB Try.prog = true := by kernel_rfl
theorem opens46 : Opens Try.prog 46 k46 (fun x => x.f0.size ≤ maxLen ∧ (Lit.int .i64 x.f1).wf = true ∧ (Lit.int .i64 x.f2).wf = true) := opens_struct3 (fun x : S46 => (x.f0, x.f1, x.f2)) (fun p : ByteArray × Int × Int => ⟨p.1, p.2.1, p.2.2⟩ : ByteArray × Int × Int → S46) (fun _ => rfl) Try.underlying46 rfl rfl rfl (by kernel_rfl) (by kernel_rfl) (by kernel_rfl) (by kernel_rfl) (opens_string Try.underlying9) (opens_int Try.underlying3) (opens_int Try.underlying3)
theorem opens43 : Opens Try.prog 43 k43 (fun x => (Lit.int .i64 x.f0).wf = true ∧ (Lit.int .i64 x.f1).wf = true) := opens_array2 (fun x : S43 => (x.f0, x.f1)) (fun p : Int × Int => ⟨p.1, p.2⟩ : Int × Int → S43) (fun _ => rfl) Try.underlying43 (by kernel_rfl) (by kernel_rfl) (opens_int Try.underlying3)
set_option maxRecDepth 100000 in
theorem lifted (os : Os) (started : os.Started) (H : Type) (enc : TypeId × Value → H) :
    ReturnsInHanded {} Try.checked os 3 .any (Rows.zonePiecesSpec.pre6 enc Try.prog Try.f3 Rows.zonePiecesRow.domain false) (Rows.zonePiecesSpec.post enc Try.prog Try.f3 false true false false) := by
  refine returnsInHanded_of_change_sized (C := Try.checked) own started (by kernel_rfl) Try.func3
    (ChangeSpec.witness6 (enc := enc) (C := Try.checked) false ⟨#[], #[.agg #[.slice none 0 0, .slice none 0 0], .slice none 0 0], []⟩ 8 (by kernel_rfl) (by kernel_rfl) (by kernel_rfl) (by kernel_rfl)) ?_
  intro W base args ds gs before hval0 hW hcnd hsz0 _
  have hsz : (DataW.weightsEach Try.prog (Try.f3.params.toList ++ Rows.zonePiecesSpec.plain.varTypes Try.prog) (ds ++ gs)).all (· ≤ reachBytes) = true := hsz0
  have hval : ∀ (j : Nat) t v, Try.f3.params[j]? = some t → args[j]? = some v → Value.okWide Try.prog W .any base t v := hval0
  have hW' := hW
  obtain ⟨p, q, hA0, hV, rfl, hfz, hnd⟩ := hW
  have hA : DataW.TrodAll enc Try.prog W 0 (fun _ => true) true Try.f3.params.toList args.toList ds p := hA0
  rw [Try.params3] at hA hval hsz
  obtain ⟨v0, vs0, d0, ds0, p0, q0, hargs, rfl, rfl, h0, r0⟩ := trodAll_cons hA
  obtain ⟨v1, vs1, d1, ds1, p1, q1, rfl, rfl, rfl, h1, r1⟩ := trodAll_cons r0
  obtain ⟨rfl, rfl, rfl⟩ := trodAll_nil r1
  obtain rfl : args = #[v0, v1] := by cases args; simp_all
  obtain ⟨rfl, rfl⟩ := trodVars_none hV
  have k0 := h0
  have lt0 : ∀ x ∈ p0, x.block < W.heap.size := by obtain ⟨m, hm⟩ := k0; exact DataW.trod_lt m _ _ _ hm
  obtain ⟨X0, K0, O0⟩ := arg_open (opens_struct2 (d1 := (Kd.slice 46 k46)) (d2 := (Kd.slice 43 k43)) (fun x : (List S46) × (List S43) => x) (fun x => x) (fun _ => rfl) Try.underlying25 rfl rfl (by kernel_rfl) (by kernel_rfl) (by kernel_rfl) (opens_slice Try.underlying22 (by kernel_rfl) opens46) (opens_slice Try.underlying23 (by kernel_rfl) opens43)) h0
  obtain ⟨l0_0, l0_1⟩ := X0
  obtain ⟨x0_0, z0_0, e0_0, ⟨A0_0, c0_0, rfl, hc0_0, hr0_0⟩, ⟨A0_1, c0_1, rfl, hc0_1, hr0_1⟩⟩ := K0
  obtain rfl := arg_agg Try.underlying25 (hval 0 25 v0 rfl rfl) e0_0
  obtain ⟨⟨hm0_0, hw0_0⟩, ⟨hm0_1, hw0_1⟩⟩ := O0
  have k1 := h1
  have lt1 : ∀ x ∈ p1, x.block < W.heap.size := by obtain ⟨m, hm⟩ := k1; exact DataW.trod_lt m _ _ _ hm
  obtain ⟨A1, l1, c1, rfl, hc1, hr1, hm1, hw1⟩ := arg_slice Try.underlying26 (by kernel_rfl) (opens_int Try.underlying3) (hval 1 26 v1 rfl rfl) h1
  have y1 : l1.length * 8 ≤ 140737488351232 := Go.Proofs.YtkdfohmceokchaaW.PrintWords.sized_ints hsz (j := 1) (t := 26) rfl rfl Try.underlying26 Try.underlying3 (by kernel_rfl) (by kernel_rfl) h1
  clear hA0 hval0 hsz0 hsz
  obtain ⟨K, hK⟩ := Pure.ZonePieces l0_0 l0_1 l1
  refine (PZonePieces.stillagelaw09_ZonePieces.calls K _ _ l0_0 _ _ l0_1 _ _ l1 W hr0_0 hc0_0 hr0_1 hc0_1 hr1 hc1 hK).mono fun e W' ⟨he, bel⟩ => ?_
  subst he
  exact ⟨_, rfl, _, _, _, [], _, [], hW', trodAll_mk1 (shut_bool Try.underlying4 _), (trodAll_cons_mk (Below.trod laidOut (by kernel_rfl) (of_decide_eq_true (by kernel_rfl)) k0 bel lt0) (trodAll_cons_mk (Below.trod laidOut (by kernel_rfl) (of_decide_eq_true (by kernel_rfl)) k1 bel lt1) trodAll_mk0)), rfl, bel.frame _, fun h => by cases h⟩
theorem over : Rows.zonePiecesRow.holds Try.pinned (OpenSpec.ofChange Rows.zonePiecesSpec) :=
  OpenClaim.holds_of_wide 3 Try.f3 rfl rfl rfl rfl rfl rfl rfl ⟨rfl, rfl, rfl, rfl, rfl⟩ rfl rfl rfl rfl rfl (by kernel_rfl) Try.func3 (by kernel_rfl)
    (of_decide_eq_true (by kernel_rfl)) (by unfold Func.isWrapper; first | (rw [if_pos (by decide +kernel)]; kernel_rfl) | (rw [if_neg (by decide +kernel)]; exact ⟨rfl, rfl⟩))
    (fun os started H enc _ => lifted os started H enc)
theorem proved : Rows.ZonePiecesSaid := over
#print axioms proved
end Go.Proofs.Ytkdfohmceokchaa.zonePieces
namespace Go.Proofs.Ytkdfohmceokchaa
/-- The row, under a short name, for the claim. -/
theorem zonePieces_holds : Rows.ZonePiecesSaid := zonePieces.proved
end Go.Proofs.Ytkdfohmceokchaa
