/- IntakePlays, whatever the input: true, and the input reads as it did. No conditions. -/
import Derived.Test.YtjigeblechiffaaRows
import Derived.Test.YtjigeblechiffaaPlays
import Derived.Test.YtjigeblechiffaaOpenW
import Derived.WalkKit
import Derived.ProofKit
import Derived.OpenShut
import Derived.ShutString
import Derived.ChangeOld
import Derived.Below
import Derived.SizedLaws
import Derived.Test.YtjigeblechiffaaWSized
namespace Go.Proofs.Ytjigeblechiffaa.intakePlays
open Go.ChangeShapes Go.WideShapes Go.ChangeAt Go.RowKit
open Go.ChangeMaps (open_string shut_string)
open Go.Proofs.YtjigeblechiffaaW.PrintWords Go.Proofs.YtjigeblechiffaaOpen
set_option linter.unusedVariables false
theorem u16_wf {a : Int} (w : (Lit.int .u16 a).wf = true) : 0 ≤ a ∧ a < 65536 := by
  have h : IntKind.u16.min ≤ a ∧ a ≤ IntKind.u16.max := by simpa [Lit.wf] using w
  have e1 : IntKind.u16.min = 0 := by decide
  have e2 : IntKind.u16.max = 65535 := by decide
  omega
theorem own : ownKnob Try.prog.godebug = none := by kernel_rfl
theorem laidOut : laidOutB Try.prog = true := by kernel_rfl
theorem bytes5 : Try.prog.bytesOf 5 = 1 := by kernel_rfl
theorem few_bytes {n : Nat} (h : n * Try.prog.bytesOf 5 ≤ reachBytes) : n ≤ 140737488351232 := by
  rw [bytes5, Nat.mul_one] at h
  exact h
theorem opens47 : OpensW Try.prog 47 PPlays.k47 (fun x => True ∧ (Lit.int .u16 x.f1).wf = true ∧ (x.f2.length ≤ maxLen ∧ x.f2.length * Try.prog.bytesOf 5 ≤ reachBytes ∧ ∀ y ∈ x.f2, (Lit.int .u8 y).wf = true)) :=
  opensW_struct3 (fun x : PPlays.S47 => (x.f0, x.f1, x.f2)) (fun p : Bool × Int × List Int => (⟨p.1, p.2.1, p.2.2⟩ : PPlays.S47)) (fun _ => rfl) Try.underlying47 rfl rfl rfl (by kernel_rfl) (by kernel_rfl) (by kernel_rfl) (by kernel_rfl)
    (opensW_of (opens_bool Try.underlying4)) (opensW_of (opens_int Try.underlying22)) (opensW_slice Try.underlying31 (by kernel_rfl) (opensW_of (opens_int Try.underlying5)))
set_option maxRecDepth 100000 in
theorem lifted (os : Os) (started : os.Started) (H : Type) (enc : TypeId × Value → H) :
    ReturnsInHanded {} Try.checked os 6 .any (Rows.intakePlaysSpec.pre6 enc Try.prog Try.f6 Rows.intakePlaysRow.domain false) (Rows.intakePlaysSpec.post enc Try.prog Try.f6 false true false false) := by
  refine returnsInHanded_of_change_sized (C := Try.checked) own started (by kernel_rfl) Try.func6
    (ChangeSpec.witness6 (enc := enc) (C := Try.checked) false ⟨#[], #[.int .i64 0, .int .u16 0, .slice none 0 0], []⟩ 8 (by kernel_rfl) (by kernel_rfl) (by kernel_rfl) (by kernel_rfl)) ?_
  intro W base args ds gs before hval0 hW hcnd hsz0 _
  have hsz : (DataW.weightsEach Try.prog (Try.f6.params.toList ++ Rows.intakePlaysSpec.plain.varTypes Try.prog) (ds ++ gs)).all (· ≤ reachBytes) = true := hsz0
  have hval : ∀ (j : Nat) t v, Try.f6.params[j]? = some t → args[j]? = some v → Value.okWide Try.prog W .any base t v := hval0
  have hW' := hW
  obtain ⟨p, q, hA0, hV, rfl, hfz, hnd⟩ := hW
  have hA : DataW.TrodAll enc Try.prog W 0 (fun _ => true) true Try.f6.params.toList args.toList ds p := hA0
  rw [Try.params6] at hA hval hsz
  obtain ⟨v0, vs0, d0, ds0, p0, q0, hargs, rfl, rfl, h0, r0⟩ := trodAll_cons hA
  obtain ⟨v1, vs1, d1, ds1, p1, q1, rfl, rfl, rfl, h1, r1⟩ := trodAll_cons r0
  obtain ⟨v2, vs2, d2, ds2, p2, q2, rfl, rfl, rfl, h2, r2⟩ := trodAll_cons r1
  obtain ⟨rfl, rfl, rfl⟩ := trodAll_nil r2
  obtain rfl : args = #[v0, v1, v2] := by cases args; simp_all
  obtain ⟨rfl, rfl⟩ := trodVars_none hV
  obtain ⟨a0, rfl, rfl, rfl, w0⟩ := open_int Try.underlying3 (hval 0 3 v0 rfl rfl) h0
  obtain ⟨a1, rfl, rfl, rfl, w1⟩ := open_int Try.underlying22 (hval 1 22 v1 rfl rfl) h1
  have k2 := h2
  have lt2 : ∀ x ∈ p2, x.block < W.heap.size := by obtain ⟨m, hm⟩ := k2; exact DataW.trod_lt m _ _ _ hm
  obtain ⟨A2, l2, c2, rfl, hc2, hr2, hw2⟩ := arg_sliceW Try.underlying41 (by kernel_rfl) opens47 (hval 2 41 v2 rfl rfl) h2 hsz (j := 2) (t := 41) rfl rfl
  clear hA0 hval0 hsz0 hsz
  refine (PPlays.Plays_walk a0 a1 A2 c2 l2 (u16_wf w1) hc2 (fun o ho => ⟨u16_wf (hw2 o ho).2.1, few_bytes (hw2 o ho).2.2.2.1⟩) W hr2).mono fun e W' ⟨he, bel⟩ => ?_
  subst he
  exact ⟨_, rfl, _, _, _, [], _, [], hW', trodAll_mk1 (shut_bool Try.underlying4 _), (trodAll_cons_mk (shut_int Try.underlying3 w0) (trodAll_cons_mk (shut_int Try.underlying22 w1) (trodAll_cons_mk (Below.trod laidOut (by kernel_rfl) (of_decide_eq_true (by kernel_rfl)) k2 bel lt2) trodAll_mk0))), rfl, bel.frame _, fun h => by cases h⟩
theorem over : Rows.intakePlaysRow.holds Try.pinned (OpenSpec.ofChange Rows.intakePlaysSpec) :=
  OpenClaim.holds_of_wide 6 Try.f6 rfl rfl rfl rfl rfl rfl rfl ⟨rfl, rfl, rfl, rfl, rfl⟩ rfl rfl rfl rfl rfl (by kernel_rfl) Try.func6 (by kernel_rfl)
    (of_decide_eq_true (by kernel_rfl)) (by unfold Func.isWrapper; first | (rw [if_pos (by decide +kernel)]; kernel_rfl) | (rw [if_neg (by decide +kernel)]; exact ⟨rfl, rfl⟩))
    (fun os started H enc _ => lifted os started H enc)
theorem proved : Rows.IntakePlaysSaid := over
#print axioms proved
end Go.Proofs.Ytjigeblechiffaa.intakePlays
namespace Go.Proofs.Ytjigeblechiffaa
/-- The row, under a short name, for the claim. -/
theorem intakePlays_holds : Rows.IntakePlaysSaid := intakePlays.proved
end Go.Proofs.Ytjigeblechiffaa
