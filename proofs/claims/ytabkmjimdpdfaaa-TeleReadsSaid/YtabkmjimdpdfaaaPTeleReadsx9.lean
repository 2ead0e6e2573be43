-- Written by a program of this session (wip/oprint): after the pattern of the kit's print, which does not take this law.
import Derived.Test.YtabkmjimdpdfaaaPTeleReadsx0
import Derived.Test.YtabkmjimdpdfaaaPTeleReadsx1
import Derived.Test.YtabkmjimdpdfaaaPTeleReadsx3
import Derived.Test.YtabkmjimdpdfaaaPTeleReadsx4
import Derived.Test.YtabkmjimdpdfaaaPTeleReadsx5
import Derived.Test.YtabkmjimdpdfaaaPTeleReadsx8
namespace Go.Proofs.Ytabkmjimdpdfaaa.PTeleReads
open Go.RowKit Go.Proofs.YtabkmjimdpdfaaaW.PrintWords Go.Proofs.YtabkmjimdpdfaaaW.PrintLast Go.Proofs.YtabkmjimdpdfaaaW.PrintMore
attribute [local go_sem] max2_int min2_int max_two min_two max_three min_three max_four min_four   -- for this text's walks alone
set_option linter.unusedVariables false
set_option linter.unusedSimpArgs false

attribute [local go_sem high] eqA24
/-! ### stillagelaw02_TeleReads: function 5 -/
def stillagelaw02_TeleReads.j0 : Nat → List Int → Int → Bool → Int → Int → Int → Int → Int → Option (Bool)
  | 0, _, _, _, _, _, _, _, _ => none
  | k + 1, x0, x7, x39, x211000, x211001, x211002, x211003, x211004 => if x39 = true then (some false) else (if x7 = 0 then ((tele_Encode.f k x211000 x211001 x211002 x211003 x211004).bind fun bt218 => (if bt218.2 = 0 then (some ((strOfNums bt218.1).toList == (strOfNums x0).toList)) else (some false))) else (some true))
def stillagelaw02_TeleReads.f (k : Nat) (l0 : List Int) : Option (Bool) := (stillagelaw02_awake.f k).bind fun t197 => (if t197 = true then ((some (([] : List Int) : List Int)).bind fun y198 => (if y198.length + l0.length < 140737488355328 then ((some (y198 ++ l0 : List Int)).bind fun y201 => ((tele_Decode.f k y201).bind fun bt204 => ((stillageref02_Decode.f k l0).bind fun bt211 => (if (!(bt204.1 == bt211.1) || (!(bt204.2.1 == bt211.2.1) || (!(bt204.2.2.1 == bt211.2.2.1) || (!(bt204.2.2.2.1 == bt211.2.2.2.1) || (!(bt204.2.2.2.2.1 == bt211.2.2.2.2.1)))))) = true then (stillagelaw02_TeleReads.j0 k l0 bt211.2.2.2.2.2 true bt204.1 bt204.2.1 bt204.2.2.1 bt204.2.2.2.1 bt204.2.2.2.2.1) else (if bt204.2.2.2.2.2 = bt211.2.2.2.2.2 then (stillagelaw02_TeleReads.j0 k l0 bt211.2.2.2.2.2 ((strOfNums y201).toList != (strOfNums l0).toList) bt204.1 bt204.2.1 bt204.2.2.1 bt204.2.2.2.1 bt204.2.2.2.2.1) else (stillagelaw02_TeleReads.j0 k l0 bt211.2.2.2.2.2 true bt204.1 bt204.2.1 bt204.2.2.1 bt204.2.2.2.1 bt204.2.2.2.2.1)))))) else (none))) else (some false))
theorem stillagelaw02_TeleReads.mono_l : ∀ k, (∀ y0 y1 y2 y3 y4 y5 y6 y7, LeO (stillagelaw02_TeleReads.j0 k y0 y1 y2 y3 y4 y5 y6 y7) (stillagelaw02_TeleReads.j0 (k + 1) y0 y1 y2 y3 y4 y5 y6 y7))
  | 0 => fun _ _ _ _ _ _ _ _ r h => by simp [stillagelaw02_TeleReads.j0] at h
  | k + 1 => by
    have ih0 := stillagelaw02_TeleReads.mono_l k
    · intro y0 y1 y2 y3 y4 y5 y6 y7
      unfold stillagelaw02_TeleReads.j0
      repeat' first
      | (with_reducible exact ih0 _ _ _ _ _ _ _ _)
      | (with_reducible exact stillagelaw02_awake.mono _)
      | (with_reducible exact stillageref02_Decode.mono _ _)
      | (with_reducible exact tele_Decode.mono _ _)
      | (with_reducible exact tele_Encode.mono _ _ _ _ _ _)
      | (with_reducible exact LeO.refl _)
      | (with_reducible exact LeO.none _)
      | (with_reducible refine LeO.ite ?_ ?_)
      | (with_reducible refine LeO.bind ?_ (fun _ => ?_))
      | exact ih0 _ _ _ _ _ _ _ _
      | exact stillagelaw02_awake.mono _
      | exact stillageref02_Decode.mono _ _
      | exact tele_Decode.mono _ _
      | exact tele_Encode.mono _ _ _ _ _ _
      | exact LeO.none _
      | refine LeO.ite ?_ ?_
      | refine LeO.bind ?_ (fun _ => ?_)
theorem stillagelaw02_TeleReads.mono : ∀ a0 k, LeO (stillagelaw02_TeleReads.f k a0) (stillagelaw02_TeleReads.f (k + 1) a0) := by
  intro a0 k
  have ih0 := stillagelaw02_TeleReads.mono_l k
  unfold stillagelaw02_TeleReads.f
  repeat' first
      | (with_reducible exact ih0 _ _ _ _ _ _ _ _)
      | (with_reducible exact stillagelaw02_awake.mono _)
      | (with_reducible exact stillageref02_Decode.mono _ _)
      | (with_reducible exact tele_Decode.mono _ _)
      | (with_reducible exact tele_Encode.mono _ _ _ _ _ _)
      | (with_reducible exact LeO.refl _)
      | (with_reducible exact LeO.none _)
      | (with_reducible refine LeO.ite ?_ ?_)
      | (with_reducible refine LeO.bind ?_ (fun _ => ?_))
      | exact ih0 _ _ _ _ _ _ _ _
      | exact stillagelaw02_awake.mono _
      | exact stillageref02_Decode.mono _ _
      | exact tele_Decode.mono _ _
      | exact tele_Encode.mono _ _ _ _ _ _
      | exact LeO.none _
      | refine LeO.ite ?_ ?_
      | refine LeO.bind ?_ (fun _ => ?_)
set_option maxHeartbeats 8000000 in
set_option maxRecDepth 100000 in
theorem stillagelaw02_TeleReads.calls (k : Nat) (A0 : Option Addr) (c0 : Nat) (l0 : List Int) (r : Bool) (w : World) (hr0 : Kd.C (Kd.int .u8) w A0 l0.length l0) (hc0 : l0.length ≤ c0) (h : stillagelaw02_TeleReads.f k l0 = some r) :
    Calls Try.prog 5 #[.slice A0 l0.length c0] w fun e w' => e = .returned (.bool r) ∧ Below w.heap.size w w' := by
  have hu24 := Try.underlying24
  have HR0 := Aside0.mk hr0
  have HC0 := Aside0.mk hc0
  clear hr0 hc0
  have HB := Aside0.mk (Below.refl w.heap.size w)
  have H : ((stillagelaw02_awake.f k).bind fun t197 => (if t197 = true then ((some (([] : List Int) : List Int)).bind fun y198 => (if y198.length + l0.length < 140737488355328 then ((some (y198 ++ l0 : List Int)).bind fun y201 => ((tele_Decode.f k y201).bind fun bt204 => ((stillageref02_Decode.f k l0).bind fun bt211 => (if (!(bt204.1 == bt211.1) || (!(bt204.2.1 == bt211.2.1) || (!(bt204.2.2.1 == bt211.2.2.1) || (!(bt204.2.2.2.1 == bt211.2.2.2.1) || (!(bt204.2.2.2.2.1 == bt211.2.2.2.2.1)))))) = true then (stillagelaw02_TeleReads.j0 k l0 bt211.2.2.2.2.2 true bt204.1 bt204.2.1 bt204.2.2.1 bt204.2.2.2.1 bt204.2.2.2.2.1) else (if bt204.2.2.2.2.2 = bt211.2.2.2.2.2 then (stillagelaw02_TeleReads.j0 k l0 bt211.2.2.2.2.2 ((strOfNums y201).toList != (strOfNums l0).toList) bt204.1 bt204.2.1 bt204.2.2.1 bt204.2.2.2.1 bt204.2.2.2.2.1) else (stillagelaw02_TeleReads.j0 k l0 bt211.2.2.2.2.2 true bt204.1 bt204.2.1 bt204.2.2.1 bt204.2.2.2.1 bt204.2.2.2.2.1)))))) else (none))) else (some false))) = some r := h
  clear h
  replace H := Option.bind_eq_some_iff.mp H
  obtain ⟨t197, A20, H⟩ := H
  replace H : (if t197 = true then ((some (([] : List Int) : List Int)).bind fun y198 => (if y198.length + l0.length < 140737488355328 then ((some (y198 ++ l0 : List Int)).bind fun y201 => ((tele_Decode.f k y201).bind fun bt204 => ((stillageref02_Decode.f k l0).bind fun bt211 => (if (!(bt204.1 == bt211.1) || (!(bt204.2.1 == bt211.2.1) || (!(bt204.2.2.1 == bt211.2.2.1) || (!(bt204.2.2.2.1 == bt211.2.2.2.1) || (!(bt204.2.2.2.2.1 == bt211.2.2.2.2.1)))))) = true then (stillagelaw02_TeleReads.j0 k l0 bt211.2.2.2.2.2 true bt204.1 bt204.2.1 bt204.2.2.1 bt204.2.2.2.1 bt204.2.2.2.2.1) else (if bt204.2.2.2.2.2 = bt211.2.2.2.2.2 then (stillagelaw02_TeleReads.j0 k l0 bt211.2.2.2.2.2 ((strOfNums y201).toList != (strOfNums l0).toList) bt204.1 bt204.2.1 bt204.2.2.1 bt204.2.2.2.1 bt204.2.2.2.2.1) else (stillagelaw02_TeleReads.j0 k l0 bt211.2.2.2.2.2 true bt204.1 bt204.2.1 bt204.2.2.1 bt204.2.2.2.1 bt204.2.2.2.2.1)))))) else (none))) else (some false)) = some r := H
  have A2 := Aside0.mk A20
  clear A20
  by_cases c3 : t197 = true
  · subst c3
    have H1 : ((some (([] : List Int) : List Int)).bind fun y198 => (if y198.length + l0.length < 140737488355328 then ((some (y198 ++ l0 : List Int)).bind fun y201 => ((tele_Decode.f k y201).bind fun bt204 => ((stillageref02_Decode.f k l0).bind fun bt211 => (if (!(bt204.1 == bt211.1) || (!(bt204.2.1 == bt211.2.1) || (!(bt204.2.2.1 == bt211.2.2.1) || (!(bt204.2.2.2.1 == bt211.2.2.2.1) || (!(bt204.2.2.2.2.1 == bt211.2.2.2.2.1)))))) = true then (stillagelaw02_TeleReads.j0 k l0 bt211.2.2.2.2.2 true bt204.1 bt204.2.1 bt204.2.2.1 bt204.2.2.2.1 bt204.2.2.2.2.1) else (if bt204.2.2.2.2.2 = bt211.2.2.2.2.2 then (stillagelaw02_TeleReads.j0 k l0 bt211.2.2.2.2.2 ((strOfNums y201).toList != (strOfNums l0).toList) bt204.1 bt204.2.1 bt204.2.2.1 bt204.2.2.2.1 bt204.2.2.2.2.1) else (stillagelaw02_TeleReads.j0 k l0 bt211.2.2.2.2.2 true bt204.1 bt204.2.1 bt204.2.2.1 bt204.2.2.2.1 bt204.2.2.2.2.1)))))) else (none))) = some r := by rw [if_pos rfl] at H; exact H
    clear H
    have H := H1
    clear H1
    obtain ⟨y198, hy198⟩ : ∃ y_ : List Int, y_ = (([] : List Int)) := ⟨_, rfl⟩
    replace H : (if y198.length + l0.length < 140737488355328 then ((some (y198 ++ l0 : List Int)).bind fun y201 => ((tele_Decode.f k y201).bind fun bt204 => ((stillageref02_Decode.f k l0).bind fun bt211 => (if (!(bt204.1 == bt211.1) || (!(bt204.2.1 == bt211.2.1) || (!(bt204.2.2.1 == bt211.2.2.1) || (!(bt204.2.2.2.1 == bt211.2.2.2.1) || (!(bt204.2.2.2.2.1 == bt211.2.2.2.2.1)))))) = true then (stillagelaw02_TeleReads.j0 k l0 bt211.2.2.2.2.2 true bt204.1 bt204.2.1 bt204.2.2.1 bt204.2.2.2.1 bt204.2.2.2.2.1) else (if bt204.2.2.2.2.2 = bt211.2.2.2.2.2 then (stillagelaw02_TeleReads.j0 k l0 bt211.2.2.2.2.2 ((strOfNums y201).toList != (strOfNums l0).toList) bt204.1 bt204.2.1 bt204.2.2.1 bt204.2.2.2.1 bt204.2.2.2.2.1) else (stillagelaw02_TeleReads.j0 k l0 bt211.2.2.2.2.2 true bt204.1 bt204.2.1 bt204.2.2.1 bt204.2.2.2.1 bt204.2.2.2.2.1)))))) else (none)) = some r := by first | (rw [hy198]; with_reducible exact H) | (have H2_ := (Option.bind_some _ _).symm.trans H; rw [hy198]; with_reducible exact H2_) | (have H2_ := (Option.bind_some _ _).symm.trans H; with_reducible exact H2_) | with_reducible exact H | (rw [hy198]; exact H) | exact H
    have Ny198 := Aside0.mk hy198
    clear hy198
    by_cases c4 : y198.length + l0.length < 140737488355328
    · rw [if_pos c4] at H
      have LMc4 := Aside0.mk c4
      clear c4
      obtain ⟨y201, hy201⟩ : ∃ y_ : List Int, y_ = (y198 ++ l0) := ⟨_, rfl⟩
      replace H : ((tele_Decode.f k y201).bind fun bt204 => ((stillageref02_Decode.f k l0).bind fun bt211 => (if (!(bt204.1 == bt211.1) || (!(bt204.2.1 == bt211.2.1) || (!(bt204.2.2.1 == bt211.2.2.1) || (!(bt204.2.2.2.1 == bt211.2.2.2.1) || (!(bt204.2.2.2.2.1 == bt211.2.2.2.2.1)))))) = true then (stillagelaw02_TeleReads.j0 k l0 bt211.2.2.2.2.2 true bt204.1 bt204.2.1 bt204.2.2.1 bt204.2.2.2.1 bt204.2.2.2.2.1) else (if bt204.2.2.2.2.2 = bt211.2.2.2.2.2 then (stillagelaw02_TeleReads.j0 k l0 bt211.2.2.2.2.2 ((strOfNums y201).toList != (strOfNums l0).toList) bt204.1 bt204.2.1 bt204.2.2.1 bt204.2.2.2.1 bt204.2.2.2.2.1) else (stillagelaw02_TeleReads.j0 k l0 bt211.2.2.2.2.2 true bt204.1 bt204.2.1 bt204.2.2.1 bt204.2.2.2.1 bt204.2.2.2.2.1))))) = some r := by first | (rw [hy201]; with_reducible exact H) | (have H2_ := (Option.bind_some _ _).symm.trans H; rw [hy201]; with_reducible exact H2_) | (have H2_ := (Option.bind_some _ _).symm.trans H; with_reducible exact H2_) | with_reducible exact H | (rw [hy201]; exact H) | exact H
      have Ny201 := Aside0.mk hy201
      clear hy201
      replace H := Option.bind_eq_some_iff.mp H
      obtain ⟨⟨t204, t205, t206, t207, t208, t209⟩, A50, H⟩ := H
      replace H : ((stillageref02_Decode.f k l0).bind fun bt211 => (if (!(t204 == bt211.1) || (!(t205 == bt211.2.1) || (!(t206 == bt211.2.2.1) || (!(t207 == bt211.2.2.2.1) || (!(t208 == bt211.2.2.2.2.1)))))) = true then (stillagelaw02_TeleReads.j0 k l0 bt211.2.2.2.2.2 true t204 t205 t206 t207 t208) else (if t209 = bt211.2.2.2.2.2 then (stillagelaw02_TeleReads.j0 k l0 bt211.2.2.2.2.2 ((strOfNums y201).toList != (strOfNums l0).toList) t204 t205 t206 t207 t208) else (stillagelaw02_TeleReads.j0 k l0 bt211.2.2.2.2.2 true t204 t205 t206 t207 t208)))) = some r := H
      have A5 := Aside0.mk A50
      clear A50
      replace H := Option.bind_eq_some_iff.mp H
      obtain ⟨⟨t211, t212, t213, t214, t215, t216⟩, A60, H⟩ := H
      replace H : (if (!(t204 == t211) || (!(t205 == t212) || (!(t206 == t213) || (!(t207 == t214) || (!(t208 == t215)))))) = true then (stillagelaw02_TeleReads.j0 k l0 t216 true t204 t205 t206 t207 t208) else (if t209 = t216 then (stillagelaw02_TeleReads.j0 k l0 t216 ((strOfNums y201).toList != (strOfNums l0).toList) t204 t205 t206 t207 t208) else (stillagelaw02_TeleReads.j0 k l0 t216 true t204 t205 t206 t207 t208))) = some r := H
      have A6 := Aside0.mk A60
      clear A60
      have HC7 := Aside0.mk H
      clear H
      go_enter Try.func5, Try.ntmps5
      go_upto_region 6 with (first | ((with_reducible refine gate_callee (f := 11) rfl ?_); refine goesL_ (some 10) rfl rfl Try.func11 (by kernel_rfl) rfl #[] rfl (by (try simp only [List.map_toArray, List.map_cons, List.map_nil]); first | done | rfl | (simp only [List.length_drop, List.length_take]; rfl)) ?_; (with_reducible refine (stillagelaw02_awake.calls k  true _ A2.out).mono ?_); rintro e w8 ⟨rfl, hb⟩; refine ⟨_, rfl, ?_⟩; have n0_ := Aside0.mk (below_step (by repeat (first | (with_reducible first | exact HB.out | apply below_alloc | apply pw_below_drewN | apply below_drew1) | exact HB.out)) hb); clear HB; have HB := n0_; clear n0_; (try clear hb); (try clear hb2); (try clear hk); (try clear hi)) | ((with_reducible refine gate_dst (N := 12) rfl ?_); refine Kd.R_lit (Kd.int .u8) _ 5 ?hg (N := 12) ?hd (xs := ([] : List Int)) (inner := []) (ok := fun _ => True) (okp := fun _ => True) ?hr ?hp (fun _ hk => hk) trivial (Below.refl _ _) (Nat.le_refl _) (by simp) ?_; (case hd => rfl); (case hg => rfl); (case hr => first | (go_simp; done) | (go_simp; rfl)); (case hp => exact (Reps.none _ _)); intro v199 w9 ho10 hb hg_ hnew_; clear hg_ hnew_; (first | rw [← Ny198.out] at ho10 | (simp only [Int.reduceToNat] at ho10; rw [← Ny198.out] at ho10)); have n0_ := Aside0.mk (Kd.R_lower ho10 (below_size (by repeat (first | (with_reducible first | exact HB.out | apply below_alloc | apply pw_below_drewN | apply below_drew1) | exact HB.out)))); have n1_ := Aside0.mk (below_step (by repeat (first | (with_reducible first | exact HB.out | apply below_alloc | apply pw_below_drewN | apply below_drew1) | exact HB.out)) hb); clear HB; have HO200 := n0_; have HB := n1_; clear n0_ n1_; clear hb ho10) | ((with_reducible refine gate_builtin (b := .append) (xs := #[.tmp 12, .tmp 13]) rfl ?_); at_builtin; refine Kd.R_append_rows (Kd.int .u8) (w0 := w) w.heap.size rfl (.tmp 12) (.tmp 13) 26 5 (.int .u8 0) 1 rfl Try.underlying26 info5 rfl (by decide) (by omega) v199 y198 l0 _ _ _ (fun _ => True) (fun _ => False) rfl rfl ?aO ?aR (fun _ _ h => h) (fun _ h => h.elim) ?aF ?aB ?aS ?aL ?_; (case aR => repeat (first | exact (Kd.C_below HR0.out HB.out) | (with_reducible refine Kd.C_alloc ?_ _) | (with_reducible refine Kd.C_drewN ?_ _) | (with_reducible refine Kd.C_drew ?_))); (case aB => exact (by repeat (first | (with_reducible first | exact HB.out | apply below_alloc | apply pw_below_drewN | apply below_drew1) | exact HB.out))); (case aF => exact (fun _ _ => trivial)); (case aO => exact (by (with_reducible repeat (first | apply Kd.R_alloc | apply Kd.R_drewN | apply Kd.R_drew)); exact HO200.out)); (case aS => exact (below_size (by repeat (first | (with_reducible first | exact HB.out | apply below_alloc | apply pw_below_drewN | apply below_drew1) | exact HB.out)))); (case aL => have := LMc4.out; omega); intro v202 w11 ho hb hg hat; rw [← Ny201.out] at ho; have n0_ := Aside0.mk (hb); have n1_ := Aside0.mk (ho); clear HB; clear HO200; have HB := n0_; have HO203 := n1_; clear n0_ n1_; clear ho hb hg hat; obtain ⟨Ao12, co12, eo12⟩ := Kd.R_slice HO203.out; subst eo12) | ((with_reducible refine gate_callee (f := 15) rfl ?_); refine goesL_ (some 17) rfl rfl Try.func15 (by kernel_rfl) rfl #[.slice Ao12 y201.length co12] rfl (by (try simp only [List.map_toArray, List.map_cons, List.map_nil]); first | done | rfl | (simp only [List.length_drop, List.length_take]; rfl)) ?_; (with_reducible refine (tele_Decode.calls k _ _ y201 t204 t205 t206 t207 t208 t209 _ ?side1 ?side2 A5.out).mono ?_); (case side1 => repeat (first | exact (Kd.R_reads' HO203.out).2.2 | (with_reducible refine Kd.C_alloc ?_ _) | (with_reducible refine Kd.C_drewN ?_ _) | (with_reducible refine Kd.C_drew ?_))); (case side2 => exact (Kd.R_reads' HO203.out).2.1); rintro e w13 ⟨rfl, hb⟩; refine ⟨_, rfl, ?_⟩; have n0_ := Aside0.mk (Kd.R_below (by (with_reducible repeat (first | apply Kd.R_alloc | apply Kd.R_drewN | apply Kd.R_drew)); exact HO203.out) hb); have n1_ := Aside0.mk (below_step (by repeat (first | (with_reducible first | exact HB.out | apply below_alloc | apply pw_below_drewN | apply below_drew1) | exact HB.out)) hb); clear HO203; clear HB; have HO203 := n0_; have HB := n1_; clear n0_ n1_; (try clear hb); (try clear hb2); (try clear hk); (try clear hi)) | ((with_reducible refine gate_dst (N := 4) rfl ?_); refine box_event ?hg (N := 4) ?hd (cs := #[.int .u8 0, .int .u16 0, .int .u16 0, .int .u16 0, .int .u16 0]) (t := 24) ?hr ?_; (case hd => rfl); (case hg => rfl); (case hr => first | (go_simp; done) | (go_simp; rfl)); intro gb210 hg w14 hbox hb; have n0_ := Aside0.mk (Kd.R_below (by (with_reducible repeat (first | apply Kd.R_alloc | apply Kd.R_drewN | apply Kd.R_drew)); exact HO203.out) hb); have n1_ := Aside0.mk (below_step (by repeat (first | (with_reducible first | exact HB.out | apply below_alloc | apply pw_below_drewN | apply below_drew1) | exact HB.out)) hb); have n2_ := Aside0.mk (hbox); have n3_ := Aside0.mk ((by rw [hg]; exact (below_size (by repeat (first | (with_reducible first | exact HB.out | apply below_alloc | apply pw_below_drewN | apply below_drew1) | exact HB.out))) : w.heap.size ≤ gb210)); have n4_ := Aside0.mk ((by rw [hg]; exact (below_size (by repeat (first | (with_reducible first | exact HB.out | apply below_alloc | apply pw_below_drewN | apply below_drew1) | exact HB.out))) : w.heap.size ≤ gb210)); clear HO203; clear HB; have HO203 := n0_; have HB := n1_; have BK210 := n2_; have GW210 := n3_; have GE210 := n4_; clear n0_ n1_ n2_ n3_ n4_; clear hb hbox hg; have hcz15_0 : w14.cell? ⟨gb210, 0, none⟩ = some (.int .u8 0) := (blk_cell BK210.out 0).trans rfl; have hcz15_1 : w14.cell? ⟨gb210, 1, none⟩ = some (.int .u16 0) := (blk_cell BK210.out 1).trans rfl; have hcz15_2 : w14.cell? ⟨gb210, 2, none⟩ = some (.int .u16 0) := (blk_cell BK210.out 2).trans rfl; have hcz15_3 : w14.cell? ⟨gb210, 3, none⟩ = some (.int .u16 0) := (blk_cell BK210.out 3).trans rfl; have hcz15_4 : w14.cell? ⟨gb210, 4, none⟩ = some (.int .u16 0) := (blk_cell BK210.out 4).trans rfl; have hfz15_0 := blk_frozen BK210.out 0; have hfz15_1 := blk_frozen BK210.out 1; have hfz15_2 := blk_frozen BK210.out 2; have hfz15_3 := blk_frozen BK210.out 3; have hfz15_4 := blk_frozen BK210.out 4) | ((with_reducible refine gate_callee (f := 17) rfl ?_); refine goesL_ (some 22) rfl rfl Try.func17 (by kernel_rfl) rfl #[.slice A0 l0.length c0] rfl (by (try simp only [List.map_toArray, List.map_cons, List.map_nil]); first | done | rfl | (simp only [List.length_drop, List.length_take]; rfl)) ?_; (with_reducible refine (stillageref02_Decode.calls k _ _ l0 t211 t212 t213 t214 t215 t216 _ ?side1 ?side2 A6.out).mono ?_); (case side1 => exact Kd.C_below HR0.out (by repeat (first | (with_reducible first | exact HB.out | apply below_alloc | apply pw_below_drewN | apply below_drew1 | refine below_set ?_ GE210.out) | exact HB.out))); (case side2 => exact HC0.out); rintro e w16 ⟨rfl, hb⟩; refine ⟨_, rfl, ?_⟩; have n0_ := Aside0.mk (Kd.R_below (by (with_reducible repeat (first | apply Kd.R_alloc | apply Kd.R_drewN | apply Kd.R_drew)); exact (Kd.R_mono (Kd.R_far (p := ⟨gb210, 4, none⟩) (Kd.R_far (p := ⟨gb210, 3, none⟩) (Kd.R_far (p := ⟨gb210, 2, none⟩) (Kd.R_far (p := ⟨gb210, 1, none⟩) (Kd.R_far (p := ⟨gb210, 0, none⟩) (Kd.R_types HO203.out BK210.out (by decide)) (fun _ hk => hk.2) (.int .u8 t204)) (fun _ hk => hk.2) (.int .u16 t205)) (fun _ hk => hk.2) (.int .u16 t206)) (fun _ hk => hk.2) (.int .u16 t207)) (fun _ hk => hk.2) (.int .u16 t208)) (fun _ h_ => h_.1))) hb); have n1_ := Aside0.mk (blk_below (g := gb210) (o := .cells #[.int .u8 t204, .int .u16 t205, .int .u16 t206, .int .u16 t207, .int .u16 t208] 24 (0, 0)) (by (with_reducible repeat (first | refine blk_drewN ?_ _ | refine blk_drew ?_ | refine blk_alloc ?_ _)); refine blk_put (cs := #[.int .u8 t204, .int .u16 t205, .int .u16 t206, .int .u16 t207, .int .u16 0]) ?_ 4 _ rfl; (with_reducible repeat (first | refine blk_drewN ?_ _ | refine blk_drew ?_ | refine blk_alloc ?_ _)); refine blk_put (cs := #[.int .u8 t204, .int .u16 t205, .int .u16 t206, .int .u16 0, .int .u16 0]) ?_ 3 _ rfl; (with_reducible repeat (first | refine blk_drewN ?_ _ | refine blk_drew ?_ | refine blk_alloc ?_ _)); refine blk_put (cs := #[.int .u8 t204, .int .u16 t205, .int .u16 0, .int .u16 0, .int .u16 0]) ?_ 2 _ rfl; (with_reducible repeat (first | refine blk_drewN ?_ _ | refine blk_drew ?_ | refine blk_alloc ?_ _)); refine blk_put (cs := #[.int .u8 t204, .int .u16 0, .int .u16 0, .int .u16 0, .int .u16 0]) ?_ 1 _ rfl; (with_reducible repeat (first | refine blk_drewN ?_ _ | refine blk_drew ?_ | refine blk_alloc ?_ _)); refine blk_put (cs := #[.int .u8 0, .int .u16 0, .int .u16 0, .int .u16 0, .int .u16 0]) ?_ 0 _ rfl; (with_reducible repeat (first | refine blk_drewN ?_ _ | refine blk_drew ?_ | refine blk_alloc ?_ _)); exact BK210.out) hb); have n2_ := Aside0.mk (below_step (by repeat (first | (with_reducible first | exact HB.out | apply below_alloc | apply pw_below_drewN | apply below_drew1 | refine below_set ?_ GE210.out) | exact HB.out)) hb); clear HO203; clear BK210; clear HB; have HO203 := n0_; have BK210 := n1_; have HB := n2_; clear n0_ n1_ n2_; (try clear hb); (try clear hb2); (try clear hk); (try clear hi)) | ((with_reducible refine gate_dst (N := 6) rfl ?_); refine box_event ?hg (N := 6) ?hd (cs := #[.int .u8 0, .int .u16 0, .int .u16 0, .int .u16 0, .int .u16 0]) (t := 24) ?hr ?_; (case hd => rfl); (case hg => rfl); (case hr => first | (go_simp; done) | (go_simp; rfl)); intro gb217 hg w17 hbox hb; have n0_ := Aside0.mk (Kd.R_below (by (with_reducible repeat (first | apply Kd.R_alloc | apply Kd.R_drewN | apply Kd.R_drew)); exact HO203.out) hb); have n1_ := Aside0.mk (blk_below (g := gb210) (o := .cells #[.int .u8 t204, .int .u16 t205, .int .u16 t206, .int .u16 t207, .int .u16 t208] 24 (0, 0)) (by (with_reducible repeat (first | refine blk_drewN ?_ _ | refine blk_drew ?_ | refine blk_alloc ?_ _)); exact BK210.out) hb); have n2_ := Aside0.mk (below_step (by repeat (first | (with_reducible first | exact HB.out | apply below_alloc | apply pw_below_drewN | apply below_drew1 | refine below_set ?_ GE210.out) | exact HB.out)) hb); have n3_ := Aside0.mk (hbox); have n4_ := Aside0.mk ((by rw [hg]; exact (below_size (by repeat (first | (with_reducible first | exact HB.out | apply below_alloc | apply pw_below_drewN | apply below_drew1 | refine below_set ?_ GE210.out) | exact HB.out))) : w.heap.size ≤ gb217)); have n5_ := Aside0.mk ((by rw [hg]; exact (below_size (by repeat (first | (with_reducible first | exact HB.out | apply below_alloc | apply pw_below_drewN | apply below_drew1 | refine below_set ?_ GE210.out) | exact HB.out))) : w.heap.size ≤ gb217)); have n6_ := Aside0.mk ((by rw [hg]; exact Nat.ne_of_lt (blk_lt (g := gb210) (o := .cells #[.int .u8 t204, .int .u16 t205, .int .u16 t206, .int .u16 t207, .int .u16 t208] 24 (0, 0)) (by (with_reducible repeat (first | refine blk_drewN ?_ _ | refine blk_drew ?_ | refine blk_alloc ?_ _)); exact BK210.out)) : gb210 ≠ gb217)); have n7_ := Aside0.mk ((by rw [hg]; exact Nat.ne_of_gt (blk_lt (g := gb210) (o := .cells #[.int .u8 t204, .int .u16 t205, .int .u16 t206, .int .u16 t207, .int .u16 t208] 24 (0, 0)) (by (with_reducible repeat (first | refine blk_drewN ?_ _ | refine blk_drew ?_ | refine blk_alloc ?_ _)); exact BK210.out)) : gb217 ≠ gb210)); clear HO203; clear BK210; clear HB; have HO203 := n0_; have BK210 := n1_; have HB := n2_; have BK217 := n3_; have GW217 := n4_; have GE217 := n5_; have NB210_217 := n6_; have NB217_210 := n7_; clear n0_ n1_ n2_ n3_ n4_ n5_ n6_ n7_; clear hb hbox hg; have hnb18 := NB217_210.out; have hnc18 := NB210_217.out; have hcz19_0 : w17.cell? ⟨gb217, 0, none⟩ = some (.int .u8 0) := (blk_cell BK217.out 0).trans rfl; have hcz19_1 : w17.cell? ⟨gb217, 1, none⟩ = some (.int .u16 0) := (blk_cell BK217.out 1).trans rfl; have hcz19_2 : w17.cell? ⟨gb217, 2, none⟩ = some (.int .u16 0) := (blk_cell BK217.out 2).trans rfl; have hcz19_3 : w17.cell? ⟨gb217, 3, none⟩ = some (.int .u16 0) := (blk_cell BK217.out 3).trans rfl; have hcz19_4 : w17.cell? ⟨gb217, 4, none⟩ = some (.int .u16 0) := (blk_cell BK217.out 4).trans rfl; have hfz19_0 := blk_frozen BK217.out 0; have hfz19_1 := blk_frozen BK217.out 1; have hfz19_2 := blk_frozen BK217.out 2; have hfz19_3 := blk_frozen BK217.out 3; have hfz19_4 := blk_frozen BK217.out 4))
      (try simp only [Act.put, List.setIfInBounds_toArray, List.set_cons_zero, List.set_cons_succ])
      go_cut [39] (fun v39 wc => ∃ (kq : Nat) (x39_6 : Bool), v39 = .bool x39_6 ∧ Aside0 (stillagelaw02_TeleReads.j0 kq l0 t216 x39_6 t204 t205 t206 t207 t208 = some r) ∧ Aside0 (kq ≤ k) ∧ Aside0 (wc.heap[gb210]? = some (.cells #[.int .u8 t204, .int .u16 t205, .int .u16 t206, .int .u16 t207, .int .u16 t208] 24 (0, 0))) ∧ Aside0 (wc.heap[gb217]? = some (.cells #[.int .u8 t211, .int .u16 t212, .int .u16 t213, .int .u16 t214, .int .u16 t215] 24 (0, 0))) ∧ Aside0 (Below w.heap.size w wc))
      case first =>
        have H := HC7.out
        clear HC7
        by_cases c20 : (!(t204 == t211) || (!(t205 == t212) || (!(t206 == t213) || (!(t207 == t214) || (!(t208 == t215)))))) = true
        · rw [if_pos c20] at H
          have c20b0 : (!(t204 == t211) || (!(t205 == t212) || (!(t206 == t213) || (!(t207 == t214) || (!(t208 == t215)))))) = true := c20
          clear c20
          (first | rw [c20b0] | (simp only [i64_w, i32_w]; rw [c20b0]) | skip)
          have H' := Aside0.mk H
          clear H
          have hnb21 := NB210_217.out
          have hnc21 := NB217_210.out
          have hcz22_0 : w17.cell? ⟨gb210, 0, none⟩ = some (.int .u8 t204) := (blk_cell BK210.out 0).trans rfl
          have hcz22_1 : w17.cell? ⟨gb210, 1, none⟩ = some (.int .u16 t205) := (blk_cell BK210.out 1).trans rfl
          have hcz22_2 : w17.cell? ⟨gb210, 2, none⟩ = some (.int .u16 t206) := (blk_cell BK210.out 2).trans rfl
          have hcz22_3 : w17.cell? ⟨gb210, 3, none⟩ = some (.int .u16 t207) := (blk_cell BK210.out 3).trans rfl
          have hcz22_4 : w17.cell? ⟨gb210, 4, none⟩ = some (.int .u16 t208) := (blk_cell BK210.out 4).trans rfl
          have hfz22_0 := blk_frozen BK210.out 0
          have hfz22_1 := blk_frozen BK210.out 1
          have hfz22_2 := blk_frozen BK210.out 2
          have hfz22_3 := blk_frozen BK210.out 3
          have hfz22_4 := blk_frozen BK210.out 4
          have hcz23_0 : w17.cell? ⟨gb217, 0, none⟩ = some (.int .u8 0) := (blk_cell BK217.out 0).trans rfl
          have hcz23_1 : w17.cell? ⟨gb217, 1, none⟩ = some (.int .u16 0) := (blk_cell BK217.out 1).trans rfl
          have hcz23_2 : w17.cell? ⟨gb217, 2, none⟩ = some (.int .u16 0) := (blk_cell BK217.out 2).trans rfl
          have hcz23_3 : w17.cell? ⟨gb217, 3, none⟩ = some (.int .u16 0) := (blk_cell BK217.out 3).trans rfl
          have hcz23_4 : w17.cell? ⟨gb217, 4, none⟩ = some (.int .u16 0) := (blk_cell BK217.out 4).trans rfl
          have hfz23_0 := blk_frozen BK217.out 0
          have hfz23_1 := blk_frozen BK217.out 1
          have hfz23_2 := blk_frozen BK217.out 2
          have hfz23_3 := blk_frozen BK217.out 3
          have hfz23_4 := blk_frozen BK217.out 4
          go_wp2
          go_meet
          case rel => exact ⟨_, (true), (by first | rfl | (simp; done) | (simp [*]; done)), H', ⟨by first | omega | exact Nat.le_refl _⟩, ⟨by (with_reducible repeat (first | refine blk_drewN ?_ _ | refine blk_drew ?_ | refine blk_alloc ?_ _)); refine blk_far ?_ NB210_217.out _; (with_reducible repeat (first | refine blk_drewN ?_ _ | refine blk_drew ?_ | refine blk_alloc ?_ _)); refine blk_far ?_ NB210_217.out _; (with_reducible repeat (first | refine blk_drewN ?_ _ | refine blk_drew ?_ | refine blk_alloc ?_ _)); refine blk_far ?_ NB210_217.out _; (with_reducible repeat (first | refine blk_drewN ?_ _ | refine blk_drew ?_ | refine blk_alloc ?_ _)); refine blk_far ?_ NB210_217.out _; (with_reducible repeat (first | refine blk_drewN ?_ _ | refine blk_drew ?_ | refine blk_alloc ?_ _)); refine blk_far ?_ NB210_217.out _; (with_reducible repeat (first | refine blk_drewN ?_ _ | refine blk_drew ?_ | refine blk_alloc ?_ _)); exact BK210.out⟩, ⟨by (with_reducible repeat (first | refine blk_drewN ?_ _ | refine blk_drew ?_ | refine blk_alloc ?_ _)); refine blk_put (cs := #[.int .u8 t211, .int .u16 t212, .int .u16 t213, .int .u16 t214, .int .u16 0]) ?_ 4 _ rfl; (with_reducible repeat (first | refine blk_drewN ?_ _ | refine blk_drew ?_ | refine blk_alloc ?_ _)); refine blk_put (cs := #[.int .u8 t211, .int .u16 t212, .int .u16 t213, .int .u16 0, .int .u16 0]) ?_ 3 _ rfl; (with_reducible repeat (first | refine blk_drewN ?_ _ | refine blk_drew ?_ | refine blk_alloc ?_ _)); refine blk_put (cs := #[.int .u8 t211, .int .u16 t212, .int .u16 0, .int .u16 0, .int .u16 0]) ?_ 2 _ rfl; (with_reducible repeat (first | refine blk_drewN ?_ _ | refine blk_drew ?_ | refine blk_alloc ?_ _)); refine blk_put (cs := #[.int .u8 t211, .int .u16 0, .int .u16 0, .int .u16 0, .int .u16 0]) ?_ 1 _ rfl; (with_reducible repeat (first | refine blk_drewN ?_ _ | refine blk_drew ?_ | refine blk_alloc ?_ _)); refine blk_put (cs := #[.int .u8 0, .int .u16 0, .int .u16 0, .int .u16 0, .int .u16 0]) ?_ 0 _ rfl; (with_reducible repeat (first | refine blk_drewN ?_ _ | refine blk_drew ?_ | refine blk_alloc ?_ _)); exact BK217.out⟩, ⟨by repeat (first | (with_reducible first | exact HB.out | apply below_alloc | apply pw_below_drewN | apply below_drew1 | refine below_set ?_ GE210.out | refine below_set ?_ GE217.out) | exact HB.out)⟩⟩
        · rw [if_neg c20] at H
          have c20b0 : (!(t204 == t211) || (!(t205 == t212) || (!(t206 == t213) || (!(t207 == t214) || (!(t208 == t215)))))) = false := by simpa using c20
          clear c20
          (first | rw [c20b0] | (simp only [i64_w, i32_w]; rw [c20b0]) | skip)
          by_cases c24 : t209 = t216
          · rw [if_pos c24] at H
            have c24b0 : (t209 == t216) = true := beq_iff_eq.mpr c24
            have c24b1 : (t209 != t216) = false := bne_eq_false_iff_eq.mpr c24
            clear c24
            have H' := Aside0.mk H
            clear H
            have hnb25 := NB210_217.out
            have hnc25 := NB217_210.out
            have hcz26_0 : w17.cell? ⟨gb210, 0, none⟩ = some (.int .u8 t204) := (blk_cell BK210.out 0).trans rfl
            have hcz26_1 : w17.cell? ⟨gb210, 1, none⟩ = some (.int .u16 t205) := (blk_cell BK210.out 1).trans rfl
            have hcz26_2 : w17.cell? ⟨gb210, 2, none⟩ = some (.int .u16 t206) := (blk_cell BK210.out 2).trans rfl
            have hcz26_3 : w17.cell? ⟨gb210, 3, none⟩ = some (.int .u16 t207) := (blk_cell BK210.out 3).trans rfl
            have hcz26_4 : w17.cell? ⟨gb210, 4, none⟩ = some (.int .u16 t208) := (blk_cell BK210.out 4).trans rfl
            have hfz26_0 := blk_frozen BK210.out 0
            have hfz26_1 := blk_frozen BK210.out 1
            have hfz26_2 := blk_frozen BK210.out 2
            have hfz26_3 := blk_frozen BK210.out 3
            have hfz26_4 := blk_frozen BK210.out 4
            have hcz27_0 : w17.cell? ⟨gb217, 0, none⟩ = some (.int .u8 0) := (blk_cell BK217.out 0).trans rfl
            have hcz27_1 : w17.cell? ⟨gb217, 1, none⟩ = some (.int .u16 0) := (blk_cell BK217.out 1).trans rfl
            have hcz27_2 : w17.cell? ⟨gb217, 2, none⟩ = some (.int .u16 0) := (blk_cell BK217.out 2).trans rfl
            have hcz27_3 : w17.cell? ⟨gb217, 3, none⟩ = some (.int .u16 0) := (blk_cell BK217.out 3).trans rfl
            have hcz27_4 : w17.cell? ⟨gb217, 4, none⟩ = some (.int .u16 0) := (blk_cell BK217.out 4).trans rfl
            have hfz27_0 := blk_frozen BK217.out 0
            have hfz27_1 := blk_frozen BK217.out 1
            have hfz27_2 := blk_frozen BK217.out 2
            have hfz27_3 := blk_frozen BK217.out 3
            have hfz27_4 := blk_frozen BK217.out 4
            have hcv28 := own_string (P := Try.prog) Try.underlying26 Try.underlying5 Try.underlying9 (Kd.own_of_R HO203.out)
            have hcv29 := fun nq_ : Nat => own_string (P := Try.prog) Try.underlying26 Try.underlying5 Try.underlying9 (pw_own_below (Kd.own_of_R HO203.out) (pw_below_drewN (Below.refl _ _) nq_))
            have hcv30 := Kd.C_string (P := Try.prog) (A := A0) (c := c0) Try.underlying26 Try.underlying5 Try.underlying9 (Kd.C_below HR0.out HB.out)
            have hcv31 := fun nq_ : Nat => Kd.C_string (P := Try.prog) (A := A0) (c := c0) Try.underlying26 Try.underlying5 Try.underlying9 (Kd.C_drewN (Kd.C_below HR0.out HB.out) nq_)
            have hcvz32 := fun nq_ : Nat => Kd.C_string (P := Try.prog) (A := A0) (c := c0) Try.underlying26 Try.underlying5 Try.underlying9 (Kd.C_drewN (Kd.C_below HR0.out HB.out) nq_)
            (try simp only [List.length_drop, List.length_take] at hcvz32)
            have hs1 : ∀ (W : World) (i : Nat) (x : Value), Below w.heap.size w W → Below w.heap.size w (W.setCell ⟨gb217, i, none⟩ x) := fun W i x hb => below_set hb GE217.out
            have hs2 : ∀ (x0 x1 x2 x3 x4 : Value), (convert 26 9 (.slice A0 l0.length c0)).run Try.prog (((((w17.setCell ⟨gb217, 0, none⟩ x0).setCell ⟨gb217, 1, none⟩ x1).setCell ⟨gb217, 2, none⟩ x2).setCell ⟨gb217, 3, none⟩ x3).setCell ⟨gb217, 4, none⟩ x4) = .ok (.string (strOfNums l0)) (((((w17.setCell ⟨gb217, 0, none⟩ x0).setCell ⟨gb217, 1, none⟩ x1).setCell ⟨gb217, 2, none⟩ x2).setCell ⟨gb217, 3, none⟩ x3).setCell ⟨gb217, 4, none⟩ x4) := fun x0 x1 x2 x3 x4 => Kd.C_string (P := Try.prog) (A := A0) (c := c0) Try.underlying26 Try.underlying5 Try.underlying9 (Kd.C_below HR0.out (hs1 _ _ _ (hs1 _ _ _ (hs1 _ _ _ (hs1 _ _ _ (hs1 _ _ _ HB.out))))))
            have hp1 := Kd.R_types HO203.out BK217.out (by decide)
            have hp2 : ∀ (W : World) (i : Nat) (x : Value), Kd.R (Kd.int .u8) 5 W w.heap.size (fun k => True ∧ k ≠ gb217) (.slice Ao12 y201.length co12) y201 → Kd.R (Kd.int .u8) 5 (W.setCell ⟨gb217, i, none⟩ x) w.heap.size (fun k => True ∧ k ≠ gb217) (.slice Ao12 y201.length co12) y201 := fun W i x h => Kd.R_far (p := ⟨gb217, i, none⟩) h (fun k hk => hk.2) x
            have hp5 : ∀ (x0 x1 x2 x3 x4 : Value), (convert 26 9 (.slice Ao12 y201.length co12)).run Try.prog (((((w17.setCell ⟨gb217, 0, none⟩ x0).setCell ⟨gb217, 1, none⟩ x1).setCell ⟨gb217, 2, none⟩ x2).setCell ⟨gb217, 3, none⟩ x3).setCell ⟨gb217, 4, none⟩ x4) = .ok (.string (strOfNums y201)) (((((w17.setCell ⟨gb217, 0, none⟩ x0).setCell ⟨gb217, 1, none⟩ x1).setCell ⟨gb217, 2, none⟩ x2).setCell ⟨gb217, 3, none⟩ x3).setCell ⟨gb217, 4, none⟩ x4) := fun x0 x1 x2 x3 x4 => own_string (P := Try.prog) Try.underlying26 Try.underlying5 Try.underlying9 (Kd.own_of_R (hp2 _ _ _ (hp2 _ _ _ (hp2 _ _ _ (hp2 _ _ _ (hp2 _ _ _ hp1))))))
            clear hs1 hp1 hp2
            go_wp2
            go_meet
            case rel => exact ⟨_, (((strOfNums y201).toList != (strOfNums l0).toList)), (by first | rfl | (simp; done) | (simp [*]; done)), H', ⟨by first | omega | exact Nat.le_refl _⟩, ⟨by (with_reducible repeat (first | refine blk_drewN ?_ _ | refine blk_drew ?_ | refine blk_alloc ?_ _)); refine blk_far ?_ NB210_217.out _; (with_reducible repeat (first | refine blk_drewN ?_ _ | refine blk_drew ?_ | refine blk_alloc ?_ _)); refine blk_far ?_ NB210_217.out _; (with_reducible repeat (first | refine blk_drewN ?_ _ | refine blk_drew ?_ | refine blk_alloc ?_ _)); refine blk_far ?_ NB210_217.out _; (with_reducible repeat (first | refine blk_drewN ?_ _ | refine blk_drew ?_ | refine blk_alloc ?_ _)); refine blk_far ?_ NB210_217.out _; (with_reducible repeat (first | refine blk_drewN ?_ _ | refine blk_drew ?_ | refine blk_alloc ?_ _)); refine blk_far ?_ NB210_217.out _; (with_reducible repeat (first | refine blk_drewN ?_ _ | refine blk_drew ?_ | refine blk_alloc ?_ _)); exact BK210.out⟩, ⟨by (with_reducible repeat (first | refine blk_drewN ?_ _ | refine blk_drew ?_ | refine blk_alloc ?_ _)); refine blk_put (cs := #[.int .u8 t211, .int .u16 t212, .int .u16 t213, .int .u16 t214, .int .u16 0]) ?_ 4 _ rfl; (with_reducible repeat (first | refine blk_drewN ?_ _ | refine blk_drew ?_ | refine blk_alloc ?_ _)); refine blk_put (cs := #[.int .u8 t211, .int .u16 t212, .int .u16 t213, .int .u16 0, .int .u16 0]) ?_ 3 _ rfl; (with_reducible repeat (first | refine blk_drewN ?_ _ | refine blk_drew ?_ | refine blk_alloc ?_ _)); refine blk_put (cs := #[.int .u8 t211, .int .u16 t212, .int .u16 0, .int .u16 0, .int .u16 0]) ?_ 2 _ rfl; (with_reducible repeat (first | refine blk_drewN ?_ _ | refine blk_drew ?_ | refine blk_alloc ?_ _)); refine blk_put (cs := #[.int .u8 t211, .int .u16 0, .int .u16 0, .int .u16 0, .int .u16 0]) ?_ 1 _ rfl; (with_reducible repeat (first | refine blk_drewN ?_ _ | refine blk_drew ?_ | refine blk_alloc ?_ _)); refine blk_put (cs := #[.int .u8 0, .int .u16 0, .int .u16 0, .int .u16 0, .int .u16 0]) ?_ 0 _ rfl; (with_reducible repeat (first | refine blk_drewN ?_ _ | refine blk_drew ?_ | refine blk_alloc ?_ _)); exact BK217.out⟩, ⟨by repeat (first | (with_reducible first | exact HB.out | apply below_alloc | apply pw_below_drewN | apply below_drew1 | refine below_set ?_ GE210.out | refine below_set ?_ GE217.out) | exact HB.out)⟩⟩
          · rw [if_neg c24] at H
            have c24b0 : (t209 == t216) = false := beq_eq_false_iff_ne.mpr c24
            have c24b1 : (t209 != t216) = true := bne_iff_ne.mpr c24
            have H' := Aside0.mk H
            clear H
            have hnb33 := NB210_217.out
            have hnc33 := NB217_210.out
            have hcz34_0 : w17.cell? ⟨gb210, 0, none⟩ = some (.int .u8 t204) := (blk_cell BK210.out 0).trans rfl
            have hcz34_1 : w17.cell? ⟨gb210, 1, none⟩ = some (.int .u16 t205) := (blk_cell BK210.out 1).trans rfl
            have hcz34_2 : w17.cell? ⟨gb210, 2, none⟩ = some (.int .u16 t206) := (blk_cell BK210.out 2).trans rfl
            have hcz34_3 : w17.cell? ⟨gb210, 3, none⟩ = some (.int .u16 t207) := (blk_cell BK210.out 3).trans rfl
            have hcz34_4 : w17.cell? ⟨gb210, 4, none⟩ = some (.int .u16 t208) := (blk_cell BK210.out 4).trans rfl
            have hfz34_0 := blk_frozen BK210.out 0
            have hfz34_1 := blk_frozen BK210.out 1
            have hfz34_2 := blk_frozen BK210.out 2
            have hfz34_3 := blk_frozen BK210.out 3
            have hfz34_4 := blk_frozen BK210.out 4
            have hcz35_0 : w17.cell? ⟨gb217, 0, none⟩ = some (.int .u8 0) := (blk_cell BK217.out 0).trans rfl
            have hcz35_1 : w17.cell? ⟨gb217, 1, none⟩ = some (.int .u16 0) := (blk_cell BK217.out 1).trans rfl
            have hcz35_2 : w17.cell? ⟨gb217, 2, none⟩ = some (.int .u16 0) := (blk_cell BK217.out 2).trans rfl
            have hcz35_3 : w17.cell? ⟨gb217, 3, none⟩ = some (.int .u16 0) := (blk_cell BK217.out 3).trans rfl
            have hcz35_4 : w17.cell? ⟨gb217, 4, none⟩ = some (.int .u16 0) := (blk_cell BK217.out 4).trans rfl
            have hfz35_0 := blk_frozen BK217.out 0
            have hfz35_1 := blk_frozen BK217.out 1
            have hfz35_2 := blk_frozen BK217.out 2
            have hfz35_3 := blk_frozen BK217.out 3
            have hfz35_4 := blk_frozen BK217.out 4
            go_wp2
            go_meet
            case rel => exact ⟨_, (true), (by first | rfl | (simp; done) | (simp [*]; done)), H', ⟨by first | omega | exact Nat.le_refl _⟩, ⟨by (with_reducible repeat (first | refine blk_drewN ?_ _ | refine blk_drew ?_ | refine blk_alloc ?_ _)); refine blk_far ?_ NB210_217.out _; (with_reducible repeat (first | refine blk_drewN ?_ _ | refine blk_drew ?_ | refine blk_alloc ?_ _)); refine blk_far ?_ NB210_217.out _; (with_reducible repeat (first | refine blk_drewN ?_ _ | refine blk_drew ?_ | refine blk_alloc ?_ _)); refine blk_far ?_ NB210_217.out _; (with_reducible repeat (first | refine blk_drewN ?_ _ | refine blk_drew ?_ | refine blk_alloc ?_ _)); refine blk_far ?_ NB210_217.out _; (with_reducible repeat (first | refine blk_drewN ?_ _ | refine blk_drew ?_ | refine blk_alloc ?_ _)); refine blk_far ?_ NB210_217.out _; (with_reducible repeat (first | refine blk_drewN ?_ _ | refine blk_drew ?_ | refine blk_alloc ?_ _)); exact BK210.out⟩, ⟨by (with_reducible repeat (first | refine blk_drewN ?_ _ | refine blk_drew ?_ | refine blk_alloc ?_ _)); refine blk_put (cs := #[.int .u8 t211, .int .u16 t212, .int .u16 t213, .int .u16 t214, .int .u16 0]) ?_ 4 _ rfl; (with_reducible repeat (first | refine blk_drewN ?_ _ | refine blk_drew ?_ | refine blk_alloc ?_ _)); refine blk_put (cs := #[.int .u8 t211, .int .u16 t212, .int .u16 t213, .int .u16 0, .int .u16 0]) ?_ 3 _ rfl; (with_reducible repeat (first | refine blk_drewN ?_ _ | refine blk_drew ?_ | refine blk_alloc ?_ _)); refine blk_put (cs := #[.int .u8 t211, .int .u16 t212, .int .u16 0, .int .u16 0, .int .u16 0]) ?_ 2 _ rfl; (with_reducible repeat (first | refine blk_drewN ?_ _ | refine blk_drew ?_ | refine blk_alloc ?_ _)); refine blk_put (cs := #[.int .u8 t211, .int .u16 0, .int .u16 0, .int .u16 0, .int .u16 0]) ?_ 1 _ rfl; (with_reducible repeat (first | refine blk_drewN ?_ _ | refine blk_drew ?_ | refine blk_alloc ?_ _)); refine blk_put (cs := #[.int .u8 0, .int .u16 0, .int .u16 0, .int .u16 0, .int .u16 0]) ?_ 0 _ rfl; (with_reducible repeat (first | refine blk_drewN ?_ _ | refine blk_drew ?_ | refine blk_alloc ?_ _)); exact BK217.out⟩, ⟨by repeat (first | (with_reducible first | exact HB.out | apply below_alloc | apply pw_below_drewN | apply below_drew1 | refine below_set ?_ GE210.out | refine below_set ?_ GE217.out) | exact HB.out)⟩⟩
      case rest =>
        clear HC7
        try clear c1
        try clear c2
        try clear p2
        try clear hcv2
        try clear c3
        try clear hcv3
        try clear c4
        try clear c5
        try clear c11
        try clear c15
        try clear c17
        try clear c18
        try clear c20
        try clear c20b0
        try clear c21
        try clear c24
        try clear c24b0
        try clear c24b1
        try clear c25
        try clear hcv28
        try clear hcv29
        try clear hcv30
        try clear hcv31
        try clear c33
        try clear hcz15_0
        try clear hcz15_1
        try clear hcz15_2
        try clear hcz15_3
        try clear hcz15_4
        try clear hcz19_0
        try clear hcz19_1
        try clear hcz19_2
        try clear hcz19_3
        try clear hcz19_4
        try clear hcz22_0
        try clear hcz22_1
        try clear hcz22_2
        try clear hcz22_3
        try clear hcz22_4
        try clear hcz23_0
        try clear hcz23_1
        try clear hcz23_2
        try clear hcz23_3
        try clear hcz23_4
        try clear hcz26_0
        try clear hcz26_1
        try clear hcz26_2
        try clear hcz26_3
        try clear hcz26_4
        try clear hcz27_0
        try clear hcz27_1
        try clear hcz27_2
        try clear hcz27_3
        try clear hcz27_4
        try clear hcz34_0
        try clear hcz34_1
        try clear hcz34_2
        try clear hcz34_3
        try clear hcz34_4
        try clear hcz35_0
        try clear hcz35_1
        try clear hcz35_2
        try clear hcz35_3
        try clear hcz35_4
        try clear hfz15_0
        try clear hfz15_1
        try clear hfz15_2
        try clear hfz15_3
        try clear hfz15_4
        try clear hfz19_0
        try clear hfz19_1
        try clear hfz19_2
        try clear hfz19_3
        try clear hfz19_4
        try clear hfz22_0
        try clear hfz22_1
        try clear hfz22_2
        try clear hfz22_3
        try clear hfz22_4
        try clear hfz23_0
        try clear hfz23_1
        try clear hfz23_2
        try clear hfz23_3
        try clear hfz23_4
        try clear hfz26_0
        try clear hfz26_1
        try clear hfz26_2
        try clear hfz26_3
        try clear hfz26_4
        try clear hfz27_0
        try clear hfz27_1
        try clear hfz27_2
        try clear hfz27_3
        try clear hfz27_4
        try clear hfz34_0
        try clear hfz34_1
        try clear hfz34_2
        try clear hfz34_3
        try clear hfz34_4
        try clear hfz35_0
        try clear hfz35_1
        try clear hfz35_2
        try clear hfz35_3
        try clear hfz35_4
        obtain ⟨kq, x39_6, rfl, HA, HJ6, BK210, BK217, HB⟩ := hcut
        cases kq with
        | zero => exact absurd HA.out (by simp [stillagelaw02_TeleReads.j0])
        | succ kj6 =>
          have H := HA.out
          clear HA
          simp only [stillagelaw02_TeleReads.j0] at H
          by_cases c36 : x39_6 = true
          · subst c36
            have H1 : (some false) = some r := by rw [if_pos rfl] at H; exact H
            clear H
            have H := H1
            clear H1
            obtain rfl := Option.some.inj H
            go_wp2
            go_ret
            exact ⟨by first | rfl | (simp [errW_none, errW_some] <;> rfl) | (simp [*, errW_none, errW_some] <;> rfl), by repeat (first | (with_reducible first | exact HB.out | apply below_alloc | apply pw_below_drewN | apply below_drew1 | refine below_set ?_ GE210.out | refine below_set ?_ GE217.out) | exact HB.out)⟩
          · replace c36 := Bool.eq_false_iff.mpr c36
            subst c36
            have H1 : (if t216 = 0 then ((tele_Encode.f kj6 t204 t205 t206 t207 t208).bind fun bt218 => (if bt218.2 = 0 then (some ((strOfNums bt218.1).toList == (strOfNums l0).toList)) else (some false))) else (some true)) = some r := by rw [if_neg (show ¬ (false = true) by decide)] at H; exact H
            clear H
            have H := H1
            clear H1
            by_cases c37 : t216 = 0
            · rw [if_pos c37] at H
              have c37b0 : (t216 == 0) = true := beq_iff_eq.mpr c37
              have c37b1 : (t216 != 0) = false := bne_eq_false_iff_eq.mpr c37
              clear c37
              replace H := Option.bind_eq_some_iff.mp H
              obtain ⟨⟨t218, t221⟩, A380, H⟩ := H
              replace H : (if t221 = 0 then (some ((strOfNums t218).toList == (strOfNums l0).toList)) else (some false)) = some r := H
              have A38 := Aside0.mk A380
              clear A380
              by_cases c39 : t221 = 0
              · rw [if_pos c39] at H
                have c39b0 : (t221 == 0) = true := beq_iff_eq.mpr c39
                have c39b1 : (t221 != 0) = false := bne_eq_false_iff_eq.mpr c39
                clear c39
                obtain rfl := Option.some.inj H
                have hnb40 := NB210_217.out
                have hnc40 := NB217_210.out
                have hcz41_0 : wc.cell? ⟨gb210, 0, none⟩ = some (.int .u8 t204) := (blk_cell BK210.out 0).trans rfl
                have hcz41_1 : wc.cell? ⟨gb210, 1, none⟩ = some (.int .u16 t205) := (blk_cell BK210.out 1).trans rfl
                have hcz41_2 : wc.cell? ⟨gb210, 2, none⟩ = some (.int .u16 t206) := (blk_cell BK210.out 2).trans rfl
                have hcz41_3 : wc.cell? ⟨gb210, 3, none⟩ = some (.int .u16 t207) := (blk_cell BK210.out 3).trans rfl
                have hcz41_4 : wc.cell? ⟨gb210, 4, none⟩ = some (.int .u16 t208) := (blk_cell BK210.out 4).trans rfl
                have hfz41_0 := blk_frozen BK210.out 0
                have hfz41_1 := blk_frozen BK210.out 1
                have hfz41_2 := blk_frozen BK210.out 2
                have hfz41_3 := blk_frozen BK210.out 3
                have hfz41_4 := blk_frozen BK210.out 4
                go_wp2_with (first | ((with_reducible refine gate_callee (f := 12) rfl ?_); refine goesL_ (some 44) rfl rfl Try.func12 (by kernel_rfl) rfl #[.agg #[.int .u8 t204, .int .u16 t205, .int .u16 t206, .int .u16 t207, .int .u16 t208]] rfl (by (try simp only [List.map_toArray, List.map_cons, List.map_nil]); first | done | rfl | (simp only [List.length_drop, List.length_take]; rfl)) ?_; (with_reducible refine (tele_Encode.calls kj6 t204 t205 t206 t207 t208 t218 t221 _ A38.out).mono ?_); rintro e w42 ⟨v219, rfl, ho0, hb⟩; refine ⟨_, rfl, ?_⟩; have n0_ := Aside0.mk (Kd.R_lower ho0 (below_size (by repeat (first | (with_reducible first | exact HB.out | apply below_alloc | apply pw_below_drewN | apply below_drew1 | refine below_set ?_ GE210.out | refine below_set ?_ GE217.out) | exact HB.out)))); have n1_ := Aside0.mk (blk_below (g := gb210) (o := .cells #[.int .u8 t204, .int .u16 t205, .int .u16 t206, .int .u16 t207, .int .u16 t208] 24 (0, 0)) (by (with_reducible repeat (first | refine blk_drewN ?_ _ | refine blk_drew ?_ | refine blk_alloc ?_ _)); exact BK210.out) hb); have n2_ := Aside0.mk (blk_below (g := gb217) (o := .cells #[.int .u8 t211, .int .u16 t212, .int .u16 t213, .int .u16 t214, .int .u16 t215] 24 (0, 0)) (by (with_reducible repeat (first | refine blk_drewN ?_ _ | refine blk_drew ?_ | refine blk_alloc ?_ _)); exact BK217.out) hb); have n3_ := Aside0.mk (below_step (by repeat (first | (with_reducible first | exact HB.out | apply below_alloc | apply pw_below_drewN | apply below_drew1 | refine below_set ?_ GE210.out | refine below_set ?_ GE217.out) | exact HB.out)) hb); clear BK210; clear BK217; clear HB; have HO220 := n0_; have BK210 := n1_; have BK217 := n2_; have HB := n3_; clear n0_ n1_ n2_ n3_; (try clear hb); (try clear hb2); (try clear hk); (try clear hi); (try clear ho0); have hcv43 := own_string (P := Try.prog) Try.underlying26 Try.underlying5 Try.underlying9 (Kd.own_of_R HO220.out); have hcv44 := fun nq_ : Nat => own_string (P := Try.prog) Try.underlying26 Try.underlying5 Try.underlying9 (pw_own_below (Kd.own_of_R HO220.out) (pw_below_drewN (Below.refl _ _) nq_)); have hcv45 := Kd.C_string (P := Try.prog) (A := A0) (c := c0) Try.underlying26 Try.underlying5 Try.underlying9 (Kd.C_below HR0.out HB.out); have hcv46 := fun nq_ : Nat => Kd.C_string (P := Try.prog) (A := A0) (c := c0) Try.underlying26 Try.underlying5 Try.underlying9 (Kd.C_drewN (Kd.C_below HR0.out HB.out) nq_); have hcvz47 := fun nq_ : Nat => Kd.C_string (P := Try.prog) (A := A0) (c := c0) Try.underlying26 Try.underlying5 Try.underlying9 (Kd.C_drewN (Kd.C_below HR0.out HB.out) nq_); (try simp only [List.length_drop, List.length_take] at hcvz47)))
                go_ret
                exact ⟨by first | rfl | (simp [errW_none, errW_some] <;> rfl) | (simp [*, errW_none, errW_some] <;> rfl), by repeat (first | (with_reducible first | exact HB.out | apply below_alloc | apply pw_below_drewN | apply below_drew1 | refine below_set ?_ GE210.out | refine below_set ?_ GE217.out) | exact HB.out)⟩
              · rw [if_neg c39] at H
                have c39b0 : (t221 == 0) = false := beq_eq_false_iff_ne.mpr c39
                have c39b1 : (t221 != 0) = true := bne_iff_ne.mpr c39
                obtain rfl := Option.some.inj H
                have hnb48 := NB210_217.out
                have hnc48 := NB217_210.out
                have hcz49_0 : wc.cell? ⟨gb210, 0, none⟩ = some (.int .u8 t204) := (blk_cell BK210.out 0).trans rfl
                have hcz49_1 : wc.cell? ⟨gb210, 1, none⟩ = some (.int .u16 t205) := (blk_cell BK210.out 1).trans rfl
                have hcz49_2 : wc.cell? ⟨gb210, 2, none⟩ = some (.int .u16 t206) := (blk_cell BK210.out 2).trans rfl
                have hcz49_3 : wc.cell? ⟨gb210, 3, none⟩ = some (.int .u16 t207) := (blk_cell BK210.out 3).trans rfl
                have hcz49_4 : wc.cell? ⟨gb210, 4, none⟩ = some (.int .u16 t208) := (blk_cell BK210.out 4).trans rfl
                have hfz49_0 := blk_frozen BK210.out 0
                have hfz49_1 := blk_frozen BK210.out 1
                have hfz49_2 := blk_frozen BK210.out 2
                have hfz49_3 := blk_frozen BK210.out 3
                have hfz49_4 := blk_frozen BK210.out 4
                go_wp2_with (first | ((with_reducible refine gate_callee (f := 12) rfl ?_); refine goesL_ (some 44) rfl rfl Try.func12 (by kernel_rfl) rfl #[.agg #[.int .u8 t204, .int .u16 t205, .int .u16 t206, .int .u16 t207, .int .u16 t208]] rfl (by (try simp only [List.map_toArray, List.map_cons, List.map_nil]); first | done | rfl | (simp only [List.length_drop, List.length_take]; rfl)) ?_; (with_reducible refine (tele_Encode.calls kj6 t204 t205 t206 t207 t208 t218 t221 _ A38.out).mono ?_); rintro e w50 ⟨v219, rfl, ho0, hb⟩; refine ⟨_, rfl, ?_⟩; have n0_ := Aside0.mk (Kd.R_lower ho0 (below_size (by repeat (first | (with_reducible first | exact HB.out | apply below_alloc | apply pw_below_drewN | apply below_drew1 | refine below_set ?_ GE210.out | refine below_set ?_ GE217.out) | exact HB.out)))); have n1_ := Aside0.mk (blk_below (g := gb210) (o := .cells #[.int .u8 t204, .int .u16 t205, .int .u16 t206, .int .u16 t207, .int .u16 t208] 24 (0, 0)) (by (with_reducible repeat (first | refine blk_drewN ?_ _ | refine blk_drew ?_ | refine blk_alloc ?_ _)); exact BK210.out) hb); have n2_ := Aside0.mk (blk_below (g := gb217) (o := .cells #[.int .u8 t211, .int .u16 t212, .int .u16 t213, .int .u16 t214, .int .u16 t215] 24 (0, 0)) (by (with_reducible repeat (first | refine blk_drewN ?_ _ | refine blk_drew ?_ | refine blk_alloc ?_ _)); exact BK217.out) hb); have n3_ := Aside0.mk (below_step (by repeat (first | (with_reducible first | exact HB.out | apply below_alloc | apply pw_below_drewN | apply below_drew1 | refine below_set ?_ GE210.out | refine below_set ?_ GE217.out) | exact HB.out)) hb); clear BK210; clear BK217; clear HB; have HO220 := n0_; have BK210 := n1_; have BK217 := n2_; have HB := n3_; clear n0_ n1_ n2_ n3_; (try clear hb); (try clear hb2); (try clear hk); (try clear hi); (try clear ho0)))
                go_ret
                exact ⟨by first | rfl | (simp [errW_none, errW_some] <;> rfl) | (simp [*, errW_none, errW_some] <;> rfl), by repeat (first | (with_reducible first | exact HB.out | apply below_alloc | apply pw_below_drewN | apply below_drew1 | refine below_set ?_ GE210.out | refine below_set ?_ GE217.out) | exact HB.out)⟩
            · rw [if_neg c37] at H
              have c37b0 : (t216 == 0) = false := beq_eq_false_iff_ne.mpr c37
              have c37b1 : (t216 != 0) = true := bne_iff_ne.mpr c37
              obtain rfl := Option.some.inj H
              go_wp2
              go_ret
              exact ⟨by first | rfl | (simp [errW_none, errW_some] <;> rfl) | (simp [*, errW_none, errW_some] <;> rfl), by repeat (first | (with_reducible first | exact HB.out | apply below_alloc | apply pw_below_drewN | apply below_drew1 | refine below_set ?_ GE210.out | refine below_set ?_ GE217.out) | exact HB.out)⟩
    · rw [if_neg c4] at H
      exact absurd H (by simp)
  · replace c3 := Bool.eq_false_iff.mpr c3
    subst c3
    have H1 : (some false) = some r := by rw [if_neg (show ¬ (false = true) by decide)] at H; exact H
    clear H
    have H := H1
    clear H1
    obtain rfl := Option.some.inj H
    go_enter Try.func5, Try.ntmps5
    go_wp2_with (first | ((with_reducible refine gate_callee (f := 11) rfl ?_); refine goesL_ (some 10) rfl rfl Try.func11 (by kernel_rfl) rfl #[] rfl (by (try simp only [List.map_toArray, List.map_cons, List.map_nil]); first | done | rfl | (simp only [List.length_drop, List.length_take]; rfl)) ?_; (with_reducible refine (stillagelaw02_awake.calls k  false _ A2.out).mono ?_); rintro e w51 ⟨rfl, hb⟩; refine ⟨_, rfl, ?_⟩; have n0_ := Aside0.mk (below_step (by repeat (first | (with_reducible first | exact HB.out | apply below_alloc | apply pw_below_drewN | apply below_drew1) | exact HB.out)) hb); clear HB; have HB := n0_; clear n0_; (try clear hb); (try clear hb2); (try clear hk); (try clear hi)))
    go_ret
    exact ⟨by first | rfl | (simp [errW_none, errW_some] <;> rfl) | (simp [*, errW_none, errW_some] <;> rfl), by repeat (first | (with_reducible first | exact HB.out | apply below_alloc | apply pw_below_drewN | apply below_drew1) | exact HB.out)⟩

/-- THE ONE PURE STATEMENT of stillagelaw02_TeleReads: yours. -/
def stillagelaw02_TeleReads.Pure : Prop := ∀ (l0 : List Int), l0.length ≤ maxLen → l0.length * 1 ≤ 140737488351232 → (∀ x ∈ l0, (Lit.int .u8 x).wf = true) → ∃ k, stillagelaw02_TeleReads.f k l0 = some true
theorem stillagelaw02_TeleReads.walk (P : stillagelaw02_TeleReads.Pure) (a0 : Option Addr) (len0 cap0 : Nat) (z0 : List Int) (w : World) (w0 : (a0 = none ∧ len0 = 0 ∧ cap0 = 0 ∧ z0 = []) ∨ ∃ x, a0 = some x ∧ len0 ≤ cap0 ∧ cap0 ≤ maxLen ∧ z0.length = cap0 ∧ (∀ i, i < z0.length → w.cell? (x.add i) = some (.int .u8 (z0.getD i 0))) ∧ ∀ n ∈ z0, (Lit.int .u8 n).wf = true) (y0 : len0 * 1 ≤ 140737488351232) :
    Calls Try.prog 5 #[.slice a0 len0 cap0] w fun e w' => e = .returned (.bool true) ∧ Below w.heap.size w w' := by
  obtain ⟨l0, rfl, hr0, hm0, hw0, hc0⟩ := ReadsInt.ofRowC w0
  obtain ⟨k, h⟩ := P l0 hm0 y0 hw0
  refine (stillagelaw02_TeleReads.calls k _ _ l0 true w (Kd.C_of_reads (d := (0 : Int)) (h1 := fun _ => rfl) hr0) hc0 h).mono ?_
  rintro e w' ⟨rfl, hd⟩
  exact ⟨rfl, hd⟩

end Go.Proofs.Ytabkmjimdpdfaaa.PTeleReads
