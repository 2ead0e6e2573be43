-- Written by a program of this session (wip/oprint): after the pattern of the kit's print, which does not take this law. -- trimmed
import Derived.Test.YtabkmjimdpdfaaaPTelePiecesx0
import Derived.Test.YtabkmjimdpdfaaaPTelePiecesx3
import Derived.Test.YtabkmjimdpdfaaaPTelePiecesx4
import Derived.Test.YtabkmjimdpdfaaaPTelePiecesx6
namespace Go.Proofs.Ytabkmjimdpdfaaa.PTelePieces
open Go.RowKit Go.Proofs.YtabkmjimdpdfaaaW.PrintWords Go.Proofs.YtabkmjimdpdfaaaW.PrintLast Go.Proofs.YtabkmjimdpdfaaaW.PrintMore
attribute [local go_sem] max2_int min2_int max_two min_two max_three min_three max_four min_four   -- for this text's walks alone
set_option linter.unusedVariables false
set_option linter.unusedSimpArgs false

theorem own_add (v : Addr) (n l c l' c' : Nat) : (Value.slice (Option.map (fun x => x.add n) (some v)) l c).ownBlock = (Value.slice (some v) l' c').ownBlock := by
 show some (v.add n).block = some v.block
 unfold Addr.add
 split <;> rfl
/-! ### stillagelaw02_TelePieces: function 8 -/
mutual
def stillagelaw02_TelePieces.j0 : Nat → List (S24) → List Int → Bool → Option (Bool)
 | 0, _, _, _ => none
 | k + 1, x0, x1, x31 => if x31 = true then ((stillagelaw02_awake.f k).bind fun t211 => (some t211)) else (stillagelaw02_TelePieces.l0 k x1 ([] : List Int) ([] : List (S24)) x0 (x0.length : Int) 0)
def stillagelaw02_TelePieces.l0 : Nat → List Int → List Int → List (S24) → List (S24) → Int → Int → Option (Bool)
 | 0, _, _, _, _, _, _ => none
 | k + 1, x1, x5, x6, x33, x34, x35 => if x35 < x34 then (if 0 ≤ x35 then (if x35 < (x33.length : Int) then ((tele_Encode.f k ((rd_T24 x33 x35).f0) ((rd_T24 x33 x35).f1) ((rd_T24 x33 x35).f2) ((rd_T24 x33 x35).f3) ((rd_T24 x33 x35).f4)).bind fun bt214 => (if bt214.2 = 0 then (if x5.length + bt214.1.length < 140737488355328 then (if x6.length < 14073748835532 then (stillagelaw02_TelePieces.l0 k x1 (x5 ++ bt214.1) (x6 ++ [(⟨(rd_T24 x33 x35).f0, (rd_T24 x33 x35).f1, (rd_T24 x33 x35).f2, (rd_T24 x33 x35).f3, (rd_T24 x33 x35).f4⟩ : S24)]) x33 x34 (wrap64 (x35 + 1))) else (none)) else (none)) else (stillagelaw02_TelePieces.l0 k x1 x5 x6 x33 x34 (wrap64 (x35 + 1))))) else (none)) else (none)) else ((tele_Split.f k x5).bind fun bt224 => ((stillageref02_Same.f k bt224.1 x6).bind fun t231 => (if t231 = true then (if (bt224.2.1.length : Int) = 0 then (stillagelaw02_TelePieces.j2 k x1 x5 x6 bt224.2.1 (bt224.2.2 != 0)) else (stillagelaw02_TelePieces.j2 k x1 x5 x6 bt224.2.1 true)) else (stillagelaw02_TelePieces.j2 k x1 x5 x6 bt224.2.1 true))))
def stillagelaw02_TelePieces.j2 : Nat → List Int → List Int → List (S24) → List Int → Bool → Option (Bool)
 | 0, _, _, _, _, _ => none
 | k + 1, x1, x5, x6, x12, x72 => if x72 = true then (some false) else (stillagelaw02_TelePieces.l1 k x1 x5 x6 x12 ([] : List (S24)) 0)
def stillagelaw02_TelePieces.l1 : Nat → List Int → List Int → List (S24) → List Int → List (S24) → Int → Option (Bool)
 | 0, _, _, _, _, _, _ => none
 | k + 1, x1, x5, x6, x12, x14, x15 => if (x5.length : Int) > 0 then (if x15 < (x1.length : Int) then (if 0 ≤ x15 then (if (IntKind.u64.wrap (wrap64 ((x5.length : Int) + 1))) = 0 then (none) else ((some (([] : List Int) : List Int)).bind fun y234 => (if y234.length + x12.length < 140737488355328 then ((some (y234 ++ x12 : List Int)).bind fun y237 => (if 0 ≤ (wrap64 (Int.tmod (IntKind.u64.wrap (rd x1 x15)) (IntKind.u64.wrap (wrap64 ((x5.length : Int) + 1))))) then (if (wrap64 (Int.tmod (IntKind.u64.wrap (rd x1 x15)) (IntKind.u64.wrap (wrap64 ((x5.length : Int) + 1))))) ≤ (x5.length : Int) then ((some (x5.take ((wrap64 (Int.tmod (IntKind.u64.wrap (rd x1 x15)) (IntKind.u64.wrap (wrap64 ((x5.length : Int) + 1))))) : Int).toNat : List Int)).bind fun y240 => (if y237.length + y240.length < 140737488355328 then ((tele_Split.f k (y237 ++ y240)).bind fun bt247 => (if bt247.2.2 = 0 then (if x14.length + bt247.1.length < 14073748835532 then (stillagelaw02_TelePieces.l1 k x1 (x5.drop ((wrap64 (Int.tmod (IntKind.u64.wrap (rd x1 x15)) (IntKind.u64.wrap (wrap64 ((x5.length : Int) + 1))))) : Int).toNat) x6 bt247.2.1 (x14 ++ bt247.1) (wrap64 (x15 + 1))) else (none)) else (some false))) else (none))) else (none)) else (none))) else (none)))) else (none)) else ((some (([] : List Int) : List Int)).bind fun y260 => (if y260.length + x12.length < 140737488355328 then ((some (y260 ++ x12 : List Int)).bind fun y263 => (if 0 ≤ (x5.length : Int) then (if (x5.length : Int) ≤ (x5.length : Int) then ((some (x5.take ((x5.length : Int) : Int).toNat : List Int)).bind fun y266 => (if y263.length + y266.length < 140737488355328 then ((tele_Split.f k (y263 ++ y266)).bind fun bt273 => (if bt273.2.2 = 0 then (if x14.length + bt273.1.length < 14073748835532 then (stillagelaw02_TelePieces.l1 k x1 (x5.drop ((x5.length : Int) : Int).toNat) x6 bt273.2.1 (x14 ++ bt273.1) (wrap64 (x15 + 1))) else (none)) else (some false))) else (none))) else (none)) else (none))) else (none)))) else ((stillageref02_Same.f k x14 x6).bind fun t232 => (if t232 = true then (some ((x12.length : Int) == 0)) else (some false)))
end
def stillagelaw02_TelePieces.f (k : Nat) (l0 : List (S24)) (l1 : List Int) : Option (Bool) := (stillagelaw02_awake.f k).bind fun t210 => (if t210 = true then (if (l0.length : Int) > 50 then (stillagelaw02_TelePieces.j0 k l0 l1 true) else (stillagelaw02_TelePieces.j0 k l0 l1 (decide ((l1.length : Int) > 50)))) else (stillagelaw02_TelePieces.j0 k l0 l1 true))
theorem stillagelaw02_TelePieces.mono_l : ∀ k, (∀ y0 y1 y2, LeO (stillagelaw02_TelePieces.j0 k y0 y1 y2) (stillagelaw02_TelePieces.j0 (k + 1) y0 y1 y2)) ∧ (∀ y0 y1 y2 y3 y4 y5, LeO (stillagelaw02_TelePieces.l0 k y0 y1 y2 y3 y4 y5) (stillagelaw02_TelePieces.l0 (k + 1) y0 y1 y2 y3 y4 y5)) ∧ (∀ y0 y1 y2 y3 y4, LeO (stillagelaw02_TelePieces.j2 k y0 y1 y2 y3 y4) (stillagelaw02_TelePieces.j2 (k + 1) y0 y1 y2 y3 y4)) ∧ (∀ y0 y1 y2 y3 y4 y5, LeO (stillagelaw02_TelePieces.l1 k y0 y1 y2 y3 y4 y5) (stillagelaw02_TelePieces.l1 (k + 1) y0 y1 y2 y3 y4 y5))
 | 0 => ⟨fun _ _ _ r h => by simp [stillagelaw02_TelePieces.j0] at h, fun _ _ _ _ _ _ r h => by simp [stillagelaw02_TelePieces.l0] at h, fun _ _ _ _ _ r h => by simp [stillagelaw02_TelePieces.j2] at h, fun _ _ _ _ _ _ r h => by simp [stillagelaw02_TelePieces.l1] at h⟩
 | k + 1 => by
  obtain ⟨ih0, ih1, ih2, ih3⟩ := stillagelaw02_TelePieces.mono_l k
  refine ⟨?_, ?_, ?_, ?_⟩
  ·intro y0 y1 y2
   unfold stillagelaw02_TelePieces.j0
   repeat' first
   | (with_reducible exact ih0 _ _ _)
   | (with_reducible exact ih1 _ _ _ _ _ _)
   | (with_reducible exact ih2 _ _ _ _ _)
   | (with_reducible exact ih3 _ _ _ _ _ _)
   | (with_reducible exact stillagelaw02_awake.mono _)
   | (with_reducible exact stillageref02_Same.mono _ _ _)
   | (with_reducible exact tele_Encode.mono _ _ _ _ _ _)
   | (with_reducible exact tele_Split.mono _ _)
   | (with_reducible exact LeO.refl _)
   | (with_reducible exact LeO.none _)
   | (with_reducible refine LeO.ite ?_ ?_)
   | (with_reducible refine LeO.bind ?_ (fun _ => ?_))
   | exact ih0 _ _ _
   | exact ih1 _ _ _ _ _ _
   | exact ih2 _ _ _ _ _
   | exact ih3 _ _ _ _ _ _
   | exact stillagelaw02_awake.mono _
   | exact stillageref02_Same.mono _ _ _
   | exact tele_Encode.mono _ _ _ _ _ _
   | exact tele_Split.mono _ _
   | exact LeO.none _
   | refine LeO.ite ?_ ?_
   | refine LeO.bind ?_ (fun _ => ?_)
  ·intro y0 y1 y2 y3 y4 y5
   unfold stillagelaw02_TelePieces.l0
   repeat' first
   | (with_reducible exact ih0 _ _ _)
   | (with_reducible exact ih1 _ _ _ _ _ _)
   | (with_reducible exact ih2 _ _ _ _ _)
   | (with_reducible exact ih3 _ _ _ _ _ _)
   | (with_reducible exact stillagelaw02_awake.mono _)
   | (with_reducible exact stillageref02_Same.mono _ _ _)
   | (with_reducible exact tele_Encode.mono _ _ _ _ _ _)
   | (with_reducible exact tele_Split.mono _ _)
   | (with_reducible exact LeO.refl _)
   | (with_reducible exact LeO.none _)
   | (with_reducible refine LeO.ite ?_ ?_)
   | (with_reducible refine LeO.bind ?_ (fun _ => ?_))
   | exact ih0 _ _ _
   | exact ih1 _ _ _ _ _ _
   | exact ih2 _ _ _ _ _
   | exact ih3 _ _ _ _ _ _
   | exact stillagelaw02_awake.mono _
   | exact stillageref02_Same.mono _ _ _
   | exact tele_Encode.mono _ _ _ _ _ _
   | exact tele_Split.mono _ _
   | exact LeO.none _
   | refine LeO.ite ?_ ?_
   | refine LeO.bind ?_ (fun _ => ?_)
  ·intro y0 y1 y2 y3 y4
   unfold stillagelaw02_TelePieces.j2
   repeat' first
   | (with_reducible exact ih0 _ _ _)
   | (with_reducible exact ih1 _ _ _ _ _ _)
   | (with_reducible exact ih2 _ _ _ _ _)
   | (with_reducible exact ih3 _ _ _ _ _ _)
   | (with_reducible exact stillagelaw02_awake.mono _)
   | (with_reducible exact stillageref02_Same.mono _ _ _)
   | (with_reducible exact tele_Encode.mono _ _ _ _ _ _)
   | (with_reducible exact tele_Split.mono _ _)
   | (with_reducible exact LeO.refl _)
   | (with_reducible exact LeO.none _)
   | (with_reducible refine LeO.ite ?_ ?_)
   | (with_reducible refine LeO.bind ?_ (fun _ => ?_))
   | exact ih0 _ _ _
   | exact ih1 _ _ _ _ _ _
   | exact ih2 _ _ _ _ _
   | exact ih3 _ _ _ _ _ _
   | exact stillagelaw02_awake.mono _
   | exact stillageref02_Same.mono _ _ _
   | exact tele_Encode.mono _ _ _ _ _ _
   | exact tele_Split.mono _ _
   | exact LeO.none _
   | refine LeO.ite ?_ ?_
   | refine LeO.bind ?_ (fun _ => ?_)
  ·intro y0 y1 y2 y3 y4 y5
   unfold stillagelaw02_TelePieces.l1
   repeat' first
   | (with_reducible exact ih0 _ _ _)
   | (with_reducible exact ih1 _ _ _ _ _ _)
   | (with_reducible exact ih2 _ _ _ _ _)
   | (with_reducible exact ih3 _ _ _ _ _ _)
   | (with_reducible exact stillagelaw02_awake.mono _)
   | (with_reducible exact stillageref02_Same.mono _ _ _)
   | (with_reducible exact tele_Encode.mono _ _ _ _ _ _)
   | (with_reducible exact tele_Split.mono _ _)
   | (with_reducible exact LeO.refl _)
   | (with_reducible exact LeO.none _)
   | (with_reducible refine LeO.ite ?_ ?_)
   | (with_reducible refine LeO.bind ?_ (fun _ => ?_))
   | exact ih0 _ _ _
   | exact ih1 _ _ _ _ _ _
   | exact ih2 _ _ _ _ _
   | exact ih3 _ _ _ _ _ _
   | exact stillagelaw02_awake.mono _
   | exact stillageref02_Same.mono _ _ _
   | exact tele_Encode.mono _ _ _ _ _ _
   | exact tele_Split.mono _ _
   | exact LeO.none _
   | refine LeO.ite ?_ ?_
   | refine LeO.bind ?_ (fun _ => ?_)
theorem stillagelaw02_TelePieces.mono : ∀ a0 a1 k, LeO (stillagelaw02_TelePieces.f k a0 a1) (stillagelaw02_TelePieces.f (k + 1) a0 a1) := by
 intro a0 a1 k
 obtain ⟨ih0, ih1, ih2, ih3⟩ := stillagelaw02_TelePieces.mono_l k
 unfold stillagelaw02_TelePieces.f
 repeat' first
   | (with_reducible exact ih0 _ _ _)
   | (with_reducible exact ih1 _ _ _ _ _ _)
   | (with_reducible exact ih2 _ _ _ _ _)
   | (with_reducible exact ih3 _ _ _ _ _ _)
   | (with_reducible exact stillagelaw02_awake.mono _)
   | (with_reducible exact stillageref02_Same.mono _ _ _)
   | (with_reducible exact tele_Encode.mono _ _ _ _ _ _)
   | (with_reducible exact tele_Split.mono _ _)
   | (with_reducible exact LeO.refl _)
   | (with_reducible exact LeO.none _)
   | (with_reducible refine LeO.ite ?_ ?_)
   | (with_reducible refine LeO.bind ?_ (fun _ => ?_))
   | exact ih0 _ _ _
   | exact ih1 _ _ _ _ _ _
   | exact ih2 _ _ _ _ _
   | exact ih3 _ _ _ _ _ _
   | exact stillagelaw02_awake.mono _
   | exact stillageref02_Same.mono _ _ _
   | exact tele_Encode.mono _ _ _ _ _ _
   | exact tele_Split.mono _ _
   | exact LeO.none _
   | refine LeO.ite ?_ ?_
   | refine LeO.bind ?_ (fun _ => ?_)
def stillagelaw02_TelePieces.T23 : Bool × List (List Nat × List Nat) := (true, [([], []), ([], []), ([0, 1], [0, 1]), ([], []), ([], []), ([3, 4], [3, 4]), ([2, 5, 2], [2, 5]), ([6, 6], [6]), ([7], [7]), ([8], [8]), ([8], [8]), ([8], [8]), ([9, 7, 0, 1, 2, 3, 4, 5, 6, 7, 8, 9], [9]), ([10, 12, 0, 1, 2, 3, 4, 5, 6, 7, 8, 9, 10, 12], [10]), ([11, 13, 0, 1, 2, 3, 4, 5, 6, 7, 8, 9, 10, 11, 12, 13], [11])])
def stillagelaw02_TelePieces.B23 : List Nat := [0, 0, 3, 0, 0, 24, 63, 127, 255, 511, 511, 511, 1023, 6143, 16383]
theorem stillagelaw02_TelePieces.tab23 : rtab .any (opsOf Try.f8 23) = stillagelaw02_TelePieces.T23 := by kernel_rfl
theorem stillagelaw02_TelePieces.bits23 : waitsOk stillagelaw02_TelePieces.T23.2 stillagelaw02_TelePieces.B23 = true := by kernel_rfl
def stillagelaw02_TelePieces.T26 : Bool × List (List Nat × List Nat) := (true, [([], []), ([], []), ([0, 1], [0, 1]), ([], []), ([], []), ([], []), ([4, 5], [4, 5]), ([2, 2, 0, 1, 2], [0, 2]), ([3, 7, 0, 1, 2, 3, 7], [3]), ([6, 8, 0, 1, 2, 3, 4, 5, 6, 7, 8], [4, 6])])
def stillagelaw02_TelePieces.B26 : List Nat := [0, 0, 3, 0, 0, 0, 48, 7, 143, 511]
theorem stillagelaw02_TelePieces.tab26 : rtab .any (opsOf Try.f8 26) = stillagelaw02_TelePieces.T26 := by kernel_rfl
theorem stillagelaw02_TelePieces.bits26 : waitsOk stillagelaw02_TelePieces.T26.2 stillagelaw02_TelePieces.B26 = true := by kernel_rfl
set_option maxHeartbeats 8000000 in
set_option maxRecDepth 100000 in
theorem stillagelaw02_TelePieces.calls (k : Nat) (A0 : Option Addr) (c0 : Nat) (l0 : List (S24)) (A1 : Option Addr) (c1 : Nat) (l1 : List Int) (r : Bool) (w : World) (hr0 : Kd.C k24 w A0 l0.length l0) (hc0 : l0.length ≤ c0) (hr1 : Kd.C (Kd.int .i64) w A1 l1.length l1) (hc1 : l1.length ≤ c1) (h : stillagelaw02_TelePieces.f k l0 l1 = some r) :
  Calls Try.prog 8 #[.slice A0 l0.length c0, .slice A1 l1.length c1] w fun e w' => e = .returned (.bool r) ∧ Below w.heap.size w w' := by
 have hu24 := Try.underlying24
 have HR0 := Aside0.mk hr0
 have HC0 := Aside0.mk hc0
 clear hr0 hc0
 have HR1 := Aside0.mk hr1
 have HC1 := Aside0.mk hc1
 clear hr1 hc1
 have HB := Aside0.mk (Below.refl w.heap.size w)
 have H : ((stillagelaw02_awake.f k).bind fun t210 => (if t210 = true then (if (l0.length : Int) > 50 then (stillagelaw02_TelePieces.j0 k l0 l1 true) else (stillagelaw02_TelePieces.j0 k l0 l1 (decide ((l1.length : Int) > 50)))) else (stillagelaw02_TelePieces.j0 k l0 l1 true))) = some r := h
 clear h
 have HC3 := Aside0.mk H
 clear H
 go_enter Try.func8, Try.ntmps8
 go_upto_region 1 with (fail)
 go_cut [31] (fun v31 wc => ∃ (kq : Nat) (x31_2 : Bool), v31 = .bool x31_2 ∧ Aside0 (stillagelaw02_TelePieces.j0 kq l0 l1 x31_2 = some r) ∧ Aside0 (kq ≤ k) ∧ Aside0 (Below w.heap.size w wc))
 case first =>
  have H := HC3.out
  clear HC3
  replace H := Option.bind_eq_some_iff.mp H
  obtain ⟨t210, A40, H⟩ := H
  replace H : (if t210 = true then (if (l0.length : Int) > 50 then (stillagelaw02_TelePieces.j0 k l0 l1 true) else (stillagelaw02_TelePieces.j0 k l0 l1 (decide ((l1.length : Int) > 50)))) else (stillagelaw02_TelePieces.j0 k l0 l1 true)) = some r := H
  have A4 := Aside0.mk A40
  clear A40
  by_cases c5 : t210 = true
  ·subst c5
   have H1 : (if (l0.length : Int) > 50 then (stillagelaw02_TelePieces.j0 k l0 l1 true) else (stillagelaw02_TelePieces.j0 k l0 l1 (decide ((l1.length : Int) > 50)))) = some r := by rw [if_pos rfl] at H; exact H
   clear H
   have H := H1
   clear H1
   by_cases c6 : (l0.length : Int) > 50
   ·rw [if_pos c6] at H
    have c6b0 : decide (50 < (l0.length : Int)) = true := decide_eq_true c6
    have c6b1 : decide (50 < l0.length) = true := decide_eq_true (by omega)
    clear c6
    (first | rw [c6b0] | (simp only [i64_w, i32_w]; rw [c6b0]) | skip)
    have H' := Aside0.mk H
    clear H
    go_wp2_with (first | ((with_reducible refine gate_callee (f := 11) rfl ?_); refine goesL_ (some 20) rfl rfl Try.func11 (by kernel_rfl) rfl #[] rfl (by (try simp only [List.map_toArray, List.map_cons, List.map_nil]); first | done | rfl | (simp only [List.length_drop, List.length_take]; rfl)) ?_; (with_reducible refine (stillagelaw02_awake.calls k  true _ A4.out).mono ?_); rintro e w7 ⟨rfl, hb⟩; refine ⟨_, rfl, ?_⟩; have n0_ := Aside0.mk (below_step (by repeat (first | (with_reducible first | exact HB.out | apply below_alloc | apply pw_below_drewN | apply below_drew1) | exact HB.out)) hb); clear HB; have HB := n0_; clear n0_; (try clear hb); (try clear hb2); (try clear hk); (try clear hi)))
    go_meet
    case rel => exact ⟨_, (true), (by first | rfl | (simp; done) | (simp [*]; done)), H', ⟨by first | omega | exact Nat.le_refl _⟩, ⟨by repeat (first | (with_reducible first | exact HB.out | apply below_alloc | apply pw_below_drewN | apply below_drew1) | exact HB.out)⟩⟩
   ·rw [if_neg c6] at H
    have c6b0 : decide (50 < (l0.length : Int)) = false := decide_eq_false c6
    have c6b1 : decide (50 < l0.length) = false := decide_eq_false (by omega)
    clear c6
    (first | rw [c6b0] | (simp only [i64_w, i32_w]; rw [c6b0]) | skip)
    have H' := Aside0.mk H
    clear H
    go_wp2_with (first | ((with_reducible refine gate_callee (f := 11) rfl ?_); refine goesL_ (some 20) rfl rfl Try.func11 (by kernel_rfl) rfl #[] rfl (by (try simp only [List.map_toArray, List.map_cons, List.map_nil]); first | done | rfl | (simp only [List.length_drop, List.length_take]; rfl)) ?_; (with_reducible refine (stillagelaw02_awake.calls k  true _ A4.out).mono ?_); rintro e w8 ⟨rfl, hb⟩; refine ⟨_, rfl, ?_⟩; have n0_ := Aside0.mk (below_step (by repeat (first | (with_reducible first | exact HB.out | apply below_alloc | apply pw_below_drewN | apply below_drew1) | exact HB.out)) hb); clear HB; have HB := n0_; clear n0_; (try clear hb); (try clear hb2); (try clear hk); (try clear hi)))
    go_meet
    case rel => exact ⟨_, (decide ((l1.length : Int) > 50)), (by first | rfl | (simp; done) | (simp [*]; done)), H', ⟨by first | omega | exact Nat.le_refl _⟩, ⟨by repeat (first | (with_reducible first | exact HB.out | apply below_alloc | apply pw_below_drewN | apply below_drew1) | exact HB.out)⟩⟩
  ·replace c5 := Bool.eq_false_iff.mpr c5
   subst c5
   have H1 : (stillagelaw02_TelePieces.j0 k l0 l1 true) = some r := by rw [if_neg (show ¬ (false = true) by decide)] at H; exact H
   clear H
   have H := H1
   clear H1
   have H' := Aside0.mk H
   clear H
   go_wp2_with (first | ((with_reducible refine gate_callee (f := 11) rfl ?_); refine goesL_ (some 20) rfl rfl Try.func11 (by kernel_rfl) rfl #[] rfl (by (try simp only [List.map_toArray, List.map_cons, List.map_nil]); first | done | rfl | (simp only [List.length_drop, List.length_take]; rfl)) ?_; (with_reducible refine (stillagelaw02_awake.calls k  false _ A4.out).mono ?_); rintro e w9 ⟨rfl, hb⟩; refine ⟨_, rfl, ?_⟩; have n0_ := Aside0.mk (below_step (by repeat (first | (with_reducible first | exact HB.out | apply below_alloc | apply pw_below_drewN | apply below_drew1) | exact HB.out)) hb); clear HB; have HB := n0_; clear n0_; (try clear hb); (try clear hb2); (try clear hk); (try clear hi)))
   go_meet
   case rel => exact ⟨_, (true), (by first | rfl | (simp; done) | (simp [*]; done)), H', ⟨by first | omega | exact Nat.le_refl _⟩, ⟨by repeat (first | (with_reducible first | exact HB.out | apply below_alloc | apply pw_below_drewN | apply below_drew1) | exact HB.out)⟩⟩
 case rest =>
  clear HC3
  try clear c1
  try clear p2
  try clear c5
  try clear c6
  try clear c6b0
  try clear c6b1
  try clear c8
  obtain ⟨kq, x31_2, rfl, HA, HJ2, HB⟩ := hcut
  cases kq with
  | zero => exact absurd HA.out (by simp [stillagelaw02_TelePieces.j0])
  | succ kj2 =>
   have H := HA.out
   clear HA
   simp only [stillagelaw02_TelePieces.j0] at H
   by_cases c10 : x31_2 = true
   ·subst c10
    have H1 : ((stillagelaw02_awake.f kj2).bind fun t211 => (some t211)) = some r := by rw [if_pos rfl] at H; exact H
    clear H
    have H := H1
    clear H1
    replace H := Option.bind_eq_some_iff.mp H
    obtain ⟨t211, A110, H⟩ := H
    replace H : (some t211) = some r := H
    have A11 := Aside0.mk A110
    clear A110
    obtain rfl := Option.some.inj H
    go_wp2_with (first | ((with_reducible refine gate_callee (f := 11) rfl ?_); refine goesL_ (some 32) rfl rfl Try.func11 (by kernel_rfl) rfl #[] rfl (by (try simp only [List.map_toArray, List.map_cons, List.map_nil]); first | done | rfl | (simp only [List.length_drop, List.length_take]; rfl)) ?_; (with_reducible refine (stillagelaw02_awake.calls kj2  t211 _ A11.out).mono ?_); rintro e w12 ⟨rfl, hb⟩; refine ⟨_, rfl, ?_⟩; have n0_ := Aside0.mk (below_step (by repeat (first | (with_reducible first | exact HB.out | apply below_alloc | apply pw_below_drewN | apply below_drew1) | exact HB.out)) hb); clear HB; have HB := n0_; clear n0_; (try clear hb); (try clear hb2); (try clear hk); (try clear hi)))
    go_ret
    exact ⟨by first | rfl | (simp [errW_none, errW_some] <;> rfl) | (simp [*, errW_none, errW_some] <;> rfl), by repeat (first | (with_reducible first | exact HB.out | apply below_alloc | apply pw_below_drewN | apply below_drew1) | exact HB.out)⟩
   ·replace c10 := Bool.eq_false_iff.mpr c10
    subst c10
    have H1 : (stillagelaw02_TelePieces.l0 kj2 l1 ([] : List Int) ([] : List (S24)) l0 (l0.length : Int) 0) = some r := by rw [if_neg (show ¬ (false = true) by decide)] at H; exact H
    clear H
    have H := H1
    clear H1
    have H' := Aside0.mk H
    clear H
    go_wp2
    go_loopg [5, 6, 35] kj2 (fun kq v5 v6 v35 w' => ∃ (x5_2 : List Int) (x6_2 : List (S24)) (x35_2 : Int), v35 = .int .i64 x35_2 ∧ Aside0 (stillagelaw02_TelePieces.l0 kq l1 x5_2 x6_2 l0 (l0.length : Int) x35_2 = some r) ∧ Aside0 (kq ≤ kj2) ∧ Aside0 (Kd.R (Kd.int .u8) 5 w' w.heap.size (fun _ => True) v5 x5_2) ∧ Aside0 (Kd.R k24 24 w' w.heap.size (fun _ => True) v6 x6_2) ∧ Aside0 (Below w.heap.size w w'))
    case atStart => exact ⟨(([] : List Int)), (([] : List (S24))), (0), (by first | rfl | (simp; done) | (simp [*]; done)), H', ⟨Nat.le_refl _⟩, ⟨by first | exact Kd.R_nil _ _ _ _ _ | exact Kd.N_nil _ _ _ _ _ | exact Kd.V_nil _ _ _ _ _ | exact Kd.Q_nil _ _ _ _ _ | exact Kd.S_nil _ _ _ _ _⟩, ⟨by first | exact Kd.R_nil _ _ _ _ _ | exact Kd.N_nil _ _ _ _ _ | exact Kd.V_nil _ _ _ _ _ | exact Kd.Q_nil _ _ _ _ _ | exact Kd.S_nil _ _ _ _ _⟩, ⟨by repeat (first | (with_reducible first | exact HB.out | apply below_alloc | apply pw_below_drewN | apply below_drew1) | exact HB.out)⟩⟩
    case round =>
     clear H'
     try clear c1
     try clear p2
     try clear c5
     try clear c6
     try clear c6b0
     try clear c6b1
     try clear c8
     try clear c10
     try clear c11
     try clear p2
     obtain ⟨x5_2, x6_2, x35_2, rfl, HA, HK2, HO_5, HO_6, HB⟩ := hrel
     cases gk with
     | zero => exact absurd HA.out (by simp [stillagelaw02_TelePieces.l0])
     | succ k2 =>
      have H := HA.out
      clear HA
      simp only [stillagelaw02_TelePieces.l0] at H
      by_cases c13 : x35_2 < (l0.length : Int)
      ·rw [if_pos c13] at H
       have c13b0 : decide (x35_2 < (l0.length : Int)) = true := decide_eq_true c13
       clear c13
       by_cases c14 : 0 ≤ x35_2
       ·rw [if_pos c14] at H
        have c14b0 : decide (0 ≤ x35_2) = true := decide_eq_true c14
        clear c14
        by_cases c15 : x35_2 < (l0.length : Int)
        ·rw [if_pos c15] at H
         have c15b0 : decide (x35_2 < (l0.length : Int)) = true := decide_eq_true c15
         clear c15
         replace H := Option.bind_eq_some_iff.mp H
         obtain ⟨⟨t214, t217⟩, A160, H⟩ := H
         replace H : (if t217 = 0 then (if x5_2.length + t214.length < 140737488355328 then (if x6_2.length < 14073748835532 then (stillagelaw02_TelePieces.l0 k2 l1 (x5_2 ++ t214) (x6_2 ++ [(⟨(rd_T24 l0 x35_2).f0, (rd_T24 l0 x35_2).f1, (rd_T24 l0 x35_2).f2, (rd_T24 l0 x35_2).f3, (rd_T24 l0 x35_2).f4⟩ : S24)]) l0 (l0.length : Int) (wrap64 (x35_2 + 1))) else (none)) else (none)) else (stillagelaw02_TelePieces.l0 k2 l1 x5_2 x6_2 l0 (l0.length : Int) (wrap64 (x35_2 + 1)))) = some r := H
         have A16 := Aside0.mk A160
         clear A160
         by_cases c17 : t217 = 0
         ·rw [if_pos c17] at H
          have c17b0 : (t217 == 0) = true := beq_iff_eq.mpr c17
          have c17b1 : (t217 != 0) = false := bne_eq_false_iff_eq.mpr c17
          clear c17
          by_cases c18 : x5_2.length + t214.length < 140737488355328
          ·rw [if_pos c18] at H
           have LMc18 := Aside0.mk c18
           clear c18
           obtain ⟨y218, hy218⟩ : ∃ y_ : List Int, y_ = (x5_2 ++ t214) := ⟨_, rfl⟩
           replace H : (if x6_2.length < 14073748835532 then (stillagelaw02_TelePieces.l0 k2 l1 y218 (x6_2 ++ [(⟨(rd_T24 l0 x35_2).f0, (rd_T24 l0 x35_2).f1, (rd_T24 l0 x35_2).f2, (rd_T24 l0 x35_2).f3, (rd_T24 l0 x35_2).f4⟩ : S24)]) l0 (l0.length : Int) (wrap64 (x35_2 + 1))) else (none)) = some r := by first | (rw [hy218]; with_reducible exact H) | (have H2_ := (Option.bind_some _ _).symm.trans H; rw [hy218]; with_reducible exact H2_) | (have H2_ := (Option.bind_some _ _).symm.trans H; with_reducible exact H2_) | with_reducible exact H | (rw [hy218]; exact H) | exact H
           have Ny218 := Aside0.mk hy218
           clear hy218
           by_cases c19 : x6_2.length < 14073748835532
           ·rw [if_pos c19] at H
            have LMc19 := Aside0.mk c19
            clear c19
            obtain ⟨y221, hy221⟩ : ∃ y_ : List (S24), y_ = (x6_2 ++ [(⟨(rd_T24 l0 x35_2).f0, (rd_T24 l0 x35_2).f1, (rd_T24 l0 x35_2).f2, (rd_T24 l0 x35_2).f3, (rd_T24 l0 x35_2).f4⟩ : S24)]) := ⟨_, rfl⟩
            replace H : (stillagelaw02_TelePieces.l0 k2 l1 y218 y221 l0 (l0.length : Int) (wrap64 (x35_2 + 1))) = some r := by first | (rw [hy221]; with_reducible exact H) | (have H2_ := (Option.bind_some _ _).symm.trans H; rw [hy221]; with_reducible exact H2_) | (have H2_ := (Option.bind_some _ _).symm.trans H; with_reducible exact H2_) | with_reducible exact H | (rw [hy221]; exact H) | exact H
            have Ny221 := Aside0.mk hy221
            clear hy221
            have H' := Aside0.mk H
            clear H
            have p212 : 0 ≤ (x35_2 : Int) := of_decide_eq_true (by first | (with_reducible assumption) | assumption)
            have q212 : x35_2 < (l0.length : Int) := of_decide_eq_true (by first | (with_reducible assumption) | assumption)
            obtain ⟨ad212, e212, hx212_0, hx212_1, hx212_2, hx212_3, hx212_4⟩ := at_T24 HR0.out x35_2 p212 q212
            cases e212
            replace hx212_0 := (HB.out.cell (World.block_lt_of_cell? w _ hx212_0)).trans hx212_0
            replace hx212_1 := (HB.out.cell (World.block_lt_of_cell? w _ hx212_1)).trans hx212_1
            replace hx212_2 := (HB.out.cell (World.block_lt_of_cell? w _ hx212_2)).trans hx212_2
            replace hx212_3 := (HB.out.cell (World.block_lt_of_cell? w _ hx212_3)).trans hx212_3
            replace hx212_4 := (HB.out.cell (World.block_lt_of_cell? w _ hx212_4)).trans hx212_4
            replace p212 := eq_true p212
            replace q212 := eq_true q212
            go_wp2_with (first | ((with_reducible refine gate_dst (N := 8) rfl ?_); (try (refine gate_guard (by rfl) ?_; dsimp only)); refine box_event ?hg (N := 8) ?hd (cs := #[.int .u8 0, .int .u16 0, .int .u16 0, .int .u16 0, .int .u16 0]) (t := 24) ?hr ?_; (case hd => rfl); (case hg => rfl); (case hr => first | (go_simp; done) | (go_simp; rfl)); intro gb213 hg w20 hbox hb; have n0_ := Aside0.mk (Kd.R_below (by (with_reducible repeat (first | apply Kd.R_alloc | apply Kd.R_drewN | apply Kd.R_drew)); exact HO_5.out) hb); have n1_ := Aside0.mk (Kd.R_below (Kd.R_elderB (by (with_reducible repeat (first | apply Kd.R_alloc | apply Kd.R_drewN | apply Kd.R_drew)); exact HO_6.out) gb213 (Nat.le_of_eq hg.symm)) hb); have n2_ := Aside0.mk (below_step (by repeat (first | (with_reducible first | exact HB.out | apply below_alloc | apply pw_below_drewN | apply below_drew1) | exact HB.out)) hb); have n3_ := Aside0.mk (hbox); have n4_ := Aside0.mk ((by rw [hg]; exact (below_size (by repeat (first | (with_reducible first | exact HB.out | apply below_alloc | apply pw_below_drewN | apply below_drew1) | exact HB.out))) : w.heap.size ≤ gb213)); have n5_ := Aside0.mk ((by rw [hg]; exact (below_size (by repeat (first | (with_reducible first | exact HB.out | apply below_alloc | apply pw_below_drewN | apply below_drew1) | exact HB.out))) : w.heap.size ≤ gb213)); clear HO_5; clear HO_6; clear HB; have HO_5 := n0_; have HO_6 := n1_; have HB := n2_; have BK213 := n3_; have GW213 := n4_; have GE213 := n5_; clear n0_ n1_ n2_ n3_ n4_ n5_; clear hb hbox hg; have hcz21_0 : w20.cell? ⟨gb213, 0, none⟩ = some (.int .u8 0) := (blk_cell BK213.out 0).trans rfl; have hcz21_1 : w20.cell? ⟨gb213, 1, none⟩ = some (.int .u16 0) := (blk_cell BK213.out 1).trans rfl; have hcz21_2 : w20.cell? ⟨gb213, 2, none⟩ = some (.int .u16 0) := (blk_cell BK213.out 2).trans rfl; have hcz21_3 : w20.cell? ⟨gb213, 3, none⟩ = some (.int .u16 0) := (blk_cell BK213.out 3).trans rfl; have hcz21_4 : w20.cell? ⟨gb213, 4, none⟩ = some (.int .u16 0) := (blk_cell BK213.out 4).trans rfl; have hfz21_0 := blk_frozen BK213.out 0; have hfz21_1 := blk_frozen BK213.out 1; have hfz21_2 := blk_frozen BK213.out 2; have hfz21_3 := blk_frozen BK213.out 3; have hfz21_4 := blk_frozen BK213.out 4) | ((with_reducible refine gate_callee (f := 12) rfl ?_); refine goesL_ (some 41) rfl rfl Try.func12 (by kernel_rfl) rfl #[.agg #[.int .u8 ((rd_T24 l0 x35_2).f0), .int .u16 ((rd_T24 l0 x35_2).f1), .int .u16 ((rd_T24 l0 x35_2).f2), .int .u16 ((rd_T24 l0 x35_2).f3), .int .u16 ((rd_T24 l0 x35_2).f4)]] rfl (by (try simp only [List.map_toArray, List.map_cons, List.map_nil]); first | done | rfl | (simp only [List.length_drop, List.length_take]; rfl)) ?_; (with_reducible refine (tele_Encode.calls k2 ((rd_T24 l0 x35_2).f0) ((rd_T24 l0 x35_2).f1) ((rd_T24 l0 x35_2).f2) ((rd_T24 l0 x35_2).f3) ((rd_T24 l0 x35_2).f4) t214 t217 _ A16.out).mono ?_); rintro e w22 ⟨v215, rfl, ho0, hb⟩; refine ⟨_, rfl, ?_⟩; have n0_ := Aside0.mk (Kd.R_elder' (by (with_reducible repeat (first | apply Kd.R_alloc | apply Kd.R_drewN | apply Kd.R_drew)); exact (Kd.R_mono (Kd.R_far (p := ⟨gb213, 4, none⟩) (Kd.R_far (p := ⟨gb213, 3, none⟩) (Kd.R_far (p := ⟨gb213, 2, none⟩) (Kd.R_far (p := ⟨gb213, 1, none⟩) (Kd.R_far (p := ⟨gb213, 0, none⟩) (Kd.R_types HO_5.out BK213.out (by decide)) (fun _ hk => hk.2) (.int .u8 ((rd_T24 l0 x35_2).f0))) (fun _ hk => hk.2) (.int .u16 ((rd_T24 l0 x35_2).f1))) (fun _ hk => hk.2) (.int .u16 ((rd_T24 l0 x35_2).f2))) (fun _ hk => hk.2) (.int .u16 ((rd_T24 l0 x35_2).f3))) (fun _ hk => hk.2) (.int .u16 ((rd_T24 l0 x35_2).f4))) (fun _ h_ => h_.1))) (Kd.R_base ho0) hb); have n1_ := Aside0.mk (Kd.R_below (by (with_reducible repeat (first | apply Kd.R_alloc | apply Kd.R_drewN | apply Kd.R_drew)); exact (Kd.R_mono (Kd.R_far (p := ⟨gb213, 4, none⟩) (Kd.R_far (p := ⟨gb213, 3, none⟩) (Kd.R_far (p := ⟨gb213, 2, none⟩) (Kd.R_far (p := ⟨gb213, 1, none⟩) (Kd.R_far (p := ⟨gb213, 0, none⟩) (Kd.R_mono HO_6.out (fun k_ hk => (⟨hk, hk.2⟩ : _ ∧ k_ ≠ gb213))) (fun _ hk => hk.2) (.int .u8 ((rd_T24 l0 x35_2).f0))) (fun _ hk => hk.2) (.int .u16 ((rd_T24 l0 x35_2).f1))) (fun _ hk => hk.2) (.int .u16 ((rd_T24 l0 x35_2).f2))) (fun _ hk => hk.2) (.int .u16 ((rd_T24 l0 x35_2).f3))) (fun _ hk => hk.2) (.int .u16 ((rd_T24 l0 x35_2).f4))) (fun _ h_ => h_.1))) hb); have n2_ := Aside0.mk (Kd.R_lower (Kd.R_new' ho0 (Kd.R_lt (by (with_reducible repeat (first | apply Kd.R_alloc | apply Kd.R_drewN | apply Kd.R_drew)); exact (Kd.R_mono (Kd.R_far (p := ⟨gb213, 4, none⟩) (Kd.R_far (p := ⟨gb213, 3, none⟩) (Kd.R_far (p := ⟨gb213, 2, none⟩) (Kd.R_far (p := ⟨gb213, 1, none⟩) (Kd.R_far (p := ⟨gb213, 0, none⟩) (Kd.R_types HO_5.out BK213.out (by decide)) (fun _ hk => hk.2) (.int .u8 ((rd_T24 l0 x35_2).f0))) (fun _ hk => hk.2) (.int .u16 ((rd_T24 l0 x35_2).f1))) (fun _ hk => hk.2) (.int .u16 ((rd_T24 l0 x35_2).f2))) (fun _ hk => hk.2) (.int .u16 ((rd_T24 l0 x35_2).f3))) (fun _ hk => hk.2) (.int .u16 ((rd_T24 l0 x35_2).f4))) (fun _ h_ => h_.1))))) (below_size (by repeat (first | (with_reducible first | exact HB.out | apply below_alloc | apply pw_below_drewN | apply below_drew1 | refine below_set ?_ GE213.out) | exact HB.out)))); have n3_ := Aside0.mk (blk_below (g := gb213) (o := .cells #[.int .u8 ((rd_T24 l0 x35_2).f0), .int .u16 ((rd_T24 l0 x35_2).f1), .int .u16 ((rd_T24 l0 x35_2).f2), .int .u16 ((rd_T24 l0 x35_2).f3), .int .u16 ((rd_T24 l0 x35_2).f4)] 24 (0, 0)) (by (with_reducible repeat (first | refine blk_drewN ?_ _ | refine blk_drew ?_ | refine blk_alloc ?_ _)); refine blk_put (cs := #[.int .u8 ((rd_T24 l0 x35_2).f0), .int .u16 ((rd_T24 l0 x35_2).f1), .int .u16 ((rd_T24 l0 x35_2).f2), .int .u16 ((rd_T24 l0 x35_2).f3), .int .u16 0]) ?_ 4 _ rfl; (with_reducible repeat (first | refine blk_drewN ?_ _ | refine blk_drew ?_ | refine blk_alloc ?_ _)); refine blk_put (cs := #[.int .u8 ((rd_T24 l0 x35_2).f0), .int .u16 ((rd_T24 l0 x35_2).f1), .int .u16 ((rd_T24 l0 x35_2).f2), .int .u16 0, .int .u16 0]) ?_ 3 _ rfl; (with_reducible repeat (first | refine blk_drewN ?_ _ | refine blk_drew ?_ | refine blk_alloc ?_ _)); refine blk_put (cs := #[.int .u8 ((rd_T24 l0 x35_2).f0), .int .u16 ((rd_T24 l0 x35_2).f1), .int .u16 0, .int .u16 0, .int .u16 0]) ?_ 2 _ rfl; (with_reducible repeat (first | refine blk_drewN ?_ _ | refine blk_drew ?_ | refine blk_alloc ?_ _)); refine blk_put (cs := #[.int .u8 ((rd_T24 l0 x35_2).f0), .int .u16 0, .int .u16 0, .int .u16 0, .int .u16 0]) ?_ 1 _ rfl; (with_reducible repeat (first | refine blk_drewN ?_ _ | refine blk_drew ?_ | refine blk_alloc ?_ _)); refine blk_put (cs := #[.int .u8 0, .int .u16 0, .int .u16 0, .int .u16 0, .int .u16 0]) ?_ 0 _ rfl; (with_reducible repeat (first | refine blk_drewN ?_ _ | refine blk_drew ?_ | refine blk_alloc ?_ _)); exact BK213.out) hb); have n4_ := Aside0.mk (below_step (by repeat (first | (with_reducible first | exact HB.out | apply below_alloc | apply pw_below_drewN | apply below_drew1 | refine below_set ?_ GE213.out) | exact HB.out)) hb); clear HO_5; clear HO_6; clear BK213; clear HB; have HO_5 := n0_; have HO_6 := n1_; have HO216 := n2_; have BK213 := n3_; have HB := n4_; clear n0_ n1_ n2_ n3_ n4_; (try clear hb); (try clear hb2); (try clear hk); (try clear hi); (try clear ho0); obtain ⟨Ao24, co24, eo24⟩ := Kd.R_slice HO216.out; subst eo24) | ((with_reducible refine gate_builtin (b := .append) (xs := #[.tmp 46, .tmp 47]) rfl ?_); (try (refine gate_guard (by rfl) ?_; dsimp only)); at_builtin; refine Kd.R_append_rows (Kd.int .u8) (w0 := w) w.heap.size rfl (.tmp 46) (.tmp 47) 26 5 (.int .u8 0) 1 rfl Try.underlying26 info5 rfl (by decide) (by omega) u5 x5_2 t214 _ _ _ (fun k_ => some k_ ≠ (.slice Ao24 t214.length co24 : Value).ownBlock) (fun _ => False) rfl rfl ?aO ?aR (fun _ _ h => h) (fun _ h => h.elim) ?aF ?aB ?aS ?aL ?_; (case aR => repeat (first | exact (Kd.R_reads' HO216.out).2.2 | (with_reducible refine Kd.C_alloc ?_ _) | (with_reducible refine Kd.C_drewN ?_ _) | (with_reducible refine Kd.C_drew ?_))); (case aB => exact (by repeat (first | (with_reducible first | exact HB.out | apply below_alloc | apply pw_below_drewN | apply below_drew1 | refine below_set ?_ GE213.out) | exact HB.out))); (case aF => exact (fun k_ hk => Kd.fresh' (Kd.R_lt (by (with_reducible repeat (first | apply Kd.R_alloc | apply Kd.R_drewN | apply Kd.R_drew)); exact HO216.out)) k_ hk)); (case aO => exact (by (with_reducible repeat (first | apply Kd.R_alloc | apply Kd.R_drewN | apply Kd.R_drew)); exact Kd.R_mono HO_5.out (fun _ hk => hk.2))); (case aS => exact (below_size (by repeat (first | (with_reducible first | exact HB.out | apply below_alloc | apply pw_below_drewN | apply below_drew1 | refine below_set ?_ GE213.out) | exact HB.out)))); (case aL => have := LMc18.out; omega); intro v219 w23 ho hb hg hat; rw [← Ny218.out] at ho; have n0_ := Aside0.mk (Kd.R_over' (by (with_reducible repeat (first | apply Kd.R_alloc | apply Kd.R_drewN | apply Kd.R_drew)); exact HO_6.out) (Kd.R_typed (by (with_reducible repeat (first | apply Kd.R_alloc | apply Kd.R_drewN | apply Kd.R_drew)); exact HO_5.out)) (by decide) hg); have n1_ := Aside0.mk (blk_grown (g := gb213) (o := .cells #[.int .u8 ((rd_T24 l0 x35_2).f0), .int .u16 ((rd_T24 l0 x35_2).f1), .int .u16 ((rd_T24 l0 x35_2).f2), .int .u16 ((rd_T24 l0 x35_2).f3), .int .u16 ((rd_T24 l0 x35_2).f4)] 24 (0, 0)) (by (with_reducible repeat (first | refine blk_drewN ?_ _ | refine blk_drew ?_ | refine blk_alloc ?_ _)); exact BK213.out) hg (Kd.R_ne HO_5.out BK213.out (by decide))); have n2_ := Aside0.mk (Kd.R_after (ok := (fun _ => True)) (by (with_reducible repeat (first | apply Kd.R_alloc | apply Kd.R_drewN | apply Kd.R_drew)); exact HO216.out) hg hat); have n3_ := Aside0.mk (hb); have n4_ := Aside0.mk (ho); clear HO_6; clear BK213; clear HO216; clear HB; clear HO_5; have HO_6 := n0_; have BK213 := n1_; have HO216 := n2_; have HB := n3_; have HO220 := n4_; clear n0_ n1_ n2_ n3_ n4_; clear ho hb hg hat; have hcz25_0 : w23.cell? ⟨gb213, 0, none⟩ = some (.int .u8 ((rd_T24 l0 x35_2).f0)) := (blk_cell BK213.out 0).trans rfl; have hcz25_1 : w23.cell? ⟨gb213, 1, none⟩ = some (.int .u16 ((rd_T24 l0 x35_2).f1)) := (blk_cell BK213.out 1).trans rfl; have hcz25_2 : w23.cell? ⟨gb213, 2, none⟩ = some (.int .u16 ((rd_T24 l0 x35_2).f2)) := (blk_cell BK213.out 2).trans rfl; have hcz25_3 : w23.cell? ⟨gb213, 3, none⟩ = some (.int .u16 ((rd_T24 l0 x35_2).f3)) := (blk_cell BK213.out 3).trans rfl; have hcz25_4 : w23.cell? ⟨gb213, 4, none⟩ = some (.int .u16 ((rd_T24 l0 x35_2).f4)) := (blk_cell BK213.out 4).trans rfl; have hfz25_0 := blk_frozen BK213.out 0; have hfz25_1 := blk_frozen BK213.out 1; have hfz25_2 := blk_frozen BK213.out 2; have hfz25_3 := blk_frozen BK213.out 3; have hfz25_4 := blk_frozen BK213.out 4) | ((with_reducible refine gate_builtin (b := .append) (xs := #[.tmp 49, .tmp 51]) rfl ?_); (try (refine gate_guard (by rfl) ?_; dsimp only)); at_builtin; refine Kd.R_append k24 (w0 := w) w.heap.size rfl (.tmp 49) (.tmp 51) 44 24 (.agg #[(.int .u8 0), (.int .u16 0), (.int .u16 0), (.int .u16 0), (.int .u16 0)]) 10 rfl Try.underlying44 info24 rfl (by decide) (by omega) u6 x6_2 (⟨(rd_T24 l0 x35_2).f0, (rd_T24 l0 x35_2).f1, (rd_T24 l0 x35_2).f2, (rd_T24 l0 x35_2).f3, (rd_T24 l0 x35_2).f4⟩ : S24) [.int .u8 ((rd_T24 l0 x35_2).f0), .int .u16 ((rd_T24 l0 x35_2).f1), .int .u16 ((rd_T24 l0 x35_2).f2), .int .u16 ((rd_T24 l0 x35_2).f3), .int .u16 ((rd_T24 l0 x35_2).f4)] (fun k_ => k_ ≠ gb213) (fun _ => False) rfl rfl ?aP (fun _ hk => hk.elim) ?aF ?aO ?aB ?aS ?aL ?_; (case aP => exact k24_mkM _ _ _ (⟨(rd_T24 l0 x35_2).f0, (rd_T24 l0 x35_2).f1, (rd_T24 l0 x35_2).f2, (rd_T24 l0 x35_2).f3, (rd_T24 l0 x35_2).f4⟩ : S24)); (case aB => exact (by repeat (first | (with_reducible first | exact HB.out | apply below_alloc | apply pw_below_drewN | apply below_drew1 | refine below_set ?_ GE213.out) | exact HB.out))); (case aF => exact (fun k_ hk => Kd.freshB (g := gb213) (o := .cells #[.int .u8 ((rd_T24 l0 x35_2).f0), .int .u16 ((rd_T24 l0 x35_2).f1), .int .u16 ((rd_T24 l0 x35_2).f2), .int .u16 ((rd_T24 l0 x35_2).f3), .int .u16 ((rd_T24 l0 x35_2).f4)] 24 (0, 0)) (by (with_reducible repeat (first | refine blk_drewN ?_ _ | refine blk_drew ?_ | refine blk_alloc ?_ _)); exact BK213.out) k_ hk)); (case aO => exact (by (with_reducible repeat (first | apply Kd.R_alloc | apply Kd.R_drewN | apply Kd.R_drew)); exact Kd.R_mono HO_6.out (fun _ hk => hk.2))); (case aS => exact (below_size (by repeat (first | (with_reducible first | exact HB.out | apply below_alloc | apply pw_below_drewN | apply below_drew1 | refine below_set ?_ GE213.out) | exact HB.out)))); (case aL => have := LMc19.out; omega); intro v222 w26 ho hb hg hat; rw [← Ny221.out] at ho; have n0_ := Aside0.mk (blk_grown (g := gb213) (o := .cells #[.int .u8 ((rd_T24 l0 x35_2).f0), .int .u16 ((rd_T24 l0 x35_2).f1), .int .u16 ((rd_T24 l0 x35_2).f2), .int .u16 ((rd_T24 l0 x35_2).f3), .int .u16 ((rd_T24 l0 x35_2).f4)] 24 (0, 0)) (by (with_reducible repeat (first | refine blk_drewN ?_ _ | refine blk_drew ?_ | refine blk_alloc ?_ _)); exact BK213.out) hg (Kd.R_away HO_6.out (fun _ hk => hk.2))); have n1_ := Aside0.mk (Kd.R_over' (by (with_reducible repeat (first | apply Kd.R_alloc | apply Kd.R_drewN | apply Kd.R_drew)); exact HO216.out) (Kd.R_typed (by (with_reducible repeat (first | apply Kd.R_alloc | apply Kd.R_drewN | apply Kd.R_drew)); exact HO_6.out)) (by decide) hg); have n2_ := Aside0.mk (Kd.R_over' (by (with_reducible repeat (first | apply Kd.R_alloc | apply Kd.R_drewN | apply Kd.R_drew)); exact HO220.out) (Kd.R_typed (by (with_reducible repeat (first | apply Kd.R_alloc | apply Kd.R_drewN | apply Kd.R_drew)); exact HO_6.out)) (by decide) hg); have n3_ := Aside0.mk (hb); have n4_ := Aside0.mk (ho); clear BK213; clear HO216; clear HO220; clear HB; clear HO_6; have BK213 := n0_; have HO216 := n1_; have HO220 := n2_; have HB := n3_; have HO223 := n4_; clear n0_ n1_ n2_ n3_ n4_; clear ho hb hg hat))
            go_roundg k2
            case measure => have := HJ2.out; have := HK2.out; omega
            case rel => exact ⟨(y218), (y221), (wrap64 (x35_2 + 1)), (by first | rfl | (simp; done) | (simp [*]; done)), H', ⟨by have := HJ2.out; have := HK2.out; omega⟩, ⟨by (with_reducible repeat (first | apply Kd.R_alloc | apply Kd.R_drewN | apply Kd.R_drew)); exact Kd.R_mono HO220.out (fun _ hk => trivial)⟩, ⟨by (with_reducible repeat (first | apply Kd.R_alloc | apply Kd.R_drewN | apply Kd.R_drew)); exact Kd.R_mono HO223.out (fun _ hk => trivial)⟩, ⟨by repeat (first | (with_reducible first | exact HB.out | apply below_alloc | apply pw_below_drewN | apply below_drew1 | refine below_set ?_ GE213.out) | exact HB.out)⟩⟩
           ·rw [if_neg c19] at H
            exact absurd H (by simp)
          ·rw [if_neg c18] at H
           exact absurd H (by simp)
         ·rw [if_neg c17] at H
          have c17b0 : (t217 == 0) = false := beq_eq_false_iff_ne.mpr c17
          have c17b1 : (t217 != 0) = true := bne_iff_ne.mpr c17
          have H' := Aside0.mk H
          clear H
          have p212 : 0 ≤ (x35_2 : Int) := of_decide_eq_true (by first | (with_reducible assumption) | assumption)
          have q212 : x35_2 < (l0.length : Int) := of_decide_eq_true (by first | (with_reducible assumption) | assumption)
          obtain ⟨ad212, e212, hx212_0, hx212_1, hx212_2, hx212_3, hx212_4⟩ := at_T24 HR0.out x35_2 p212 q212
          cases e212
          replace hx212_0 := (HB.out.cell (World.block_lt_of_cell? w _ hx212_0)).trans hx212_0
          replace hx212_1 := (HB.out.cell (World.block_lt_of_cell? w _ hx212_1)).trans hx212_1
          replace hx212_2 := (HB.out.cell (World.block_lt_of_cell? w _ hx212_2)).trans hx212_2
          replace hx212_3 := (HB.out.cell (World.block_lt_of_cell? w _ hx212_3)).trans hx212_3
          replace hx212_4 := (HB.out.cell (World.block_lt_of_cell? w _ hx212_4)).trans hx212_4
          replace p212 := eq_true p212
          replace q212 := eq_true q212
          go_wp2_with (first | ((with_reducible refine gate_dst (N := 8) rfl ?_); (try (refine gate_guard (by rfl) ?_; dsimp only)); refine box_event ?hg (N := 8) ?hd (cs := #[.int .u8 0, .int .u16 0, .int .u16 0, .int .u16 0, .int .u16 0]) (t := 24) ?hr ?_; (case hd => rfl); (case hg => rfl); (case hr => first | (go_simp; done) | (go_simp; rfl)); intro gb213 hg w27 hbox hb; have n0_ := Aside0.mk (Kd.R_below (by (with_reducible repeat (first | apply Kd.R_alloc | apply Kd.R_drewN | apply Kd.R_drew)); exact HO_5.out) hb); have n1_ := Aside0.mk (Kd.R_below (Kd.R_elderB (by (with_reducible repeat (first | apply Kd.R_alloc | apply Kd.R_drewN | apply Kd.R_drew)); exact HO_6.out) gb213 (Nat.le_of_eq hg.symm)) hb); have n2_ := Aside0.mk (below_step (by repeat (first | (with_reducible first | exact HB.out | apply below_alloc | apply pw_below_drewN | apply below_drew1) | exact HB.out)) hb); have n3_ := Aside0.mk (hbox); have n4_ := Aside0.mk ((by rw [hg]; exact (below_size (by repeat (first | (with_reducible first | exact HB.out | apply below_alloc | apply pw_below_drewN | apply below_drew1) | exact HB.out))) : w.heap.size ≤ gb213)); have n5_ := Aside0.mk ((by rw [hg]; exact (below_size (by repeat (first | (with_reducible first | exact HB.out | apply below_alloc | apply pw_below_drewN | apply below_drew1) | exact HB.out))) : w.heap.size ≤ gb213)); clear HO_5; clear HO_6; clear HB; have HO_5 := n0_; have HO_6 := n1_; have HB := n2_; have BK213 := n3_; have GW213 := n4_; have GE213 := n5_; clear n0_ n1_ n2_ n3_ n4_ n5_; clear hb hbox hg; have hcz28_0 : w27.cell? ⟨gb213, 0, none⟩ = some (.int .u8 0) := (blk_cell BK213.out 0).trans rfl; have hcz28_1 : w27.cell? ⟨gb213, 1, none⟩ = some (.int .u16 0) := (blk_cell BK213.out 1).trans rfl; have hcz28_2 : w27.cell? ⟨gb213, 2, none⟩ = some (.int .u16 0) := (blk_cell BK213.out 2).trans rfl; have hcz28_3 : w27.cell? ⟨gb213, 3, none⟩ = some (.int .u16 0) := (blk_cell BK213.out 3).trans rfl; have hcz28_4 : w27.cell? ⟨gb213, 4, none⟩ = some (.int .u16 0) := (blk_cell BK213.out 4).trans rfl; have hfz28_0 := blk_frozen BK213.out 0; have hfz28_1 := blk_frozen BK213.out 1; have hfz28_2 := blk_frozen BK213.out 2; have hfz28_3 := blk_frozen BK213.out 3; have hfz28_4 := blk_frozen BK213.out 4) | ((with_reducible refine gate_callee (f := 12) rfl ?_); refine goesL_ (some 41) rfl rfl Try.func12 (by kernel_rfl) rfl #[.agg #[.int .u8 ((rd_T24 l0 x35_2).f0), .int .u16 ((rd_T24 l0 x35_2).f1), .int .u16 ((rd_T24 l0 x35_2).f2), .int .u16 ((rd_T24 l0 x35_2).f3), .int .u16 ((rd_T24 l0 x35_2).f4)]] rfl (by (try simp only [List.map_toArray, List.map_cons, List.map_nil]); first | done | rfl | (simp only [List.length_drop, List.length_take]; rfl)) ?_; (with_reducible refine (tele_Encode.calls k2 ((rd_T24 l0 x35_2).f0) ((rd_T24 l0 x35_2).f1) ((rd_T24 l0 x35_2).f2) ((rd_T24 l0 x35_2).f3) ((rd_T24 l0 x35_2).f4) t214 t217 _ A16.out).mono ?_); rintro e w29 ⟨v215, rfl, ho0, hb⟩; refine ⟨_, rfl, ?_⟩; have n0_ := Aside0.mk (Kd.R_elder' (by (with_reducible repeat (first | apply Kd.R_alloc | apply Kd.R_drewN | apply Kd.R_drew)); exact (Kd.R_mono (Kd.R_far (p := ⟨gb213, 4, none⟩) (Kd.R_far (p := ⟨gb213, 3, none⟩) (Kd.R_far (p := ⟨gb213, 2, none⟩) (Kd.R_far (p := ⟨gb213, 1, none⟩) (Kd.R_far (p := ⟨gb213, 0, none⟩) (Kd.R_types HO_5.out BK213.out (by decide)) (fun _ hk => hk.2) (.int .u8 ((rd_T24 l0 x35_2).f0))) (fun _ hk => hk.2) (.int .u16 ((rd_T24 l0 x35_2).f1))) (fun _ hk => hk.2) (.int .u16 ((rd_T24 l0 x35_2).f2))) (fun _ hk => hk.2) (.int .u16 ((rd_T24 l0 x35_2).f3))) (fun _ hk => hk.2) (.int .u16 ((rd_T24 l0 x35_2).f4))) (fun _ h_ => h_.1))) (Kd.R_base ho0) hb); have n1_ := Aside0.mk (Kd.R_below (by (with_reducible repeat (first | apply Kd.R_alloc | apply Kd.R_drewN | apply Kd.R_drew)); exact (Kd.R_mono (Kd.R_far (p := ⟨gb213, 4, none⟩) (Kd.R_far (p := ⟨gb213, 3, none⟩) (Kd.R_far (p := ⟨gb213, 2, none⟩) (Kd.R_far (p := ⟨gb213, 1, none⟩) (Kd.R_far (p := ⟨gb213, 0, none⟩) (Kd.R_mono HO_6.out (fun k_ hk => (⟨hk, hk.2⟩ : _ ∧ k_ ≠ gb213))) (fun _ hk => hk.2) (.int .u8 ((rd_T24 l0 x35_2).f0))) (fun _ hk => hk.2) (.int .u16 ((rd_T24 l0 x35_2).f1))) (fun _ hk => hk.2) (.int .u16 ((rd_T24 l0 x35_2).f2))) (fun _ hk => hk.2) (.int .u16 ((rd_T24 l0 x35_2).f3))) (fun _ hk => hk.2) (.int .u16 ((rd_T24 l0 x35_2).f4))) (fun _ h_ => h_.1))) hb); have n2_ := Aside0.mk (Kd.R_lower (Kd.R_new' ho0 (Kd.R_lt (by (with_reducible repeat (first | apply Kd.R_alloc | apply Kd.R_drewN | apply Kd.R_drew)); exact (Kd.R_mono (Kd.R_far (p := ⟨gb213, 4, none⟩) (Kd.R_far (p := ⟨gb213, 3, none⟩) (Kd.R_far (p := ⟨gb213, 2, none⟩) (Kd.R_far (p := ⟨gb213, 1, none⟩) (Kd.R_far (p := ⟨gb213, 0, none⟩) (Kd.R_types HO_5.out BK213.out (by decide)) (fun _ hk => hk.2) (.int .u8 ((rd_T24 l0 x35_2).f0))) (fun _ hk => hk.2) (.int .u16 ((rd_T24 l0 x35_2).f1))) (fun _ hk => hk.2) (.int .u16 ((rd_T24 l0 x35_2).f2))) (fun _ hk => hk.2) (.int .u16 ((rd_T24 l0 x35_2).f3))) (fun _ hk => hk.2) (.int .u16 ((rd_T24 l0 x35_2).f4))) (fun _ h_ => h_.1))))) (below_size (by repeat (first | (with_reducible first | exact HB.out | apply below_alloc | apply pw_below_drewN | apply below_drew1 | refine below_set ?_ GE213.out) | exact HB.out)))); have n3_ := Aside0.mk (blk_below (g := gb213) (o := .cells #[.int .u8 ((rd_T24 l0 x35_2).f0), .int .u16 ((rd_T24 l0 x35_2).f1), .int .u16 ((rd_T24 l0 x35_2).f2), .int .u16 ((rd_T24 l0 x35_2).f3), .int .u16 ((rd_T24 l0 x35_2).f4)] 24 (0, 0)) (by (with_reducible repeat (first | refine blk_drewN ?_ _ | refine blk_drew ?_ | refine blk_alloc ?_ _)); refine blk_put (cs := #[.int .u8 ((rd_T24 l0 x35_2).f0), .int .u16 ((rd_T24 l0 x35_2).f1), .int .u16 ((rd_T24 l0 x35_2).f2), .int .u16 ((rd_T24 l0 x35_2).f3), .int .u16 0]) ?_ 4 _ rfl; (with_reducible repeat (first | refine blk_drewN ?_ _ | refine blk_drew ?_ | refine blk_alloc ?_ _)); refine blk_put (cs := #[.int .u8 ((rd_T24 l0 x35_2).f0), .int .u16 ((rd_T24 l0 x35_2).f1), .int .u16 ((rd_T24 l0 x35_2).f2), .int .u16 0, .int .u16 0]) ?_ 3 _ rfl; (with_reducible repeat (first | refine blk_drewN ?_ _ | refine blk_drew ?_ | refine blk_alloc ?_ _)); refine blk_put (cs := #[.int .u8 ((rd_T24 l0 x35_2).f0), .int .u16 ((rd_T24 l0 x35_2).f1), .int .u16 0, .int .u16 0, .int .u16 0]) ?_ 2 _ rfl; (with_reducible repeat (first | refine blk_drewN ?_ _ | refine blk_drew ?_ | refine blk_alloc ?_ _)); refine blk_put (cs := #[.int .u8 ((rd_T24 l0 x35_2).f0), .int .u16 0, .int .u16 0, .int .u16 0, .int .u16 0]) ?_ 1 _ rfl; (with_reducible repeat (first | refine blk_drewN ?_ _ | refine blk_drew ?_ | refine blk_alloc ?_ _)); refine blk_put (cs := #[.int .u8 0, .int .u16 0, .int .u16 0, .int .u16 0, .int .u16 0]) ?_ 0 _ rfl; (with_reducible repeat (first | refine blk_drewN ?_ _ | refine blk_drew ?_ | refine blk_alloc ?_ _)); exact BK213.out) hb); have n4_ := Aside0.mk (below_step (by repeat (first | (with_reducible first | exact HB.out | apply below_alloc | apply pw_below_drewN | apply below_drew1 | refine below_set ?_ GE213.out) | exact HB.out)) hb); clear HO_5; clear HO_6; clear BK213; clear HB; have HO_5 := n0_; have HO_6 := n1_; have HO216 := n2_; have BK213 := n3_; have HB := n4_; clear n0_ n1_ n2_ n3_ n4_; (try clear hb); (try clear hb2); (try clear hk); (try clear hi); (try clear ho0)))
          go_roundg k2
          case measure => have := HJ2.out; have := HK2.out; omega
          case rel => exact ⟨(x5_2), (x6_2), (wrap64 (x35_2 + 1)), (by first | rfl | (simp; done) | (simp [*]; done)), H', ⟨by have := HJ2.out; have := HK2.out; omega⟩, ⟨by (with_reducible repeat (first | apply Kd.R_alloc | apply Kd.R_drewN | apply Kd.R_drew)); exact Kd.R_mono HO_5.out (fun _ hk => trivial)⟩, ⟨by (with_reducible repeat (first | apply Kd.R_alloc | apply Kd.R_drewN | apply Kd.R_drew)); exact Kd.R_mono HO_6.out (fun _ hk => trivial)⟩, ⟨by repeat (first | (with_reducible first | exact HB.out | apply below_alloc | apply pw_below_drewN | apply below_drew1 | refine below_set ?_ GE213.out) | exact HB.out)⟩⟩
        ·rw [if_neg c15] at H
         exact absurd H (by simp)
       ·rw [if_neg c14] at H
        exact absurd H (by simp)
      ·rw [if_neg c13] at H
       have c13b0 : decide (x35_2 < (l0.length : Int)) = false := decide_eq_false c13
       clear c13
       replace H := Option.bind_eq_some_iff.mp H
       obtain ⟨⟨t224, t227, t230⟩, A300, H⟩ := H
       replace H : ((stillageref02_Same.f k2 t224 x6_2).bind fun t231 => (if t231 = true then (if (t227.length : Int) = 0 then (stillagelaw02_TelePieces.j2 k2 l1 x5_2 x6_2 t227 (t230 != 0)) else (stillagelaw02_TelePieces.j2 k2 l1 x5_2 x6_2 t227 true)) else (stillagelaw02_TelePieces.j2 k2 l1 x5_2 x6_2 t227 true))) = some r := H
       have A30 := Aside0.mk A300
       clear A300
       have HC31 := Aside0.mk H
       clear H
       obtain ⟨Ao32, co32, eo32⟩ := Kd.R_slice HO_5.out
       subst eo32
       go_upto_region 14 with (first | ((with_reducible refine gate_callee (f := 19) rfl ?_); refine goesL_ (some 56) rfl rfl Try.func19 (by kernel_rfl) rfl #[.slice Ao32 x5_2.length co32] rfl (by (try simp only [List.map_toArray, List.map_cons, List.map_nil]); first | done | rfl | (simp only [List.length_drop, List.length_take]; rfl)) ?_; (with_reducible refine (tele_Split.calls k2 (fun k_ => some k_ = (.slice Ao32 x5_2.length co32 : Value).ownBlock) _ _ x5_2 t224 t227 t230 _ ?side1 A30.out).mono ?_); (case side1 => exact Kd.R_V (Kd.R_tight rfl (Kd.R_apart' (HO_5.out) (Kd.R_typed HO_6.out) (by decide)))); rintro e w33 ⟨v225, v228, rfl, ho0, ho1, hb⟩; refine ⟨_, rfl, ?_⟩; have n0_ := Aside0.mk (Kd.R_elder' (by (with_reducible repeat (first | apply Kd.R_alloc | apply Kd.R_drewN | apply Kd.R_drew)); exact HO_5.out) (Kd.R_base ho1) hb); have n1_ := Aside0.mk (Kd.R_elder' (by (with_reducible repeat (first | apply Kd.R_alloc | apply Kd.R_drewN | apply Kd.R_drew)); exact HO_6.out) (Kd.R_base ho0) hb); have n2_ := Aside0.mk (Kd.R_lower (Kd.R_new' (Kd.R_mono (ok' := fun k_ => True) ho0 (fun _ hk_ => trivial)) (Kd.R_lt (by (with_reducible repeat (first | apply Kd.R_alloc | apply Kd.R_drewN | apply Kd.R_drew)); exact HO_6.out))) (below_size (by repeat (first | (with_reducible first | exact HB.out | apply below_alloc | apply pw_below_drewN | apply below_drew1) | exact HB.out)))); have n3_ := Aside0.mk (Kd.R_lower (Kd.R_new' (Kd.R_mono (ok' := fun k_ => True) ho1 (fun _ hk_ => trivial)) (Kd.R_lt (by (with_reducible repeat (first | apply Kd.R_alloc | apply Kd.R_drewN | apply Kd.R_drew)); exact HO_5.out))) (below_size (by repeat (first | (with_reducible first | exact HB.out | apply below_alloc | apply pw_below_drewN | apply below_drew1) | exact HB.out)))); have n4_ := Aside0.mk (below_step (by repeat (first | (with_reducible first | exact HB.out | apply below_alloc | apply pw_below_drewN | apply below_drew1) | exact HB.out)) hb); clear HO_5; clear HO_6; clear HB; have HO_5 := n0_; have HO_6 := n1_; have HO226 := n2_; have HO229 := n3_; have HB := n4_; clear n0_ n1_ n2_ n3_ n4_; (try clear hb); (try clear hb2); (try clear hk); (try clear hi); (try clear ho0); (try clear ho1)))
       (try simp only [Act.put, List.setIfInBounds_toArray, List.set_cons_zero, List.set_cons_succ])
       go_cut [72] (fun v72 wc => ∃ (kq : Nat) (x72_30 : Bool), v72 = .bool x72_30 ∧ Aside0 (stillagelaw02_TelePieces.j2 kq l1 x5_2 x6_2 t227 x72_30 = some r) ∧ Aside0 (kq ≤ k2) ∧ Aside0 (Kd.R (Kd.int .u8) 5 wc w.heap.size (fun k_ => some k_ ≠ (v228 : Value).ownBlock) (.slice Ao32 x5_2.length co32) x5_2) ∧ Aside0 (Kd.R k24 24 wc w.heap.size (fun _ => True) u6 x6_2) ∧ Aside0 (Kd.R (Kd.int .u8) 5 wc w.heap.size (fun k_ => some k_ ≠ ((.slice Ao32 x5_2.length co32) : Value).ownBlock) v228 t227) ∧ Aside0 (Below w.heap.size w wc))
       case first =>
        have H := HC31.out
        clear HC31
        replace H := Option.bind_eq_some_iff.mp H
        obtain ⟨t231, A340, H⟩ := H
        replace H : (if t231 = true then (if (t227.length : Int) = 0 then (stillagelaw02_TelePieces.j2 k2 l1 x5_2 x6_2 t227 (t230 != 0)) else (stillagelaw02_TelePieces.j2 k2 l1 x5_2 x6_2 t227 true)) else (stillagelaw02_TelePieces.j2 k2 l1 x5_2 x6_2 t227 true)) = some r := H
        have A34 := Aside0.mk A340
        clear A340
        by_cases c35 : t231 = true
        ·subst c35
         have H1 : (if (t227.length : Int) = 0 then (stillagelaw02_TelePieces.j2 k2 l1 x5_2 x6_2 t227 (t230 != 0)) else (stillagelaw02_TelePieces.j2 k2 l1 x5_2 x6_2 t227 true)) = some r := by rw [if_pos rfl] at H; exact H
         clear H
         have H := H1
         clear H1
         by_cases c36 : (t227.length : Int) = 0
         ·rw [if_pos c36] at H
          have c36b0 : ((t227.length : Int) == 0) = true := beq_iff_eq.mpr c36
          have c36b1 : ((t227.length : Int) != 0) = false := bne_eq_false_iff_eq.mpr c36
          clear c36
          (first | rw [c36b0] | (simp only [i64_w, i32_w]; rw [c36b0]) | skip)
          have H' := Aside0.mk H
          clear H
          obtain ⟨Ao37, co37, eo37⟩ := Kd.R_slice HO226.out
          subst eo37
          obtain ⟨Ao38, co38, eo38⟩ := Kd.R_slice HO_6.out
          subst eo38
          go_wp2_with (first | ((with_reducible refine gate_callee (f := 21) rfl ?_); refine goesL_ (some 62) rfl rfl Try.func21 (by kernel_rfl) rfl #[.slice Ao37 t224.length co37, .slice Ao38 x6_2.length co38] rfl (by (try simp only [List.map_toArray, List.map_cons, List.map_nil]); first | done | rfl | (simp only [List.length_drop, List.length_take]; rfl)) ?_; (with_reducible refine (stillageref02_Same.calls k2 _ _ t224 _ _ x6_2 true _ ?side1 ?side2 ?side3 ?side4 A34.out).mono ?_); (case side1 => repeat (first | exact (Kd.R_reads' HO226.out).2.2 | (with_reducible refine Kd.C_alloc ?_ _) | (with_reducible refine Kd.C_drewN ?_ _) | (with_reducible refine Kd.C_drew ?_))); (case side2 => exact (Kd.R_reads' HO226.out).2.1); (case side3 => repeat (first | exact (Kd.R_reads' HO_6.out).2.2 | (with_reducible refine Kd.C_alloc ?_ _) | (with_reducible refine Kd.C_drewN ?_ _) | (with_reducible refine Kd.C_drew ?_))); (case side4 => exact (Kd.R_reads' HO_6.out).2.1); rintro e w' ⟨rfl, ⟨nd, rfl⟩⟩; refine ⟨_, rfl, ?_⟩; obtain ⟨Ao39, co39, eo39⟩ := Kd.R_slice HO229.out; subst eo39))
          go_meet
          case rel => exact ⟨_, ((t230 != 0)), (by first | rfl | (simp; done) | (simp [*]; done)), H', ⟨by have := HJ2.out; have := HK2.out; first | omega | exact Nat.le_refl _⟩, ⟨by (with_reducible repeat (first | apply Kd.R_alloc | apply Kd.R_drewN | apply Kd.R_drew)); exact Kd.R_mono HO_5.out (fun _ hk => hk.2)⟩, ⟨by (with_reducible repeat (first | apply Kd.R_alloc | apply Kd.R_drewN | apply Kd.R_drew)); exact Kd.R_mono HO_6.out (fun _ hk => trivial)⟩, ⟨by (with_reducible repeat (first | apply Kd.R_alloc | apply Kd.R_drewN | apply Kd.R_drew)); exact Kd.R_mono HO229.out (fun _ hk => hk.2)⟩, ⟨by repeat (first | (with_reducible first | exact HB.out | apply below_alloc | apply pw_below_drewN | apply below_drew1) | exact HB.out)⟩⟩
         ·rw [if_neg c36] at H
          have c36b0 : ((t227.length : Int) == 0) = false := beq_eq_false_iff_ne.mpr c36
          have c36b1 : ((t227.length : Int) != 0) = true := bne_iff_ne.mpr c36
          have c36b2 : ¬ (t227 = []) := fun h_ => c36 (by rw [h_]; rfl)
          (first | rw [c36b0] | (simp only [i64_w, i32_w]; rw [c36b0]) | skip)
          have H' := Aside0.mk H
          clear H
          obtain ⟨Ao40, co40, eo40⟩ := Kd.R_slice HO226.out
          subst eo40
          obtain ⟨Ao41, co41, eo41⟩ := Kd.R_slice HO_6.out
          subst eo41
          go_wp2_with (first | ((with_reducible refine gate_callee (f := 21) rfl ?_); refine goesL_ (some 62) rfl rfl Try.func21 (by kernel_rfl) rfl #[.slice Ao40 t224.length co40, .slice Ao41 x6_2.length co41] rfl (by (try simp only [List.map_toArray, List.map_cons, List.map_nil]); first | done | rfl | (simp only [List.length_drop, List.length_take]; rfl)) ?_; (with_reducible refine (stillageref02_Same.calls k2 _ _ t224 _ _ x6_2 true _ ?side1 ?side2 ?side3 ?side4 A34.out).mono ?_); (case side1 => repeat (first | exact (Kd.R_reads' HO226.out).2.2 | (with_reducible refine Kd.C_alloc ?_ _) | (with_reducible refine Kd.C_drewN ?_ _) | (with_reducible refine Kd.C_drew ?_))); (case side2 => exact (Kd.R_reads' HO226.out).2.1); (case side3 => repeat (first | exact (Kd.R_reads' HO_6.out).2.2 | (with_reducible refine Kd.C_alloc ?_ _) | (with_reducible refine Kd.C_drewN ?_ _) | (with_reducible refine Kd.C_drew ?_))); (case side4 => exact (Kd.R_reads' HO_6.out).2.1); rintro e w' ⟨rfl, ⟨nd, rfl⟩⟩; refine ⟨_, rfl, ?_⟩; obtain ⟨Ao42, co42, eo42⟩ := Kd.R_slice HO229.out; subst eo42))
          go_meet
          case rel => exact ⟨_, (true), (by first | rfl | (simp; done) | (simp [*]; done)), H', ⟨by have := HJ2.out; have := HK2.out; first | omega | exact Nat.le_refl _⟩, ⟨by (with_reducible repeat (first | apply Kd.R_alloc | apply Kd.R_drewN | apply Kd.R_drew)); exact Kd.R_mono HO_5.out (fun _ hk => hk.2)⟩, ⟨by (with_reducible repeat (first | apply Kd.R_alloc | apply Kd.R_drewN | apply Kd.R_drew)); exact Kd.R_mono HO_6.out (fun _ hk => trivial)⟩, ⟨by (with_reducible repeat (first | apply Kd.R_alloc | apply Kd.R_drewN | apply Kd.R_drew)); exact Kd.R_mono HO229.out (fun _ hk => hk.2)⟩, ⟨by repeat (first | (with_reducible first | exact HB.out | apply below_alloc | apply pw_below_drewN | apply below_drew1) | exact HB.out)⟩⟩
        ·replace c35 := Bool.eq_false_iff.mpr c35
         subst c35
         have H1 : (stillagelaw02_TelePieces.j2 k2 l1 x5_2 x6_2 t227 true) = some r := by rw [if_neg (show ¬ (false = true) by decide)] at H; exact H
         clear H
         have H := H1
         clear H1
         have H' := Aside0.mk H
         clear H
         obtain ⟨Ao43, co43, eo43⟩ := Kd.R_slice HO226.out
         subst eo43
         obtain ⟨Ao44, co44, eo44⟩ := Kd.R_slice HO_6.out
         subst eo44
         go_wp2_with (first | ((with_reducible refine gate_callee (f := 21) rfl ?_); refine goesL_ (some 62) rfl rfl Try.func21 (by kernel_rfl) rfl #[.slice Ao43 t224.length co43, .slice Ao44 x6_2.length co44] rfl (by (try simp only [List.map_toArray, List.map_cons, List.map_nil]); first | done | rfl | (simp only [List.length_drop, List.length_take]; rfl)) ?_; (with_reducible refine (stillageref02_Same.calls k2 _ _ t224 _ _ x6_2 false _ ?side1 ?side2 ?side3 ?side4 A34.out).mono ?_); (case side1 => repeat (first | exact (Kd.R_reads' HO226.out).2.2 | (with_reducible refine Kd.C_alloc ?_ _) | (with_reducible refine Kd.C_drewN ?_ _) | (with_reducible refine Kd.C_drew ?_))); (case side2 => exact (Kd.R_reads' HO226.out).2.1); (case side3 => repeat (first | exact (Kd.R_reads' HO_6.out).2.2 | (with_reducible refine Kd.C_alloc ?_ _) | (with_reducible refine Kd.C_drewN ?_ _) | (with_reducible refine Kd.C_drew ?_))); (case side4 => exact (Kd.R_reads' HO_6.out).2.1); rintro e w' ⟨rfl, ⟨nd, rfl⟩⟩; refine ⟨_, rfl, ?_⟩))
         go_meet
         case rel => exact ⟨_, (true), (by first | rfl | (simp; done) | (simp [*]; done)), H', ⟨by have := HJ2.out; have := HK2.out; first | omega | exact Nat.le_refl _⟩, ⟨by (with_reducible repeat (first | apply Kd.R_alloc | apply Kd.R_drewN | apply Kd.R_drew)); exact Kd.R_mono HO_5.out (fun _ hk => hk.2)⟩, ⟨by (with_reducible repeat (first | apply Kd.R_alloc | apply Kd.R_drewN | apply Kd.R_drew)); exact Kd.R_mono HO_6.out (fun _ hk => trivial)⟩, ⟨by (with_reducible repeat (first | apply Kd.R_alloc | apply Kd.R_drewN | apply Kd.R_drew)); exact Kd.R_mono HO229.out (fun _ hk => hk.2)⟩, ⟨by repeat (first | (with_reducible first | exact HB.out | apply below_alloc | apply pw_below_drewN | apply below_drew1) | exact HB.out)⟩⟩
       case rest =>
        clear HC31
        try clear c1
        try clear c2
        try clear p2
        try clear q2
        try clear hx2
        try clear c3
        try clear c5
        try clear c6
        try clear c6b0
        try clear c6b1
        try clear p6
        try clear c8
        try clear c10
        try clear c11
        try clear c12
        try clear c13
        try clear c13b0
        try clear c14
        try clear c14b0
        try clear c15
        try clear c15b0
        try clear c17
        try clear c17b0
        try clear c17b1
        try clear c18
        try clear c19
        try clear c21
        try clear p21
        try clear q21
        try clear hx21
        try clear c35
        try clear c36
        try clear c36b0
        try clear c36b1
        try clear c36b2
        try clear hcz21_0
        try clear hcz21_1
        try clear hcz21_2
        try clear hcz21_3
        try clear hcz21_4
        try clear hcz25_0
        try clear hcz25_1
        try clear hcz25_2
        try clear hcz25_3
        try clear hcz25_4
        try clear hcz28_0
        try clear hcz28_1
        try clear hcz28_2
        try clear hcz28_3
        try clear hcz28_4
        try clear hfz21_0
        try clear hfz21_1
        try clear hfz21_2
        try clear hfz21_3
        try clear hfz21_4
        try clear hfz25_0
        try clear hfz25_1
        try clear hfz25_2
        try clear hfz25_3
        try clear hfz25_4
        try clear hfz28_0
        try clear hfz28_1
        try clear hfz28_2
        try clear hfz28_3
        try clear hfz28_4
        try clear hx212_0
        try clear hx212_1
        try clear hx212_2
        try clear hx212_3
        try clear hx212_4
        try clear p2
        try clear p212
        try clear q212
        obtain ⟨kq, x72_30, rfl, HA, HJ30, HO_5, HO_6, HO_12, HB⟩ := hcut
        cases kq with
        | zero => exact absurd HA.out (by simp [stillagelaw02_TelePieces.j2])
        | succ kj30 =>
         have H := HA.out
         clear HA
         simp only [stillagelaw02_TelePieces.j2] at H
         by_cases c45 : x72_30 = true
         ·subst c45
          have H1 : (some false) = some r := by rw [if_pos rfl] at H; exact H
          clear H
          have H := H1
          clear H1
          obtain rfl := Option.some.inj H
          go_wp2
          go_ret
          exact ⟨by first | rfl | (simp [errW_none, errW_some] <;> rfl) | (simp [*, errW_none, errW_some] <;> rfl), by repeat (first | (with_reducible first | exact HB.out | apply below_alloc | apply pw_below_drewN | apply below_drew1) | exact HB.out)⟩
         ·replace c45 := Bool.eq_false_iff.mpr c45
          subst c45
          have H1 : (stillagelaw02_TelePieces.l1 kj30 l1 x5_2 x6_2 t227 ([] : List (S24)) 0) = some r := by rw [if_neg (show ¬ (false = true) by decide)] at H; exact H
          clear H
          have H := H1
          clear H1
          have H' := Aside0.mk H
          clear H
          go_wp2
          go_loopg [5, 12, 14, 15] kj30 (fun kq v5 v12 v14 v15 w' => ∃ (x5_4 : List Int) (x12_4 : List Int) (x14_4 : List (S24)) (x15_4 : Int), v15 = .int .i64 x15_4 ∧ Aside0 (stillagelaw02_TelePieces.l1 kq l1 x5_4 x6_2 x12_4 x14_4 x15_4 = some r) ∧ Aside0 (kq ≤ kj30) ∧ Aside0 (Kd.Q (Kd.int .u8) 5 w' w.heap.size (fun k_ => some k_ ≠ (v12 : Value).ownBlock) v5 x5_4) ∧ Aside0 (Kd.R k24 24 w' w.heap.size (fun k_ => some k_ ≠ (v14 : Value).ownBlock) u6 x6_2) ∧ Aside0 (Kd.R (Kd.int .u8) 5 w' w.heap.size (fun k_ => some k_ ≠ (v5 : Value).ownBlock) v12 x12_4) ∧ Aside0 (Kd.R k24 24 w' w.heap.size (fun k_ => some k_ ≠ (u6 : Value).ownBlock) v14 x14_4) ∧ Aside0 (Below w.heap.size w w'))
          case atStart => exact ⟨(x5_2), (t227), (([] : List (S24))), (0), (by first | rfl | (simp; done) | (simp [*]; done)), H', ⟨Nat.le_refl _⟩, ⟨Kd.Q_of_R (by (with_reducible repeat (first | apply Kd.R_alloc | apply Kd.R_drewN | apply Kd.R_drew)); exact HO_5.out)⟩, ⟨by (with_reducible repeat (first | apply Kd.R_alloc | apply Kd.R_drewN | apply Kd.R_drew)); exact Kd.R_mono HO_6.out (fun _ hk => (by simp [Value.ownBlock]))⟩, ⟨by (with_reducible repeat (first | apply Kd.R_alloc | apply Kd.R_drewN | apply Kd.R_drew)); exact HO_12.out⟩, ⟨by first | exact Kd.R_nil _ _ _ _ _ | exact Kd.N_nil _ _ _ _ _ | exact Kd.V_nil _ _ _ _ _ | exact Kd.Q_nil _ _ _ _ _ | exact Kd.S_nil _ _ _ _ _⟩, ⟨by repeat (first | (with_reducible first | exact HB.out | apply below_alloc | apply pw_below_drewN | apply below_drew1) | exact HB.out)⟩⟩
          case round =>
           clear H'
           try clear c1
           try clear c2
           try clear p2
           try clear q2
           try clear hx2
           try clear c3
           try clear c4
           try clear c5
           try clear c6
           try clear c6b0
           try clear c6b1
           try clear p6
           try clear c8
           try clear c10
           try clear c11
           try clear c12
           try clear c13
           try clear c13b0
           try clear c14
           try clear c14b0
           try clear c15
           try clear c15b0
           try clear c17
           try clear c17b0
           try clear c17b1
           try clear c18
           try clear c19
           try clear c21
           try clear p21
           try clear q21
           try clear hx21
           try clear c35
           try clear c36
           try clear c36b0
           try clear c36b1
           try clear c36b2
           try clear c45
           try clear hcz21_0
           try clear hcz21_1
           try clear hcz21_2
           try clear hcz21_3
           try clear hcz21_4
           try clear hcz25_0
           try clear hcz25_1
           try clear hcz25_2
           try clear hcz25_3
           try clear hcz25_4
           try clear hcz28_0
           try clear hcz28_1
           try clear hcz28_2
           try clear hcz28_3
           try clear hcz28_4
           try clear hfz21_0
           try clear hfz21_1
           try clear hfz21_2
           try clear hfz21_3
           try clear hfz21_4
           try clear hfz25_0
           try clear hfz25_1
           try clear hfz25_2
           try clear hfz25_3
           try clear hfz25_4
           try clear hfz28_0
           try clear hfz28_1
           try clear hfz28_2
           try clear hfz28_3
           try clear hfz28_4
           try clear hx212_0
           try clear hx212_1
           try clear hx212_2
           try clear hx212_3
           try clear hx212_4
           try clear p2
           try clear p21
           try clear p212
           try clear p6
           try clear q2
           try clear q21
           try clear q212
           obtain ⟨x5_4, x12_4, x14_4, x15_4, rfl, HA, HK4, HO_5, HO_6, HO_12, HO_14, HB⟩ := hrel
           cases gk with
           | zero => exact absurd HA.out (by simp [stillagelaw02_TelePieces.l1])
           | succ k4 =>
            have H := HA.out
            clear HA
            simp only [stillagelaw02_TelePieces.l1] at H
            by_cases c46 : (x5_4.length : Int) > 0
            ·rw [if_pos c46] at H
             have c46b0 : decide (0 < (x5_4.length : Int)) = true := decide_eq_true c46
             have c46b1 : decide (0 < x5_4.length) = true := decide_eq_true (by omega)
             clear c46
             by_cases c47 : x15_4 < (l1.length : Int)
             ·rw [if_pos c47] at H
              have c47b0 : decide (x15_4 < (l1.length : Int)) = true := decide_eq_true c47
              clear c47
              by_cases c48 : 0 ≤ x15_4
              ·rw [if_pos c48] at H
               have c48b0 : decide (0 ≤ x15_4) = true := decide_eq_true c48
               clear c48
               by_cases c49 : (IntKind.u64.wrap (wrap64 ((x5_4.length : Int) + 1))) = 0
               ·rw [if_pos c49] at H
                exact absurd H (by simp)
               ·rw [if_neg c49] at H
                have c49b0 : ((IntKind.u64.wrap (wrap64 ((x5_4.length : Int) + 1))) == 0) = false := beq_eq_false_iff_ne.mpr c49
                have c49b1 : ((IntKind.u64.wrap (wrap64 ((x5_4.length : Int) + 1))) != 0) = true := bne_iff_ne.mpr c49
                obtain ⟨y234, hy234⟩ : ∃ y_ : List Int, y_ = (([] : List Int)) := ⟨_, rfl⟩
                replace H : (if y234.length + x12_4.length < 140737488355328 then ((some (y234 ++ x12_4 : List Int)).bind fun y237 => (if 0 ≤ (wrap64 (Int.tmod (IntKind.u64.wrap (rd l1 x15_4)) (IntKind.u64.wrap (wrap64 ((x5_4.length : Int) + 1))))) then (if (wrap64 (Int.tmod (IntKind.u64.wrap (rd l1 x15_4)) (IntKind.u64.wrap (wrap64 ((x5_4.length : Int) + 1))))) ≤ (x5_4.length : Int) then ((some (x5_4.take ((wrap64 (Int.tmod (IntKind.u64.wrap (rd l1 x15_4)) (IntKind.u64.wrap (wrap64 ((x5_4.length : Int) + 1))))) : Int).toNat : List Int)).bind fun y240 => (if y237.length + y240.length < 140737488355328 then ((tele_Split.f k4 (y237 ++ y240)).bind fun bt247 => (if bt247.2.2 = 0 then (if x14_4.length + bt247.1.length < 14073748835532 then (stillagelaw02_TelePieces.l1 k4 l1 (x5_4.drop ((wrap64 (Int.tmod (IntKind.u64.wrap (rd l1 x15_4)) (IntKind.u64.wrap (wrap64 ((x5_4.length : Int) + 1))))) : Int).toNat) x6_2 bt247.2.1 (x14_4 ++ bt247.1) (wrap64 (x15_4 + 1))) else (none)) else (some false))) else (none))) else (none)) else (none))) else (none)) = some r := by first | (rw [hy234]; with_reducible exact H) | (have H2_ := (Option.bind_some _ _).symm.trans H; rw [hy234]; with_reducible exact H2_) | (have H2_ := (Option.bind_some _ _).symm.trans H; with_reducible exact H2_) | with_reducible exact H | (rw [hy234]; exact H) | exact H
                have Ny234 := Aside0.mk hy234
                clear hy234
                by_cases c50 : y234.length + x12_4.length < 140737488355328
                ·rw [if_pos c50] at H
                 have LMc50 := Aside0.mk c50
                 clear c50
                 obtain ⟨y237, hy237⟩ : ∃ y_ : List Int, y_ = (y234 ++ x12_4) := ⟨_, rfl⟩
                 replace H : (if 0 ≤ (wrap64 (Int.tmod (IntKind.u64.wrap (rd l1 x15_4)) (IntKind.u64.wrap (wrap64 ((x5_4.length : Int) + 1))))) then (if (wrap64 (Int.tmod (IntKind.u64.wrap (rd l1 x15_4)) (IntKind.u64.wrap (wrap64 ((x5_4.length : Int) + 1))))) ≤ (x5_4.length : Int) then ((some (x5_4.take ((wrap64 (Int.tmod (IntKind.u64.wrap (rd l1 x15_4)) (IntKind.u64.wrap (wrap64 ((x5_4.length : Int) + 1))))) : Int).toNat : List Int)).bind fun y240 => (if y237.length + y240.length < 140737488355328 then ((tele_Split.f k4 (y237 ++ y240)).bind fun bt247 => (if bt247.2.2 = 0 then (if x14_4.length + bt247.1.length < 14073748835532 then (stillagelaw02_TelePieces.l1 k4 l1 (x5_4.drop ((wrap64 (Int.tmod (IntKind.u64.wrap (rd l1 x15_4)) (IntKind.u64.wrap (wrap64 ((x5_4.length : Int) + 1))))) : Int).toNat) x6_2 bt247.2.1 (x14_4 ++ bt247.1) (wrap64 (x15_4 + 1))) else (none)) else (some false))) else (none))) else (none)) else (none)) = some r := by first | (rw [hy237]; with_reducible exact H) | (have H2_ := (Option.bind_some _ _).symm.trans H; rw [hy237]; with_reducible exact H2_) | (have H2_ := (Option.bind_some _ _).symm.trans H; with_reducible exact H2_) | with_reducible exact H | (rw [hy237]; exact H) | exact H
                 have Ny237 := Aside0.mk hy237
                 clear hy237
                 obtain ⟨ji51, hji51⟩ : ∃ j_ : Int, (wrap64 (Int.tmod (IntKind.u64.wrap (rd l1 x15_4)) (IntKind.u64.wrap (wrap64 ((x5_4.length : Int) + 1))))) = j_ := ⟨_, rfl⟩
                 replace H : (if 0 ≤ (ji51) then (if (ji51) ≤ (x5_4.length : Int) then ((some (x5_4.take ((ji51) : Int).toNat : List Int)).bind fun y240 => (if y237.length + y240.length < 140737488355328 then ((tele_Split.f k4 (y237 ++ y240)).bind fun bt247 => (if bt247.2.2 = 0 then (if x14_4.length + bt247.1.length < 14073748835532 then (stillagelaw02_TelePieces.l1 k4 l1 (x5_4.drop ((ji51) : Int).toNat) x6_2 bt247.2.1 (x14_4 ++ bt247.1) (wrap64 (x15_4 + 1))) else (none)) else (some false))) else (none))) else (none)) else (none)) = some r := by first | (rw [hji51] at H; exact H) | (simp only [hji51] at H ⊢; exact H)
                 have hji51w : (IntKind.i64.wrap (Int.tmod (IntKind.u64.wrap (rd l1 x15_4)) (IntKind.u64.wrap (wrap64 ((x5_4.length : Int) + 1))))) = ji51 := (i64_w _).trans hji51
                 by_cases c52 : 0 ≤ (ji51)
                 ·rw [if_pos c52] at H
                  have c52b0 := eq_true c52
                  have c52b1 : decide (0 ≤ (ji51)) = true := decide_eq_true c52
                  clear c52
                  by_cases c53 : (ji51) ≤ (x5_4.length : Int)
                  ·rw [if_pos c53] at H
                   have c53b0 := eq_true c53
                   have c53b1 : decide ((ji51) ≤ (x5_4.length : Int)) = true := decide_eq_true c53
                   clear c53
                   obtain ⟨y240, hy240⟩ : ∃ y_ : List Int, y_ = (x5_4.take ((ji51) : Int).toNat) := ⟨_, rfl⟩
                   replace H : (if y237.length + y240.length < 140737488355328 then ((tele_Split.f k4 (y237 ++ y240)).bind fun bt247 => (if bt247.2.2 = 0 then (if x14_4.length + bt247.1.length < 14073748835532 then (stillagelaw02_TelePieces.l1 k4 l1 (x5_4.drop ((ji51) : Int).toNat) x6_2 bt247.2.1 (x14_4 ++ bt247.1) (wrap64 (x15_4 + 1))) else (none)) else (some false))) else (none)) = some r := by first | (rw [hy240]; with_reducible exact H) | (have H2_ := (Option.bind_some _ _).symm.trans H; rw [hy240]; with_reducible exact H2_) | (have H2_ := (Option.bind_some _ _).symm.trans H; with_reducible exact H2_) | with_reducible exact H | (rw [hy240]; exact H) | exact H
                   have Ny240 := Aside0.mk hy240
                   clear hy240
                   by_cases c54 : y237.length + y240.length < 140737488355328
                   ·rw [if_pos c54] at H
                    have LMc54 := Aside0.mk c54
                    clear c54
                    obtain ⟨y244, hy244⟩ : ∃ y_ : List Int, y_ = (y237 ++ y240) := ⟨_, rfl⟩
                    replace H : ((tele_Split.f k4 y244).bind fun bt247 => (if bt247.2.2 = 0 then (if x14_4.length + bt247.1.length < 14073748835532 then (stillagelaw02_TelePieces.l1 k4 l1 (x5_4.drop ((ji51) : Int).toNat) x6_2 bt247.2.1 (x14_4 ++ bt247.1) (wrap64 (x15_4 + 1))) else (none)) else (some false))) = some r := by first | (rw [hy244]; with_reducible exact H) | (have H2_ := (Option.bind_some _ _).symm.trans H; rw [hy244]; with_reducible exact H2_) | (have H2_ := (Option.bind_some _ _).symm.trans H; with_reducible exact H2_) | with_reducible exact H | (rw [hy244]; exact H) | exact H
                    have Ny244 := Aside0.mk hy244
                    clear hy244
                    replace H := Option.bind_eq_some_iff.mp H
                    obtain ⟨⟨t247, t250, t253⟩, A550, H⟩ := H
                    replace H : (if t253 = 0 then (if x14_4.length + t247.length < 14073748835532 then (stillagelaw02_TelePieces.l1 k4 l1 (x5_4.drop ((ji51) : Int).toNat) x6_2 t250 (x14_4 ++ t247) (wrap64 (x15_4 + 1))) else (none)) else (some false)) = some r := H
                    have A55 := Aside0.mk A550
                    clear A550
                    by_cases c56 : t253 = 0
                    ·rw [if_pos c56] at H
                     have c56b0 : (t253 == 0) = true := beq_iff_eq.mpr c56
                     have c56b1 : (t253 != 0) = false := bne_eq_false_iff_eq.mpr c56
                     clear c56
                     by_cases c57 : x14_4.length + t247.length < 14073748835532
                     ·rw [if_pos c57] at H
                      have LMc57 := Aside0.mk c57
                      clear c57
                      obtain ⟨y254, hy254⟩ : ∃ y_ : List (S24), y_ = (x14_4 ++ t247) := ⟨_, rfl⟩
                      replace H : (stillagelaw02_TelePieces.l1 k4 l1 (x5_4.drop ((ji51) : Int).toNat) x6_2 t250 y254 (wrap64 (x15_4 + 1))) = some r := by first | (rw [hy254]; with_reducible exact H) | (have H2_ := (Option.bind_some _ _).symm.trans H; rw [hy254]; with_reducible exact H2_) | (have H2_ := (Option.bind_some _ _).symm.trans H; with_reducible exact H2_) | with_reducible exact H | (rw [hy254]; exact H) | exact H
                      have Ny254 := Aside0.mk hy254
                      clear hy254
                      have c58b0 := eq_true (of_decide_eq_true (by first | (with_reducible assumption) | assumption) : (ji51) ≤ (x5_4.length : Int))
                      obtain ⟨y257, hy257⟩ : ∃ y_ : List Int, y_ = (x5_4.drop ((ji51) : Int).toNat) := ⟨_, rfl⟩
                      replace H : (stillagelaw02_TelePieces.l1 k4 l1 y257 x6_2 t250 y254 (wrap64 (x15_4 + 1))) = some r := by first | (rw [hy257]; with_reducible exact H) | (have H2_ := (Option.bind_some _ _).symm.trans H; rw [hy257]; with_reducible exact H2_) | (have H2_ := (Option.bind_some _ _).symm.trans H; with_reducible exact H2_) | with_reducible exact H | (rw [hy257]; exact H) | exact H
                      have Ny257 := Aside0.mk hy257
                      clear hy257
                      have H' := Aside0.mk H
                      clear H
                      obtain ⟨Ao59, co59, eo59, _⟩ := Kd.Q_slice HO_5.out
                      subst eo59
                      have p233 : 0 ≤ (x15_4 : Int) := of_decide_eq_true (by first | (with_reducible assumption) | assumption)
                      have q233 : x15_4 < (l1.length : Int) := of_decide_eq_true (by first | (with_reducible assumption) | assumption)
                      obtain ⟨ad233, e233, hx233_0⟩ := Kd.at_int HR1.out x15_4 p233 q233
                      cases e233
                      replace hx233_0 := (HB.out.cell (World.block_lt_of_cell? w _ hx233_0)).trans hx233_0
                      replace p233 := eq_true p233
                      replace q233 := eq_true q233
                      try go_wp2
                      have n0_ := Aside0.mk (Kd.Q_drew HO_5.out)
                      have n1_ := Aside0.mk (Kd.R_drew HO_6.out)
                      have n2_ := Aside0.mk (Kd.R_drew HO_12.out)
                      have n3_ := Aside0.mk (Kd.R_drew HO_14.out)
                      have n4_ := Aside0.mk (below_drew1 HB.out)
                      clear HO_5
                      clear HO_6
                      clear HO_12
                      clear HO_14
                      clear HB
                      have HO_5 := n0_
                      have HO_6 := n1_
                      have HO_12 := n2_
                      have HO_14 := n3_
                      have HB := n4_
                      clear n0_ n1_ n2_ n3_ n4_
                      have q61 : ((ji51) : Int) ≤ ((x5_4.length : Int) : Int) := of_decide_eq_true (by first | (with_reducible assumption) | assumption)
                      obtain ⟨i061, hi061, _, hsz61, _⟩ := info_parts info5
                      have hroom61 : x5_4.length ≤ co59 := (Kd.Q_reads' HO_5.out).2.1
                      have hC61 : Kd.C (Kd.int .u8) _ Ao59 x5_4.length x5_4 := (Kd.Q_reads' HO_5.out).2.2
                      have hcut61 := cut_to (P := Try.prog) 26 5 .i64 Try.underlying26 hi061 Ao59 x5_4.length co59 (ji51) (of_decide_eq_true (by first | (with_reducible assumption) | assumption)) q61 hroom61
                      have hr61 := Kd.C_take (m := ((ji51) : Int).toNat) hC61 (by omega)
                      have hy61 : y240.length = ((ji51) : Int).toNat := (by rw [Ny240.out, List.length_take]; omega)
                      rw [← Ny240.out] at hr61
                      rw [← hy61] at hcut61
                      have HR243 := Aside0.mk hr61
                      have HC243 := Aside0.mk (show y240.length ≤ co59 from by omega)
                      clear hr61 hC61 hroom61 hi061 hsz61
                      have KY61 := Aside0.mk hy61
                      clear hy61
                      have KL61 := Aside0.mk (show ((ji51) : Int).toNat ≤ x5_4.length from by omega)
                      replace q61 := eq_true q61
                      refine start_ (n := 15) (S := fun w' => True) (ds := []) #[false, false, false, false, false, false, false, false, false, false, false, false, false, false, false] (by kernel_rfl) rfl rfl trivial (fun hHeld => ?_); refine with_tabW stillagelaw02_TelePieces.tab23 stillagelaw02_TelePieces.bits23 (fun HT_ HW_ => ?_)
                      generalize wr.drew = w60 at HO_5 HO_6 HO_12 HO_14 HB HR243 hHeld ⊢
                      refine pure_ (i := 1) (N := some 97) (v := ?_) (a' := ?_) #[false, true, false, false, false, false, false, false, false, false, false, false, false, false, false] rfl rfl (any_of HT_.out (by kernel_rfl)) (fun _ _ _ h => h) (Or.inl ⟨by rfl, ?_⟩) ?_ ?_
                      rotate_left
                      ·intro w'
                       go_simp
                       with_reducible rfl
                      rotate_left
                      ·simp only [Act.put, List.setIfInBounds_toArray, List.set_cons_zero, List.set_cons_succ, i64_w, i32_w]
                       rfl
                      refine pure_ (i := 3) (N := some 99) (v := ?_) (a' := ?_) #[false, true, false, true, false, false, false, false, false, false, false, false, false, false, false] rfl rfl (any_of HT_.out (by kernel_rfl)) (fun _ _ _ h => h) (Or.inl ⟨by rfl, ?_⟩) ?_ ?_
                      rotate_left
                      ·intro w'
                       go_simp
                       with_reducible rfl
                      rotate_left
                      ·simp only [Act.put, List.setIfInBounds_toArray, List.set_cons_zero, List.set_cons_succ, i64_w, i32_w]
                       rfl
                      refine pure_ (i := 4) (N := some 100) (v := ?_) (a' := ?_) #[false, true, false, true, true, false, false, false, false, false, false, false, false, false, false] rfl rfl (any_of HT_.out (by kernel_rfl)) (fun _ _ _ h => h) (Or.inl ⟨by rfl, ?_⟩) ?_ ?_
                      rotate_left
                      ·intro w'
                       go_simp
                       with_reducible rfl
                      rotate_left
                      ·simp only [Act.put, List.setIfInBounds_toArray, List.set_cons_zero, List.set_cons_succ, i64_w, i32_w]
                       rfl
                      refine pure_ (i := 5) (N := some 101) (v := ?_) (a' := ?_) #[false, true, false, true, true, true, false, false, false, false, false, false, false, false, false] rfl rfl (any_of HT_.out (by kernel_rfl)) (fun _ _ _ h => h) (Or.inl ⟨by rfl, ?_⟩) ?_ ?_
                      rotate_left
                      ·intro w'
                       go_simp
                       with_reducible rfl
                      rotate_left
                      ·simp only [Act.put, List.setIfInBounds_toArray, List.set_cons_zero, List.set_cons_succ, i64_w, i32_w]
                       rfl
                      refine one_ (i := 0) (N := some 96) #[true, true, false, true, true, true, false, false, false, false, false, false, false, false, false] rfl rfl (one_of HT_.out (by kernel_rfl)) (by decide) (fun K hK => ?_)
                      refine Kd.R_lit_step (Kd.int .u8) _ 5 ?hg (N := 96) ?hd (xs := ([] : List Int)) (inner := []) (ok := fun _ => True) (okp := fun _ => True) ?hr ?hp (fun _ hk => hk) trivial (Below.refl _ _) (Nat.le_refl _) (by simp) ?_; (case hd => rfl); (case hg => rfl); (case hr => first | (go_simp; done) | (go_simp; rfl)); (case hp => exact (Reps.none _ _))
                      intro v235 w62 ho63 hb hg_ hnew_
                      clear hg_ hnew_
                      (first | rw [← Ny234.out] at ho63 | (simp only [Int.reduceToNat] at ho63; rw [← Ny234.out] at ho63))
                      have n0_ := Aside0.mk (Kd.Q_elder' (by (with_reducible repeat (first | apply Kd.Q_alloc | apply Kd.Q_drewN | apply Kd.Q_drew)); exact HO_5.out) (Kd.R_base ho63) hb)
                      have n1_ := Aside0.mk (Kd.R_below (by (with_reducible repeat (first | apply Kd.R_alloc | apply Kd.R_drewN | apply Kd.R_drew)); exact HO_6.out) hb)
                      have n2_ := Aside0.mk (Kd.R_elder' (by (with_reducible repeat (first | apply Kd.R_alloc | apply Kd.R_drewN | apply Kd.R_drew)); exact HO_12.out) (Kd.R_base ho63) hb)
                      have n3_ := Aside0.mk (Kd.R_below (by (with_reducible repeat (first | apply Kd.R_alloc | apply Kd.R_drewN | apply Kd.R_drew)); exact HO_14.out) hb)
                      have n4_ := Aside0.mk (Kd.R_lower (Kd.R_new' (Kd.R_new' ho63 (Kd.Q_lt (by (with_reducible repeat (first | apply Kd.Q_alloc | apply Kd.Q_drewN | apply Kd.Q_drew)); exact HO_5.out))) (Kd.R_lt (by (with_reducible repeat (first | apply Kd.R_alloc | apply Kd.R_drewN | apply Kd.R_drew)); exact HO_12.out))) (below_size (by repeat (first | (with_reducible first | exact HB.out | apply below_alloc | apply pw_below_drewN | apply below_drew1) | exact HB.out))))
                      have n5_ := Aside0.mk (Kd.C_below (by repeat (first | (with_reducible exact HR243.out) | (with_reducible refine Kd.C_alloc ?_ _) | (with_reducible refine Kd.C_drewN ?_ _) | (with_reducible refine Kd.C_drew ?_) | exact HR243.out)) hb)
                      have n6_ := Aside0.mk (below_step (by repeat (first | (with_reducible first | exact HB.out | apply below_alloc | apply pw_below_drewN | apply below_drew1) | exact HB.out)) hb)
                      clear HO_5
                      clear HO_6
                      clear HO_12
                      clear HO_14
                      clear HR243
                      clear HB
                      have HO_5 := n0_
                      have HO_6 := n1_
                      have HO_12 := n2_
                      have HO_14 := n3_
                      have HO236 := n4_
                      have HR243 := n5_
                      have HB := n6_
                      clear n0_ n1_ n2_ n3_ n4_ n5_ n6_
                      clear hb ho63
                      obtain ⟨Ao65, co65, eo65⟩ := Kd.R_slice HO_12.out
                      (first | subst eo65 | (injection eo65 with f1_ f2_ f3_; have f4_ := f1_.symm; have f5_ := f3_.symm; clear f1_ f2_ f3_; subst f4_; subst f5_))
                      refine hK.out _ _ trivial (fun hHeld => ?_)
                      clear hK K
                      refine norm_ (a' := ?_) ?_ ?_
                      rotate_left
                      ·show Act.put _ (some 96) _ = _
                       simp only [Act.put, List.setIfInBounds_toArray, List.set_cons_zero, List.set_cons_succ, i64_w, i32_w]
                       rfl
                      refine one_ (i := 2) (N := some 98) #[true, true, true, true, true, true, false, false, false, false, false, false, false, false, false] rfl rfl (one_of HT_.out (by kernel_rfl)) (by decide) (fun K hK => ?_)
                      refine Kd.R_append_rows_step (Kd.int .u8) (w0 := w) w.heap.size (by rfl) (.tmp 96) (.tmp 97) 26 5 (.int .u8 0) 1 rfl Try.underlying26 info5 rfl (by decide) (by omega) v235 y234 x12_4 _ _ _ (fun k_ => some k_ ≠ (.slice Ao59 x5_4.length co59 : Value).ownBlock ∧ some k_ ≠ (.slice Ao65 x12_4.length co65 : Value).ownBlock) (fun _ => False) rfl rfl ?aO ?aR (fun _ _ h => h) (fun _ h => h.elim) ?aF ?aB ?aS ?aL ?_
                      (case aR => repeat (first | exact (Kd.R_reads' HO_12.out).2.2 | (with_reducible refine Kd.C_alloc ?_ _) | (with_reducible refine Kd.C_drewN ?_ _) | (with_reducible refine Kd.C_drew ?_)))
                      (case aB => exact (by repeat (first | (with_reducible first | exact HB.out | apply below_alloc | apply pw_below_drewN | apply below_drew1) | exact HB.out)))
                      (case aF => exact (fun k_ hk => ⟨Kd.fresh' (Kd.Q_lt (by (with_reducible repeat (first | apply Kd.Q_alloc | apply Kd.Q_drewN | apply Kd.Q_drew)); exact HO_5.out)) k_ hk, Kd.fresh' (Kd.R_lt (by (with_reducible repeat (first | apply Kd.R_alloc | apply Kd.R_drewN | apply Kd.R_drew)); exact HO_12.out)) k_ hk⟩))
                      (case aO => exact (by (with_reducible repeat (first | apply Kd.R_alloc | apply Kd.R_drewN | apply Kd.R_drew)); exact Kd.R_mono HO236.out (fun _ hk => ⟨hk.1.2, hk.2⟩)))
                      (case aS => exact (below_size (by repeat (first | (with_reducible first | exact HB.out | apply below_alloc | apply pw_below_drewN | apply below_drew1) | exact HB.out))))
                      (case aL => have := LMc50.out; omega)
                      intro v238 w64 ho hb hg hat
                      rw [← Ny237.out] at ho
                      have n0_ := Aside0.mk (Kd.Q_after (ok := (fun k_ => some k_ ≠ (.slice Ao65 x12_4.length co65 : Value).ownBlock)) (by (with_reducible repeat (first | apply Kd.Q_alloc | apply Kd.Q_drewN | apply Kd.Q_drew)); exact HO_5.out) hg hat)
                      have n1_ := Aside0.mk (Kd.R_over' (by (with_reducible repeat (first | apply Kd.R_alloc | apply Kd.R_drewN | apply Kd.R_drew)); exact HO_6.out) (Kd.R_typed (by (with_reducible repeat (first | apply Kd.R_alloc | apply Kd.R_drewN | apply Kd.R_drew)); exact HO236.out)) (by decide) hg)
                      have n2_ := Aside0.mk (Kd.R_after (ok := (fun k_ => some k_ ≠ (.slice Ao59 x5_4.length co59 : Value).ownBlock)) (by (with_reducible repeat (first | apply Kd.R_alloc | apply Kd.R_drewN | apply Kd.R_drew)); exact HO_12.out) hg hat)
                      have n3_ := Aside0.mk (Kd.R_over' (by (with_reducible repeat (first | apply Kd.R_alloc | apply Kd.R_drewN | apply Kd.R_drew)); exact HO_14.out) (Kd.R_typed (by (with_reducible repeat (first | apply Kd.R_alloc | apply Kd.R_drewN | apply Kd.R_drew)); exact HO236.out)) (by decide) hg)
                      have n4_ := Aside0.mk (hb)
                      have n5_ := Aside0.mk ((show Kd.C (Kd.int .u8) w64 Ao59 y240.length y240 from by rw [Ny240.out]; exact Kd.C_take (m := ((ji51) : Int).toNat) ((Kd.Q_reads' (Kd.Q_after (ok := (fun k_ => some k_ ≠ (.slice Ao65 x12_4.length co65 : Value).ownBlock)) (by (with_reducible repeat (first | apply Kd.Q_alloc | apply Kd.Q_drewN | apply Kd.Q_drew)); exact HO_5.out) hg hat)).2.2) KL61.out))
                      have n6_ := Aside0.mk (ho)
                      clear HO_5
                      clear HO_6
                      clear HO_12
                      clear HO_14
                      clear HB
                      clear HR243
                      clear HO236
                      have HO_5 := n0_
                      have HO_6 := n1_
                      have HO_12 := n2_
                      have HO_14 := n3_
                      have HB := n4_
                      have HR243 := n5_
                      have HO239 := n6_
                      clear n0_ n1_ n2_ n3_ n4_ n5_ n6_
                      clear ho hb hg hat
                      refine hK.out _ _ trivial (fun hHeld => ?_)
                      clear hK K
                      refine norm_ (a' := ?_) ?_ ?_
                      rotate_left
                      ·show Act.put _ (some 98) _ = _
                       simp only [Act.put, List.setIfInBounds_toArray, List.set_cons_zero, List.set_cons_succ, i64_w, i32_w]
                       rfl
                      refine one_ (i := 6) (N := some 102) #[true, true, true, true, true, true, true, false, false, false, false, false, false, false, false] rfl rfl (one_of HT_.out (by kernel_rfl)) (by decide) (fun K hK => ?_)
                      refine Kd.R_append_rows_step (Kd.int .u8) (w0 := w) w.heap.size (by rfl) (.tmp 98) (.tmp 101) 26 5 (.int .u8 0) 1 rfl Try.underlying26 info5 rfl (by decide) (by omega) v238 y237 y240 _ _ _ (fun k_ => some k_ ≠ (.slice Ao59 x5_4.length co59 : Value).ownBlock ∧ some k_ ≠ (.slice Ao65 x12_4.length co65 : Value).ownBlock) (fun _ => False) rfl rfl ?aO ?aR (fun _ _ h => h) (fun _ h => h.elim) ?aF ?aB ?aS ?aL ?_
                      (case aR => repeat (first | exact (by repeat (first | (with_reducible exact HR243.out) | (with_reducible refine Kd.C_alloc ?_ _) | (with_reducible refine Kd.C_drewN ?_ _) | (with_reducible refine Kd.C_drew ?_) | exact HR243.out)) | (with_reducible refine Kd.C_alloc ?_ _) | (with_reducible refine Kd.C_drewN ?_ _) | (with_reducible refine Kd.C_drew ?_)))
                      (case aB => exact (by repeat (first | (with_reducible first | exact HB.out | apply below_alloc | apply pw_below_drewN | apply below_drew1) | exact HB.out)))
                      (case aF => exact (fun k_ hk => ⟨Kd.fresh' (Kd.Q_lt (by (with_reducible repeat (first | apply Kd.Q_alloc | apply Kd.Q_drewN | apply Kd.Q_drew)); exact HO_5.out)) k_ hk, Kd.fresh' (Kd.R_lt (by (with_reducible repeat (first | apply Kd.R_alloc | apply Kd.R_drewN | apply Kd.R_drew)); exact HO_12.out)) k_ hk⟩))
                      (case aO => exact (by (with_reducible repeat (first | apply Kd.R_alloc | apply Kd.R_drewN | apply Kd.R_drew)); exact HO239.out))
                      (case aS => exact (below_size (by repeat (first | (with_reducible first | exact HB.out | apply below_alloc | apply pw_below_drewN | apply below_drew1) | exact HB.out))))
                      (case aL => have := LMc54.out; omega)
                      intro v245 w66 ho hb hg hat
                      rw [← Ny244.out] at ho
                      have n0_ := Aside0.mk (Kd.Q_after (ok := (fun k_ => some k_ ≠ (.slice Ao65 x12_4.length co65 : Value).ownBlock)) (by (with_reducible repeat (first | apply Kd.Q_alloc | apply Kd.Q_drewN | apply Kd.Q_drew)); exact HO_5.out) hg hat)
                      have n1_ := Aside0.mk (Kd.R_over' (by (with_reducible repeat (first | apply Kd.R_alloc | apply Kd.R_drewN | apply Kd.R_drew)); exact HO_6.out) (Kd.R_typed (by (with_reducible repeat (first | apply Kd.R_alloc | apply Kd.R_drewN | apply Kd.R_drew)); exact HO239.out)) (by decide) hg)
                      have n2_ := Aside0.mk (Kd.R_after (ok := (fun k_ => some k_ ≠ (.slice Ao59 x5_4.length co59 : Value).ownBlock)) (by (with_reducible repeat (first | apply Kd.R_alloc | apply Kd.R_drewN | apply Kd.R_drew)); exact HO_12.out) hg hat)
                      have n3_ := Aside0.mk (Kd.R_over' (by (with_reducible repeat (first | apply Kd.R_alloc | apply Kd.R_drewN | apply Kd.R_drew)); exact HO_14.out) (Kd.R_typed (by (with_reducible repeat (first | apply Kd.R_alloc | apply Kd.R_drewN | apply Kd.R_drew)); exact HO239.out)) (by decide) hg)
                      have n4_ := Aside0.mk (hb)
                      have n5_ := Aside0.mk ((show Kd.C (Kd.int .u8) w66 Ao59 y240.length y240 from by rw [Ny240.out]; exact Kd.C_take (m := ((ji51) : Int).toNat) ((Kd.Q_reads' (Kd.Q_after (ok := (fun k_ => some k_ ≠ (.slice Ao65 x12_4.length co65 : Value).ownBlock)) (by (with_reducible repeat (first | apply Kd.Q_alloc | apply Kd.Q_drewN | apply Kd.Q_drew)); exact HO_5.out) hg hat)).2.2) KL61.out))
                      have n6_ := Aside0.mk (ho)
                      clear HO_5
                      clear HO_6
                      clear HO_12
                      clear HO_14
                      clear HB
                      clear HR243
                      clear HO239
                      have HO_5 := n0_
                      have HO_6 := n1_
                      have HO_12 := n2_
                      have HO_14 := n3_
                      have HB := n4_
                      have HR243 := n5_
                      have HO246 := n6_
                      clear n0_ n1_ n2_ n3_ n4_ n5_ n6_
                      clear ho hb hg hat
                      obtain ⟨Ao67, co67, eo67⟩ := Kd.R_slice HO246.out
                      (first | subst eo67 | (injection eo67 with f1_ f2_ f3_; have f4_ := f1_.symm; have f5_ := f3_.symm; clear f1_ f2_ f3_; subst f4_; subst f5_))
                      refine hK.out _ _ trivial (fun hHeld => ?_)
                      clear hK K
                      refine norm_ (a' := ?_) ?_ ?_
                      rotate_left
                      ·show Act.put _ (some 102) _ = _
                       simp only [Act.put, List.setIfInBounds_toArray, List.set_cons_zero, List.set_cons_succ, i64_w, i32_w]
                       rfl
                      refine one_ (i := 7) (N := some 103) #[true, true, true, true, true, true, true, true, false, false, false, false, false, false, false] rfl rfl (one_of HT_.out (by kernel_rfl)) (by decide) (fun K hK => ?_)
                      refine goes_ Try.func19 (by kernel_rfl) rfl #[.slice Ao67 y244.length co67] (by rfl) rfl rfl (by (try simp only [List.map_toArray, List.map_cons, List.map_nil]); first | done | rfl | (simp only [List.length_drop, List.length_take]; rfl)) ?_
                      with_reducible refine (tele_Split.calls k4 (fun k_ => some k_ = (.slice Ao67 y244.length co67 : Value).ownBlock) _ _ y244 t247 t250 t253 _ ?side1 A55.out).mono ?_
                      (case side1 => exact Kd.R_V (Kd.R_tight rfl (Kd.R_apart' (Kd.R_apart' (HO246.out) (Kd.R_typed HO_6.out) (by decide)) (Kd.R_typed HO_14.out) (by decide))))
                      rintro e w68 ⟨v248, v251, rfl, ho0, ho1, hb⟩
                      refine ⟨_, rfl, ?_⟩
                      have n0_ := Aside0.mk (Kd.Q_elder' (by (with_reducible repeat (first | apply Kd.Q_alloc | apply Kd.Q_drewN | apply Kd.Q_drew)); exact HO_5.out) (Kd.R_base ho1) hb)
                      have n1_ := Aside0.mk (Kd.R_elder' (by (with_reducible repeat (first | apply Kd.R_alloc | apply Kd.R_drewN | apply Kd.R_drew)); exact HO_6.out) (Kd.R_base ho0) hb)
                      have n2_ := Aside0.mk (Kd.R_elder' (by (with_reducible repeat (first | apply Kd.R_alloc | apply Kd.R_drewN | apply Kd.R_drew)); exact HO_12.out) (Kd.R_base ho1) hb)
                      have n3_ := Aside0.mk (Kd.R_elder' (by (with_reducible repeat (first | apply Kd.R_alloc | apply Kd.R_drewN | apply Kd.R_drew)); exact HO_14.out) (Kd.R_base ho0) hb)
                      have n4_ := Aside0.mk (Kd.R_elder' (by (with_reducible repeat (first | apply Kd.R_alloc | apply Kd.R_drewN | apply Kd.R_drew)); exact HO246.out) (Kd.R_base ho1) hb)
                      have n5_ := Aside0.mk (Kd.R_lower (Kd.R_new' (Kd.R_new' (Kd.R_mono (ok' := fun k_ => True) ho0 (fun _ hk_ => trivial)) (Kd.R_lt (by (with_reducible repeat (first | apply Kd.R_alloc | apply Kd.R_drewN | apply Kd.R_drew)); exact HO_6.out))) (Kd.R_lt (by (with_reducible repeat (first | apply Kd.R_alloc | apply Kd.R_drewN | apply Kd.R_drew)); exact HO_14.out))) (below_size (by repeat (first | (with_reducible first | exact HB.out | apply below_alloc | apply pw_below_drewN | apply below_drew1) | exact HB.out))))
                      have n6_ := Aside0.mk (Kd.R_lower (Kd.R_new' (Kd.R_new' (Kd.R_new' (Kd.R_mono (ok' := fun k_ => True) ho1 (fun _ hk_ => trivial)) (Kd.Q_lt (by (with_reducible repeat (first | apply Kd.Q_alloc | apply Kd.Q_drewN | apply Kd.Q_drew)); exact HO_5.out))) (Kd.R_lt (by (with_reducible repeat (first | apply Kd.R_alloc | apply Kd.R_drewN | apply Kd.R_drew)); exact HO_12.out))) (Kd.R_lt (by (with_reducible repeat (first | apply Kd.R_alloc | apply Kd.R_drewN | apply Kd.R_drew)); exact HO246.out))) (below_size (by repeat (first | (with_reducible first | exact HB.out | apply below_alloc | apply pw_below_drewN | apply below_drew1) | exact HB.out))))
                      have n7_ := Aside0.mk (Kd.C_below (by repeat (first | (with_reducible exact HR243.out) | (with_reducible refine Kd.C_alloc ?_ _) | (with_reducible refine Kd.C_drewN ?_ _) | (with_reducible refine Kd.C_drew ?_) | exact HR243.out)) hb)
                      have n8_ := Aside0.mk (below_step (by repeat (first | (with_reducible first | exact HB.out | apply below_alloc | apply pw_below_drewN | apply below_drew1) | exact HB.out)) hb)
                      clear HO_5
                      clear HO_6
                      clear HO_12
                      clear HO_14
                      clear HO246
                      clear HR243
                      clear HB
                      have HO_5 := n0_
                      have HO_6 := n1_
                      have HO_12 := n2_
                      have HO_14 := n3_
                      have HO246 := n4_
                      have HO249 := n5_
                      have HO252 := n6_
                      have HR243 := n7_
                      have HB := n8_
                      clear n0_ n1_ n2_ n3_ n4_ n5_ n6_ n7_ n8_
                      (try clear hb)
                      (try clear hb2)
                      (try clear hk)
                      (try clear hi)
                      (try clear ho0)
                      (try clear ho1)
                      refine hK.out _ _ trivial (fun hHeld => ?_)
                      clear hK K
                      refine norm_ (a' := ?_) ?_ ?_
                      rotate_left
                      ·show Act.put _ (some 103) _ = _
                       simp only [Act.put, List.setIfInBounds_toArray, List.set_cons_zero, List.set_cons_succ, i64_w, i32_w]
                       rfl
                      refine pure_ (i := 8) (N := some 95) (v := ?_) (a' := ?_) #[true, true, true, true, true, true, true, true, true, false, false, false, false, false, false] rfl rfl (any_of HT_.out (by kernel_rfl)) (fun _ _ _ h => h) (Or.inl ⟨by rfl, ?_⟩) ?_ ?_
                      rotate_left
                      ·intro w'
                       go_simp
                       with_reducible rfl
                      rotate_left
                      ·simp only [Act.put, List.setIfInBounds_toArray, List.set_cons_zero, List.set_cons_succ, i64_w, i32_w]
                       rfl
                      refine pure_ (i := 9) (N := some 104) (v := ?_) (a' := ?_) #[true, true, true, true, true, true, true, true, true, true, false, false, false, false, false] rfl rfl (any_of HT_.out (by kernel_rfl)) (fun _ _ _ h => h) (Or.inl ⟨by rfl, ?_⟩) ?_ ?_
                      rotate_left
                      ·intro w'
                       go_simp
                       with_reducible rfl
                      rotate_left
                      ·simp only [Act.put, List.setIfInBounds_toArray, List.set_cons_zero, List.set_cons_succ, i64_w, i32_w]
                       rfl
                      refine pure_ (i := 10) (N := some 105) (v := ?_) (a' := ?_) #[true, true, true, true, true, true, true, true, true, true, true, false, false, false, false] rfl rfl (any_of HT_.out (by kernel_rfl)) (fun _ _ _ h => h) (Or.inl ⟨by rfl, ?_⟩) ?_ ?_
                      rotate_left
                      ·intro w'
                       go_simp
                       with_reducible rfl
                      rotate_left
                      ·simp only [Act.put, List.setIfInBounds_toArray, List.set_cons_zero, List.set_cons_succ, i64_w, i32_w]
                       rfl
                      refine pure_ (i := 11) (N := some 106) (v := ?_) (a' := ?_) #[true, true, true, true, true, true, true, true, true, true, true, true, false, false, false] rfl rfl (any_of HT_.out (by kernel_rfl)) (fun _ _ _ h => h) (Or.inl ⟨by rfl, ?_⟩) ?_ ?_
                      rotate_left
                      ·intro w'
                       go_simp
                       with_reducible rfl
                      rotate_left
                      ·simp only [Act.put, List.setIfInBounds_toArray, List.set_cons_zero, List.set_cons_succ, i64_w, i32_w]
                       rfl
                      refine pure_ (i := 12) (N := some 17) (v := ?_) (a' := ?_) #[true, true, true, true, true, true, true, true, true, true, true, true, true, false, false] rfl rfl (any_of HT_.out (by kernel_rfl)) (fun _ _ _ h => h) (Or.inl ⟨by rfl, ?_⟩) ?_ ?_
                      rotate_left
                      ·intro w'
                       go_simp
                       with_reducible rfl
                      rotate_left
                      ·simp only [Act.put, List.setIfInBounds_toArray, List.set_cons_zero, List.set_cons_succ, i64_w, i32_w]
                       rfl
                      refine pure_ (i := 13) (N := some 18) (v := ?_) (a' := ?_) #[true, true, true, true, true, true, true, true, true, true, true, true, true, true, false] rfl rfl (any_of HT_.out (by kernel_rfl)) (fun _ _ _ h => h) (Or.inl ⟨by rfl, ?_⟩) ?_ ?_
                      rotate_left
                      ·intro w'
                       go_simp
                       with_reducible rfl
                      rotate_left
                      ·simp only [Act.put, List.setIfInBounds_toArray, List.set_cons_zero, List.set_cons_succ, i64_w, i32_w]
                       rfl
                      refine pure_ (i := 14) (N := some 19) (v := ?_) (a' := ?_) #[true, true, true, true, true, true, true, true, true, true, true, true, true, true, true] rfl rfl (any_of HT_.out (by kernel_rfl)) (fun _ _ _ h => h) (Or.inl ⟨by rfl, ?_⟩) ?_ ?_
                      rotate_left
                      ·intro w'
                       go_simp
                       with_reducible rfl
                      rotate_left
                      ·simp only [Act.put, List.setIfInBounds_toArray, List.set_cons_zero, List.set_cons_succ, i64_w, i32_w]
                       rfl
                      refine done_ (done_of HT_.out (by kernel_rfl)) ?_
                      try go_wp2
                      have n0_ := Aside0.mk (Kd.Q_drew HO_5.out)
                      have n1_ := Aside0.mk (Kd.R_drew HO_6.out)
                      have n2_ := Aside0.mk (Kd.R_drew HO_12.out)
                      have n3_ := Aside0.mk (Kd.R_drew HO_14.out)
                      have n4_ := Aside0.mk (Kd.R_drew HO246.out)
                      have n5_ := Aside0.mk (Kd.R_drew HO249.out)
                      have n6_ := Aside0.mk (Kd.R_drew HO252.out)
                      have n7_ := Aside0.mk (Kd.C_drew HR243.out)
                      have n8_ := Aside0.mk (below_drew1 HB.out)
                      clear HO_5
                      clear HO_6
                      clear HO_12
                      clear HO_14
                      clear HO246
                      clear HO249
                      clear HO252
                      clear HR243
                      clear HB
                      have HO_5 := n0_
                      have HO_6 := n1_
                      have HO_12 := n2_
                      have HO_14 := n3_
                      have HO246 := n4_
                      have HO249 := n5_
                      have HO252 := n6_
                      have HR243 := n7_
                      have HB := n8_
                      clear n0_ n1_ n2_ n3_ n4_ n5_ n6_ n7_ n8_
                      have n_ := Aside0.mk (Kd.Q_mono (ok' := (fun k_ => some k_ ≠ (.slice Ao65 x12_4.length co65 : Value).ownBlock ∧ some k_ ≠ (.slice Ao67 y244.length co67 : Value).ownBlock ∧ some k_ ≠ (v251 : Value).ownBlock)) HO_5.out (fun k_ hk => ⟨hk.1.1, ⟨hk.1.2, hk.2⟩⟩))
                      clear HO_5
                      have HO_5 := n_
                      clear n_
                      have q70 : ((ji51) : Int) ≤ ((x5_4.length : Int) : Int) := of_decide_eq_true (by first | (with_reducible assumption) | assumption)
                      obtain ⟨i070, hi070, _, hsz70, _⟩ := info_parts info5
                      have hcut70 := cut_from (P := Try.prog) 26 5 .i64 Try.underlying26 hi070 1 hsz70 Ao59 x5_4.length co59 (ji51) (of_decide_eq_true (by first | (with_reducible assumption) | assumption)) q70
                      have hr70 := Kd.Q_drop (k := ((ji51) : Int).toNat) HO_5.out (by omega)
                      obtain ⟨A70, hA70⟩ : ∃ A1, A1 = (if co59 = ((ji51) : Int).toNat then Ao59 else (Ao59 : Option Addr).map (·.add (((ji51) : Int).toNat * 1))) := ⟨_, rfl⟩
                      obtain ⟨c70, hc70⟩ : ∃ c1, c1 = co59 - ((ji51) : Int).toNat := ⟨_, rfl⟩
                      have hy70 : y257.length = x5_4.length - ((ji51) : Int).toNat := (by rw [Ny257.out, List.length_drop])
                      rw [← Ny257.out] at hr70
                      rw [← hy70, ← hA70, ← hc70] at hcut70
                      replace hr70 : Kd.Q (Kd.int .u8) 5 w68.drew w.heap.size (fun k_ => some k_ ≠ (.slice Ao65 x12_4.length co65 : Value).ownBlock ∧ some k_ ≠ (.slice Ao67 y244.length co67 : Value).ownBlock ∧ some k_ ≠ (v251 : Value).ownBlock) (.slice A70 y257.length c70) y257 := (by rw [hA70, hc70, hy70]; exact hr70)
                      have HE70 : Aside0 ((Value.slice A70 y257.length c70).ownBlock = (.slice Ao59 x5_4.length co59 : Value).ownBlock) := ⟨by rw [hA70]; split <;> (cases (Ao59 : Option Addr) <;> first | rfl | exact own_add _ _ _ _ _ _)⟩
                      clear hy70 hi070 hsz70 HO_5 hA70 hc70
                      have HO259 := Aside0.mk hr70
                      clear hr70
                      replace q70 := eq_true q70
                      have n_ := Aside0.mk (Kd.R_mono (ok' := fun k_ => ((some k_ ≠ (.slice A70 y257.length c70 : Value).ownBlock ∧ some k_ ≠ (.slice Ao67 y244.length co67 : Value).ownBlock) ∧ some k_ ≠ (v251 : Value).ownBlock)) HO_12.out (fun k_ hk => ⟨⟨(by rw [HE70.out]; exact hk.1.1), hk.1.2⟩, hk.2⟩))
                      clear HO_12
                      have HO_12 := n_
                      clear n_
                      have n_ := Aside0.mk (Kd.R_mono (ok' := fun k_ => ((some k_ ≠ (.slice A70 y257.length c70 : Value).ownBlock ∧ some k_ ≠ (.slice Ao65 x12_4.length co65 : Value).ownBlock) ∧ some k_ ≠ (v251 : Value).ownBlock)) HO246.out (fun k_ hk => ⟨⟨(by rw [HE70.out]; exact hk.1.1), hk.1.2⟩, hk.2⟩))
                      clear HO246
                      have HO246 := n_
                      clear n_
                      have n_ := Aside0.mk (Kd.R_mono (ok' := fun k_ => (((True ∧ some k_ ≠ (.slice A70 y257.length c70 : Value).ownBlock) ∧ some k_ ≠ (.slice Ao65 x12_4.length co65 : Value).ownBlock) ∧ some k_ ≠ (.slice Ao67 y244.length co67 : Value).ownBlock)) HO252.out (fun k_ hk => ⟨⟨⟨trivial, (by rw [HE70.out]; exact hk.1.1.2)⟩, hk.1.2⟩, hk.2⟩))
                      clear HO252
                      have HO252 := n_
                      clear n_
                      obtain ⟨Ao72, co72, eo72⟩ := Kd.R_slice HO249.out
                      (first | subst eo72 | (injection eo72 with f1_ f2_ f3_; have f4_ := f1_.symm; have f5_ := f3_.symm; clear f1_ f2_ f3_; subst f4_; subst f5_))
                      refine start_ (n := 10) (S := fun w' => True) (ds := []) #[false, false, false, false, false, false, false, false, false, false] (by kernel_rfl) rfl rfl trivial (fun hHeld => ?_); refine with_tabW stillagelaw02_TelePieces.tab26 stillagelaw02_TelePieces.bits26 (fun HT_ HW_ => ?_)
                      generalize w68.drew = w69 at HO_5 HO_6 HO_12 HO_14 HO246 HO249 HO252 HR243 HB HO259 hHeld ⊢
                      refine pure_ (i := 0) (N := some 109) (v := ?_) (a' := ?_) #[true, false, false, false, false, false, false, false, false, false] rfl rfl (any_of HT_.out (by kernel_rfl)) (fun _ _ _ h => h) (Or.inl ⟨by rfl, ?_⟩) ?_ ?_
                      rotate_left
                      ·intro w'
                       go_simp
                       with_reducible rfl
                      rotate_left
                      ·simp only [Act.put, List.setIfInBounds_toArray, List.set_cons_zero, List.set_cons_succ, i64_w, i32_w]
                       rfl
                      refine pure_ (i := 1) (N := some 110) (v := ?_) (a' := ?_) #[true, true, false, false, false, false, false, false, false, false] rfl rfl (any_of HT_.out (by kernel_rfl)) (fun _ _ _ h => h) (Or.inl ⟨by rfl, ?_⟩) ?_ ?_
                      rotate_left
                      ·intro w'
                       go_simp
                       with_reducible rfl
                      rotate_left
                      ·simp only [Act.put, List.setIfInBounds_toArray, List.set_cons_zero, List.set_cons_succ, i64_w, i32_w]
                       rfl
                      refine pure_ (i := 3) (N := some 112) (v := ?_) (a' := ?_) #[true, true, false, true, false, false, false, false, false, false] rfl rfl (any_of HT_.out (by kernel_rfl)) (fun _ _ _ h => h) (Or.inl ⟨by rfl, ?_⟩) ?_ ?_
                      rotate_left
                      ·intro w'
                       go_simp
                       with_reducible rfl
                      rotate_left
                      ·simp only [Act.put, List.setIfInBounds_toArray, List.set_cons_zero, List.set_cons_succ, i64_w, i32_w]
                       rfl
                      refine pure_ (i := 4) (N := some 113) (v := ?_) (a' := ?_) #[true, true, false, true, true, false, false, false, false, false] rfl rfl (any_of HT_.out (by kernel_rfl)) (fun _ _ _ h => h) (Or.inl ⟨by rfl, ?_⟩) ?_ ?_
                      rotate_left
                      ·intro w'
                       go_simp
                       with_reducible rfl
                      rotate_left
                      ·simp only [Act.put, List.setIfInBounds_toArray, List.set_cons_zero, List.set_cons_succ, i64_w, i32_w]
                       rfl
                      refine pure_ (i := 5) (N := some 114) (v := ?_) (a' := ?_) #[true, true, false, true, true, true, false, false, false, false] rfl rfl (any_of HT_.out (by kernel_rfl)) (fun _ _ _ h => h) (Or.inl ⟨by rfl, ?_⟩) ?_ ?_
                      rotate_left
                      ·intro w'
                       go_simp
                       with_reducible rfl
                      rotate_left
                      ·simp only [Act.put, List.setIfInBounds_toArray, List.set_cons_zero, List.set_cons_succ, i64_w, i32_w]
                       rfl
                      refine pure_ (i := 6) (N := some 115) (v := ?_) (a' := ?_) #[true, true, false, true, true, true, true, false, false, false] rfl rfl (any_of HT_.out (by kernel_rfl)) (fun _ _ _ h => h) (Or.inl ⟨by rfl, ?_⟩) ?_ ?_
                      rotate_left
                      ·intro w'
                       go_simp
                       with_reducible rfl
                      rotate_left
                      ·simp only [Act.put, List.setIfInBounds_toArray, List.set_cons_zero, List.set_cons_succ, i64_w, i32_w]
                       rfl
                      refine one_ (i := 2) (N := some 111) #[true, true, true, true, true, true, true, false, false, false] rfl rfl (one_of HT_.out (by kernel_rfl)) (by decide) (fun K hK => ?_)
                      refine Kd.R_append_rows_step k24 (w0 := w) w.heap.size (by rfl) (.tmp 109) (.tmp 110) 44 24 (.agg #[(.int .u8 0), (.int .u16 0), (.int .u16 0), (.int .u16 0), (.int .u16 0)]) 10 rfl Try.underlying44 info24 rfl (by decide) (by omega) u14 x14_4 t247 _ _ _ (fun k_ => some k_ ≠ (u6 : Value).ownBlock ∧ some k_ ≠ (.slice Ao72 t247.length co72 : Value).ownBlock) (fun _ => False) rfl rfl ?aO ?aR (fun _ _ h => h) (fun _ h => h.elim) ?aF ?aB ?aS ?aL ?_
                      (case aR => repeat (first | exact (Kd.R_reads' HO249.out).2.2 | (with_reducible refine Kd.C_alloc ?_ _) | (with_reducible refine Kd.C_drewN ?_ _) | (with_reducible refine Kd.C_drew ?_)))
                      (case aB => exact (by repeat (first | (with_reducible first | exact HB.out | apply below_alloc | apply pw_below_drewN | apply below_drew1) | exact HB.out)))
                      (case aF => exact (fun k_ hk => ⟨Kd.fresh' (Kd.R_lt (by (with_reducible repeat (first | apply Kd.R_alloc | apply Kd.R_drewN | apply Kd.R_drew)); exact HO_6.out)) k_ hk, Kd.fresh' (Kd.R_lt (by (with_reducible repeat (first | apply Kd.R_alloc | apply Kd.R_drewN | apply Kd.R_drew)); exact HO249.out)) k_ hk⟩))
                      (case aO => exact (by (with_reducible repeat (first | apply Kd.R_alloc | apply Kd.R_drewN | apply Kd.R_drew)); exact HO_14.out))
                      (case aS => exact (below_size (by repeat (first | (with_reducible first | exact HB.out | apply below_alloc | apply pw_below_drewN | apply below_drew1) | exact HB.out))))
                      (case aL => have := LMc57.out; omega)
                      intro v255 w71 ho hb hg hat
                      rw [← Ny254.out] at ho
                      have n0_ := Aside0.mk (Kd.Q_over' (by (with_reducible repeat (first | apply Kd.Q_alloc | apply Kd.Q_drewN | apply Kd.Q_drew)); exact HO259.out) (Kd.R_typed (by (with_reducible repeat (first | apply Kd.R_alloc | apply Kd.R_drewN | apply Kd.R_drew)); exact HO_14.out)) (by decide) hg)
                      have n1_ := Aside0.mk (Kd.R_after (ok := (fun k_ => some k_ ≠ (.slice Ao72 t247.length co72 : Value).ownBlock)) (by (with_reducible repeat (first | apply Kd.R_alloc | apply Kd.R_drewN | apply Kd.R_drew)); exact Kd.R_mono HO_6.out (fun _ hk => ⟨hk.2, hk.1⟩)) hg hat)
                      have n2_ := Aside0.mk (Kd.R_over' (by (with_reducible repeat (first | apply Kd.R_alloc | apply Kd.R_drewN | apply Kd.R_drew)); exact HO_12.out) (Kd.R_typed (by (with_reducible repeat (first | apply Kd.R_alloc | apply Kd.R_drewN | apply Kd.R_drew)); exact HO_14.out)) (by decide) hg)
                      have n3_ := Aside0.mk (Kd.R_over' (by (with_reducible repeat (first | apply Kd.R_alloc | apply Kd.R_drewN | apply Kd.R_drew)); exact HO246.out) (Kd.R_typed (by (with_reducible repeat (first | apply Kd.R_alloc | apply Kd.R_drewN | apply Kd.R_drew)); exact HO_14.out)) (by decide) hg)
                      have n4_ := Aside0.mk (Kd.R_after (ok := (fun k_ => some k_ ≠ (u6 : Value).ownBlock)) (by (with_reducible repeat (first | apply Kd.R_alloc | apply Kd.R_drewN | apply Kd.R_drew)); exact Kd.R_mono HO249.out (fun _ hk => ⟨hk.1.2, hk.2⟩)) hg hat)
                      have n5_ := Aside0.mk (Kd.R_over' (by (with_reducible repeat (first | apply Kd.R_alloc | apply Kd.R_drewN | apply Kd.R_drew)); exact HO252.out) (Kd.R_typed (by (with_reducible repeat (first | apply Kd.R_alloc | apply Kd.R_drewN | apply Kd.R_drew)); exact HO_14.out)) (by decide) hg)
                      have n6_ := Aside0.mk (hb)
                      have n7_ := Aside0.mk (ho)
                      clear HO259
                      clear HO_6
                      clear HO_12
                      clear HO246
                      clear HO249
                      clear HO252
                      clear HB
                      clear HO_14
                      have HO259 := n0_
                      have HO_6 := n1_
                      have HO_12 := n2_
                      have HO246 := n3_
                      have HO249 := n4_
                      have HO252 := n5_
                      have HB := n6_
                      have HO256 := n7_
                      clear n0_ n1_ n2_ n3_ n4_ n5_ n6_ n7_
                      clear ho hb hg hat
                      refine hK.out _ _ trivial (fun hHeld => ?_)
                      clear hK K
                      refine norm_ (a' := ?_) ?_ ?_
                      rotate_left
                      ·show Act.put _ (some 111) _ = _
                       simp only [Act.put, List.setIfInBounds_toArray, List.set_cons_zero, List.set_cons_succ, i64_w, i32_w]
                       rfl
                      refine pure_ (i := 7) (N := some 14) (v := ?_) (a' := ?_) #[true, true, true, true, true, true, true, true, false, false] rfl rfl (any_of HT_.out (by kernel_rfl)) (fun _ _ _ h => h) (Or.inl ⟨by rfl, ?_⟩) ?_ ?_
                      rotate_left
                      ·intro w'
                       go_simp
                       with_reducible rfl
                      rotate_left
                      ·simp only [Act.put, List.setIfInBounds_toArray, List.set_cons_zero, List.set_cons_succ, i64_w, i32_w]
                       rfl
                      refine pure_ (i := 8) (N := some 12) (v := ?_) (a' := ?_) #[true, true, true, true, true, true, true, true, true, false] rfl rfl (any_of HT_.out (by kernel_rfl)) (fun _ _ _ h => h) (Or.inl ⟨by rfl, ?_⟩) ?_ ?_
                      rotate_left
                      ·intro w'
                       go_simp
                       with_reducible rfl
                      rotate_left
                      ·simp only [Act.put, List.setIfInBounds_toArray, List.set_cons_zero, List.set_cons_succ, i64_w, i32_w]
                       rfl
                      refine pure_ (i := 9) (N := some 5) (v := ?_) (a' := ?_) #[true, true, true, true, true, true, true, true, true, true] rfl rfl (any_of HT_.out (by kernel_rfl)) (fun _ _ _ h => h) (Or.inl ⟨by rfl, ?_⟩) ?_ ?_
                      rotate_left
                      ·intro w'
                       go_simp
                       with_reducible rfl
                      rotate_left
                      ·simp only [Act.put, List.setIfInBounds_toArray, List.set_cons_zero, List.set_cons_succ, i64_w, i32_w]
                       rfl
                      refine done_ (done_of HT_.out (by kernel_rfl)) ?_
                      try go_wp2
                      go_roundg k4
                      case measure => have := HJ2.out; have := HK2.out; have := HJ30.out; have := HK4.out; omega
                      case rel => exact ⟨(y257), (t250), (y254), (wrap64 (x15_4 + 1)), (by first | rfl | (simp; done) | (simp [*]; done)), H', ⟨by have := HJ2.out; have := HK2.out; have := HJ30.out; have := HK4.out; omega⟩, ⟨by (with_reducible repeat (first | apply Kd.Q_alloc | apply Kd.Q_drewN | apply Kd.Q_drew)); exact Kd.Q_mono HO259.out (fun _ hk => hk.2.2)⟩, ⟨by (with_reducible repeat (first | apply Kd.R_alloc | apply Kd.R_drewN | apply Kd.R_drew)); exact Kd.R_mono HO_6.out (fun _ hk => hk.2)⟩, ⟨by (with_reducible repeat (first | apply Kd.R_alloc | apply Kd.R_drewN | apply Kd.R_drew)); exact Kd.R_mono HO252.out (fun _ hk => hk.1.1.2)⟩, ⟨by (with_reducible repeat (first | apply Kd.R_alloc | apply Kd.R_drewN | apply Kd.R_drew)); exact Kd.R_mono HO256.out (fun _ hk => hk.1)⟩, ⟨by repeat (first | (with_reducible first | exact HB.out | apply below_alloc | apply pw_below_drewN | apply below_drew1) | exact HB.out)⟩⟩
                     ·rw [if_neg c57] at H
                      exact absurd H (by simp)
                    ·rw [if_neg c56] at H
                     have c56b0 : (t253 == 0) = false := beq_eq_false_iff_ne.mpr c56
                     have c56b1 : (t253 != 0) = true := bne_iff_ne.mpr c56
                     obtain rfl := Option.some.inj H
                     obtain ⟨Ao73, co73, eo73, _⟩ := Kd.Q_slice HO_5.out
                     subst eo73
                     have p233 : 0 ≤ (x15_4 : Int) := of_decide_eq_true (by first | (with_reducible assumption) | assumption)
                     have q233 : x15_4 < (l1.length : Int) := of_decide_eq_true (by first | (with_reducible assumption) | assumption)
                     obtain ⟨ad233, e233, hx233_0⟩ := Kd.at_int HR1.out x15_4 p233 q233
                     cases e233
                     replace hx233_0 := (HB.out.cell (World.block_lt_of_cell? w _ hx233_0)).trans hx233_0
                     replace p233 := eq_true p233
                     replace q233 := eq_true q233
                     try go_wp2
                     have n0_ := Aside0.mk (Kd.Q_drew HO_5.out)
                     have n1_ := Aside0.mk (Kd.R_drew HO_6.out)
                     have n2_ := Aside0.mk (Kd.R_drew HO_12.out)
                     have n3_ := Aside0.mk (Kd.R_drew HO_14.out)
                     have n4_ := Aside0.mk (below_drew1 HB.out)
                     clear HO_5
                     clear HO_6
                     clear HO_12
                     clear HO_14
                     clear HB
                     have HO_5 := n0_
                     have HO_6 := n1_
                     have HO_12 := n2_
                     have HO_14 := n3_
                     have HB := n4_
                     clear n0_ n1_ n2_ n3_ n4_
                     have q75 : ((ji51) : Int) ≤ ((x5_4.length : Int) : Int) := of_decide_eq_true (by first | (with_reducible assumption) | assumption)
                     obtain ⟨i075, hi075, _, hsz75, _⟩ := info_parts info5
                     have hroom75 : x5_4.length ≤ co73 := (Kd.Q_reads' HO_5.out).2.1
                     have hC75 : Kd.C (Kd.int .u8) _ Ao73 x5_4.length x5_4 := (Kd.Q_reads' HO_5.out).2.2
                     have hcut75 := cut_to (P := Try.prog) 26 5 .i64 Try.underlying26 hi075 Ao73 x5_4.length co73 (ji51) (of_decide_eq_true (by first | (with_reducible assumption) | assumption)) q75 hroom75
                     have hr75 := Kd.C_take (m := ((ji51) : Int).toNat) hC75 (by omega)
                     have hy75 : y240.length = ((ji51) : Int).toNat := (by rw [Ny240.out, List.length_take]; omega)
                     rw [← Ny240.out] at hr75
                     rw [← hy75] at hcut75
                     have HR243 := Aside0.mk hr75
                     have HC243 := Aside0.mk (show y240.length ≤ co73 from by omega)
                     clear hr75 hC75 hroom75 hi075 hsz75
                     have KY75 := Aside0.mk hy75
                     clear hy75
                     have KL75 := Aside0.mk (show ((ji51) : Int).toNat ≤ x5_4.length from by omega)
                     replace q75 := eq_true q75
                     refine start_ (n := 15) (S := fun w' => True) (ds := []) #[false, false, false, false, false, false, false, false, false, false, false, false, false, false, false] (by kernel_rfl) rfl rfl trivial (fun hHeld => ?_); refine with_tabW stillagelaw02_TelePieces.tab23 stillagelaw02_TelePieces.bits23 (fun HT_ HW_ => ?_)
                     generalize wr.drew = w74 at HO_5 HO_6 HO_12 HO_14 HB HR243 hHeld ⊢
                     refine pure_ (i := 1) (N := some 97) (v := ?_) (a' := ?_) #[false, true, false, false, false, false, false, false, false, false, false, false, false, false, false] rfl rfl (any_of HT_.out (by kernel_rfl)) (fun _ _ _ h => h) (Or.inl ⟨by rfl, ?_⟩) ?_ ?_
                     rotate_left
                     ·intro w'
                      go_simp
                      with_reducible rfl
                     rotate_left
                     ·simp only [Act.put, List.setIfInBounds_toArray, List.set_cons_zero, List.set_cons_succ, i64_w, i32_w]
                      rfl
                     refine pure_ (i := 3) (N := some 99) (v := ?_) (a' := ?_) #[false, true, false, true, false, false, false, false, false, false, false, false, false, false, false] rfl rfl (any_of HT_.out (by kernel_rfl)) (fun _ _ _ h => h) (Or.inl ⟨by rfl, ?_⟩) ?_ ?_
                     rotate_left
                     ·intro w'
                      go_simp
                      with_reducible rfl
                     rotate_left
                     ·simp only [Act.put, List.setIfInBounds_toArray, List.set_cons_zero, List.set_cons_succ, i64_w, i32_w]
                      rfl
                     refine pure_ (i := 4) (N := some 100) (v := ?_) (a' := ?_) #[false, true, false, true, true, false, false, false, false, false, false, false, false, false, false] rfl rfl (any_of HT_.out (by kernel_rfl)) (fun _ _ _ h => h) (Or.inl ⟨by rfl, ?_⟩) ?_ ?_
                     rotate_left
                     ·intro w'
                      go_simp
                      with_reducible rfl
                     rotate_left
                     ·simp only [Act.put, List.setIfInBounds_toArray, List.set_cons_zero, List.set_cons_succ, i64_w, i32_w]
                      rfl
                     refine pure_ (i := 5) (N := some 101) (v := ?_) (a' := ?_) #[false, true, false, true, true, true, false, false, false, false, false, false, false, false, false] rfl rfl (any_of HT_.out (by kernel_rfl)) (fun _ _ _ h => h) (Or.inl ⟨by rfl, ?_⟩) ?_ ?_
                     rotate_left
                     ·intro w'
                      go_simp
                      with_reducible rfl
                     rotate_left
                     ·simp only [Act.put, List.setIfInBounds_toArray, List.set_cons_zero, List.set_cons_succ, i64_w, i32_w]
                      rfl
                     refine one_ (i := 0) (N := some 96) #[true, true, false, true, true, true, false, false, false, false, false, false, false, false, false] rfl rfl (one_of HT_.out (by kernel_rfl)) (by decide) (fun K hK => ?_)
                     refine Kd.R_lit_step (Kd.int .u8) _ 5 ?hg (N := 96) ?hd (xs := ([] : List Int)) (inner := []) (ok := fun _ => True) (okp := fun _ => True) ?hr ?hp (fun _ hk => hk) trivial (Below.refl _ _) (Nat.le_refl _) (by simp) ?_; (case hd => rfl); (case hg => rfl); (case hr => first | (go_simp; done) | (go_simp; rfl)); (case hp => exact (Reps.none _ _))
                     intro v235 w76 ho77 hb hg_ hnew_
                     clear hg_ hnew_
                     (first | rw [← Ny234.out] at ho77 | (simp only [Int.reduceToNat] at ho77; rw [← Ny234.out] at ho77))
                     have n0_ := Aside0.mk (Kd.Q_elder' (by (with_reducible repeat (first | apply Kd.Q_alloc | apply Kd.Q_drewN | apply Kd.Q_drew)); exact HO_5.out) (Kd.R_base ho77) hb)
                     have n1_ := Aside0.mk (Kd.R_below (by (with_reducible repeat (first | apply Kd.R_alloc | apply Kd.R_drewN | apply Kd.R_drew)); exact HO_6.out) hb)
                     have n2_ := Aside0.mk (Kd.R_elder' (by (with_reducible repeat (first | apply Kd.R_alloc | apply Kd.R_drewN | apply Kd.R_drew)); exact HO_12.out) (Kd.R_base ho77) hb)
                     have n3_ := Aside0.mk (Kd.R_below (by (with_reducible repeat (first | apply Kd.R_alloc | apply Kd.R_drewN | apply Kd.R_drew)); exact HO_14.out) hb)
                     have n4_ := Aside0.mk (Kd.R_lower (Kd.R_new' (Kd.R_new' ho77 (Kd.Q_lt (by (with_reducible repeat (first | apply Kd.Q_alloc | apply Kd.Q_drewN | apply Kd.Q_drew)); exact HO_5.out))) (Kd.R_lt (by (with_reducible repeat (first | apply Kd.R_alloc | apply Kd.R_drewN | apply Kd.R_drew)); exact HO_12.out))) (below_size (by repeat (first | (with_reducible first | exact HB.out | apply below_alloc | apply pw_below_drewN | apply below_drew1) | exact HB.out))))
                     have n5_ := Aside0.mk (Kd.C_below (by repeat (first | (with_reducible exact HR243.out) | (with_reducible refine Kd.C_alloc ?_ _) | (with_reducible refine Kd.C_drewN ?_ _) | (with_reducible refine Kd.C_drew ?_) | exact HR243.out)) hb)
                     have n6_ := Aside0.mk (below_step (by repeat (first | (with_reducible first | exact HB.out | apply below_alloc | apply pw_below_drewN | apply below_drew1) | exact HB.out)) hb)
                     clear HO_5
                     clear HO_6
                     clear HO_12
                     clear HO_14
                     clear HR243
                     clear HB
                     have HO_5 := n0_
                     have HO_6 := n1_
                     have HO_12 := n2_
                     have HO_14 := n3_
                     have HO236 := n4_
                     have HR243 := n5_
                     have HB := n6_
                     clear n0_ n1_ n2_ n3_ n4_ n5_ n6_
                     clear hb ho77
                     obtain ⟨Ao79, co79, eo79⟩ := Kd.R_slice HO_12.out
                     (first | subst eo79 | (injection eo79 with f1_ f2_ f3_; have f4_ := f1_.symm; have f5_ := f3_.symm; clear f1_ f2_ f3_; subst f4_; subst f5_))
                     refine hK.out _ _ trivial (fun hHeld => ?_)
                     clear hK K
                     refine norm_ (a' := ?_) ?_ ?_
                     rotate_left
                     ·show Act.put _ (some 96) _ = _
                      simp only [Act.put, List.setIfInBounds_toArray, List.set_cons_zero, List.set_cons_succ, i64_w, i32_w]
                      rfl
                     refine one_ (i := 2) (N := some 98) #[true, true, true, true, true, true, false, false, false, false, false, false, false, false, false] rfl rfl (one_of HT_.out (by kernel_rfl)) (by decide) (fun K hK => ?_)
                     refine Kd.R_append_rows_step (Kd.int .u8) (w0 := w) w.heap.size (by rfl) (.tmp 96) (.tmp 97) 26 5 (.int .u8 0) 1 rfl Try.underlying26 info5 rfl (by decide) (by omega) v235 y234 x12_4 _ _ _ (fun k_ => some k_ ≠ (.slice Ao73 x5_4.length co73 : Value).ownBlock ∧ some k_ ≠ (.slice Ao79 x12_4.length co79 : Value).ownBlock) (fun _ => False) rfl rfl ?aO ?aR (fun _ _ h => h) (fun _ h => h.elim) ?aF ?aB ?aS ?aL ?_
                     (case aR => repeat (first | exact (Kd.R_reads' HO_12.out).2.2 | (with_reducible refine Kd.C_alloc ?_ _) | (with_reducible refine Kd.C_drewN ?_ _) | (with_reducible refine Kd.C_drew ?_)))
                     (case aB => exact (by repeat (first | (with_reducible first | exact HB.out | apply below_alloc | apply pw_below_drewN | apply below_drew1) | exact HB.out)))
                     (case aF => exact (fun k_ hk => ⟨Kd.fresh' (Kd.Q_lt (by (with_reducible repeat (first | apply Kd.Q_alloc | apply Kd.Q_drewN | apply Kd.Q_drew)); exact HO_5.out)) k_ hk, Kd.fresh' (Kd.R_lt (by (with_reducible repeat (first | apply Kd.R_alloc | apply Kd.R_drewN | apply Kd.R_drew)); exact HO_12.out)) k_ hk⟩))
                     (case aO => exact (by (with_reducible repeat (first | apply Kd.R_alloc | apply Kd.R_drewN | apply Kd.R_drew)); exact Kd.R_mono HO236.out (fun _ hk => ⟨hk.1.2, hk.2⟩)))
                     (case aS => exact (below_size (by repeat (first | (with_reducible first | exact HB.out | apply below_alloc | apply pw_below_drewN | apply below_drew1) | exact HB.out))))
                     (case aL => have := LMc50.out; omega)
                     intro v238 w78 ho hb hg hat
                     rw [← Ny237.out] at ho
                     have n0_ := Aside0.mk (Kd.Q_after (ok := (fun k_ => some k_ ≠ (.slice Ao79 x12_4.length co79 : Value).ownBlock)) (by (with_reducible repeat (first | apply Kd.Q_alloc | apply Kd.Q_drewN | apply Kd.Q_drew)); exact HO_5.out) hg hat)
                     have n1_ := Aside0.mk (Kd.R_over' (by (with_reducible repeat (first | apply Kd.R_alloc | apply Kd.R_drewN | apply Kd.R_drew)); exact HO_6.out) (Kd.R_typed (by (with_reducible repeat (first | apply Kd.R_alloc | apply Kd.R_drewN | apply Kd.R_drew)); exact HO236.out)) (by decide) hg)
                     have n2_ := Aside0.mk (Kd.R_after (ok := (fun k_ => some k_ ≠ (.slice Ao73 x5_4.length co73 : Value).ownBlock)) (by (with_reducible repeat (first | apply Kd.R_alloc | apply Kd.R_drewN | apply Kd.R_drew)); exact HO_12.out) hg hat)
                     have n3_ := Aside0.mk (Kd.R_over' (by (with_reducible repeat (first | apply Kd.R_alloc | apply Kd.R_drewN | apply Kd.R_drew)); exact HO_14.out) (Kd.R_typed (by (with_reducible repeat (first | apply Kd.R_alloc | apply Kd.R_drewN | apply Kd.R_drew)); exact HO236.out)) (by decide) hg)
                     have n4_ := Aside0.mk (hb)
                     have n5_ := Aside0.mk ((show Kd.C (Kd.int .u8) w78 Ao73 y240.length y240 from by rw [Ny240.out]; exact Kd.C_take (m := ((ji51) : Int).toNat) ((Kd.Q_reads' (Kd.Q_after (ok := (fun k_ => some k_ ≠ (.slice Ao79 x12_4.length co79 : Value).ownBlock)) (by (with_reducible repeat (first | apply Kd.Q_alloc | apply Kd.Q_drewN | apply Kd.Q_drew)); exact HO_5.out) hg hat)).2.2) KL75.out))
                     have n6_ := Aside0.mk (ho)
                     clear HO_5
                     clear HO_6
                     clear HO_12
                     clear HO_14
                     clear HB
                     clear HR243
                     clear HO236
                     have HO_5 := n0_
                     have HO_6 := n1_
                     have HO_12 := n2_
                     have HO_14 := n3_
                     have HB := n4_
                     have HR243 := n5_
                     have HO239 := n6_
                     clear n0_ n1_ n2_ n3_ n4_ n5_ n6_
                     clear ho hb hg hat
                     refine hK.out _ _ trivial (fun hHeld => ?_)
                     clear hK K
                     refine norm_ (a' := ?_) ?_ ?_
                     rotate_left
                     ·show Act.put _ (some 98) _ = _
                      simp only [Act.put, List.setIfInBounds_toArray, List.set_cons_zero, List.set_cons_succ, i64_w, i32_w]
                      rfl
                     refine one_ (i := 6) (N := some 102) #[true, true, true, true, true, true, true, false, false, false, false, false, false, false, false] rfl rfl (one_of HT_.out (by kernel_rfl)) (by decide) (fun K hK => ?_)
                     refine Kd.R_append_rows_step (Kd.int .u8) (w0 := w) w.heap.size (by rfl) (.tmp 98) (.tmp 101) 26 5 (.int .u8 0) 1 rfl Try.underlying26 info5 rfl (by decide) (by omega) v238 y237 y240 _ _ _ (fun k_ => some k_ ≠ (.slice Ao73 x5_4.length co73 : Value).ownBlock ∧ some k_ ≠ (.slice Ao79 x12_4.length co79 : Value).ownBlock) (fun _ => False) rfl rfl ?aO ?aR (fun _ _ h => h) (fun _ h => h.elim) ?aF ?aB ?aS ?aL ?_
                     (case aR => repeat (first | exact (by repeat (first | (with_reducible exact HR243.out) | (with_reducible refine Kd.C_alloc ?_ _) | (with_reducible refine Kd.C_drewN ?_ _) | (with_reducible refine Kd.C_drew ?_) | exact HR243.out)) | (with_reducible refine Kd.C_alloc ?_ _) | (with_reducible refine Kd.C_drewN ?_ _) | (with_reducible refine Kd.C_drew ?_)))
                     (case aB => exact (by repeat (first | (with_reducible first | exact HB.out | apply below_alloc | apply pw_below_drewN | apply below_drew1) | exact HB.out)))
                     (case aF => exact (fun k_ hk => ⟨Kd.fresh' (Kd.Q_lt (by (with_reducible repeat (first | apply Kd.Q_alloc | apply Kd.Q_drewN | apply Kd.Q_drew)); exact HO_5.out)) k_ hk, Kd.fresh' (Kd.R_lt (by (with_reducible repeat (first | apply Kd.R_alloc | apply Kd.R_drewN | apply Kd.R_drew)); exact HO_12.out)) k_ hk⟩))
                     (case aO => exact (by (with_reducible repeat (first | apply Kd.R_alloc | apply Kd.R_drewN | apply Kd.R_drew)); exact HO239.out))
                     (case aS => exact (below_size (by repeat (first | (with_reducible first | exact HB.out | apply below_alloc | apply pw_below_drewN | apply below_drew1) | exact HB.out))))
                     (case aL => have := LMc54.out; omega)
                     intro v245 w80 ho hb hg hat
                     rw [← Ny244.out] at ho
                     have n0_ := Aside0.mk (Kd.Q_after (ok := (fun k_ => some k_ ≠ (.slice Ao79 x12_4.length co79 : Value).ownBlock)) (by (with_reducible repeat (first | apply Kd.Q_alloc | apply Kd.Q_drewN | apply Kd.Q_drew)); exact HO_5.out) hg hat)
                     have n1_ := Aside0.mk (Kd.R_over' (by (with_reducible repeat (first | apply Kd.R_alloc | apply Kd.R_drewN | apply Kd.R_drew)); exact HO_6.out) (Kd.R_typed (by (with_reducible repeat (first | apply Kd.R_alloc | apply Kd.R_drewN | apply Kd.R_drew)); exact HO239.out)) (by decide) hg)
                     have n2_ := Aside0.mk (Kd.R_after (ok := (fun k_ => some k_ ≠ (.slice Ao73 x5_4.length co73 : Value).ownBlock)) (by (with_reducible repeat (first | apply Kd.R_alloc | apply Kd.R_drewN | apply Kd.R_drew)); exact HO_12.out) hg hat)
                     have n3_ := Aside0.mk (Kd.R_over' (by (with_reducible repeat (first | apply Kd.R_alloc | apply Kd.R_drewN | apply Kd.R_drew)); exact HO_14.out) (Kd.R_typed (by (with_reducible repeat (first | apply Kd.R_alloc | apply Kd.R_drewN | apply Kd.R_drew)); exact HO239.out)) (by decide) hg)
                     have n4_ := Aside0.mk (hb)
                     have n5_ := Aside0.mk ((show Kd.C (Kd.int .u8) w80 Ao73 y240.length y240 from by rw [Ny240.out]; exact Kd.C_take (m := ((ji51) : Int).toNat) ((Kd.Q_reads' (Kd.Q_after (ok := (fun k_ => some k_ ≠ (.slice Ao79 x12_4.length co79 : Value).ownBlock)) (by (with_reducible repeat (first | apply Kd.Q_alloc | apply Kd.Q_drewN | apply Kd.Q_drew)); exact HO_5.out) hg hat)).2.2) KL75.out))
                     have n6_ := Aside0.mk (ho)
                     clear HO_5
                     clear HO_6
                     clear HO_12
                     clear HO_14
                     clear HB
                     clear HR243
                     clear HO239
                     have HO_5 := n0_
                     have HO_6 := n1_
                     have HO_12 := n2_
                     have HO_14 := n3_
                     have HB := n4_
                     have HR243 := n5_
                     have HO246 := n6_
                     clear n0_ n1_ n2_ n3_ n4_ n5_ n6_
                     clear ho hb hg hat
                     obtain ⟨Ao81, co81, eo81⟩ := Kd.R_slice HO246.out
                     (first | subst eo81 | (injection eo81 with f1_ f2_ f3_; have f4_ := f1_.symm; have f5_ := f3_.symm; clear f1_ f2_ f3_; subst f4_; subst f5_))
                     refine hK.out _ _ trivial (fun hHeld => ?_)
                     clear hK K
                     refine norm_ (a' := ?_) ?_ ?_
                     rotate_left
                     ·show Act.put _ (some 102) _ = _
                      simp only [Act.put, List.setIfInBounds_toArray, List.set_cons_zero, List.set_cons_succ, i64_w, i32_w]
                      rfl
                     refine one_ (i := 7) (N := some 103) #[true, true, true, true, true, true, true, true, false, false, false, false, false, false, false] rfl rfl (one_of HT_.out (by kernel_rfl)) (by decide) (fun K hK => ?_)
                     refine goes_ Try.func19 (by kernel_rfl) rfl #[.slice Ao81 y244.length co81] (by rfl) rfl rfl (by (try simp only [List.map_toArray, List.map_cons, List.map_nil]); first | done | rfl | (simp only [List.length_drop, List.length_take]; rfl)) ?_
                     with_reducible refine (tele_Split.calls k4 (fun k_ => some k_ = (.slice Ao81 y244.length co81 : Value).ownBlock) _ _ y244 t247 t250 t253 _ ?side1 A55.out).mono ?_
                     (case side1 => exact Kd.R_V (Kd.R_tight rfl (Kd.R_apart' (Kd.R_apart' (HO246.out) (Kd.R_typed HO_6.out) (by decide)) (Kd.R_typed HO_14.out) (by decide))))
                     rintro e w82 ⟨v248, v251, rfl, ho0, ho1, hb⟩
                     refine ⟨_, rfl, ?_⟩
                     have n0_ := Aside0.mk (Kd.Q_elder' (by (with_reducible repeat (first | apply Kd.Q_alloc | apply Kd.Q_drewN | apply Kd.Q_drew)); exact HO_5.out) (Kd.R_base ho1) hb)
                     have n1_ := Aside0.mk (Kd.R_elder' (by (with_reducible repeat (first | apply Kd.R_alloc | apply Kd.R_drewN | apply Kd.R_drew)); exact HO_6.out) (Kd.R_base ho0) hb)
                     have n2_ := Aside0.mk (Kd.R_elder' (by (with_reducible repeat (first | apply Kd.R_alloc | apply Kd.R_drewN | apply Kd.R_drew)); exact HO_12.out) (Kd.R_base ho1) hb)
                     have n3_ := Aside0.mk (Kd.R_elder' (by (with_reducible repeat (first | apply Kd.R_alloc | apply Kd.R_drewN | apply Kd.R_drew)); exact HO_14.out) (Kd.R_base ho0) hb)
                     have n4_ := Aside0.mk (Kd.R_elder' (by (with_reducible repeat (first | apply Kd.R_alloc | apply Kd.R_drewN | apply Kd.R_drew)); exact HO246.out) (Kd.R_base ho1) hb)
                     have n5_ := Aside0.mk (Kd.R_lower (Kd.R_new' (Kd.R_new' (Kd.R_mono (ok' := fun k_ => True) ho0 (fun _ hk_ => trivial)) (Kd.R_lt (by (with_reducible repeat (first | apply Kd.R_alloc | apply Kd.R_drewN | apply Kd.R_drew)); exact HO_6.out))) (Kd.R_lt (by (with_reducible repeat (first | apply Kd.R_alloc | apply Kd.R_drewN | apply Kd.R_drew)); exact HO_14.out))) (below_size (by repeat (first | (with_reducible first | exact HB.out | apply below_alloc | apply pw_below_drewN | apply below_drew1) | exact HB.out))))
                     have n6_ := Aside0.mk (Kd.R_lower (Kd.R_new' (Kd.R_new' (Kd.R_new' (Kd.R_mono (ok' := fun k_ => True) ho1 (fun _ hk_ => trivial)) (Kd.Q_lt (by (with_reducible repeat (first | apply Kd.Q_alloc | apply Kd.Q_drewN | apply Kd.Q_drew)); exact HO_5.out))) (Kd.R_lt (by (with_reducible repeat (first | apply Kd.R_alloc | apply Kd.R_drewN | apply Kd.R_drew)); exact HO_12.out))) (Kd.R_lt (by (with_reducible repeat (first | apply Kd.R_alloc | apply Kd.R_drewN | apply Kd.R_drew)); exact HO246.out))) (below_size (by repeat (first | (with_reducible first | exact HB.out | apply below_alloc | apply pw_below_drewN | apply below_drew1) | exact HB.out))))
                     have n7_ := Aside0.mk (Kd.C_below (by repeat (first | (with_reducible exact HR243.out) | (with_reducible refine Kd.C_alloc ?_ _) | (with_reducible refine Kd.C_drewN ?_ _) | (with_reducible refine Kd.C_drew ?_) | exact HR243.out)) hb)
                     have n8_ := Aside0.mk (below_step (by repeat (first | (with_reducible first | exact HB.out | apply below_alloc | apply pw_below_drewN | apply below_drew1) | exact HB.out)) hb)
                     clear HO_5
                     clear HO_6
                     clear HO_12
                     clear HO_14
                     clear HO246
                     clear HR243
                     clear HB
                     have HO_5 := n0_
                     have HO_6 := n1_
                     have HO_12 := n2_
                     have HO_14 := n3_
                     have HO246 := n4_
                     have HO249 := n5_
                     have HO252 := n6_
                     have HR243 := n7_
                     have HB := n8_
                     clear n0_ n1_ n2_ n3_ n4_ n5_ n6_ n7_ n8_
                     (try clear hb)
                     (try clear hb2)
                     (try clear hk)
                     (try clear hi)
                     (try clear ho0)
                     (try clear ho1)
                     refine hK.out _ _ trivial (fun hHeld => ?_)
                     clear hK K
                     refine norm_ (a' := ?_) ?_ ?_
                     rotate_left
                     ·show Act.put _ (some 103) _ = _
                      simp only [Act.put, List.setIfInBounds_toArray, List.set_cons_zero, List.set_cons_succ, i64_w, i32_w]
                      rfl
                     refine pure_ (i := 8) (N := some 95) (v := ?_) (a' := ?_) #[true, true, true, true, true, true, true, true, true, false, false, false, false, false, false] rfl rfl (any_of HT_.out (by kernel_rfl)) (fun _ _ _ h => h) (Or.inl ⟨by rfl, ?_⟩) ?_ ?_
                     rotate_left
                     ·intro w'
                      go_simp
                      with_reducible rfl
                     rotate_left
                     ·simp only [Act.put, List.setIfInBounds_toArray, List.set_cons_zero, List.set_cons_succ, i64_w, i32_w]
                      rfl
                     refine pure_ (i := 9) (N := some 104) (v := ?_) (a' := ?_) #[true, true, true, true, true, true, true, true, true, true, false, false, false, false, false] rfl rfl (any_of HT_.out (by kernel_rfl)) (fun _ _ _ h => h) (Or.inl ⟨by rfl, ?_⟩) ?_ ?_
                     rotate_left
                     ·intro w'
                      go_simp
                      with_reducible rfl
                     rotate_left
                     ·simp only [Act.put, List.setIfInBounds_toArray, List.set_cons_zero, List.set_cons_succ, i64_w, i32_w]
                      rfl
                     refine pure_ (i := 10) (N := some 105) (v := ?_) (a' := ?_) #[true, true, true, true, true, true, true, true, true, true, true, false, false, false, false] rfl rfl (any_of HT_.out (by kernel_rfl)) (fun _ _ _ h => h) (Or.inl ⟨by rfl, ?_⟩) ?_ ?_
                     rotate_left
                     ·intro w'
                      go_simp
                      with_reducible rfl
                     rotate_left
                     ·simp only [Act.put, List.setIfInBounds_toArray, List.set_cons_zero, List.set_cons_succ, i64_w, i32_w]
                      rfl
                     refine pure_ (i := 11) (N := some 106) (v := ?_) (a' := ?_) #[true, true, true, true, true, true, true, true, true, true, true, true, false, false, false] rfl rfl (any_of HT_.out (by kernel_rfl)) (fun _ _ _ h => h) (Or.inl ⟨by rfl, ?_⟩) ?_ ?_
                     rotate_left
                     ·intro w'
                      go_simp
                      with_reducible rfl
                     rotate_left
                     ·simp only [Act.put, List.setIfInBounds_toArray, List.set_cons_zero, List.set_cons_succ, i64_w, i32_w]
                      rfl
                     refine pure_ (i := 12) (N := some 17) (v := ?_) (a' := ?_) #[true, true, true, true, true, true, true, true, true, true, true, true, true, false, false] rfl rfl (any_of HT_.out (by kernel_rfl)) (fun _ _ _ h => h) (Or.inl ⟨by rfl, ?_⟩) ?_ ?_
                     rotate_left
                     ·intro w'
                      go_simp
                      with_reducible rfl
                     rotate_left
                     ·simp only [Act.put, List.setIfInBounds_toArray, List.set_cons_zero, List.set_cons_succ, i64_w, i32_w]
                      rfl
                     refine pure_ (i := 13) (N := some 18) (v := ?_) (a' := ?_) #[true, true, true, true, true, true, true, true, true, true, true, true, true, true, false] rfl rfl (any_of HT_.out (by kernel_rfl)) (fun _ _ _ h => h) (Or.inl ⟨by rfl, ?_⟩) ?_ ?_
                     rotate_left
                     ·intro w'
                      go_simp
                      with_reducible rfl
                     rotate_left
                     ·simp only [Act.put, List.setIfInBounds_toArray, List.set_cons_zero, List.set_cons_succ, i64_w, i32_w]
                      rfl
                     refine pure_ (i := 14) (N := some 19) (v := ?_) (a' := ?_) #[true, true, true, true, true, true, true, true, true, true, true, true, true, true, true] rfl rfl (any_of HT_.out (by kernel_rfl)) (fun _ _ _ h => h) (Or.inl ⟨by rfl, ?_⟩) ?_ ?_
                     rotate_left
                     ·intro w'
                      go_simp
                      with_reducible rfl
                     rotate_left
                     ·simp only [Act.put, List.setIfInBounds_toArray, List.set_cons_zero, List.set_cons_succ, i64_w, i32_w]
                      rfl
                     refine done_ (done_of HT_.out (by kernel_rfl)) ?_
                     try go_wp2
                     go_ret
                     exact ⟨by first | rfl | (simp [errW_none, errW_some] <;> rfl) | (simp only [← hji51]; first | rfl | (simp [errW_none, errW_some] <;> rfl)) | (simp [*, errW_none, errW_some] <;> rfl), by repeat (first | (with_reducible first | exact HB.out | apply below_alloc | apply pw_below_drewN | apply below_drew1) | exact HB.out)⟩
                   ·rw [if_neg c54] at H
                    exact absurd H (by simp)
                  ·rw [if_neg c53] at H
                   exact absurd H (by simp)
                 ·rw [if_neg c52] at H
                  exact absurd H (by simp)
                ·rw [if_neg c50] at H
                 exact absurd H (by simp)
              ·rw [if_neg c48] at H
               exact absurd H (by simp)
             ·rw [if_neg c47] at H
              have c47b0 : decide (x15_4 < (l1.length : Int)) = false := decide_eq_false c47
              clear c47
              obtain ⟨y260, hy260⟩ : ∃ y_ : List Int, y_ = (([] : List Int)) := ⟨_, rfl⟩
              replace H : (if y260.length + x12_4.length < 140737488355328 then ((some (y260 ++ x12_4 : List Int)).bind fun y263 => (if 0 ≤ (x5_4.length : Int) then (if (x5_4.length : Int) ≤ (x5_4.length : Int) then ((some (x5_4.take ((x5_4.length : Int) : Int).toNat : List Int)).bind fun y266 => (if y263.length + y266.length < 140737488355328 then ((tele_Split.f k4 (y263 ++ y266)).bind fun bt273 => (if bt273.2.2 = 0 then (if x14_4.length + bt273.1.length < 14073748835532 then (stillagelaw02_TelePieces.l1 k4 l1 (x5_4.drop ((x5_4.length : Int) : Int).toNat) x6_2 bt273.2.1 (x14_4 ++ bt273.1) (wrap64 (x15_4 + 1))) else (none)) else (some false))) else (none))) else (none)) else (none))) else (none)) = some r := by first | (rw [hy260]; with_reducible exact H) | (have H2_ := (Option.bind_some _ _).symm.trans H; rw [hy260]; with_reducible exact H2_) | (have H2_ := (Option.bind_some _ _).symm.trans H; with_reducible exact H2_) | with_reducible exact H | (rw [hy260]; exact H) | exact H
              have Ny260 := Aside0.mk hy260
              clear hy260
              by_cases c83 : y260.length + x12_4.length < 140737488355328
              ·rw [if_pos c83] at H
               have LMc83 := Aside0.mk c83
               clear c83
               obtain ⟨y263, hy263⟩ : ∃ y_ : List Int, y_ = (y260 ++ x12_4) := ⟨_, rfl⟩
               replace H : (if 0 ≤ (x5_4.length : Int) then (if (x5_4.length : Int) ≤ (x5_4.length : Int) then ((some (x5_4.take ((x5_4.length : Int) : Int).toNat : List Int)).bind fun y266 => (if y263.length + y266.length < 140737488355328 then ((tele_Split.f k4 (y263 ++ y266)).bind fun bt273 => (if bt273.2.2 = 0 then (if x14_4.length + bt273.1.length < 14073748835532 then (stillagelaw02_TelePieces.l1 k4 l1 (x5_4.drop ((x5_4.length : Int) : Int).toNat) x6_2 bt273.2.1 (x14_4 ++ bt273.1) (wrap64 (x15_4 + 1))) else (none)) else (some false))) else (none))) else (none)) else (none)) = some r := by first | (rw [hy263]; with_reducible exact H) | (have H2_ := (Option.bind_some _ _).symm.trans H; rw [hy263]; with_reducible exact H2_) | (have H2_ := (Option.bind_some _ _).symm.trans H; with_reducible exact H2_) | with_reducible exact H | (rw [hy263]; exact H) | exact H
               have Ny263 := Aside0.mk hy263
               clear hy263
               by_cases c84 : 0 ≤ (x5_4.length : Int)
               ·rw [if_pos c84] at H
                have c84b0 := eq_true c84
                have c84b1 : decide (0 ≤ (x5_4.length : Int)) = true := decide_eq_true c84
                clear c84
                by_cases c85 : (x5_4.length : Int) ≤ (x5_4.length : Int)
                ·rw [if_pos c85] at H
                 have c85b0 := eq_true c85
                 have c85b1 : decide ((x5_4.length : Int) ≤ (x5_4.length : Int)) = true := decide_eq_true c85
                 clear c85
                 obtain ⟨y266, hy266⟩ : ∃ y_ : List Int, y_ = (x5_4.take ((x5_4.length : Int) : Int).toNat) := ⟨_, rfl⟩
                 replace H : (if y263.length + y266.length < 140737488355328 then ((tele_Split.f k4 (y263 ++ y266)).bind fun bt273 => (if bt273.2.2 = 0 then (if x14_4.length + bt273.1.length < 14073748835532 then (stillagelaw02_TelePieces.l1 k4 l1 (x5_4.drop ((x5_4.length : Int) : Int).toNat) x6_2 bt273.2.1 (x14_4 ++ bt273.1) (wrap64 (x15_4 + 1))) else (none)) else (some false))) else (none)) = some r := by first | (rw [hy266]; with_reducible exact H) | (have H2_ := (Option.bind_some _ _).symm.trans H; rw [hy266]; with_reducible exact H2_) | (have H2_ := (Option.bind_some _ _).symm.trans H; with_reducible exact H2_) | with_reducible exact H | (rw [hy266]; exact H) | exact H
                 have Ny266 := Aside0.mk hy266
                 clear hy266
                 by_cases c86 : y263.length + y266.length < 140737488355328
                 ·rw [if_pos c86] at H
                  have LMc86 := Aside0.mk c86
                  clear c86
                  obtain ⟨y270, hy270⟩ : ∃ y_ : List Int, y_ = (y263 ++ y266) := ⟨_, rfl⟩
                  replace H : ((tele_Split.f k4 y270).bind fun bt273 => (if bt273.2.2 = 0 then (if x14_4.length + bt273.1.length < 14073748835532 then (stillagelaw02_TelePieces.l1 k4 l1 (x5_4.drop ((x5_4.length : Int) : Int).toNat) x6_2 bt273.2.1 (x14_4 ++ bt273.1) (wrap64 (x15_4 + 1))) else (none)) else (some false))) = some r := by first | (rw [hy270]; with_reducible exact H) | (have H2_ := (Option.bind_some _ _).symm.trans H; rw [hy270]; with_reducible exact H2_) | (have H2_ := (Option.bind_some _ _).symm.trans H; with_reducible exact H2_) | with_reducible exact H | (rw [hy270]; exact H) | exact H
                  have Ny270 := Aside0.mk hy270
                  clear hy270
                  replace H := Option.bind_eq_some_iff.mp H
                  obtain ⟨⟨t273, t276, t279⟩, A870, H⟩ := H
                  replace H : (if t279 = 0 then (if x14_4.length + t273.length < 14073748835532 then (stillagelaw02_TelePieces.l1 k4 l1 (x5_4.drop ((x5_4.length : Int) : Int).toNat) x6_2 t276 (x14_4 ++ t273) (wrap64 (x15_4 + 1))) else (none)) else (some false)) = some r := H
                  have A87 := Aside0.mk A870
                  clear A870
                  by_cases c88 : t279 = 0
                  ·rw [if_pos c88] at H
                   have c88b0 : (t279 == 0) = true := beq_iff_eq.mpr c88
                   have c88b1 : (t279 != 0) = false := bne_eq_false_iff_eq.mpr c88
                   clear c88
                   by_cases c89 : x14_4.length + t273.length < 14073748835532
                   ·rw [if_pos c89] at H
                    have LMc89 := Aside0.mk c89
                    clear c89
                    obtain ⟨y280, hy280⟩ : ∃ y_ : List (S24), y_ = (x14_4 ++ t273) := ⟨_, rfl⟩
                    replace H : (stillagelaw02_TelePieces.l1 k4 l1 (x5_4.drop ((x5_4.length : Int) : Int).toNat) x6_2 t276 y280 (wrap64 (x15_4 + 1))) = some r := by first | (rw [hy280]; with_reducible exact H) | (have H2_ := (Option.bind_some _ _).symm.trans H; rw [hy280]; with_reducible exact H2_) | (have H2_ := (Option.bind_some _ _).symm.trans H; with_reducible exact H2_) | with_reducible exact H | (rw [hy280]; exact H) | exact H
                    have Ny280 := Aside0.mk hy280
                    clear hy280
                    have c90b0 := eq_true (of_decide_eq_true (by first | (with_reducible assumption) | assumption) : (x5_4.length : Int) ≤ (x5_4.length : Int))
                    obtain ⟨y283, hy283⟩ : ∃ y_ : List Int, y_ = (x5_4.drop ((x5_4.length : Int) : Int).toNat) := ⟨_, rfl⟩
                    replace H : (stillagelaw02_TelePieces.l1 k4 l1 y283 x6_2 t276 y280 (wrap64 (x15_4 + 1))) = some r := by first | (rw [hy283]; with_reducible exact H) | (have H2_ := (Option.bind_some _ _).symm.trans H; rw [hy283]; with_reducible exact H2_) | (have H2_ := (Option.bind_some _ _).symm.trans H; with_reducible exact H2_) | with_reducible exact H | (rw [hy283]; exact H) | exact H
                    have Ny283 := Aside0.mk hy283
                    clear hy283
                    have H' := Aside0.mk H
                    clear H
                    obtain ⟨Ao91, co91, eo91, _⟩ := Kd.Q_slice HO_5.out
                    subst eo91
                    try go_wp2
                    have n0_ := Aside0.mk (Kd.Q_drew HO_5.out)
                    have n1_ := Aside0.mk (Kd.R_drew HO_6.out)
                    have n2_ := Aside0.mk (Kd.R_drew HO_12.out)
                    have n3_ := Aside0.mk (Kd.R_drew HO_14.out)
                    have n4_ := Aside0.mk (below_drew1 HB.out)
                    clear HO_5
                    clear HO_6
                    clear HO_12
                    clear HO_14
                    clear HB
                    have HO_5 := n0_
                    have HO_6 := n1_
                    have HO_12 := n2_
                    have HO_14 := n3_
                    have HB := n4_
                    clear n0_ n1_ n2_ n3_ n4_
                    have q93 : ((x5_4.length : Int) : Int) ≤ ((x5_4.length : Int) : Int) := of_decide_eq_true (by first | (with_reducible assumption) | assumption)
                    obtain ⟨i093, hi093, _, hsz93, _⟩ := info_parts info5
                    have hroom93 : x5_4.length ≤ co91 := (Kd.Q_reads' HO_5.out).2.1
                    have hC93 : Kd.C (Kd.int .u8) _ Ao91 x5_4.length x5_4 := (Kd.Q_reads' HO_5.out).2.2
                    have hcut93 := cut_to (P := Try.prog) 26 5 .i64 Try.underlying26 hi093 Ao91 x5_4.length co91 (x5_4.length : Int) (of_decide_eq_true (by first | (with_reducible assumption) | assumption)) q93 hroom93
                    have hr93 := Kd.C_take (m := ((x5_4.length : Int) : Int).toNat) hC93 (by omega)
                    have hy93 : y266.length = ((x5_4.length : Int) : Int).toNat := (by rw [Ny266.out, List.length_take]; omega)
                    rw [← Ny266.out] at hr93
                    rw [← hy93] at hcut93
                    have HR269 := Aside0.mk hr93
                    have HC269 := Aside0.mk (show y266.length ≤ co91 from by omega)
                    clear hr93 hC93 hroom93 hi093 hsz93
                    have KY93 := Aside0.mk hy93
                    clear hy93
                    have KL93 := Aside0.mk (show ((x5_4.length : Int) : Int).toNat ≤ x5_4.length from by omega)
                    replace q93 := eq_true q93
                    refine start_ (n := 15) (S := fun w' => True) (ds := []) #[false, false, false, false, false, false, false, false, false, false, false, false, false, false, false] (by kernel_rfl) rfl rfl trivial (fun hHeld => ?_); refine with_tabW stillagelaw02_TelePieces.tab23 stillagelaw02_TelePieces.bits23 (fun HT_ HW_ => ?_)
                    generalize wr.drew = w92 at HO_5 HO_6 HO_12 HO_14 HB HR269 hHeld ⊢
                    refine pure_ (i := 1) (N := some 97) (v := ?_) (a' := ?_) #[false, true, false, false, false, false, false, false, false, false, false, false, false, false, false] rfl rfl (any_of HT_.out (by kernel_rfl)) (fun _ _ _ h => h) (Or.inl ⟨by rfl, ?_⟩) ?_ ?_
                    rotate_left
                    ·intro w'
                     go_simp
                     with_reducible rfl
                    rotate_left
                    ·simp only [Act.put, List.setIfInBounds_toArray, List.set_cons_zero, List.set_cons_succ, i64_w, i32_w]
                     rfl
                    refine pure_ (i := 3) (N := some 99) (v := ?_) (a' := ?_) #[false, true, false, true, false, false, false, false, false, false, false, false, false, false, false] rfl rfl (any_of HT_.out (by kernel_rfl)) (fun _ _ _ h => h) (Or.inl ⟨by rfl, ?_⟩) ?_ ?_
                    rotate_left
                    ·intro w'
                     go_simp
                     with_reducible rfl
                    rotate_left
                    ·simp only [Act.put, List.setIfInBounds_toArray, List.set_cons_zero, List.set_cons_succ, i64_w, i32_w]
                     rfl
                    refine pure_ (i := 4) (N := some 100) (v := ?_) (a' := ?_) #[false, true, false, true, true, false, false, false, false, false, false, false, false, false, false] rfl rfl (any_of HT_.out (by kernel_rfl)) (fun _ _ _ h => h) (Or.inl ⟨by rfl, ?_⟩) ?_ ?_
                    rotate_left
                    ·intro w'
                     go_simp
                     with_reducible rfl
                    rotate_left
                    ·simp only [Act.put, List.setIfInBounds_toArray, List.set_cons_zero, List.set_cons_succ, i64_w, i32_w]
                     rfl
                    refine pure_ (i := 5) (N := some 101) (v := ?_) (a' := ?_) #[false, true, false, true, true, true, false, false, false, false, false, false, false, false, false] rfl rfl (any_of HT_.out (by kernel_rfl)) (fun _ _ _ h => h) (Or.inl ⟨by rfl, ?_⟩) ?_ ?_
                    rotate_left
                    ·intro w'
                     go_simp
                     with_reducible rfl
                    rotate_left
                    ·simp only [Act.put, List.setIfInBounds_toArray, List.set_cons_zero, List.set_cons_succ, i64_w, i32_w]
                     rfl
                    refine one_ (i := 0) (N := some 96) #[true, true, false, true, true, true, false, false, false, false, false, false, false, false, false] rfl rfl (one_of HT_.out (by kernel_rfl)) (by decide) (fun K hK => ?_)
                    refine Kd.R_lit_step (Kd.int .u8) _ 5 ?hg (N := 96) ?hd (xs := ([] : List Int)) (inner := []) (ok := fun _ => True) (okp := fun _ => True) ?hr ?hp (fun _ hk => hk) trivial (Below.refl _ _) (Nat.le_refl _) (by simp) ?_; (case hd => rfl); (case hg => rfl); (case hr => first | (go_simp; done) | (go_simp; rfl)); (case hp => exact (Reps.none _ _))
                    intro v261 w94 ho95 hb hg_ hnew_
                    clear hg_ hnew_
                    (first | rw [← Ny260.out] at ho95 | (simp only [Int.reduceToNat] at ho95; rw [← Ny260.out] at ho95))
                    have n0_ := Aside0.mk (Kd.Q_elder' (by (with_reducible repeat (first | apply Kd.Q_alloc | apply Kd.Q_drewN | apply Kd.Q_drew)); exact HO_5.out) (Kd.R_base ho95) hb)
                    have n1_ := Aside0.mk (Kd.R_below (by (with_reducible repeat (first | apply Kd.R_alloc | apply Kd.R_drewN | apply Kd.R_drew)); exact HO_6.out) hb)
                    have n2_ := Aside0.mk (Kd.R_elder' (by (with_reducible repeat (first | apply Kd.R_alloc | apply Kd.R_drewN | apply Kd.R_drew)); exact HO_12.out) (Kd.R_base ho95) hb)
                    have n3_ := Aside0.mk (Kd.R_below (by (with_reducible repeat (first | apply Kd.R_alloc | apply Kd.R_drewN | apply Kd.R_drew)); exact HO_14.out) hb)
                    have n4_ := Aside0.mk (Kd.R_lower (Kd.R_new' (Kd.R_new' ho95 (Kd.Q_lt (by (with_reducible repeat (first | apply Kd.Q_alloc | apply Kd.Q_drewN | apply Kd.Q_drew)); exact HO_5.out))) (Kd.R_lt (by (with_reducible repeat (first | apply Kd.R_alloc | apply Kd.R_drewN | apply Kd.R_drew)); exact HO_12.out))) (below_size (by repeat (first | (with_reducible first | exact HB.out | apply below_alloc | apply pw_below_drewN | apply below_drew1) | exact HB.out))))
                    have n5_ := Aside0.mk (Kd.C_below (by repeat (first | (with_reducible exact HR269.out) | (with_reducible refine Kd.C_alloc ?_ _) | (with_reducible refine Kd.C_drewN ?_ _) | (with_reducible refine Kd.C_drew ?_) | exact HR269.out)) hb)
                    have n6_ := Aside0.mk (below_step (by repeat (first | (with_reducible first | exact HB.out | apply below_alloc | apply pw_below_drewN | apply below_drew1) | exact HB.out)) hb)
                    clear HO_5
                    clear HO_6
                    clear HO_12
                    clear HO_14
                    clear HR269
                    clear HB
                    have HO_5 := n0_
                    have HO_6 := n1_
                    have HO_12 := n2_
                    have HO_14 := n3_
                    have HO262 := n4_
                    have HR269 := n5_
                    have HB := n6_
                    clear n0_ n1_ n2_ n3_ n4_ n5_ n6_
                    clear hb ho95
                    obtain ⟨Ao97, co97, eo97⟩ := Kd.R_slice HO_12.out
                    (first | subst eo97 | (injection eo97 with f1_ f2_ f3_; have f4_ := f1_.symm; have f5_ := f3_.symm; clear f1_ f2_ f3_; subst f4_; subst f5_))
                    refine hK.out _ _ trivial (fun hHeld => ?_)
                    clear hK K
                    refine norm_ (a' := ?_) ?_ ?_
                    rotate_left
                    ·show Act.put _ (some 96) _ = _
                     simp only [Act.put, List.setIfInBounds_toArray, List.set_cons_zero, List.set_cons_succ, i64_w, i32_w]
                     rfl
                    refine one_ (i := 2) (N := some 98) #[true, true, true, true, true, true, false, false, false, false, false, false, false, false, false] rfl rfl (one_of HT_.out (by kernel_rfl)) (by decide) (fun K hK => ?_)
                    refine Kd.R_append_rows_step (Kd.int .u8) (w0 := w) w.heap.size (by rfl) (.tmp 96) (.tmp 97) 26 5 (.int .u8 0) 1 rfl Try.underlying26 info5 rfl (by decide) (by omega) v261 y260 x12_4 _ _ _ (fun k_ => some k_ ≠ (.slice Ao91 x5_4.length co91 : Value).ownBlock ∧ some k_ ≠ (.slice Ao97 x12_4.length co97 : Value).ownBlock) (fun _ => False) rfl rfl ?aO ?aR (fun _ _ h => h) (fun _ h => h.elim) ?aF ?aB ?aS ?aL ?_
                    (case aR => repeat (first | exact (Kd.R_reads' HO_12.out).2.2 | (with_reducible refine Kd.C_alloc ?_ _) | (with_reducible refine Kd.C_drewN ?_ _) | (with_reducible refine Kd.C_drew ?_)))
                    (case aB => exact (by repeat (first | (with_reducible first | exact HB.out | apply below_alloc | apply pw_below_drewN | apply below_drew1) | exact HB.out)))
                    (case aF => exact (fun k_ hk => ⟨Kd.fresh' (Kd.Q_lt (by (with_reducible repeat (first | apply Kd.Q_alloc | apply Kd.Q_drewN | apply Kd.Q_drew)); exact HO_5.out)) k_ hk, Kd.fresh' (Kd.R_lt (by (with_reducible repeat (first | apply Kd.R_alloc | apply Kd.R_drewN | apply Kd.R_drew)); exact HO_12.out)) k_ hk⟩))
                    (case aO => exact (by (with_reducible repeat (first | apply Kd.R_alloc | apply Kd.R_drewN | apply Kd.R_drew)); exact Kd.R_mono HO262.out (fun _ hk => ⟨hk.1.2, hk.2⟩)))
                    (case aS => exact (below_size (by repeat (first | (with_reducible first | exact HB.out | apply below_alloc | apply pw_below_drewN | apply below_drew1) | exact HB.out))))
                    (case aL => have := LMc83.out; omega)
                    intro v264 w96 ho hb hg hat
                    rw [← Ny263.out] at ho
                    have n0_ := Aside0.mk (Kd.Q_after (ok := (fun k_ => some k_ ≠ (.slice Ao97 x12_4.length co97 : Value).ownBlock)) (by (with_reducible repeat (first | apply Kd.Q_alloc | apply Kd.Q_drewN | apply Kd.Q_drew)); exact HO_5.out) hg hat)
                    have n1_ := Aside0.mk (Kd.R_over' (by (with_reducible repeat (first | apply Kd.R_alloc | apply Kd.R_drewN | apply Kd.R_drew)); exact HO_6.out) (Kd.R_typed (by (with_reducible repeat (first | apply Kd.R_alloc | apply Kd.R_drewN | apply Kd.R_drew)); exact HO262.out)) (by decide) hg)
                    have n2_ := Aside0.mk (Kd.R_after (ok := (fun k_ => some k_ ≠ (.slice Ao91 x5_4.length co91 : Value).ownBlock)) (by (with_reducible repeat (first | apply Kd.R_alloc | apply Kd.R_drewN | apply Kd.R_drew)); exact HO_12.out) hg hat)
                    have n3_ := Aside0.mk (Kd.R_over' (by (with_reducible repeat (first | apply Kd.R_alloc | apply Kd.R_drewN | apply Kd.R_drew)); exact HO_14.out) (Kd.R_typed (by (with_reducible repeat (first | apply Kd.R_alloc | apply Kd.R_drewN | apply Kd.R_drew)); exact HO262.out)) (by decide) hg)
                    have n4_ := Aside0.mk (hb)
                    have n5_ := Aside0.mk ((show Kd.C (Kd.int .u8) w96 Ao91 y266.length y266 from by rw [Ny266.out]; exact Kd.C_take (m := ((x5_4.length : Int) : Int).toNat) ((Kd.Q_reads' (Kd.Q_after (ok := (fun k_ => some k_ ≠ (.slice Ao97 x12_4.length co97 : Value).ownBlock)) (by (with_reducible repeat (first | apply Kd.Q_alloc | apply Kd.Q_drewN | apply Kd.Q_drew)); exact HO_5.out) hg hat)).2.2) KL93.out))
                    have n6_ := Aside0.mk (ho)
                    clear HO_5
                    clear HO_6
                    clear HO_12
                    clear HO_14
                    clear HB
                    clear HR269
                    clear HO262
                    have HO_5 := n0_
                    have HO_6 := n1_
                    have HO_12 := n2_
                    have HO_14 := n3_
                    have HB := n4_
                    have HR269 := n5_
                    have HO265 := n6_
                    clear n0_ n1_ n2_ n3_ n4_ n5_ n6_
                    clear ho hb hg hat
                    refine hK.out _ _ trivial (fun hHeld => ?_)
                    clear hK K
                    refine norm_ (a' := ?_) ?_ ?_
                    rotate_left
                    ·show Act.put _ (some 98) _ = _
                     simp only [Act.put, List.setIfInBounds_toArray, List.set_cons_zero, List.set_cons_succ, i64_w, i32_w]
                     rfl
                    refine one_ (i := 6) (N := some 102) #[true, true, true, true, true, true, true, false, false, false, false, false, false, false, false] rfl rfl (one_of HT_.out (by kernel_rfl)) (by decide) (fun K hK => ?_)
                    refine Kd.R_append_rows_step (Kd.int .u8) (w0 := w) w.heap.size (by rfl) (.tmp 98) (.tmp 101) 26 5 (.int .u8 0) 1 rfl Try.underlying26 info5 rfl (by decide) (by omega) v264 y263 y266 _ _ _ (fun k_ => some k_ ≠ (.slice Ao91 x5_4.length co91 : Value).ownBlock ∧ some k_ ≠ (.slice Ao97 x12_4.length co97 : Value).ownBlock) (fun _ => False) rfl rfl ?aO ?aR (fun _ _ h => h) (fun _ h => h.elim) ?aF ?aB ?aS ?aL ?_
                    (case aR => repeat (first | exact (by repeat (first | (with_reducible exact HR269.out) | (with_reducible refine Kd.C_alloc ?_ _) | (with_reducible refine Kd.C_drewN ?_ _) | (with_reducible refine Kd.C_drew ?_) | exact HR269.out)) | (with_reducible refine Kd.C_alloc ?_ _) | (with_reducible refine Kd.C_drewN ?_ _) | (with_reducible refine Kd.C_drew ?_)))
                    (case aB => exact (by repeat (first | (with_reducible first | exact HB.out | apply below_alloc | apply pw_below_drewN | apply below_drew1) | exact HB.out)))
                    (case aF => exact (fun k_ hk => ⟨Kd.fresh' (Kd.Q_lt (by (with_reducible repeat (first | apply Kd.Q_alloc | apply Kd.Q_drewN | apply Kd.Q_drew)); exact HO_5.out)) k_ hk, Kd.fresh' (Kd.R_lt (by (with_reducible repeat (first | apply Kd.R_alloc | apply Kd.R_drewN | apply Kd.R_drew)); exact HO_12.out)) k_ hk⟩))
                    (case aO => exact (by (with_reducible repeat (first | apply Kd.R_alloc | apply Kd.R_drewN | apply Kd.R_drew)); exact HO265.out))
                    (case aS => exact (below_size (by repeat (first | (with_reducible first | exact HB.out | apply below_alloc | apply pw_below_drewN | apply below_drew1) | exact HB.out))))
                    (case aL => have := LMc86.out; omega)
                    intro v271 w98 ho hb hg hat
                    rw [← Ny270.out] at ho
                    have n0_ := Aside0.mk (Kd.Q_after (ok := (fun k_ => some k_ ≠ (.slice Ao97 x12_4.length co97 : Value).ownBlock)) (by (with_reducible repeat (first | apply Kd.Q_alloc | apply Kd.Q_drewN | apply Kd.Q_drew)); exact HO_5.out) hg hat)
                    have n1_ := Aside0.mk (Kd.R_over' (by (with_reducible repeat (first | apply Kd.R_alloc | apply Kd.R_drewN | apply Kd.R_drew)); exact HO_6.out) (Kd.R_typed (by (with_reducible repeat (first | apply Kd.R_alloc | apply Kd.R_drewN | apply Kd.R_drew)); exact HO265.out)) (by decide) hg)
                    have n2_ := Aside0.mk (Kd.R_after (ok := (fun k_ => some k_ ≠ (.slice Ao91 x5_4.length co91 : Value).ownBlock)) (by (with_reducible repeat (first | apply Kd.R_alloc | apply Kd.R_drewN | apply Kd.R_drew)); exact HO_12.out) hg hat)
                    have n3_ := Aside0.mk (Kd.R_over' (by (with_reducible repeat (first | apply Kd.R_alloc | apply Kd.R_drewN | apply Kd.R_drew)); exact HO_14.out) (Kd.R_typed (by (with_reducible repeat (first | apply Kd.R_alloc | apply Kd.R_drewN | apply Kd.R_drew)); exact HO265.out)) (by decide) hg)
                    have n4_ := Aside0.mk (hb)
                    have n5_ := Aside0.mk ((show Kd.C (Kd.int .u8) w98 Ao91 y266.length y266 from by rw [Ny266.out]; exact Kd.C_take (m := ((x5_4.length : Int) : Int).toNat) ((Kd.Q_reads' (Kd.Q_after (ok := (fun k_ => some k_ ≠ (.slice Ao97 x12_4.length co97 : Value).ownBlock)) (by (with_reducible repeat (first | apply Kd.Q_alloc | apply Kd.Q_drewN | apply Kd.Q_drew)); exact HO_5.out) hg hat)).2.2) KL93.out))
                    have n6_ := Aside0.mk (ho)
                    clear HO_5
                    clear HO_6
                    clear HO_12
                    clear HO_14
                    clear HB
                    clear HR269
                    clear HO265
                    have HO_5 := n0_
                    have HO_6 := n1_
                    have HO_12 := n2_
                    have HO_14 := n3_
                    have HB := n4_
                    have HR269 := n5_
                    have HO272 := n6_
                    clear n0_ n1_ n2_ n3_ n4_ n5_ n6_
                    clear ho hb hg hat
                    obtain ⟨Ao99, co99, eo99⟩ := Kd.R_slice HO272.out
                    (first | subst eo99 | (injection eo99 with f1_ f2_ f3_; have f4_ := f1_.symm; have f5_ := f3_.symm; clear f1_ f2_ f3_; subst f4_; subst f5_))
                    refine hK.out _ _ trivial (fun hHeld => ?_)
                    clear hK K
                    refine norm_ (a' := ?_) ?_ ?_
                    rotate_left
                    ·show Act.put _ (some 102) _ = _
                     simp only [Act.put, List.setIfInBounds_toArray, List.set_cons_zero, List.set_cons_succ, i64_w, i32_w]
                     rfl
                    refine one_ (i := 7) (N := some 103) #[true, true, true, true, true, true, true, true, false, false, false, false, false, false, false] rfl rfl (one_of HT_.out (by kernel_rfl)) (by decide) (fun K hK => ?_)
                    refine goes_ Try.func19 (by kernel_rfl) rfl #[.slice Ao99 y270.length co99] (by rfl) rfl rfl (by (try simp only [List.map_toArray, List.map_cons, List.map_nil]); first | done | rfl | (simp only [List.length_drop, List.length_take]; rfl)) ?_
                    with_reducible refine (tele_Split.calls k4 (fun k_ => some k_ = (.slice Ao99 y270.length co99 : Value).ownBlock) _ _ y270 t273 t276 t279 _ ?side1 A87.out).mono ?_
                    (case side1 => exact Kd.R_V (Kd.R_tight rfl (Kd.R_apart' (Kd.R_apart' (HO272.out) (Kd.R_typed HO_6.out) (by decide)) (Kd.R_typed HO_14.out) (by decide))))
                    rintro e w100 ⟨v274, v277, rfl, ho0, ho1, hb⟩
                    refine ⟨_, rfl, ?_⟩
                    have n0_ := Aside0.mk (Kd.Q_elder' (by (with_reducible repeat (first | apply Kd.Q_alloc | apply Kd.Q_drewN | apply Kd.Q_drew)); exact HO_5.out) (Kd.R_base ho1) hb)
                    have n1_ := Aside0.mk (Kd.R_elder' (by (with_reducible repeat (first | apply Kd.R_alloc | apply Kd.R_drewN | apply Kd.R_drew)); exact HO_6.out) (Kd.R_base ho0) hb)
                    have n2_ := Aside0.mk (Kd.R_elder' (by (with_reducible repeat (first | apply Kd.R_alloc | apply Kd.R_drewN | apply Kd.R_drew)); exact HO_12.out) (Kd.R_base ho1) hb)
                    have n3_ := Aside0.mk (Kd.R_elder' (by (with_reducible repeat (first | apply Kd.R_alloc | apply Kd.R_drewN | apply Kd.R_drew)); exact HO_14.out) (Kd.R_base ho0) hb)
                    have n4_ := Aside0.mk (Kd.R_elder' (by (with_reducible repeat (first | apply Kd.R_alloc | apply Kd.R_drewN | apply Kd.R_drew)); exact HO272.out) (Kd.R_base ho1) hb)
                    have n5_ := Aside0.mk (Kd.R_lower (Kd.R_new' (Kd.R_new' (Kd.R_mono (ok' := fun k_ => True) ho0 (fun _ hk_ => trivial)) (Kd.R_lt (by (with_reducible repeat (first | apply Kd.R_alloc | apply Kd.R_drewN | apply Kd.R_drew)); exact HO_6.out))) (Kd.R_lt (by (with_reducible repeat (first | apply Kd.R_alloc | apply Kd.R_drewN | apply Kd.R_drew)); exact HO_14.out))) (below_size (by repeat (first | (with_reducible first | exact HB.out | apply below_alloc | apply pw_below_drewN | apply below_drew1) | exact HB.out))))
                    have n6_ := Aside0.mk (Kd.R_lower (Kd.R_new' (Kd.R_new' (Kd.R_new' (Kd.R_mono (ok' := fun k_ => True) ho1 (fun _ hk_ => trivial)) (Kd.Q_lt (by (with_reducible repeat (first | apply Kd.Q_alloc | apply Kd.Q_drewN | apply Kd.Q_drew)); exact HO_5.out))) (Kd.R_lt (by (with_reducible repeat (first | apply Kd.R_alloc | apply Kd.R_drewN | apply Kd.R_drew)); exact HO_12.out))) (Kd.R_lt (by (with_reducible repeat (first | apply Kd.R_alloc | apply Kd.R_drewN | apply Kd.R_drew)); exact HO272.out))) (below_size (by repeat (first | (with_reducible first | exact HB.out | apply below_alloc | apply pw_below_drewN | apply below_drew1) | exact HB.out))))
                    have n7_ := Aside0.mk (Kd.C_below (by repeat (first | (with_reducible exact HR269.out) | (with_reducible refine Kd.C_alloc ?_ _) | (with_reducible refine Kd.C_drewN ?_ _) | (with_reducible refine Kd.C_drew ?_) | exact HR269.out)) hb)
                    have n8_ := Aside0.mk (below_step (by repeat (first | (with_reducible first | exact HB.out | apply below_alloc | apply pw_below_drewN | apply below_drew1) | exact HB.out)) hb)
                    clear HO_5
                    clear HO_6
                    clear HO_12
                    clear HO_14
                    clear HO272
                    clear HR269
                    clear HB
                    have HO_5 := n0_
                    have HO_6 := n1_
                    have HO_12 := n2_
                    have HO_14 := n3_
                    have HO272 := n4_
                    have HO275 := n5_
                    have HO278 := n6_
                    have HR269 := n7_
                    have HB := n8_
                    clear n0_ n1_ n2_ n3_ n4_ n5_ n6_ n7_ n8_
                    (try clear hb)
                    (try clear hb2)
                    (try clear hk)
                    (try clear hi)
                    (try clear ho0)
                    (try clear ho1)
                    refine hK.out _ _ trivial (fun hHeld => ?_)
                    clear hK K
                    refine norm_ (a' := ?_) ?_ ?_
                    rotate_left
                    ·show Act.put _ (some 103) _ = _
                     simp only [Act.put, List.setIfInBounds_toArray, List.set_cons_zero, List.set_cons_succ, i64_w, i32_w]
                     rfl
                    refine pure_ (i := 8) (N := some 95) (v := ?_) (a' := ?_) #[true, true, true, true, true, true, true, true, true, false, false, false, false, false, false] rfl rfl (any_of HT_.out (by kernel_rfl)) (fun _ _ _ h => h) (Or.inl ⟨by rfl, ?_⟩) ?_ ?_
                    rotate_left
                    ·intro w'
                     go_simp
                     with_reducible rfl
                    rotate_left
                    ·simp only [Act.put, List.setIfInBounds_toArray, List.set_cons_zero, List.set_cons_succ, i64_w, i32_w]
                     rfl
                    refine pure_ (i := 9) (N := some 104) (v := ?_) (a' := ?_) #[true, true, true, true, true, true, true, true, true, true, false, false, false, false, false] rfl rfl (any_of HT_.out (by kernel_rfl)) (fun _ _ _ h => h) (Or.inl ⟨by rfl, ?_⟩) ?_ ?_
                    rotate_left
                    ·intro w'
                     go_simp
                     with_reducible rfl
                    rotate_left
                    ·simp only [Act.put, List.setIfInBounds_toArray, List.set_cons_zero, List.set_cons_succ, i64_w, i32_w]
                     rfl
                    refine pure_ (i := 10) (N := some 105) (v := ?_) (a' := ?_) #[true, true, true, true, true, true, true, true, true, true, true, false, false, false, false] rfl rfl (any_of HT_.out (by kernel_rfl)) (fun _ _ _ h => h) (Or.inl ⟨by rfl, ?_⟩) ?_ ?_
                    rotate_left
                    ·intro w'
                     go_simp
                     with_reducible rfl
                    rotate_left
                    ·simp only [Act.put, List.setIfInBounds_toArray, List.set_cons_zero, List.set_cons_succ, i64_w, i32_w]
                     rfl
                    refine pure_ (i := 11) (N := some 106) (v := ?_) (a' := ?_) #[true, true, true, true, true, true, true, true, true, true, true, true, false, false, false] rfl rfl (any_of HT_.out (by kernel_rfl)) (fun _ _ _ h => h) (Or.inl ⟨by rfl, ?_⟩) ?_ ?_
                    rotate_left
                    ·intro w'
                     go_simp
                     with_reducible rfl
                    rotate_left
                    ·simp only [Act.put, List.setIfInBounds_toArray, List.set_cons_zero, List.set_cons_succ, i64_w, i32_w]
                     rfl
                    refine pure_ (i := 12) (N := some 17) (v := ?_) (a' := ?_) #[true, true, true, true, true, true, true, true, true, true, true, true, true, false, false] rfl rfl (any_of HT_.out (by kernel_rfl)) (fun _ _ _ h => h) (Or.inl ⟨by rfl, ?_⟩) ?_ ?_
                    rotate_left
                    ·intro w'
                     go_simp
                     with_reducible rfl
                    rotate_left
                    ·simp only [Act.put, List.setIfInBounds_toArray, List.set_cons_zero, List.set_cons_succ, i64_w, i32_w]
                     rfl
                    refine pure_ (i := 13) (N := some 18) (v := ?_) (a' := ?_) #[true, true, true, true, true, true, true, true, true, true, true, true, true, true, false] rfl rfl (any_of HT_.out (by kernel_rfl)) (fun _ _ _ h => h) (Or.inl ⟨by rfl, ?_⟩) ?_ ?_
                    rotate_left
                    ·intro w'
                     go_simp
                     with_reducible rfl
                    rotate_left
                    ·simp only [Act.put, List.setIfInBounds_toArray, List.set_cons_zero, List.set_cons_succ, i64_w, i32_w]
                     rfl
                    refine pure_ (i := 14) (N := some 19) (v := ?_) (a' := ?_) #[true, true, true, true, true, true, true, true, true, true, true, true, true, true, true] rfl rfl (any_of HT_.out (by kernel_rfl)) (fun _ _ _ h => h) (Or.inl ⟨by rfl, ?_⟩) ?_ ?_
                    rotate_left
                    ·intro w'
                     go_simp
                     with_reducible rfl
                    rotate_left
                    ·simp only [Act.put, List.setIfInBounds_toArray, List.set_cons_zero, List.set_cons_succ, i64_w, i32_w]
                     rfl
                    refine done_ (done_of HT_.out (by kernel_rfl)) ?_
                    try go_wp2
                    have n0_ := Aside0.mk (Kd.Q_drew HO_5.out)
                    have n1_ := Aside0.mk (Kd.R_drew HO_6.out)
                    have n2_ := Aside0.mk (Kd.R_drew HO_12.out)
                    have n3_ := Aside0.mk (Kd.R_drew HO_14.out)
                    have n4_ := Aside0.mk (Kd.R_drew HO272.out)
                    have n5_ := Aside0.mk (Kd.R_drew HO275.out)
                    have n6_ := Aside0.mk (Kd.R_drew HO278.out)
                    have n7_ := Aside0.mk (Kd.C_drew HR269.out)
                    have n8_ := Aside0.mk (below_drew1 HB.out)
                    clear HO_5
                    clear HO_6
                    clear HO_12
                    clear HO_14
                    clear HO272
                    clear HO275
                    clear HO278
                    clear HR269
                    clear HB
                    have HO_5 := n0_
                    have HO_6 := n1_
                    have HO_12 := n2_
                    have HO_14 := n3_
                    have HO272 := n4_
                    have HO275 := n5_
                    have HO278 := n6_
                    have HR269 := n7_
                    have HB := n8_
                    clear n0_ n1_ n2_ n3_ n4_ n5_ n6_ n7_ n8_
                    have n_ := Aside0.mk (Kd.Q_mono (ok' := (fun k_ => some k_ ≠ (.slice Ao97 x12_4.length co97 : Value).ownBlock ∧ some k_ ≠ (.slice Ao99 y270.length co99 : Value).ownBlock ∧ some k_ ≠ (v277 : Value).ownBlock)) HO_5.out (fun k_ hk => ⟨hk.1.1, ⟨hk.1.2, hk.2⟩⟩))
                    clear HO_5
                    have HO_5 := n_
                    clear n_
                    have q102 : ((x5_4.length : Int) : Int) ≤ ((x5_4.length : Int) : Int) := of_decide_eq_true (by first | (with_reducible assumption) | assumption)
                    obtain ⟨i0102, hi0102, _, hsz102, _⟩ := info_parts info5
                    have hcut102 := cut_from (P := Try.prog) 26 5 .i64 Try.underlying26 hi0102 1 hsz102 Ao91 x5_4.length co91 (x5_4.length : Int) (of_decide_eq_true (by first | (with_reducible assumption) | assumption)) q102
                    have hr102 := Kd.Q_drop (k := ((x5_4.length : Int) : Int).toNat) HO_5.out (by omega)
                    obtain ⟨A102, hA102⟩ : ∃ A1, A1 = (if co91 = ((x5_4.length : Int) : Int).toNat then Ao91 else (Ao91 : Option Addr).map (·.add (((x5_4.length : Int) : Int).toNat * 1))) := ⟨_, rfl⟩
                    obtain ⟨c102, hc102⟩ : ∃ c1, c1 = co91 - ((x5_4.length : Int) : Int).toNat := ⟨_, rfl⟩
                    have hy102 : y283.length = x5_4.length - ((x5_4.length : Int) : Int).toNat := (by rw [Ny283.out, List.length_drop])
                    rw [← Ny283.out] at hr102
                    rw [← hy102, ← hA102, ← hc102] at hcut102
                    replace hr102 : Kd.Q (Kd.int .u8) 5 w100.drew w.heap.size (fun k_ => some k_ ≠ (.slice Ao97 x12_4.length co97 : Value).ownBlock ∧ some k_ ≠ (.slice Ao99 y270.length co99 : Value).ownBlock ∧ some k_ ≠ (v277 : Value).ownBlock) (.slice A102 y283.length c102) y283 := (by rw [hA102, hc102, hy102]; exact hr102)
                    have HE102 : Aside0 ((Value.slice A102 y283.length c102).ownBlock = (.slice Ao91 x5_4.length co91 : Value).ownBlock) := ⟨by rw [hA102]; split <;> (cases (Ao91 : Option Addr) <;> first | rfl | exact own_add _ _ _ _ _ _)⟩
                    clear hy102 hi0102 hsz102 HO_5 hA102 hc102
                    have HO285 := Aside0.mk hr102
                    clear hr102
                    replace q102 := eq_true q102
                    have n_ := Aside0.mk (Kd.R_mono (ok' := fun k_ => ((some k_ ≠ (.slice A102 y283.length c102 : Value).ownBlock ∧ some k_ ≠ (.slice Ao99 y270.length co99 : Value).ownBlock) ∧ some k_ ≠ (v277 : Value).ownBlock)) HO_12.out (fun k_ hk => ⟨⟨(by rw [HE102.out]; exact hk.1.1), hk.1.2⟩, hk.2⟩))
                    clear HO_12
                    have HO_12 := n_
                    clear n_
                    have n_ := Aside0.mk (Kd.R_mono (ok' := fun k_ => ((some k_ ≠ (.slice A102 y283.length c102 : Value).ownBlock ∧ some k_ ≠ (.slice Ao97 x12_4.length co97 : Value).ownBlock) ∧ some k_ ≠ (v277 : Value).ownBlock)) HO272.out (fun k_ hk => ⟨⟨(by rw [HE102.out]; exact hk.1.1), hk.1.2⟩, hk.2⟩))
                    clear HO272
                    have HO272 := n_
                    clear n_
                    have n_ := Aside0.mk (Kd.R_mono (ok' := fun k_ => (((True ∧ some k_ ≠ (.slice A102 y283.length c102 : Value).ownBlock) ∧ some k_ ≠ (.slice Ao97 x12_4.length co97 : Value).ownBlock) ∧ some k_ ≠ (.slice Ao99 y270.length co99 : Value).ownBlock)) HO278.out (fun k_ hk => ⟨⟨⟨trivial, (by rw [HE102.out]; exact hk.1.1.2)⟩, hk.1.2⟩, hk.2⟩))
                    clear HO278
                    have HO278 := n_
                    clear n_
                    obtain ⟨Ao104, co104, eo104⟩ := Kd.R_slice HO275.out
                    (first | subst eo104 | (injection eo104 with f1_ f2_ f3_; have f4_ := f1_.symm; have f5_ := f3_.symm; clear f1_ f2_ f3_; subst f4_; subst f5_))
                    refine start_ (n := 10) (S := fun w' => True) (ds := []) #[false, false, false, false, false, false, false, false, false, false] (by kernel_rfl) rfl rfl trivial (fun hHeld => ?_); refine with_tabW stillagelaw02_TelePieces.tab26 stillagelaw02_TelePieces.bits26 (fun HT_ HW_ => ?_)
                    generalize w100.drew = w101 at HO_5 HO_6 HO_12 HO_14 HO272 HO275 HO278 HR269 HB HO285 hHeld ⊢
                    refine pure_ (i := 0) (N := some 109) (v := ?_) (a' := ?_) #[true, false, false, false, false, false, false, false, false, false] rfl rfl (any_of HT_.out (by kernel_rfl)) (fun _ _ _ h => h) (Or.inl ⟨by rfl, ?_⟩) ?_ ?_
                    rotate_left
                    ·intro w'
                     go_simp
                     with_reducible rfl
                    rotate_left
                    ·simp only [Act.put, List.setIfInBounds_toArray, List.set_cons_zero, List.set_cons_succ, i64_w, i32_w]
                     rfl
                    refine pure_ (i := 1) (N := some 110) (v := ?_) (a' := ?_) #[true, true, false, false, false, false, false, false, false, false] rfl rfl (any_of HT_.out (by kernel_rfl)) (fun _ _ _ h => h) (Or.inl ⟨by rfl, ?_⟩) ?_ ?_
                    rotate_left
                    ·intro w'
                     go_simp
                     with_reducible rfl
                    rotate_left
                    ·simp only [Act.put, List.setIfInBounds_toArray, List.set_cons_zero, List.set_cons_succ, i64_w, i32_w]
                     rfl
                    refine pure_ (i := 3) (N := some 112) (v := ?_) (a' := ?_) #[true, true, false, true, false, false, false, false, false, false] rfl rfl (any_of HT_.out (by kernel_rfl)) (fun _ _ _ h => h) (Or.inl ⟨by rfl, ?_⟩) ?_ ?_
                    rotate_left
                    ·intro w'
                     go_simp
                     with_reducible rfl
                    rotate_left
                    ·simp only [Act.put, List.setIfInBounds_toArray, List.set_cons_zero, List.set_cons_succ, i64_w, i32_w]
                     rfl
                    refine pure_ (i := 4) (N := some 113) (v := ?_) (a' := ?_) #[true, true, false, true, true, false, false, false, false, false] rfl rfl (any_of HT_.out (by kernel_rfl)) (fun _ _ _ h => h) (Or.inl ⟨by rfl, ?_⟩) ?_ ?_
                    rotate_left
                    ·intro w'
                     go_simp
                     with_reducible rfl
                    rotate_left
                    ·simp only [Act.put, List.setIfInBounds_toArray, List.set_cons_zero, List.set_cons_succ, i64_w, i32_w]
                     rfl
                    refine pure_ (i := 5) (N := some 114) (v := ?_) (a' := ?_) #[true, true, false, true, true, true, false, false, false, false] rfl rfl (any_of HT_.out (by kernel_rfl)) (fun _ _ _ h => h) (Or.inl ⟨by rfl, ?_⟩) ?_ ?_
                    rotate_left
                    ·intro w'
                     go_simp
                     with_reducible rfl
                    rotate_left
                    ·simp only [Act.put, List.setIfInBounds_toArray, List.set_cons_zero, List.set_cons_succ, i64_w, i32_w]
                     rfl
                    refine pure_ (i := 6) (N := some 115) (v := ?_) (a' := ?_) #[true, true, false, true, true, true, true, false, false, false] rfl rfl (any_of HT_.out (by kernel_rfl)) (fun _ _ _ h => h) (Or.inl ⟨by rfl, ?_⟩) ?_ ?_
                    rotate_left
                    ·intro w'
                     go_simp
                     with_reducible rfl
                    rotate_left
                    ·simp only [Act.put, List.setIfInBounds_toArray, List.set_cons_zero, List.set_cons_succ, i64_w, i32_w]
                     rfl
                    refine one_ (i := 2) (N := some 111) #[true, true, true, true, true, true, true, false, false, false] rfl rfl (one_of HT_.out (by kernel_rfl)) (by decide) (fun K hK => ?_)
                    refine Kd.R_append_rows_step k24 (w0 := w) w.heap.size (by rfl) (.tmp 109) (.tmp 110) 44 24 (.agg #[(.int .u8 0), (.int .u16 0), (.int .u16 0), (.int .u16 0), (.int .u16 0)]) 10 rfl Try.underlying44 info24 rfl (by decide) (by omega) u14 x14_4 t273 _ _ _ (fun k_ => some k_ ≠ (u6 : Value).ownBlock ∧ some k_ ≠ (.slice Ao104 t273.length co104 : Value).ownBlock) (fun _ => False) rfl rfl ?aO ?aR (fun _ _ h => h) (fun _ h => h.elim) ?aF ?aB ?aS ?aL ?_
                    (case aR => repeat (first | exact (Kd.R_reads' HO275.out).2.2 | (with_reducible refine Kd.C_alloc ?_ _) | (with_reducible refine Kd.C_drewN ?_ _) | (with_reducible refine Kd.C_drew ?_)))
                    (case aB => exact (by repeat (first | (with_reducible first | exact HB.out | apply below_alloc | apply pw_below_drewN | apply below_drew1) | exact HB.out)))
                    (case aF => exact (fun k_ hk => ⟨Kd.fresh' (Kd.R_lt (by (with_reducible repeat (first | apply Kd.R_alloc | apply Kd.R_drewN | apply Kd.R_drew)); exact HO_6.out)) k_ hk, Kd.fresh' (Kd.R_lt (by (with_reducible repeat (first | apply Kd.R_alloc | apply Kd.R_drewN | apply Kd.R_drew)); exact HO275.out)) k_ hk⟩))
                    (case aO => exact (by (with_reducible repeat (first | apply Kd.R_alloc | apply Kd.R_drewN | apply Kd.R_drew)); exact HO_14.out))
                    (case aS => exact (below_size (by repeat (first | (with_reducible first | exact HB.out | apply below_alloc | apply pw_below_drewN | apply below_drew1) | exact HB.out))))
                    (case aL => have := LMc89.out; omega)
                    intro v281 w103 ho hb hg hat
                    rw [← Ny280.out] at ho
                    have n0_ := Aside0.mk (Kd.Q_over' (by (with_reducible repeat (first | apply Kd.Q_alloc | apply Kd.Q_drewN | apply Kd.Q_drew)); exact HO285.out) (Kd.R_typed (by (with_reducible repeat (first | apply Kd.R_alloc | apply Kd.R_drewN | apply Kd.R_drew)); exact HO_14.out)) (by decide) hg)
                    have n1_ := Aside0.mk (Kd.R_after (ok := (fun k_ => some k_ ≠ (.slice Ao104 t273.length co104 : Value).ownBlock)) (by (with_reducible repeat (first | apply Kd.R_alloc | apply Kd.R_drewN | apply Kd.R_drew)); exact Kd.R_mono HO_6.out (fun _ hk => ⟨hk.2, hk.1⟩)) hg hat)
                    have n2_ := Aside0.mk (Kd.R_over' (by (with_reducible repeat (first | apply Kd.R_alloc | apply Kd.R_drewN | apply Kd.R_drew)); exact HO_12.out) (Kd.R_typed (by (with_reducible repeat (first | apply Kd.R_alloc | apply Kd.R_drewN | apply Kd.R_drew)); exact HO_14.out)) (by decide) hg)
                    have n3_ := Aside0.mk (Kd.R_over' (by (with_reducible repeat (first | apply Kd.R_alloc | apply Kd.R_drewN | apply Kd.R_drew)); exact HO272.out) (Kd.R_typed (by (with_reducible repeat (first | apply Kd.R_alloc | apply Kd.R_drewN | apply Kd.R_drew)); exact HO_14.out)) (by decide) hg)
                    have n4_ := Aside0.mk (Kd.R_after (ok := (fun k_ => some k_ ≠ (u6 : Value).ownBlock)) (by (with_reducible repeat (first | apply Kd.R_alloc | apply Kd.R_drewN | apply Kd.R_drew)); exact Kd.R_mono HO275.out (fun _ hk => ⟨hk.1.2, hk.2⟩)) hg hat)
                    have n5_ := Aside0.mk (Kd.R_over' (by (with_reducible repeat (first | apply Kd.R_alloc | apply Kd.R_drewN | apply Kd.R_drew)); exact HO278.out) (Kd.R_typed (by (with_reducible repeat (first | apply Kd.R_alloc | apply Kd.R_drewN | apply Kd.R_drew)); exact HO_14.out)) (by decide) hg)
                    have n6_ := Aside0.mk (hb)
                    have n7_ := Aside0.mk (ho)
                    clear HO285
                    clear HO_6
                    clear HO_12
                    clear HO272
                    clear HO275
                    clear HO278
                    clear HB
                    clear HO_14
                    have HO285 := n0_
                    have HO_6 := n1_
                    have HO_12 := n2_
                    have HO272 := n3_
                    have HO275 := n4_
                    have HO278 := n5_
                    have HB := n6_
                    have HO282 := n7_
                    clear n0_ n1_ n2_ n3_ n4_ n5_ n6_ n7_
                    clear ho hb hg hat
                    refine hK.out _ _ trivial (fun hHeld => ?_)
                    clear hK K
                    refine norm_ (a' := ?_) ?_ ?_
                    rotate_left
                    ·show Act.put _ (some 111) _ = _
                     simp only [Act.put, List.setIfInBounds_toArray, List.set_cons_zero, List.set_cons_succ, i64_w, i32_w]
                     rfl
                    refine pure_ (i := 7) (N := some 14) (v := ?_) (a' := ?_) #[true, true, true, true, true, true, true, true, false, false] rfl rfl (any_of HT_.out (by kernel_rfl)) (fun _ _ _ h => h) (Or.inl ⟨by rfl, ?_⟩) ?_ ?_
                    rotate_left
                    ·intro w'
                     go_simp
                     with_reducible rfl
                    rotate_left
                    ·simp only [Act.put, List.setIfInBounds_toArray, List.set_cons_zero, List.set_cons_succ, i64_w, i32_w]
                     rfl
                    refine pure_ (i := 8) (N := some 12) (v := ?_) (a' := ?_) #[true, true, true, true, true, true, true, true, true, false] rfl rfl (any_of HT_.out (by kernel_rfl)) (fun _ _ _ h => h) (Or.inl ⟨by rfl, ?_⟩) ?_ ?_
                    rotate_left
                    ·intro w'
                     go_simp
                     with_reducible rfl
                    rotate_left
                    ·simp only [Act.put, List.setIfInBounds_toArray, List.set_cons_zero, List.set_cons_succ, i64_w, i32_w]
                     rfl
                    refine pure_ (i := 9) (N := some 5) (v := ?_) (a' := ?_) #[true, true, true, true, true, true, true, true, true, true] rfl rfl (any_of HT_.out (by kernel_rfl)) (fun _ _ _ h => h) (Or.inl ⟨by rfl, ?_⟩) ?_ ?_
                    rotate_left
                    ·intro w'
                     go_simp
                     with_reducible rfl
                    rotate_left
                    ·simp only [Act.put, List.setIfInBounds_toArray, List.set_cons_zero, List.set_cons_succ, i64_w, i32_w]
                     rfl
                    refine done_ (done_of HT_.out (by kernel_rfl)) ?_
                    try go_wp2
                    go_roundg k4
                    case measure => have := HJ2.out; have := HK2.out; have := HJ30.out; have := HK4.out; omega
                    case rel => exact ⟨(y283), (t276), (y280), (wrap64 (x15_4 + 1)), (by first | rfl | (simp; done) | (simp [*]; done)), H', ⟨by have := HJ2.out; have := HK2.out; have := HJ30.out; have := HK4.out; omega⟩, ⟨by (with_reducible repeat (first | apply Kd.Q_alloc | apply Kd.Q_drewN | apply Kd.Q_drew)); exact Kd.Q_mono HO285.out (fun _ hk => hk.2.2)⟩, ⟨by (with_reducible repeat (first | apply Kd.R_alloc | apply Kd.R_drewN | apply Kd.R_drew)); exact Kd.R_mono HO_6.out (fun _ hk => hk.2)⟩, ⟨by (with_reducible repeat (first | apply Kd.R_alloc | apply Kd.R_drewN | apply Kd.R_drew)); exact Kd.R_mono HO278.out (fun _ hk => hk.1.1.2)⟩, ⟨by (with_reducible repeat (first | apply Kd.R_alloc | apply Kd.R_drewN | apply Kd.R_drew)); exact Kd.R_mono HO282.out (fun _ hk => hk.1)⟩, ⟨by repeat (first | (with_reducible first | exact HB.out | apply below_alloc | apply pw_below_drewN | apply below_drew1) | exact HB.out)⟩⟩
                   ·rw [if_neg c89] at H
                    exact absurd H (by simp)
                  ·rw [if_neg c88] at H
                   have c88b0 : (t279 == 0) = false := beq_eq_false_iff_ne.mpr c88
                   have c88b1 : (t279 != 0) = true := bne_iff_ne.mpr c88
                   obtain rfl := Option.some.inj H
                   obtain ⟨Ao105, co105, eo105, _⟩ := Kd.Q_slice HO_5.out
                   subst eo105
                   try go_wp2
                   have n0_ := Aside0.mk (Kd.Q_drew HO_5.out)
                   have n1_ := Aside0.mk (Kd.R_drew HO_6.out)
                   have n2_ := Aside0.mk (Kd.R_drew HO_12.out)
                   have n3_ := Aside0.mk (Kd.R_drew HO_14.out)
                   have n4_ := Aside0.mk (below_drew1 HB.out)
                   clear HO_5
                   clear HO_6
                   clear HO_12
                   clear HO_14
                   clear HB
                   have HO_5 := n0_
                   have HO_6 := n1_
                   have HO_12 := n2_
                   have HO_14 := n3_
                   have HB := n4_
                   clear n0_ n1_ n2_ n3_ n4_
                   have q107 : ((x5_4.length : Int) : Int) ≤ ((x5_4.length : Int) : Int) := of_decide_eq_true (by first | (with_reducible assumption) | assumption)
                   obtain ⟨i0107, hi0107, _, hsz107, _⟩ := info_parts info5
                   have hroom107 : x5_4.length ≤ co105 := (Kd.Q_reads' HO_5.out).2.1
                   have hC107 : Kd.C (Kd.int .u8) _ Ao105 x5_4.length x5_4 := (Kd.Q_reads' HO_5.out).2.2
                   have hcut107 := cut_to (P := Try.prog) 26 5 .i64 Try.underlying26 hi0107 Ao105 x5_4.length co105 (x5_4.length : Int) (of_decide_eq_true (by first | (with_reducible assumption) | assumption)) q107 hroom107
                   have hr107 := Kd.C_take (m := ((x5_4.length : Int) : Int).toNat) hC107 (by omega)
                   have hy107 : y266.length = ((x5_4.length : Int) : Int).toNat := (by rw [Ny266.out, List.length_take]; omega)
                   rw [← Ny266.out] at hr107
                   rw [← hy107] at hcut107
                   have HR269 := Aside0.mk hr107
                   have HC269 := Aside0.mk (show y266.length ≤ co105 from by omega)
                   clear hr107 hC107 hroom107 hi0107 hsz107
                   have KY107 := Aside0.mk hy107
                   clear hy107
                   have KL107 := Aside0.mk (show ((x5_4.length : Int) : Int).toNat ≤ x5_4.length from by omega)
                   replace q107 := eq_true q107
                   refine start_ (n := 15) (S := fun w' => True) (ds := []) #[false, false, false, false, false, false, false, false, false, false, false, false, false, false, false] (by kernel_rfl) rfl rfl trivial (fun hHeld => ?_); refine with_tabW stillagelaw02_TelePieces.tab23 stillagelaw02_TelePieces.bits23 (fun HT_ HW_ => ?_)
                   generalize wr.drew = w106 at HO_5 HO_6 HO_12 HO_14 HB HR269 hHeld ⊢
                   refine pure_ (i := 1) (N := some 97) (v := ?_) (a' := ?_) #[false, true, false, false, false, false, false, false, false, false, false, false, false, false, false] rfl rfl (any_of HT_.out (by kernel_rfl)) (fun _ _ _ h => h) (Or.inl ⟨by rfl, ?_⟩) ?_ ?_
                   rotate_left
                   ·intro w'
                    go_simp
                    with_reducible rfl
                   rotate_left
                   ·simp only [Act.put, List.setIfInBounds_toArray, List.set_cons_zero, List.set_cons_succ, i64_w, i32_w]
                    rfl
                   refine pure_ (i := 3) (N := some 99) (v := ?_) (a' := ?_) #[false, true, false, true, false, false, false, false, false, false, false, false, false, false, false] rfl rfl (any_of HT_.out (by kernel_rfl)) (fun _ _ _ h => h) (Or.inl ⟨by rfl, ?_⟩) ?_ ?_
                   rotate_left
                   ·intro w'
                    go_simp
                    with_reducible rfl
                   rotate_left
                   ·simp only [Act.put, List.setIfInBounds_toArray, List.set_cons_zero, List.set_cons_succ, i64_w, i32_w]
                    rfl
                   refine pure_ (i := 4) (N := some 100) (v := ?_) (a' := ?_) #[false, true, false, true, true, false, false, false, false, false, false, false, false, false, false] rfl rfl (any_of HT_.out (by kernel_rfl)) (fun _ _ _ h => h) (Or.inl ⟨by rfl, ?_⟩) ?_ ?_
                   rotate_left
                   ·intro w'
                    go_simp
                    with_reducible rfl
                   rotate_left
                   ·simp only [Act.put, List.setIfInBounds_toArray, List.set_cons_zero, List.set_cons_succ, i64_w, i32_w]
                    rfl
                   refine pure_ (i := 5) (N := some 101) (v := ?_) (a' := ?_) #[false, true, false, true, true, true, false, false, false, false, false, false, false, false, false] rfl rfl (any_of HT_.out (by kernel_rfl)) (fun _ _ _ h => h) (Or.inl ⟨by rfl, ?_⟩) ?_ ?_
                   rotate_left
                   ·intro w'
                    go_simp
                    with_reducible rfl
                   rotate_left
                   ·simp only [Act.put, List.setIfInBounds_toArray, List.set_cons_zero, List.set_cons_succ, i64_w, i32_w]
                    rfl
                   refine one_ (i := 0) (N := some 96) #[true, true, false, true, true, true, false, false, false, false, false, false, false, false, false] rfl rfl (one_of HT_.out (by kernel_rfl)) (by decide) (fun K hK => ?_)
                   refine Kd.R_lit_step (Kd.int .u8) _ 5 ?hg (N := 96) ?hd (xs := ([] : List Int)) (inner := []) (ok := fun _ => True) (okp := fun _ => True) ?hr ?hp (fun _ hk => hk) trivial (Below.refl _ _) (Nat.le_refl _) (by simp) ?_; (case hd => rfl); (case hg => rfl); (case hr => first | (go_simp; done) | (go_simp; rfl)); (case hp => exact (Reps.none _ _))
                   intro v261 w108 ho109 hb hg_ hnew_
                   clear hg_ hnew_
                   (first | rw [← Ny260.out] at ho109 | (simp only [Int.reduceToNat] at ho109; rw [← Ny260.out] at ho109))
                   have n0_ := Aside0.mk (Kd.Q_elder' (by (with_reducible repeat (first | apply Kd.Q_alloc | apply Kd.Q_drewN | apply Kd.Q_drew)); exact HO_5.out) (Kd.R_base ho109) hb)
                   have n1_ := Aside0.mk (Kd.R_below (by (with_reducible repeat (first | apply Kd.R_alloc | apply Kd.R_drewN | apply Kd.R_drew)); exact HO_6.out) hb)
                   have n2_ := Aside0.mk (Kd.R_elder' (by (with_reducible repeat (first | apply Kd.R_alloc | apply Kd.R_drewN | apply Kd.R_drew)); exact HO_12.out) (Kd.R_base ho109) hb)
                   have n3_ := Aside0.mk (Kd.R_below (by (with_reducible repeat (first | apply Kd.R_alloc | apply Kd.R_drewN | apply Kd.R_drew)); exact HO_14.out) hb)
                   have n4_ := Aside0.mk (Kd.R_lower (Kd.R_new' (Kd.R_new' ho109 (Kd.Q_lt (by (with_reducible repeat (first | apply Kd.Q_alloc | apply Kd.Q_drewN | apply Kd.Q_drew)); exact HO_5.out))) (Kd.R_lt (by (with_reducible repeat (first | apply Kd.R_alloc | apply Kd.R_drewN | apply Kd.R_drew)); exact HO_12.out))) (below_size (by repeat (first | (with_reducible first | exact HB.out | apply below_alloc | apply pw_below_drewN | apply below_drew1) | exact HB.out))))
                   have n5_ := Aside0.mk (Kd.C_below (by repeat (first | (with_reducible exact HR269.out) | (with_reducible refine Kd.C_alloc ?_ _) | (with_reducible refine Kd.C_drewN ?_ _) | (with_reducible refine Kd.C_drew ?_) | exact HR269.out)) hb)
                   have n6_ := Aside0.mk (below_step (by repeat (first | (with_reducible first | exact HB.out | apply below_alloc | apply pw_below_drewN | apply below_drew1) | exact HB.out)) hb)
                   clear HO_5
                   clear HO_6
                   clear HO_12
                   clear HO_14
                   clear HR269
                   clear HB
                   have HO_5 := n0_
                   have HO_6 := n1_
                   have HO_12 := n2_
                   have HO_14 := n3_
                   have HO262 := n4_
                   have HR269 := n5_
                   have HB := n6_
                   clear n0_ n1_ n2_ n3_ n4_ n5_ n6_
                   clear hb ho109
                   obtain ⟨Ao111, co111, eo111⟩ := Kd.R_slice HO_12.out
                   (first | subst eo111 | (injection eo111 with f1_ f2_ f3_; have f4_ := f1_.symm; have f5_ := f3_.symm; clear f1_ f2_ f3_; subst f4_; subst f5_))
                   refine hK.out _ _ trivial (fun hHeld => ?_)
                   clear hK K
                   refine norm_ (a' := ?_) ?_ ?_
                   rotate_left
                   ·show Act.put _ (some 96) _ = _
                    simp only [Act.put, List.setIfInBounds_toArray, List.set_cons_zero, List.set_cons_succ, i64_w, i32_w]
                    rfl
                   refine one_ (i := 2) (N := some 98) #[true, true, true, true, true, true, false, false, false, false, false, false, false, false, false] rfl rfl (one_of HT_.out (by kernel_rfl)) (by decide) (fun K hK => ?_)
                   refine Kd.R_append_rows_step (Kd.int .u8) (w0 := w) w.heap.size (by rfl) (.tmp 96) (.tmp 97) 26 5 (.int .u8 0) 1 rfl Try.underlying26 info5 rfl (by decide) (by omega) v261 y260 x12_4 _ _ _ (fun k_ => some k_ ≠ (.slice Ao105 x5_4.length co105 : Value).ownBlock ∧ some k_ ≠ (.slice Ao111 x12_4.length co111 : Value).ownBlock) (fun _ => False) rfl rfl ?aO ?aR (fun _ _ h => h) (fun _ h => h.elim) ?aF ?aB ?aS ?aL ?_
                   (case aR => repeat (first | exact (Kd.R_reads' HO_12.out).2.2 | (with_reducible refine Kd.C_alloc ?_ _) | (with_reducible refine Kd.C_drewN ?_ _) | (with_reducible refine Kd.C_drew ?_)))
                   (case aB => exact (by repeat (first | (with_reducible first | exact HB.out | apply below_alloc | apply pw_below_drewN | apply below_drew1) | exact HB.out)))
                   (case aF => exact (fun k_ hk => ⟨Kd.fresh' (Kd.Q_lt (by (with_reducible repeat (first | apply Kd.Q_alloc | apply Kd.Q_drewN | apply Kd.Q_drew)); exact HO_5.out)) k_ hk, Kd.fresh' (Kd.R_lt (by (with_reducible repeat (first | apply Kd.R_alloc | apply Kd.R_drewN | apply Kd.R_drew)); exact HO_12.out)) k_ hk⟩))
                   (case aO => exact (by (with_reducible repeat (first | apply Kd.R_alloc | apply Kd.R_drewN | apply Kd.R_drew)); exact Kd.R_mono HO262.out (fun _ hk => ⟨hk.1.2, hk.2⟩)))
                   (case aS => exact (below_size (by repeat (first | (with_reducible first | exact HB.out | apply below_alloc | apply pw_below_drewN | apply below_drew1) | exact HB.out))))
                   (case aL => have := LMc83.out; omega)
                   intro v264 w110 ho hb hg hat
                   rw [← Ny263.out] at ho
                   have n0_ := Aside0.mk (Kd.Q_after (ok := (fun k_ => some k_ ≠ (.slice Ao111 x12_4.length co111 : Value).ownBlock)) (by (with_reducible repeat (first | apply Kd.Q_alloc | apply Kd.Q_drewN | apply Kd.Q_drew)); exact HO_5.out) hg hat)
                   have n1_ := Aside0.mk (Kd.R_over' (by (with_reducible repeat (first | apply Kd.R_alloc | apply Kd.R_drewN | apply Kd.R_drew)); exact HO_6.out) (Kd.R_typed (by (with_reducible repeat (first | apply Kd.R_alloc | apply Kd.R_drewN | apply Kd.R_drew)); exact HO262.out)) (by decide) hg)
                   have n2_ := Aside0.mk (Kd.R_after (ok := (fun k_ => some k_ ≠ (.slice Ao105 x5_4.length co105 : Value).ownBlock)) (by (with_reducible repeat (first | apply Kd.R_alloc | apply Kd.R_drewN | apply Kd.R_drew)); exact HO_12.out) hg hat)
                   have n3_ := Aside0.mk (Kd.R_over' (by (with_reducible repeat (first | apply Kd.R_alloc | apply Kd.R_drewN | apply Kd.R_drew)); exact HO_14.out) (Kd.R_typed (by (with_reducible repeat (first | apply Kd.R_alloc | apply Kd.R_drewN | apply Kd.R_drew)); exact HO262.out)) (by decide) hg)
                   have n4_ := Aside0.mk (hb)
                   have n5_ := Aside0.mk ((show Kd.C (Kd.int .u8) w110 Ao105 y266.length y266 from by rw [Ny266.out]; exact Kd.C_take (m := ((x5_4.length : Int) : Int).toNat) ((Kd.Q_reads' (Kd.Q_after (ok := (fun k_ => some k_ ≠ (.slice Ao111 x12_4.length co111 : Value).ownBlock)) (by (with_reducible repeat (first | apply Kd.Q_alloc | apply Kd.Q_drewN | apply Kd.Q_drew)); exact HO_5.out) hg hat)).2.2) KL107.out))
                   have n6_ := Aside0.mk (ho)
                   clear HO_5
                   clear HO_6
                   clear HO_12
                   clear HO_14
                   clear HB
                   clear HR269
                   clear HO262
                   have HO_5 := n0_
                   have HO_6 := n1_
                   have HO_12 := n2_
                   have HO_14 := n3_
                   have HB := n4_
                   have HR269 := n5_
                   have HO265 := n6_
                   clear n0_ n1_ n2_ n3_ n4_ n5_ n6_
                   clear ho hb hg hat
                   refine hK.out _ _ trivial (fun hHeld => ?_)
                   clear hK K
                   refine norm_ (a' := ?_) ?_ ?_
                   rotate_left
                   ·show Act.put _ (some 98) _ = _
                    simp only [Act.put, List.setIfInBounds_toArray, List.set_cons_zero, List.set_cons_succ, i64_w, i32_w]
                    rfl
                   refine one_ (i := 6) (N := some 102) #[true, true, true, true, true, true, true, false, false, false, false, false, false, false, false] rfl rfl (one_of HT_.out (by kernel_rfl)) (by decide) (fun K hK => ?_)
                   refine Kd.R_append_rows_step (Kd.int .u8) (w0 := w) w.heap.size (by rfl) (.tmp 98) (.tmp 101) 26 5 (.int .u8 0) 1 rfl Try.underlying26 info5 rfl (by decide) (by omega) v264 y263 y266 _ _ _ (fun k_ => some k_ ≠ (.slice Ao105 x5_4.length co105 : Value).ownBlock ∧ some k_ ≠ (.slice Ao111 x12_4.length co111 : Value).ownBlock) (fun _ => False) rfl rfl ?aO ?aR (fun _ _ h => h) (fun _ h => h.elim) ?aF ?aB ?aS ?aL ?_
                   (case aR => repeat (first | exact (by repeat (first | (with_reducible exact HR269.out) | (with_reducible refine Kd.C_alloc ?_ _) | (with_reducible refine Kd.C_drewN ?_ _) | (with_reducible refine Kd.C_drew ?_) | exact HR269.out)) | (with_reducible refine Kd.C_alloc ?_ _) | (with_reducible refine Kd.C_drewN ?_ _) | (with_reducible refine Kd.C_drew ?_)))
                   (case aB => exact (by repeat (first | (with_reducible first | exact HB.out | apply below_alloc | apply pw_below_drewN | apply below_drew1) | exact HB.out)))
                   (case aF => exact (fun k_ hk => ⟨Kd.fresh' (Kd.Q_lt (by (with_reducible repeat (first | apply Kd.Q_alloc | apply Kd.Q_drewN | apply Kd.Q_drew)); exact HO_5.out)) k_ hk, Kd.fresh' (Kd.R_lt (by (with_reducible repeat (first | apply Kd.R_alloc | apply Kd.R_drewN | apply Kd.R_drew)); exact HO_12.out)) k_ hk⟩))
                   (case aO => exact (by (with_reducible repeat (first | apply Kd.R_alloc | apply Kd.R_drewN | apply Kd.R_drew)); exact HO265.out))
                   (case aS => exact (below_size (by repeat (first | (with_reducible first | exact HB.out | apply below_alloc | apply pw_below_drewN | apply below_drew1) | exact HB.out))))
                   (case aL => have := LMc86.out; omega)
                   intro v271 w112 ho hb hg hat
                   rw [← Ny270.out] at ho
                   have n0_ := Aside0.mk (Kd.Q_after (ok := (fun k_ => some k_ ≠ (.slice Ao111 x12_4.length co111 : Value).ownBlock)) (by (with_reducible repeat (first | apply Kd.Q_alloc | apply Kd.Q_drewN | apply Kd.Q_drew)); exact HO_5.out) hg hat)
                   have n1_ := Aside0.mk (Kd.R_over' (by (with_reducible repeat (first | apply Kd.R_alloc | apply Kd.R_drewN | apply Kd.R_drew)); exact HO_6.out) (Kd.R_typed (by (with_reducible repeat (first | apply Kd.R_alloc | apply Kd.R_drewN | apply Kd.R_drew)); exact HO265.out)) (by decide) hg)
                   have n2_ := Aside0.mk (Kd.R_after (ok := (fun k_ => some k_ ≠ (.slice Ao105 x5_4.length co105 : Value).ownBlock)) (by (with_reducible repeat (first | apply Kd.R_alloc | apply Kd.R_drewN | apply Kd.R_drew)); exact HO_12.out) hg hat)
                   have n3_ := Aside0.mk (Kd.R_over' (by (with_reducible repeat (first | apply Kd.R_alloc | apply Kd.R_drewN | apply Kd.R_drew)); exact HO_14.out) (Kd.R_typed (by (with_reducible repeat (first | apply Kd.R_alloc | apply Kd.R_drewN | apply Kd.R_drew)); exact HO265.out)) (by decide) hg)
                   have n4_ := Aside0.mk (hb)
                   have n5_ := Aside0.mk ((show Kd.C (Kd.int .u8) w112 Ao105 y266.length y266 from by rw [Ny266.out]; exact Kd.C_take (m := ((x5_4.length : Int) : Int).toNat) ((Kd.Q_reads' (Kd.Q_after (ok := (fun k_ => some k_ ≠ (.slice Ao111 x12_4.length co111 : Value).ownBlock)) (by (with_reducible repeat (first | apply Kd.Q_alloc | apply Kd.Q_drewN | apply Kd.Q_drew)); exact HO_5.out) hg hat)).2.2) KL107.out))
                   have n6_ := Aside0.mk (ho)
                   clear HO_5
                   clear HO_6
                   clear HO_12
                   clear HO_14
                   clear HB
                   clear HR269
                   clear HO265
                   have HO_5 := n0_
                   have HO_6 := n1_
                   have HO_12 := n2_
                   have HO_14 := n3_
                   have HB := n4_
                   have HR269 := n5_
                   have HO272 := n6_
                   clear n0_ n1_ n2_ n3_ n4_ n5_ n6_
                   clear ho hb hg hat
                   obtain ⟨Ao113, co113, eo113⟩ := Kd.R_slice HO272.out
                   (first | subst eo113 | (injection eo113 with f1_ f2_ f3_; have f4_ := f1_.symm; have f5_ := f3_.symm; clear f1_ f2_ f3_; subst f4_; subst f5_))
                   refine hK.out _ _ trivial (fun hHeld => ?_)
                   clear hK K
                   refine norm_ (a' := ?_) ?_ ?_
                   rotate_left
                   ·show Act.put _ (some 102) _ = _
                    simp only [Act.put, List.setIfInBounds_toArray, List.set_cons_zero, List.set_cons_succ, i64_w, i32_w]
                    rfl
                   refine one_ (i := 7) (N := some 103) #[true, true, true, true, true, true, true, true, false, false, false, false, false, false, false] rfl rfl (one_of HT_.out (by kernel_rfl)) (by decide) (fun K hK => ?_)
                   refine goes_ Try.func19 (by kernel_rfl) rfl #[.slice Ao113 y270.length co113] (by rfl) rfl rfl (by (try simp only [List.map_toArray, List.map_cons, List.map_nil]); first | done | rfl | (simp only [List.length_drop, List.length_take]; rfl)) ?_
                   with_reducible refine (tele_Split.calls k4 (fun k_ => some k_ = (.slice Ao113 y270.length co113 : Value).ownBlock) _ _ y270 t273 t276 t279 _ ?side1 A87.out).mono ?_
                   (case side1 => exact Kd.R_V (Kd.R_tight rfl (Kd.R_apart' (Kd.R_apart' (HO272.out) (Kd.R_typed HO_6.out) (by decide)) (Kd.R_typed HO_14.out) (by decide))))
                   rintro e w114 ⟨v274, v277, rfl, ho0, ho1, hb⟩
                   refine ⟨_, rfl, ?_⟩
                   have n0_ := Aside0.mk (Kd.Q_elder' (by (with_reducible repeat (first | apply Kd.Q_alloc | apply Kd.Q_drewN | apply Kd.Q_drew)); exact HO_5.out) (Kd.R_base ho1) hb)
                   have n1_ := Aside0.mk (Kd.R_elder' (by (with_reducible repeat (first | apply Kd.R_alloc | apply Kd.R_drewN | apply Kd.R_drew)); exact HO_6.out) (Kd.R_base ho0) hb)
                   have n2_ := Aside0.mk (Kd.R_elder' (by (with_reducible repeat (first | apply Kd.R_alloc | apply Kd.R_drewN | apply Kd.R_drew)); exact HO_12.out) (Kd.R_base ho1) hb)
                   have n3_ := Aside0.mk (Kd.R_elder' (by (with_reducible repeat (first | apply Kd.R_alloc | apply Kd.R_drewN | apply Kd.R_drew)); exact HO_14.out) (Kd.R_base ho0) hb)
                   have n4_ := Aside0.mk (Kd.R_elder' (by (with_reducible repeat (first | apply Kd.R_alloc | apply Kd.R_drewN | apply Kd.R_drew)); exact HO272.out) (Kd.R_base ho1) hb)
                   have n5_ := Aside0.mk (Kd.R_lower (Kd.R_new' (Kd.R_new' (Kd.R_mono (ok' := fun k_ => True) ho0 (fun _ hk_ => trivial)) (Kd.R_lt (by (with_reducible repeat (first | apply Kd.R_alloc | apply Kd.R_drewN | apply Kd.R_drew)); exact HO_6.out))) (Kd.R_lt (by (with_reducible repeat (first | apply Kd.R_alloc | apply Kd.R_drewN | apply Kd.R_drew)); exact HO_14.out))) (below_size (by repeat (first | (with_reducible first | exact HB.out | apply below_alloc | apply pw_below_drewN | apply below_drew1) | exact HB.out))))
                   have n6_ := Aside0.mk (Kd.R_lower (Kd.R_new' (Kd.R_new' (Kd.R_new' (Kd.R_mono (ok' := fun k_ => True) ho1 (fun _ hk_ => trivial)) (Kd.Q_lt (by (with_reducible repeat (first | apply Kd.Q_alloc | apply Kd.Q_drewN | apply Kd.Q_drew)); exact HO_5.out))) (Kd.R_lt (by (with_reducible repeat (first | apply Kd.R_alloc | apply Kd.R_drewN | apply Kd.R_drew)); exact HO_12.out))) (Kd.R_lt (by (with_reducible repeat (first | apply Kd.R_alloc | apply Kd.R_drewN | apply Kd.R_drew)); exact HO272.out))) (below_size (by repeat (first | (with_reducible first | exact HB.out | apply below_alloc | apply pw_below_drewN | apply below_drew1) | exact HB.out))))
                   have n7_ := Aside0.mk (Kd.C_below (by repeat (first | (with_reducible exact HR269.out) | (with_reducible refine Kd.C_alloc ?_ _) | (with_reducible refine Kd.C_drewN ?_ _) | (with_reducible refine Kd.C_drew ?_) | exact HR269.out)) hb)
                   have n8_ := Aside0.mk (below_step (by repeat (first | (with_reducible first | exact HB.out | apply below_alloc | apply pw_below_drewN | apply below_drew1) | exact HB.out)) hb)
                   clear HO_5
                   clear HO_6
                   clear HO_12
                   clear HO_14
                   clear HO272
                   clear HR269
                   clear HB
                   have HO_5 := n0_
                   have HO_6 := n1_
                   have HO_12 := n2_
                   have HO_14 := n3_
                   have HO272 := n4_
                   have HO275 := n5_
                   have HO278 := n6_
                   have HR269 := n7_
                   have HB := n8_
                   clear n0_ n1_ n2_ n3_ n4_ n5_ n6_ n7_ n8_
                   (try clear hb)
                   (try clear hb2)
                   (try clear hk)
                   (try clear hi)
                   (try clear ho0)
                   (try clear ho1)
                   refine hK.out _ _ trivial (fun hHeld => ?_)
                   clear hK K
                   refine norm_ (a' := ?_) ?_ ?_
                   rotate_left
                   ·show Act.put _ (some 103) _ = _
                    simp only [Act.put, List.setIfInBounds_toArray, List.set_cons_zero, List.set_cons_succ, i64_w, i32_w]
                    rfl
                   refine pure_ (i := 8) (N := some 95) (v := ?_) (a' := ?_) #[true, true, true, true, true, true, true, true, true, false, false, false, false, false, false] rfl rfl (any_of HT_.out (by kernel_rfl)) (fun _ _ _ h => h) (Or.inl ⟨by rfl, ?_⟩) ?_ ?_
                   rotate_left
                   ·intro w'
                    go_simp
                    with_reducible rfl
                   rotate_left
                   ·simp only [Act.put, List.setIfInBounds_toArray, List.set_cons_zero, List.set_cons_succ, i64_w, i32_w]
                    rfl
                   refine pure_ (i := 9) (N := some 104) (v := ?_) (a' := ?_) #[true, true, true, true, true, true, true, true, true, true, false, false, false, false, false] rfl rfl (any_of HT_.out (by kernel_rfl)) (fun _ _ _ h => h) (Or.inl ⟨by rfl, ?_⟩) ?_ ?_
                   rotate_left
                   ·intro w'
                    go_simp
                    with_reducible rfl
                   rotate_left
                   ·simp only [Act.put, List.setIfInBounds_toArray, List.set_cons_zero, List.set_cons_succ, i64_w, i32_w]
                    rfl
                   refine pure_ (i := 10) (N := some 105) (v := ?_) (a' := ?_) #[true, true, true, true, true, true, true, true, true, true, true, false, false, false, false] rfl rfl (any_of HT_.out (by kernel_rfl)) (fun _ _ _ h => h) (Or.inl ⟨by rfl, ?_⟩) ?_ ?_
                   rotate_left
                   ·intro w'
                    go_simp
                    with_reducible rfl
                   rotate_left
                   ·simp only [Act.put, List.setIfInBounds_toArray, List.set_cons_zero, List.set_cons_succ, i64_w, i32_w]
                    rfl
                   refine pure_ (i := 11) (N := some 106) (v := ?_) (a' := ?_) #[true, true, true, true, true, true, true, true, true, true, true, true, false, false, false] rfl rfl (any_of HT_.out (by kernel_rfl)) (fun _ _ _ h => h) (Or.inl ⟨by rfl, ?_⟩) ?_ ?_
                   rotate_left
                   ·intro w'
                    go_simp
                    with_reducible rfl
                   rotate_left
                   ·simp only [Act.put, List.setIfInBounds_toArray, List.set_cons_zero, List.set_cons_succ, i64_w, i32_w]
                    rfl
                   refine pure_ (i := 12) (N := some 17) (v := ?_) (a' := ?_) #[true, true, true, true, true, true, true, true, true, true, true, true, true, false, false] rfl rfl (any_of HT_.out (by kernel_rfl)) (fun _ _ _ h => h) (Or.inl ⟨by rfl, ?_⟩) ?_ ?_
                   rotate_left
                   ·intro w'
                    go_simp
                    with_reducible rfl
                   rotate_left
                   ·simp only [Act.put, List.setIfInBounds_toArray, List.set_cons_zero, List.set_cons_succ, i64_w, i32_w]
                    rfl
                   refine pure_ (i := 13) (N := some 18) (v := ?_) (a' := ?_) #[true, true, true, true, true, true, true, true, true, true, true, true, true, true, false] rfl rfl (any_of HT_.out (by kernel_rfl)) (fun _ _ _ h => h) (Or.inl ⟨by rfl, ?_⟩) ?_ ?_
                   rotate_left
                   ·intro w'
                    go_simp
                    with_reducible rfl
                   rotate_left
                   ·simp only [Act.put, List.setIfInBounds_toArray, List.set_cons_zero, List.set_cons_succ, i64_w, i32_w]
                    rfl
                   refine pure_ (i := 14) (N := some 19) (v := ?_) (a' := ?_) #[true, true, true, true, true, true, true, true, true, true, true, true, true, true, true] rfl rfl (any_of HT_.out (by kernel_rfl)) (fun _ _ _ h => h) (Or.inl ⟨by rfl, ?_⟩) ?_ ?_
                   rotate_left
                   ·intro w'
                    go_simp
                    with_reducible rfl
                   rotate_left
                   ·simp only [Act.put, List.setIfInBounds_toArray, List.set_cons_zero, List.set_cons_succ, i64_w, i32_w]
                    rfl
                   refine done_ (done_of HT_.out (by kernel_rfl)) ?_
                   try go_wp2
                   go_ret
                   exact ⟨by first | rfl | (simp [errW_none, errW_some] <;> rfl) | (simp [*, errW_none, errW_some] <;> rfl), by repeat (first | (with_reducible first | exact HB.out | apply below_alloc | apply pw_below_drewN | apply below_drew1) | exact HB.out)⟩
                 ·rw [if_neg c86] at H
                  exact absurd H (by simp)
                ·rw [if_neg c85] at H
                 exact absurd H (by simp)
               ·rw [if_neg c84] at H
                exact absurd H (by simp)
              ·rw [if_neg c83] at H
               exact absurd H (by simp)
            ·rw [if_neg c46] at H
             have c46b0 : decide (0 < (x5_4.length : Int)) = false := decide_eq_false c46
             have c46b1 : decide (0 < x5_4.length) = false := decide_eq_false (by omega)
             clear c46
             replace H := Option.bind_eq_some_iff.mp H
             obtain ⟨t232, A1150, H⟩ := H
             replace H : (if t232 = true then (some ((x12_4.length : Int) == 0)) else (some false)) = some r := H
             have A115 := Aside0.mk A1150
             clear A1150
             by_cases c116 : t232 = true
             ·subst c116
              have H1 : (some ((x12_4.length : Int) == 0)) = some r := by rw [if_pos rfl] at H; exact H
              clear H
              have H := H1
              clear H1
              obtain rfl := Option.some.inj H
              obtain ⟨Ao117, co117, eo117, _⟩ := Kd.Q_slice HO_5.out
              subst eo117
              obtain ⟨Ao118, co118, eo118⟩ := Kd.R_slice HO_14.out
              subst eo118
              obtain ⟨Ao119, co119, eo119⟩ := Kd.R_slice HO_6.out
              subst eo119
              go_wp2_with (first | ((with_reducible refine gate_callee (f := 21) rfl ?_); refine goesL_ (some 118) rfl rfl Try.func21 (by kernel_rfl) rfl #[.slice Ao118 x14_4.length co118, .slice Ao119 x6_2.length co119] rfl (by (try simp only [List.map_toArray, List.map_cons, List.map_nil]); first | done | rfl | (simp only [List.length_drop, List.length_take]; rfl)) ?_; (with_reducible refine (stillageref02_Same.calls k4 _ _ x14_4 _ _ x6_2 true _ ?side1 ?side2 ?side3 ?side4 A115.out).mono ?_); (case side1 => repeat (first | exact (Kd.R_reads' HO_14.out).2.2 | (with_reducible refine Kd.C_alloc ?_ _) | (with_reducible refine Kd.C_drewN ?_ _) | (with_reducible refine Kd.C_drew ?_))); (case side2 => exact (Kd.R_reads' HO_14.out).2.1); (case side3 => repeat (first | exact (Kd.R_reads' HO_6.out).2.2 | (with_reducible refine Kd.C_alloc ?_ _) | (with_reducible refine Kd.C_drewN ?_ _) | (with_reducible refine Kd.C_drew ?_))); (case side4 => exact (Kd.R_reads' HO_6.out).2.1); rintro e w' ⟨rfl, ⟨nd, rfl⟩⟩; refine ⟨_, rfl, ?_⟩; obtain ⟨Ao120, co120, eo120⟩ := Kd.R_slice HO_12.out; subst eo120))
              go_ret
              exact ⟨by first | rfl | (simp [errW_none, errW_some] <;> rfl) | (simp [*, errW_none, errW_some] <;> rfl), by repeat (first | (with_reducible first | exact HB.out | apply below_alloc | apply pw_below_drewN | apply below_drew1) | exact HB.out)⟩
             ·replace c116 := Bool.eq_false_iff.mpr c116
              subst c116
              have H1 : (some false) = some r := by rw [if_neg (show ¬ (false = true) by decide)] at H; exact H
              clear H
              have H := H1
              clear H1
              obtain rfl := Option.some.inj H
              obtain ⟨Ao121, co121, eo121, _⟩ := Kd.Q_slice HO_5.out
              subst eo121
              obtain ⟨Ao122, co122, eo122⟩ := Kd.R_slice HO_14.out
              subst eo122
              obtain ⟨Ao123, co123, eo123⟩ := Kd.R_slice HO_6.out
              subst eo123
              go_wp2_with (first | ((with_reducible refine gate_callee (f := 21) rfl ?_); refine goesL_ (some 118) rfl rfl Try.func21 (by kernel_rfl) rfl #[.slice Ao122 x14_4.length co122, .slice Ao123 x6_2.length co123] rfl (by (try simp only [List.map_toArray, List.map_cons, List.map_nil]); first | done | rfl | (simp only [List.length_drop, List.length_take]; rfl)) ?_; (with_reducible refine (stillageref02_Same.calls k4 _ _ x14_4 _ _ x6_2 false _ ?side1 ?side2 ?side3 ?side4 A115.out).mono ?_); (case side1 => repeat (first | exact (Kd.R_reads' HO_14.out).2.2 | (with_reducible refine Kd.C_alloc ?_ _) | (with_reducible refine Kd.C_drewN ?_ _) | (with_reducible refine Kd.C_drew ?_))); (case side2 => exact (Kd.R_reads' HO_14.out).2.1); (case side3 => repeat (first | exact (Kd.R_reads' HO_6.out).2.2 | (with_reducible refine Kd.C_alloc ?_ _) | (with_reducible refine Kd.C_drewN ?_ _) | (with_reducible refine Kd.C_drew ?_))); (case side4 => exact (Kd.R_reads' HO_6.out).2.1); rintro e w' ⟨rfl, ⟨nd, rfl⟩⟩; refine ⟨_, rfl, ?_⟩))
              go_ret
              exact ⟨by first | rfl | (simp [errW_none, errW_some] <;> rfl) | (simp [*, errW_none, errW_some] <;> rfl), by repeat (first | (with_reducible first | exact HB.out | apply below_alloc | apply pw_below_drewN | apply below_drew1) | exact HB.out)⟩

end Go.Proofs.Ytabkmjimdpdfaaa.PTelePieces
