-- Written by a program of this session (wip/oprint): after the pattern of the kit's print, which does not take this law. -- trimmed
import Derived.Test.YtkfoicfbmhalbaaPReachSumsx0
import Derived.Test.YtkfoicfbmhalbaaPReachSumsx5
import Derived.Test.YtkfoicfbmhalbaaPReachSumsx6
import Derived.Test.YtkfoicfbmhalbaaPReachSumsx8
namespace Go.Proofs.Ytkfoicfbmhalbaa.PReachSums
open Go.RowKit Go.Proofs.YtkfoicfbmhalbaaW.PrintWords Go.Proofs.YtkfoicfbmhalbaaW.PrintLast Go.Proofs.YtkfoicfbmhalbaaW.PrintMore
attribute [local go_sem] max2_int min2_int max_two min_two max_three min_three max_four min_four   -- for this text's walks alone
set_option linter.unusedVariables false
set_option linter.unusedSimpArgs false

/-! ### stillagelaw07_ReachSums: function 5 -/
mutual
def stillagelaw07_ReachSums.j0 : Nat → List Int → Bool → List (S43) → List (S27) → Option (Bool)
 | 0, _, _, _, _ => none
 | k + 1, x1, x26, x247000, x247001 => if x26 = true then (some true) else (stillagelaw07_ReachSums.l0 k x1 (x247000.length : Int) ([] : List (List Int)) 0 x247000 x247001)
def stillagelaw07_ReachSums.l0 : Nat → List Int → Int → List (List Int) → Int → List (S43) → List (S27) → Option (Bool)
 | 0, _, _, _, _, _, _ => none
 | k + 1, x1, x5, x6, x7, x247000, x247001 => if x7 < x5 then ((reach_From.f k x247000 x247001 x1 x7).bind fun bt249 => (if bt249.2 = 0 then (if (bt249.1.length : Int) = x5 then (if x6.length < 5864062014805 then (stillagelaw07_ReachSums.l0 k x1 x5 (x6 ++ [bt249.1]) (wrap64 (x7 + 1)) x247000 x247001) else (none)) else (some false)) else (some false))) else (stillagelaw07_ReachSums.l1 k x5 x6 0 x247000 x247001)
def stillagelaw07_ReachSums.l1 : Nat → Int → List (List Int) → Int → List (S43) → List (S27) → Option (Bool)
 | 0, _, _, _, _, _ => none
 | k + 1, x5, x6, x10, x247000, x247001 => if x10 < x5 then (stillagelaw07_ReachSums.l2 k x5 x6 x10 0 x247000 x247001) else (some true)
def stillagelaw07_ReachSums.l2 : Nat → Int → List (List Int) → Int → Int → List (S43) → List (S27) → Option (Bool)
 | 0, _, _, _, _, _, _ => none
 | k + 1, x5, x6, x10, x11, x247000, x247001 => if x11 < x5 then (stillagelaw07_ReachSums.l3 k x5 x6 x10 x11 (-1) 0 x247000 x247001) else (stillagelaw07_ReachSums.l1 k x5 x6 (wrap64 (x10 + 1)) x247000 x247001)
def stillagelaw07_ReachSums.l3 : Nat → Int → List (List Int) → Int → Int → Int → Int → List (S43) → List (S27) → Option (Bool)
 | 0, _, _, _, _, _, _, _, _ => none
 | k + 1, x5, x6, x10, x11, x12, x13, x247000, x247001 => if x13 < x5 then (if 0 ≤ x13 then (if x13 < (x247000.length : Int) then (if ((rd_T43 x247000 x13).f1) = 1 then (if x13 = x10 then (stillagelaw07_ReachSums.j5 k x5 x6 x10 x11 x12 x13 true x247000 x247001) else (if x13 = x11 then (stillagelaw07_ReachSums.j5 k x5 x6 x10 x11 x12 x13 true x247000 x247001) else (if 0 ≤ x10 then (if x10 < (x6.length : Int) then (if x13 < ((rd_L5 x6 x10).length : Int) then (if (rd (rd_L5 x6 x10) x13) < 0 then (stillagelaw07_ReachSums.j5 k x5 x6 x10 x11 x12 x13 true x247000 x247001) else (if x13 < (x6.length : Int) then (if 0 ≤ x11 then (if x11 < ((rd_L5 x6 x13).length : Int) then (stillagelaw07_ReachSums.j5 k x5 x6 x10 x11 x12 x13 (decide ((rd (rd_L5 x6 x13) x11) < 0)) x247000 x247001) else (none)) else (none)) else (none))) else (none)) else (none)) else (none)))) else (stillagelaw07_ReachSums.j5 k x5 x6 x10 x11 x12 x13 true x247000 x247001)) else (none)) else (none)) else (if x12 ≥ 0 then (if x10 = x11 then (if 0 ≤ x10 then (if x10 < (x6.length : Int) then (if 0 ≤ x11 then (if x11 < ((rd_L5 x6 x10).length : Int) then (if (rd (rd_L5 x6 x10) x11) ≥ 2 then (if (rd (rd_L5 x6 x10) x11) = x12 then (stillagelaw07_ReachSums.l2 k x5 x6 x10 (wrap64 (x11 + 1)) x247000 x247001) else (some false)) else (stillagelaw07_ReachSums.l2 k x5 x6 x10 (wrap64 (x11 + 1)) x247000 x247001)) else (none)) else (none)) else (none)) else (none)) else (if 0 ≤ x10 then (if x10 < (x6.length : Int) then (if 0 ≤ x11 then (if x11 < ((rd_L5 x6 x10).length : Int) then (if (rd (rd_L5 x6 x10) x11) < 0 then (some false) else (if (rd (rd_L5 x6 x10) x11) > x12 then (some false) else (if (rd (rd_L5 x6 x10) x11) ≥ 2 then (if (rd (rd_L5 x6 x10) x11) = x12 then (stillagelaw07_ReachSums.l2 k x5 x6 x10 (wrap64 (x11 + 1)) x247000 x247001) else (some false)) else (stillagelaw07_ReachSums.l2 k x5 x6 x10 (wrap64 (x11 + 1)) x247000 x247001)))) else (none)) else (none)) else (none)) else (none))) else (if 0 ≤ x10 then (if x10 < (x6.length : Int) then (if 0 ≤ x11 then (if x11 < ((rd_L5 x6 x10).length : Int) then (if (rd (rd_L5 x6 x10) x11) ≥ 2 then (if (rd (rd_L5 x6 x10) x11) = x12 then (stillagelaw07_ReachSums.l2 k x5 x6 x10 (wrap64 (x11 + 1)) x247000 x247001) else (some false)) else (stillagelaw07_ReachSums.l2 k x5 x6 x10 (wrap64 (x11 + 1)) x247000 x247001)) else (none)) else (none)) else (none)) else (none)))
def stillagelaw07_ReachSums.j5 : Nat → Int → List (List Int) → Int → Int → Int → Int → Bool → List (S43) → List (S27) → Option (Bool)
 | 0, _, _, _, _, _, _, _, _, _ => none
 | k + 1, x5, x6, x10, x11, x12, x13, x105, x247000, x247001 => if x105 = true then (stillagelaw07_ReachSums.l3 k x5 x6 x10 x11 x12 (wrap64 (x13 + 1)) x247000 x247001) else (if 0 ≤ x10 then (if x10 < (x6.length : Int) then (if 0 ≤ x13 then (if x13 < ((rd_L5 x6 x10).length : Int) then (if x13 < (x6.length : Int) then (if 0 ≤ x11 then (if x11 < ((rd_L5 x6 x13).length : Int) then (if x12 < 0 then (stillagelaw07_ReachSums.l3 k x5 x6 x10 x11 (wrap64 ((rd (rd_L5 x6 x10) x13) + (rd (rd_L5 x6 x13) x11))) (wrap64 (x13 + 1)) x247000 x247001) else (if (wrap64 ((rd (rd_L5 x6 x10) x13) + (rd (rd_L5 x6 x13) x11))) < x12 then (stillagelaw07_ReachSums.l3 k x5 x6 x10 x11 (wrap64 ((rd (rd_L5 x6 x10) x13) + (rd (rd_L5 x6 x13) x11))) (wrap64 (x13 + 1)) x247000 x247001) else (stillagelaw07_ReachSums.l3 k x5 x6 x10 x11 x12 (wrap64 (x13 + 1)) x247000 x247001))) else (none)) else (none)) else (none)) else (none)) else (none)) else (none)) else (none))
end
def stillagelaw07_ReachSums.f (k : Nat) (l0_0 : List (S43)) (l0_1 : List (S27)) (l1 : List Int) : Option (Bool) := (stillagelaw07_awake.f k).bind fun t247 => (if t247 = true then ((stillagelaw07_Fits.f k l0_0 l0_1 l1).bind fun t248 => (if t248 = true then (stillagelaw07_ReachSums.j0 k l1 (decide ((l0_0.length : Int) > 20)) l0_0 l0_1) else (stillagelaw07_ReachSums.j0 k l1 true l0_0 l0_1))) else (some false))
theorem stillagelaw07_ReachSums.mono_l : ∀ k, (∀ y0 y1 y2 y3, LeO (stillagelaw07_ReachSums.j0 k y0 y1 y2 y3) (stillagelaw07_ReachSums.j0 (k + 1) y0 y1 y2 y3)) ∧ (∀ y0 y1 y2 y3 y4 y5, LeO (stillagelaw07_ReachSums.l0 k y0 y1 y2 y3 y4 y5) (stillagelaw07_ReachSums.l0 (k + 1) y0 y1 y2 y3 y4 y5)) ∧ (∀ y0 y1 y2 y3 y4, LeO (stillagelaw07_ReachSums.l1 k y0 y1 y2 y3 y4) (stillagelaw07_ReachSums.l1 (k + 1) y0 y1 y2 y3 y4)) ∧ (∀ y0 y1 y2 y3 y4 y5, LeO (stillagelaw07_ReachSums.l2 k y0 y1 y2 y3 y4 y5) (stillagelaw07_ReachSums.l2 (k + 1) y0 y1 y2 y3 y4 y5)) ∧ (∀ y0 y1 y2 y3 y4 y5 y6 y7, LeO (stillagelaw07_ReachSums.l3 k y0 y1 y2 y3 y4 y5 y6 y7) (stillagelaw07_ReachSums.l3 (k + 1) y0 y1 y2 y3 y4 y5 y6 y7)) ∧ (∀ y0 y1 y2 y3 y4 y5 y6 y7 y8, LeO (stillagelaw07_ReachSums.j5 k y0 y1 y2 y3 y4 y5 y6 y7 y8) (stillagelaw07_ReachSums.j5 (k + 1) y0 y1 y2 y3 y4 y5 y6 y7 y8))
 | 0 => ⟨fun _ _ _ _ r h => by simp [stillagelaw07_ReachSums.j0] at h, fun _ _ _ _ _ _ r h => by simp [stillagelaw07_ReachSums.l0] at h, fun _ _ _ _ _ r h => by simp [stillagelaw07_ReachSums.l1] at h, fun _ _ _ _ _ _ r h => by simp [stillagelaw07_ReachSums.l2] at h, fun _ _ _ _ _ _ _ _ r h => by simp [stillagelaw07_ReachSums.l3] at h, fun _ _ _ _ _ _ _ _ _ r h => by simp [stillagelaw07_ReachSums.j5] at h⟩
 | k + 1 => by
  obtain ⟨ih0, ih1, ih2, ih3, ih4, ih5⟩ := stillagelaw07_ReachSums.mono_l k
  refine ⟨?_, ?_, ?_, ?_, ?_, ?_⟩
  ·intro y0 y1 y2 y3
   unfold stillagelaw07_ReachSums.j0
   repeat' first
   | (with_reducible exact ih0 _ _ _ _)
   | (with_reducible exact ih1 _ _ _ _ _ _)
   | (with_reducible exact ih2 _ _ _ _ _)
   | (with_reducible exact ih3 _ _ _ _ _ _)
   | (with_reducible exact ih4 _ _ _ _ _ _ _ _)
   | (with_reducible exact ih5 _ _ _ _ _ _ _ _ _)
   | (with_reducible exact reach_From.mono _ _ _ _ _)
   | (with_reducible exact stillagelaw07_Fits.mono _ _ _ _)
   | (with_reducible exact stillagelaw07_awake.mono _)
   | (with_reducible exact LeO.refl _)
   | (with_reducible exact LeO.none _)
   | (with_reducible refine LeO.ite ?_ ?_)
   | (with_reducible refine LeO.bind ?_ (fun _ => ?_))
   | exact ih0 _ _ _ _
   | exact ih1 _ _ _ _ _ _
   | exact ih2 _ _ _ _ _
   | exact ih3 _ _ _ _ _ _
   | exact ih4 _ _ _ _ _ _ _ _
   | exact ih5 _ _ _ _ _ _ _ _ _
   | exact reach_From.mono _ _ _ _ _
   | exact stillagelaw07_Fits.mono _ _ _ _
   | exact stillagelaw07_awake.mono _
   | exact LeO.none _
   | refine LeO.ite ?_ ?_
   | refine LeO.bind ?_ (fun _ => ?_)
  ·intro y0 y1 y2 y3 y4 y5
   unfold stillagelaw07_ReachSums.l0
   repeat' first
   | (with_reducible exact ih0 _ _ _ _)
   | (with_reducible exact ih1 _ _ _ _ _ _)
   | (with_reducible exact ih2 _ _ _ _ _)
   | (with_reducible exact ih3 _ _ _ _ _ _)
   | (with_reducible exact ih4 _ _ _ _ _ _ _ _)
   | (with_reducible exact ih5 _ _ _ _ _ _ _ _ _)
   | (with_reducible exact reach_From.mono _ _ _ _ _)
   | (with_reducible exact stillagelaw07_Fits.mono _ _ _ _)
   | (with_reducible exact stillagelaw07_awake.mono _)
   | (with_reducible exact LeO.refl _)
   | (with_reducible exact LeO.none _)
   | (with_reducible refine LeO.ite ?_ ?_)
   | (with_reducible refine LeO.bind ?_ (fun _ => ?_))
   | exact ih0 _ _ _ _
   | exact ih1 _ _ _ _ _ _
   | exact ih2 _ _ _ _ _
   | exact ih3 _ _ _ _ _ _
   | exact ih4 _ _ _ _ _ _ _ _
   | exact ih5 _ _ _ _ _ _ _ _ _
   | exact reach_From.mono _ _ _ _ _
   | exact stillagelaw07_Fits.mono _ _ _ _
   | exact stillagelaw07_awake.mono _
   | exact LeO.none _
   | refine LeO.ite ?_ ?_
   | refine LeO.bind ?_ (fun _ => ?_)
  ·intro y0 y1 y2 y3 y4
   unfold stillagelaw07_ReachSums.l1
   repeat' first
   | (with_reducible exact ih0 _ _ _ _)
   | (with_reducible exact ih1 _ _ _ _ _ _)
   | (with_reducible exact ih2 _ _ _ _ _)
   | (with_reducible exact ih3 _ _ _ _ _ _)
   | (with_reducible exact ih4 _ _ _ _ _ _ _ _)
   | (with_reducible exact ih5 _ _ _ _ _ _ _ _ _)
   | (with_reducible exact reach_From.mono _ _ _ _ _)
   | (with_reducible exact stillagelaw07_Fits.mono _ _ _ _)
   | (with_reducible exact stillagelaw07_awake.mono _)
   | (with_reducible exact LeO.refl _)
   | (with_reducible exact LeO.none _)
   | (with_reducible refine LeO.ite ?_ ?_)
   | (with_reducible refine LeO.bind ?_ (fun _ => ?_))
   | exact ih0 _ _ _ _
   | exact ih1 _ _ _ _ _ _
   | exact ih2 _ _ _ _ _
   | exact ih3 _ _ _ _ _ _
   | exact ih4 _ _ _ _ _ _ _ _
   | exact ih5 _ _ _ _ _ _ _ _ _
   | exact reach_From.mono _ _ _ _ _
   | exact stillagelaw07_Fits.mono _ _ _ _
   | exact stillagelaw07_awake.mono _
   | exact LeO.none _
   | refine LeO.ite ?_ ?_
   | refine LeO.bind ?_ (fun _ => ?_)
  ·intro y0 y1 y2 y3 y4 y5
   unfold stillagelaw07_ReachSums.l2
   repeat' first
   | (with_reducible exact ih0 _ _ _ _)
   | (with_reducible exact ih1 _ _ _ _ _ _)
   | (with_reducible exact ih2 _ _ _ _ _)
   | (with_reducible exact ih3 _ _ _ _ _ _)
   | (with_reducible exact ih4 _ _ _ _ _ _ _ _)
   | (with_reducible exact ih5 _ _ _ _ _ _ _ _ _)
   | (with_reducible exact reach_From.mono _ _ _ _ _)
   | (with_reducible exact stillagelaw07_Fits.mono _ _ _ _)
   | (with_reducible exact stillagelaw07_awake.mono _)
   | (with_reducible exact LeO.refl _)
   | (with_reducible exact LeO.none _)
   | (with_reducible refine LeO.ite ?_ ?_)
   | (with_reducible refine LeO.bind ?_ (fun _ => ?_))
   | exact ih0 _ _ _ _
   | exact ih1 _ _ _ _ _ _
   | exact ih2 _ _ _ _ _
   | exact ih3 _ _ _ _ _ _
   | exact ih4 _ _ _ _ _ _ _ _
   | exact ih5 _ _ _ _ _ _ _ _ _
   | exact reach_From.mono _ _ _ _ _
   | exact stillagelaw07_Fits.mono _ _ _ _
   | exact stillagelaw07_awake.mono _
   | exact LeO.none _
   | refine LeO.ite ?_ ?_
   | refine LeO.bind ?_ (fun _ => ?_)
  ·intro y0 y1 y2 y3 y4 y5 y6 y7
   unfold stillagelaw07_ReachSums.l3
   repeat' first
   | (with_reducible exact ih0 _ _ _ _)
   | (with_reducible exact ih1 _ _ _ _ _ _)
   | (with_reducible exact ih2 _ _ _ _ _)
   | (with_reducible exact ih3 _ _ _ _ _ _)
   | (with_reducible exact ih4 _ _ _ _ _ _ _ _)
   | (with_reducible exact ih5 _ _ _ _ _ _ _ _ _)
   | (with_reducible exact reach_From.mono _ _ _ _ _)
   | (with_reducible exact stillagelaw07_Fits.mono _ _ _ _)
   | (with_reducible exact stillagelaw07_awake.mono _)
   | (with_reducible exact LeO.refl _)
   | (with_reducible exact LeO.none _)
   | (with_reducible refine LeO.ite ?_ ?_)
   | (with_reducible refine LeO.bind ?_ (fun _ => ?_))
   | exact ih0 _ _ _ _
   | exact ih1 _ _ _ _ _ _
   | exact ih2 _ _ _ _ _
   | exact ih3 _ _ _ _ _ _
   | exact ih4 _ _ _ _ _ _ _ _
   | exact ih5 _ _ _ _ _ _ _ _ _
   | exact reach_From.mono _ _ _ _ _
   | exact stillagelaw07_Fits.mono _ _ _ _
   | exact stillagelaw07_awake.mono _
   | exact LeO.none _
   | refine LeO.ite ?_ ?_
   | refine LeO.bind ?_ (fun _ => ?_)
  ·intro y0 y1 y2 y3 y4 y5 y6 y7 y8
   unfold stillagelaw07_ReachSums.j5
   repeat' first
   | (with_reducible exact ih0 _ _ _ _)
   | (with_reducible exact ih1 _ _ _ _ _ _)
   | (with_reducible exact ih2 _ _ _ _ _)
   | (with_reducible exact ih3 _ _ _ _ _ _)
   | (with_reducible exact ih4 _ _ _ _ _ _ _ _)
   | (with_reducible exact ih5 _ _ _ _ _ _ _ _ _)
   | (with_reducible exact reach_From.mono _ _ _ _ _)
   | (with_reducible exact stillagelaw07_Fits.mono _ _ _ _)
   | (with_reducible exact stillagelaw07_awake.mono _)
   | (with_reducible exact LeO.refl _)
   | (with_reducible exact LeO.none _)
   | (with_reducible refine LeO.ite ?_ ?_)
   | (with_reducible refine LeO.bind ?_ (fun _ => ?_))
   | exact ih0 _ _ _ _
   | exact ih1 _ _ _ _ _ _
   | exact ih2 _ _ _ _ _
   | exact ih3 _ _ _ _ _ _
   | exact ih4 _ _ _ _ _ _ _ _
   | exact ih5 _ _ _ _ _ _ _ _ _
   | exact reach_From.mono _ _ _ _ _
   | exact stillagelaw07_Fits.mono _ _ _ _
   | exact stillagelaw07_awake.mono _
   | exact LeO.none _
   | refine LeO.ite ?_ ?_
   | refine LeO.bind ?_ (fun _ => ?_)
theorem stillagelaw07_ReachSums.mono : ∀ a0 a1 a2 k, LeO (stillagelaw07_ReachSums.f k a0 a1 a2) (stillagelaw07_ReachSums.f (k + 1) a0 a1 a2) := by
 intro a0 a1 a2 k
 obtain ⟨ih0, ih1, ih2, ih3, ih4, ih5⟩ := stillagelaw07_ReachSums.mono_l k
 unfold stillagelaw07_ReachSums.f
 repeat' first
   | (with_reducible exact ih0 _ _ _ _)
   | (with_reducible exact ih1 _ _ _ _ _ _)
   | (with_reducible exact ih2 _ _ _ _ _)
   | (with_reducible exact ih3 _ _ _ _ _ _)
   | (with_reducible exact ih4 _ _ _ _ _ _ _ _)
   | (with_reducible exact ih5 _ _ _ _ _ _ _ _ _)
   | (with_reducible exact reach_From.mono _ _ _ _ _)
   | (with_reducible exact stillagelaw07_Fits.mono _ _ _ _)
   | (with_reducible exact stillagelaw07_awake.mono _)
   | (with_reducible exact LeO.refl _)
   | (with_reducible exact LeO.none _)
   | (with_reducible refine LeO.ite ?_ ?_)
   | (with_reducible refine LeO.bind ?_ (fun _ => ?_))
   | exact ih0 _ _ _ _
   | exact ih1 _ _ _ _ _ _
   | exact ih2 _ _ _ _ _
   | exact ih3 _ _ _ _ _ _
   | exact ih4 _ _ _ _ _ _ _ _
   | exact ih5 _ _ _ _ _ _ _ _ _
   | exact reach_From.mono _ _ _ _ _
   | exact stillagelaw07_Fits.mono _ _ _ _
   | exact stillagelaw07_awake.mono _
   | exact LeO.none _
   | refine LeO.ite ?_ ?_
   | refine LeO.bind ?_ (fun _ => ?_)
set_option maxHeartbeats 8000000 in
set_option maxRecDepth 100000 in
theorem stillagelaw07_ReachSums.calls (k : Nat) (A0_0 : Option Addr) (c0_0 : Nat) (l0_0 : List (S43)) (A0_1 : Option Addr) (c0_1 : Nat) (l0_1 : List (S27)) (A1 : Option Addr) (c1 : Nat) (l1 : List Int) (r : Bool) (w : World) (hr0_0 : Kd.C k43 w A0_0 l0_0.length l0_0) (hc0_0 : l0_0.length ≤ c0_0) (hr0_1 : Kd.C k27 w A0_1 l0_1.length l0_1) (hc0_1 : l0_1.length ≤ c0_1) (hr1 : Kd.C (Kd.int .i64) w A1 l1.length l1) (hc1 : l1.length ≤ c1) (h : stillagelaw07_ReachSums.f k l0_0 l0_1 l1 = some r) :
  Calls Try.prog 5 #[.agg #[.slice A0_0 l0_0.length c0_0, .slice A0_1 l0_1.length c0_1], .slice A1 l1.length c1] w fun e w' => e = .returned (.bool r) ∧ Below w.heap.size w w' := by
 have hu25 := Try.underlying25
 have HR0_0 := Aside0.mk hr0_0
 have HC0_0 := Aside0.mk hc0_0
 clear hr0_0 hc0_0
 have HR0_1 := Aside0.mk hr0_1
 have HC0_1 := Aside0.mk hc0_1
 clear hr0_1 hc0_1
 have HR1 := Aside0.mk hr1
 have HC1 := Aside0.mk hc1
 clear hr1 hc1
 have HB := Aside0.mk (Below.refl w.heap.size w)
 have H : ((stillagelaw07_awake.f k).bind fun t247 => (if t247 = true then ((stillagelaw07_Fits.f k l0_0 l0_1 l1).bind fun t248 => (if t248 = true then (stillagelaw07_ReachSums.j0 k l1 (decide ((l0_0.length : Int) > 20)) l0_0 l0_1) else (stillagelaw07_ReachSums.j0 k l1 true l0_0 l0_1))) else (some false))) = some r := h
 clear h
 replace H := Option.bind_eq_some_iff.mp H
 obtain ⟨t247, A30, H⟩ := H
 replace H : (if t247 = true then ((stillagelaw07_Fits.f k l0_0 l0_1 l1).bind fun t248 => (if t248 = true then (stillagelaw07_ReachSums.j0 k l1 (decide ((l0_0.length : Int) > 20)) l0_0 l0_1) else (stillagelaw07_ReachSums.j0 k l1 true l0_0 l0_1))) else (some false)) = some r := H
 have A3 := Aside0.mk A30
 clear A30
 by_cases c4 : t247 = true
 ·subst c4
  have H1 : ((stillagelaw07_Fits.f k l0_0 l0_1 l1).bind fun t248 => (if t248 = true then (stillagelaw07_ReachSums.j0 k l1 (decide ((l0_0.length : Int) > 20)) l0_0 l0_1) else (stillagelaw07_ReachSums.j0 k l1 true l0_0 l0_1))) = some r := by rw [if_pos rfl] at H; exact H
  clear H
  have H := H1
  clear H1
  have HC5 := Aside0.mk H
  clear H
  go_enter Try.func5, Try.ntmps5
  go_upto_region 3 with (first | ((with_reducible refine gate_dst (N := 2) rfl ?_); (try (refine gate_guard (by rfl) ?_; dsimp only)); refine box_event ?hg (N := 2) ?hd (cs := #[.slice A0_0 l0_0.length c0_0, .slice A0_1 l0_1.length c0_1]) (t := 25) ?hr ?_; (case hd => rfl); (case hg => rfl); (case hr => first | (go_simp; done) | (go_simp; rfl)); intro gb246 hg w6 hbox hb; have n0_ := Aside0.mk (below_step (by repeat (first | (with_reducible first | exact HB.out | apply below_alloc | apply pw_below_drewN | apply below_drew1) | exact HB.out)) hb); have n1_ := Aside0.mk (hbox); have n2_ := Aside0.mk ((by rw [hg]; exact (below_size (by repeat (first | (with_reducible first | exact HB.out | apply below_alloc | apply pw_below_drewN | apply below_drew1) | exact HB.out))) : w.heap.size ≤ gb246)); have n3_ := Aside0.mk ((by rw [hg]; exact (below_size (by repeat (first | (with_reducible first | exact HB.out | apply below_alloc | apply pw_below_drewN | apply below_drew1) | exact HB.out))) : w.heap.size ≤ gb246)); clear HB; have HB := n0_; have BK246 := n1_; have GW246 := n2_; have GE246 := n3_; clear n0_ n1_ n2_ n3_; clear hb hbox hg) | (go_at_call 10; (with_reducible refine (stillagelaw07_awake.calls k  true _ A3.out).mono ?_); rintro e w7 ⟨rfl, hb⟩; have n0_ := Aside0.mk (blk_below (g := gb246) (o := .cells #[.slice A0_0 l0_0.length c0_0, .slice A0_1 l0_1.length c0_1] 25 (0, 0)) (by (with_reducible repeat (first | refine blk_drewN ?_ _ | refine blk_drew ?_ | refine blk_alloc ?_ _)); exact BK246.out) hb); have n1_ := Aside0.mk (below_step (by repeat (first | (with_reducible first | exact HB.out | apply below_alloc | apply pw_below_drewN | apply below_drew1 | refine below_set ?_ GE246.out) | exact HB.out)) hb); clear BK246; clear HB; have BK246 := n0_; have HB := n1_; clear n0_ n1_; (try clear hb); (try clear hb2); (try clear hk); (try clear hi)))
  repeat (go_quiet (first | ((with_reducible refine gate_dst (N := 2) rfl ?_); (try (refine gate_guard (by rfl) ?_; dsimp only)); refine box_event ?hg (N := 2) ?hd (cs := #[.slice A0_0 l0_0.length c0_0, .slice A0_1 l0_1.length c0_1]) (t := 25) ?hr ?_; (case hd => rfl); (case hg => rfl); (case hr => first | (go_simp; done) | (go_simp; rfl)); intro gb246 hg w6 hbox hb; have n0_ := Aside0.mk (below_step (by repeat (first | (with_reducible first | exact HB.out | apply below_alloc | apply pw_below_drewN | apply below_drew1) | exact HB.out)) hb); have n1_ := Aside0.mk (hbox); have n2_ := Aside0.mk ((by rw [hg]; exact (below_size (by repeat (first | (with_reducible first | exact HB.out | apply below_alloc | apply pw_below_drewN | apply below_drew1) | exact HB.out))) : w.heap.size ≤ gb246)); have n3_ := Aside0.mk ((by rw [hg]; exact (below_size (by repeat (first | (with_reducible first | exact HB.out | apply below_alloc | apply pw_below_drewN | apply below_drew1) | exact HB.out))) : w.heap.size ≤ gb246)); clear HB; have HB := n0_; have BK246 := n1_; have GW246 := n2_; have GE246 := n3_; clear n0_ n1_ n2_ n3_; clear hb hbox hg) | (go_at_call 10; (with_reducible refine (stillagelaw07_awake.calls k  true _ A3.out).mono ?_); rintro e w7 ⟨rfl, hb⟩; have n0_ := Aside0.mk (blk_below (g := gb246) (o := .cells #[.slice A0_0 l0_0.length c0_0, .slice A0_1 l0_1.length c0_1] 25 (0, 0)) (by (with_reducible repeat (first | refine blk_drewN ?_ _ | refine blk_drew ?_ | refine blk_alloc ?_ _)); exact BK246.out) hb); have n1_ := Aside0.mk (below_step (by repeat (first | (with_reducible first | exact HB.out | apply below_alloc | apply pw_below_drewN | apply below_drew1 | refine below_set ?_ GE246.out) | exact HB.out)) hb); clear BK246; clear HB; have BK246 := n0_; have HB := n1_; clear n0_ n1_; (try clear hb); (try clear hb2); (try clear hk); (try clear hi))); go_upto_region 3 with (first | ((with_reducible refine gate_dst (N := 2) rfl ?_); (try (refine gate_guard (by rfl) ?_; dsimp only)); refine box_event ?hg (N := 2) ?hd (cs := #[.slice A0_0 l0_0.length c0_0, .slice A0_1 l0_1.length c0_1]) (t := 25) ?hr ?_; (case hd => rfl); (case hg => rfl); (case hr => first | (go_simp; done) | (go_simp; rfl)); intro gb246 hg w6 hbox hb; have n0_ := Aside0.mk (below_step (by repeat (first | (with_reducible first | exact HB.out | apply below_alloc | apply pw_below_drewN | apply below_drew1) | exact HB.out)) hb); have n1_ := Aside0.mk (hbox); have n2_ := Aside0.mk ((by rw [hg]; exact (below_size (by repeat (first | (with_reducible first | exact HB.out | apply below_alloc | apply pw_below_drewN | apply below_drew1) | exact HB.out))) : w.heap.size ≤ gb246)); have n3_ := Aside0.mk ((by rw [hg]; exact (below_size (by repeat (first | (with_reducible first | exact HB.out | apply below_alloc | apply pw_below_drewN | apply below_drew1) | exact HB.out))) : w.heap.size ≤ gb246)); clear HB; have HB := n0_; have BK246 := n1_; have GW246 := n2_; have GE246 := n3_; clear n0_ n1_ n2_ n3_; clear hb hbox hg) | (go_at_call 10; (with_reducible refine (stillagelaw07_awake.calls k  true _ A3.out).mono ?_); rintro e w7 ⟨rfl, hb⟩; have n0_ := Aside0.mk (blk_below (g := gb246) (o := .cells #[.slice A0_0 l0_0.length c0_0, .slice A0_1 l0_1.length c0_1] 25 (0, 0)) (by (with_reducible repeat (first | refine blk_drewN ?_ _ | refine blk_drew ?_ | refine blk_alloc ?_ _)); exact BK246.out) hb); have n1_ := Aside0.mk (below_step (by repeat (first | (with_reducible first | exact HB.out | apply below_alloc | apply pw_below_drewN | apply below_drew1 | refine below_set ?_ GE246.out) | exact HB.out)) hb); clear BK246; clear HB; have BK246 := n0_; have HB := n1_; clear n0_ n1_; (try clear hb); (try clear hb2); (try clear hk); (try clear hi))))
  (try simp only [Act.put, List.setIfInBounds_toArray, List.set_cons_zero, List.set_cons_succ])
  go_cut [26] (fun v26 wc => ∃ (kq : Nat) (x26_4 : Bool), v26 = .bool x26_4 ∧ Aside0 (stillagelaw07_ReachSums.j0 kq l1 x26_4 l0_0 l0_1 = some r) ∧ Aside0 (kq ≤ k) ∧ Aside0 (wc.heap[gb246]? = some (.cells #[(.slice A0_0 l0_0.length c0_0), (.slice A0_1 l0_1.length c0_1)] 25 (0, 0))) ∧ Aside0 (Below w.heap.size w wc))
  case first =>
   have H := HC5.out
   clear HC5
   replace H := Option.bind_eq_some_iff.mp H
   obtain ⟨t248, A80, H⟩ := H
   replace H : (if t248 = true then (stillagelaw07_ReachSums.j0 k l1 (decide ((l0_0.length : Int) > 20)) l0_0 l0_1) else (stillagelaw07_ReachSums.j0 k l1 true l0_0 l0_1)) = some r := H
   have A8 := Aside0.mk A80
   clear A80
   by_cases c9 : t248 = true
   ·subst c9
    as_aux_lemma =>
     have H1 : (stillagelaw07_ReachSums.j0 k l1 (decide ((l0_0.length : Int) > 20)) l0_0 l0_1) = some r := by rw [if_pos rfl] at H; exact H
     clear H
     have H := H1
     clear H1
     have H' := Aside0.mk H
     clear H
     have hcz10_0 : w7.cell? ⟨gb246, 0, none⟩ = some (.slice A0_0 l0_0.length c0_0) := (blk_cell BK246.out 0).trans rfl
     have hcz10_1 : w7.cell? ⟨gb246, 1, none⟩ = some (.slice A0_1 l0_1.length c0_1) := (blk_cell BK246.out 1).trans rfl
     have hfz10_0 := blk_frozen BK246.out 0
     have hfz10_1 := blk_frozen BK246.out 1
     go_wp2_with (first | (go_at_call 11; (with_reducible refine (stillagelaw07_Fits.calls k _ _ l0_0 _ _ l0_1 _ _ l1 true _ ?side1 ?side2 ?side3 ?side4 ?side5 ?side6 A8.out).mono ?_); (case side1 => repeat (first | exact (Kd.C_below HR0_0.out HB.out) | (with_reducible refine Kd.C_alloc ?_ _) | (with_reducible refine Kd.C_drewN ?_ _) | (with_reducible refine Kd.C_drew ?_))); (case side2 => exact HC0_0.out); (case side3 => repeat (first | exact (Kd.C_below HR0_1.out HB.out) | (with_reducible refine Kd.C_alloc ?_ _) | (with_reducible refine Kd.C_drewN ?_ _) | (with_reducible refine Kd.C_drew ?_))); (case side4 => exact HC0_1.out); (case side5 => repeat (first | exact (Kd.C_below HR1.out HB.out) | (with_reducible refine Kd.C_alloc ?_ _) | (with_reducible refine Kd.C_drewN ?_ _) | (with_reducible refine Kd.C_drew ?_))); (case side6 => exact HC1.out); rintro e w11 ⟨rfl, hb⟩; have n0_ := Aside0.mk (blk_below (g := gb246) (o := .cells #[.slice A0_0 l0_0.length c0_0, .slice A0_1 l0_1.length c0_1] 25 (0, 0)) (by (with_reducible repeat (first | refine blk_drewN ?_ _ | refine blk_drew ?_ | refine blk_alloc ?_ _)); exact BK246.out) hb); have n1_ := Aside0.mk (below_step (by repeat (first | (with_reducible first | exact HB.out | apply below_alloc | apply pw_below_drewN | apply below_drew1 | refine below_set ?_ GE246.out) | exact HB.out)) hb); clear BK246; clear HB; have BK246 := n0_; have HB := n1_; clear n0_ n1_; (try clear hb); (try clear hb2); (try clear hk); (try clear hi); have hcz12_0 : w11.cell? ⟨gb246, 0, none⟩ = some (.slice A0_0 l0_0.length c0_0) := (blk_cell BK246.out 0).trans rfl; have hcz12_1 : w11.cell? ⟨gb246, 1, none⟩ = some (.slice A0_1 l0_1.length c0_1) := (blk_cell BK246.out 1).trans rfl; have hfz12_0 := blk_frozen BK246.out 0; have hfz12_1 := blk_frozen BK246.out 1))
     repeat (go_quiet (first | (go_at_call 11; (with_reducible refine (stillagelaw07_Fits.calls k _ _ l0_0 _ _ l0_1 _ _ l1 true _ ?side1 ?side2 ?side3 ?side4 ?side5 ?side6 A8.out).mono ?_); (case side1 => repeat (first | exact (Kd.C_below HR0_0.out HB.out) | (with_reducible refine Kd.C_alloc ?_ _) | (with_reducible refine Kd.C_drewN ?_ _) | (with_reducible refine Kd.C_drew ?_))); (case side2 => exact HC0_0.out); (case side3 => repeat (first | exact (Kd.C_below HR0_1.out HB.out) | (with_reducible refine Kd.C_alloc ?_ _) | (with_reducible refine Kd.C_drewN ?_ _) | (with_reducible refine Kd.C_drew ?_))); (case side4 => exact HC0_1.out); (case side5 => repeat (first | exact (Kd.C_below HR1.out HB.out) | (with_reducible refine Kd.C_alloc ?_ _) | (with_reducible refine Kd.C_drewN ?_ _) | (with_reducible refine Kd.C_drew ?_))); (case side6 => exact HC1.out); rintro e w11 ⟨rfl, hb⟩; have n0_ := Aside0.mk (blk_below (g := gb246) (o := .cells #[.slice A0_0 l0_0.length c0_0, .slice A0_1 l0_1.length c0_1] 25 (0, 0)) (by (with_reducible repeat (first | refine blk_drewN ?_ _ | refine blk_drew ?_ | refine blk_alloc ?_ _)); exact BK246.out) hb); have n1_ := Aside0.mk (below_step (by repeat (first | (with_reducible first | exact HB.out | apply below_alloc | apply pw_below_drewN | apply below_drew1 | refine below_set ?_ GE246.out) | exact HB.out)) hb); clear BK246; clear HB; have BK246 := n0_; have HB := n1_; clear n0_ n1_; (try clear hb); (try clear hb2); (try clear hk); (try clear hi); have hcz12_0 : w11.cell? ⟨gb246, 0, none⟩ = some (.slice A0_0 l0_0.length c0_0) := (blk_cell BK246.out 0).trans rfl; have hcz12_1 : w11.cell? ⟨gb246, 1, none⟩ = some (.slice A0_1 l0_1.length c0_1) := (blk_cell BK246.out 1).trans rfl; have hfz12_0 := blk_frozen BK246.out 0; have hfz12_1 := blk_frozen BK246.out 1)); try go_wp2_with (first | (go_at_call 11; (with_reducible refine (stillagelaw07_Fits.calls k _ _ l0_0 _ _ l0_1 _ _ l1 true _ ?side1 ?side2 ?side3 ?side4 ?side5 ?side6 A8.out).mono ?_); (case side1 => repeat (first | exact (Kd.C_below HR0_0.out HB.out) | (with_reducible refine Kd.C_alloc ?_ _) | (with_reducible refine Kd.C_drewN ?_ _) | (with_reducible refine Kd.C_drew ?_))); (case side2 => exact HC0_0.out); (case side3 => repeat (first | exact (Kd.C_below HR0_1.out HB.out) | (with_reducible refine Kd.C_alloc ?_ _) | (with_reducible refine Kd.C_drewN ?_ _) | (with_reducible refine Kd.C_drew ?_))); (case side4 => exact HC0_1.out); (case side5 => repeat (first | exact (Kd.C_below HR1.out HB.out) | (with_reducible refine Kd.C_alloc ?_ _) | (with_reducible refine Kd.C_drewN ?_ _) | (with_reducible refine Kd.C_drew ?_))); (case side6 => exact HC1.out); rintro e w11 ⟨rfl, hb⟩; have n0_ := Aside0.mk (blk_below (g := gb246) (o := .cells #[.slice A0_0 l0_0.length c0_0, .slice A0_1 l0_1.length c0_1] 25 (0, 0)) (by (with_reducible repeat (first | refine blk_drewN ?_ _ | refine blk_drew ?_ | refine blk_alloc ?_ _)); exact BK246.out) hb); have n1_ := Aside0.mk (below_step (by repeat (first | (with_reducible first | exact HB.out | apply below_alloc | apply pw_below_drewN | apply below_drew1 | refine below_set ?_ GE246.out) | exact HB.out)) hb); clear BK246; clear HB; have BK246 := n0_; have HB := n1_; clear n0_ n1_; (try clear hb); (try clear hb2); (try clear hk); (try clear hi); have hcz12_0 : w11.cell? ⟨gb246, 0, none⟩ = some (.slice A0_0 l0_0.length c0_0) := (blk_cell BK246.out 0).trans rfl; have hcz12_1 : w11.cell? ⟨gb246, 1, none⟩ = some (.slice A0_1 l0_1.length c0_1) := (blk_cell BK246.out 1).trans rfl; have hfz12_0 := blk_frozen BK246.out 0; have hfz12_1 := blk_frozen BK246.out 1)))
     go_meet
     case rel => exact ⟨_, (decide ((l0_0.length : Int) > 20)), (by first | rfl | (simp; done) | (simp [*]; done)), H', ⟨by first | omega | exact Nat.le_refl _⟩, ⟨by (with_reducible repeat (first | refine blk_drewN ?_ _ | refine blk_drew ?_ | refine blk_alloc ?_ _)); exact BK246.out⟩, ⟨by repeat (first | (with_reducible first | exact HB.out | apply below_alloc | apply pw_below_drewN | apply below_drew1 | refine below_set ?_ GE246.out) | exact HB.out)⟩⟩
   ·replace c9 := Bool.eq_false_iff.mpr c9
    as_aux_lemma =>
     subst c9
     have H1 : (stillagelaw07_ReachSums.j0 k l1 true l0_0 l0_1) = some r := by rw [if_neg (show ¬ (false = true) by decide)] at H; exact H
     clear H
     have H := H1
     clear H1
     have H' := Aside0.mk H
     clear H
     have hcz13_0 : w7.cell? ⟨gb246, 0, none⟩ = some (.slice A0_0 l0_0.length c0_0) := (blk_cell BK246.out 0).trans rfl
     have hcz13_1 : w7.cell? ⟨gb246, 1, none⟩ = some (.slice A0_1 l0_1.length c0_1) := (blk_cell BK246.out 1).trans rfl
     have hfz13_0 := blk_frozen BK246.out 0
     have hfz13_1 := blk_frozen BK246.out 1
     go_wp2_with (first | (go_at_call 11; (with_reducible refine (stillagelaw07_Fits.calls k _ _ l0_0 _ _ l0_1 _ _ l1 false _ ?side1 ?side2 ?side3 ?side4 ?side5 ?side6 A8.out).mono ?_); (case side1 => repeat (first | exact (Kd.C_below HR0_0.out HB.out) | (with_reducible refine Kd.C_alloc ?_ _) | (with_reducible refine Kd.C_drewN ?_ _) | (with_reducible refine Kd.C_drew ?_))); (case side2 => exact HC0_0.out); (case side3 => repeat (first | exact (Kd.C_below HR0_1.out HB.out) | (with_reducible refine Kd.C_alloc ?_ _) | (with_reducible refine Kd.C_drewN ?_ _) | (with_reducible refine Kd.C_drew ?_))); (case side4 => exact HC0_1.out); (case side5 => repeat (first | exact (Kd.C_below HR1.out HB.out) | (with_reducible refine Kd.C_alloc ?_ _) | (with_reducible refine Kd.C_drewN ?_ _) | (with_reducible refine Kd.C_drew ?_))); (case side6 => exact HC1.out); rintro e w14 ⟨rfl, hb⟩; have n0_ := Aside0.mk (blk_below (g := gb246) (o := .cells #[.slice A0_0 l0_0.length c0_0, .slice A0_1 l0_1.length c0_1] 25 (0, 0)) (by (with_reducible repeat (first | refine blk_drewN ?_ _ | refine blk_drew ?_ | refine blk_alloc ?_ _)); exact BK246.out) hb); have n1_ := Aside0.mk (below_step (by repeat (first | (with_reducible first | exact HB.out | apply below_alloc | apply pw_below_drewN | apply below_drew1 | refine below_set ?_ GE246.out) | exact HB.out)) hb); clear BK246; clear HB; have BK246 := n0_; have HB := n1_; clear n0_ n1_; (try clear hb); (try clear hb2); (try clear hk); (try clear hi)))
     repeat (go_quiet (first | (go_at_call 11; (with_reducible refine (stillagelaw07_Fits.calls k _ _ l0_0 _ _ l0_1 _ _ l1 false _ ?side1 ?side2 ?side3 ?side4 ?side5 ?side6 A8.out).mono ?_); (case side1 => repeat (first | exact (Kd.C_below HR0_0.out HB.out) | (with_reducible refine Kd.C_alloc ?_ _) | (with_reducible refine Kd.C_drewN ?_ _) | (with_reducible refine Kd.C_drew ?_))); (case side2 => exact HC0_0.out); (case side3 => repeat (first | exact (Kd.C_below HR0_1.out HB.out) | (with_reducible refine Kd.C_alloc ?_ _) | (with_reducible refine Kd.C_drewN ?_ _) | (with_reducible refine Kd.C_drew ?_))); (case side4 => exact HC0_1.out); (case side5 => repeat (first | exact (Kd.C_below HR1.out HB.out) | (with_reducible refine Kd.C_alloc ?_ _) | (with_reducible refine Kd.C_drewN ?_ _) | (with_reducible refine Kd.C_drew ?_))); (case side6 => exact HC1.out); rintro e w14 ⟨rfl, hb⟩; have n0_ := Aside0.mk (blk_below (g := gb246) (o := .cells #[.slice A0_0 l0_0.length c0_0, .slice A0_1 l0_1.length c0_1] 25 (0, 0)) (by (with_reducible repeat (first | refine blk_drewN ?_ _ | refine blk_drew ?_ | refine blk_alloc ?_ _)); exact BK246.out) hb); have n1_ := Aside0.mk (below_step (by repeat (first | (with_reducible first | exact HB.out | apply below_alloc | apply pw_below_drewN | apply below_drew1 | refine below_set ?_ GE246.out) | exact HB.out)) hb); clear BK246; clear HB; have BK246 := n0_; have HB := n1_; clear n0_ n1_; (try clear hb); (try clear hb2); (try clear hk); (try clear hi))); try go_wp2_with (first | (go_at_call 11; (with_reducible refine (stillagelaw07_Fits.calls k _ _ l0_0 _ _ l0_1 _ _ l1 false _ ?side1 ?side2 ?side3 ?side4 ?side5 ?side6 A8.out).mono ?_); (case side1 => repeat (first | exact (Kd.C_below HR0_0.out HB.out) | (with_reducible refine Kd.C_alloc ?_ _) | (with_reducible refine Kd.C_drewN ?_ _) | (with_reducible refine Kd.C_drew ?_))); (case side2 => exact HC0_0.out); (case side3 => repeat (first | exact (Kd.C_below HR0_1.out HB.out) | (with_reducible refine Kd.C_alloc ?_ _) | (with_reducible refine Kd.C_drewN ?_ _) | (with_reducible refine Kd.C_drew ?_))); (case side4 => exact HC0_1.out); (case side5 => repeat (first | exact (Kd.C_below HR1.out HB.out) | (with_reducible refine Kd.C_alloc ?_ _) | (with_reducible refine Kd.C_drewN ?_ _) | (with_reducible refine Kd.C_drew ?_))); (case side6 => exact HC1.out); rintro e w14 ⟨rfl, hb⟩; have n0_ := Aside0.mk (blk_below (g := gb246) (o := .cells #[.slice A0_0 l0_0.length c0_0, .slice A0_1 l0_1.length c0_1] 25 (0, 0)) (by (with_reducible repeat (first | refine blk_drewN ?_ _ | refine blk_drew ?_ | refine blk_alloc ?_ _)); exact BK246.out) hb); have n1_ := Aside0.mk (below_step (by repeat (first | (with_reducible first | exact HB.out | apply below_alloc | apply pw_below_drewN | apply below_drew1 | refine below_set ?_ GE246.out) | exact HB.out)) hb); clear BK246; clear HB; have BK246 := n0_; have HB := n1_; clear n0_ n1_; (try clear hb); (try clear hb2); (try clear hk); (try clear hi))))
     go_meet
     case rel => exact ⟨_, (true), (by first | rfl | (simp; done) | (simp [*]; done)), H', ⟨by first | omega | exact Nat.le_refl _⟩, ⟨by (with_reducible repeat (first | refine blk_drewN ?_ _ | refine blk_drew ?_ | refine blk_alloc ?_ _)); exact BK246.out⟩, ⟨by repeat (first | (with_reducible first | exact HB.out | apply below_alloc | apply pw_below_drewN | apply below_drew1 | refine below_set ?_ GE246.out) | exact HB.out)⟩⟩
  case rest =>
   clear HC5
   try clear c1
   try clear p2
   try clear c4
   try clear c5
   try clear c9
   try clear hcz10_0
   try clear hcz10_1
   try clear hcz12_0
   try clear hcz12_1
   try clear hcz13_0
   try clear hcz13_1
   try clear hfz10_0
   try clear hfz10_1
   try clear hfz12_0
   try clear hfz12_1
   try clear hfz13_0
   try clear hfz13_1
   obtain ⟨kq, x26_4, rfl, HA, HJ4, BK246, HB⟩ := hcut
   cases kq with
   | zero => exact absurd HA.out (by simp [stillagelaw07_ReachSums.j0])
   | succ kj4 =>
    have H := HA.out
    clear HA
    simp only [stillagelaw07_ReachSums.j0] at H
    by_cases c15 : x26_4 = true
    ·subst c15
     have H1 : (some true) = some r := by rw [if_pos rfl] at H; exact H
     clear H
     have H := H1
     clear H1
     obtain rfl := Option.some.inj H
     go_wp2
     repeat (go_quiet (fail); try go_wp2)
     go_ret
     exact ⟨by first | rfl | (simp [errW_none, errW_some] <;> rfl) | (simp [*, errW_none, errW_some] <;> rfl), by repeat (first | (with_reducible first | exact HB.out | apply below_alloc | apply pw_below_drewN | apply below_drew1 | refine below_set ?_ GE246.out) | exact HB.out)⟩
    ·replace c15 := Bool.eq_false_iff.mpr c15
     subst c15
     have H1 : (stillagelaw07_ReachSums.l0 kj4 l1 (l0_0.length : Int) ([] : List (List Int)) 0 l0_0 l0_1) = some r := by rw [if_neg (show ¬ (false = true) by decide)] at H; exact H
     clear H
     have H := H1
     clear H1
     have H' := Aside0.mk H
     clear H
     have hcz16_0 : wc.cell? ⟨gb246, 0, none⟩ = some (.slice A0_0 l0_0.length c0_0) := (blk_cell BK246.out 0).trans rfl
     have hcz16_1 : wc.cell? ⟨gb246, 1, none⟩ = some (.slice A0_1 l0_1.length c0_1) := (blk_cell BK246.out 1).trans rfl
     have hfz16_0 := blk_frozen BK246.out 0
     have hfz16_1 := blk_frozen BK246.out 1
     go_wp2
     repeat (go_quiet (fail); try go_wp2)
     go_loopg [6, 7] kj4 (fun kq v6 v7 w' => ∃ (x6_2 : List (List Int)) (x7_2 : Int), v7 = .int .i64 x7_2 ∧ Aside0 (stillagelaw07_ReachSums.l0 kq l1 (l0_0.length : Int) x6_2 x7_2 l0_0 l0_1 = some r) ∧ Aside0 (kq ≤ kj4) ∧ Aside0 (Kd.S (Kd.slice 3 (Kd.int .i64)) 26 w' w.heap.size (fun _ => True) v6 x6_2) ∧ Aside0 (w'.heap[gb246]? = some (.cells #[(.slice A0_0 l0_0.length c0_0), (.slice A0_1 l0_1.length c0_1)] 25 (0, 0))) ∧ Aside0 (Below w.heap.size w w'))
     case atStart => exact ⟨(([] : List (List Int))), (0), (by first | rfl | (simp; done) | (simp [*]; done)), H', ⟨Nat.le_refl _⟩, ⟨by first | exact Kd.S_nil _ _ _ _ _ | exact Kd.N_nil _ _ _ _ _ | exact Kd.V_nil _ _ _ _ _ | exact Kd.Q_nil _ _ _ _ _ | exact Kd.R_nil _ _ _ _ _⟩, ⟨by (with_reducible repeat (first | refine blk_drewN ?_ _ | refine blk_drew ?_ | refine blk_alloc ?_ _)); exact BK246.out⟩, ⟨by repeat (first | (with_reducible first | exact HB.out | apply below_alloc | apply pw_below_drewN | apply below_drew1 | refine below_set ?_ GE246.out) | exact HB.out)⟩⟩
     case round =>
      clear H'
      try clear c1
      try clear p2
      try clear c4
      try clear c5
      try clear c9
      try clear c15
      try clear hcz10_0
      try clear hcz10_1
      try clear hcz12_0
      try clear hcz12_1
      try clear hcz13_0
      try clear hcz13_1
      try clear hcz16_0
      try clear hcz16_1
      try clear hfz10_0
      try clear hfz10_1
      try clear hfz12_0
      try clear hfz12_1
      try clear hfz13_0
      try clear hfz13_1
      try clear hfz16_0
      try clear hfz16_1
      try clear p2
      obtain ⟨x6_2, x7_2, rfl, HA, HK2, HO_6, BK246, HB⟩ := hrel
      cases gk with
      | zero => exact absurd HA.out (by simp [stillagelaw07_ReachSums.l0])
      | succ k2 =>
       have H := HA.out
       clear HA
       simp only [stillagelaw07_ReachSums.l0] at H
       by_cases c17 : x7_2 < (l0_0.length : Int)
       ·rw [if_pos c17] at H
        have c17b0 : decide (x7_2 < (l0_0.length : Int)) = true := decide_eq_true c17
        clear c17
        replace H := Option.bind_eq_some_iff.mp H
        obtain ⟨⟨t249, t252⟩, A180, H⟩ := H
        replace H : (if t252 = 0 then (if (t249.length : Int) = (l0_0.length : Int) then (if x6_2.length < 5864062014805 then (stillagelaw07_ReachSums.l0 k2 l1 (l0_0.length : Int) (x6_2 ++ [t249]) (wrap64 (x7_2 + 1)) l0_0 l0_1) else (none)) else (some false)) else (some false)) = some r := H
        have A18 := Aside0.mk A180
        clear A180
        by_cases c19 : t252 = 0
        ·rw [if_pos c19] at H
         have c19b0 : (t252 == 0) = true := beq_iff_eq.mpr c19
         have c19b1 : (t252 != 0) = false := bne_eq_false_iff_eq.mpr c19
         clear c19
         by_cases c20 : (t249.length : Int) = (l0_0.length : Int)
         ·rw [if_pos c20] at H
          have c20b0 : ((t249.length : Int) == (l0_0.length : Int)) = true := beq_iff_eq.mpr c20
          have c20b1 : ((t249.length : Int) != (l0_0.length : Int)) = false := bne_eq_false_iff_eq.mpr c20
          have c20b2 : (t249.length == l0_0.length) = true := by first | simpa using c20 | (simp at c20 ⊢; omega)
          clear c20
          by_cases c21 : x6_2.length < 5864062014805
          ·rw [if_pos c21] at H
           as_aux_lemma =>
            have LMc21 := Aside0.mk c21
            clear c21
            obtain ⟨y253, hy253⟩ : ∃ y_ : List (List Int), y_ = (x6_2 ++ [t249]) := ⟨_, rfl⟩
            replace H : (stillagelaw07_ReachSums.l0 k2 l1 (l0_0.length : Int) y253 (wrap64 (x7_2 + 1)) l0_0 l0_1) = some r := by first | (rw [hy253]; with_reducible exact H) | (have H2_ := (Option.bind_some _ _).symm.trans H; rw [hy253]; with_reducible exact H2_) | (have H2_ := (Option.bind_some _ _).symm.trans H; with_reducible exact H2_) | with_reducible exact H | (rw [hy253]; exact H) | exact H
            have Ny253 := Aside0.mk hy253
            clear hy253
            have H' := Aside0.mk H
            clear H
            have hcz22_0 : wr.cell? ⟨gb246, 0, none⟩ = some (.slice A0_0 l0_0.length c0_0) := (blk_cell BK246.out 0).trans rfl
            have hcz22_1 : wr.cell? ⟨gb246, 1, none⟩ = some (.slice A0_1 l0_1.length c0_1) := (blk_cell BK246.out 1).trans rfl
            have hfz22_0 := blk_frozen BK246.out 0
            have hfz22_1 := blk_frozen BK246.out 1
            go_wp2_with (first | (go_at_call 16; (with_reducible refine (reach_From.calls k2 _ _ l0_0 _ _ l0_1 _ _ l1 x7_2 t249 t252 _ ?side1 ?side2 ?side3 ?side4 ?side5 ?side6 A18.out).mono ?_); (case side1 => repeat (first | exact (Kd.C_below HR0_0.out HB.out) | (with_reducible refine Kd.C_alloc ?_ _) | (with_reducible refine Kd.C_drewN ?_ _) | (with_reducible refine Kd.C_drew ?_))); (case side2 => exact HC0_0.out); (case side3 => repeat (first | exact (Kd.C_below HR0_1.out HB.out) | (with_reducible refine Kd.C_alloc ?_ _) | (with_reducible refine Kd.C_drewN ?_ _) | (with_reducible refine Kd.C_drew ?_))); (case side4 => exact HC0_1.out); (case side5 => repeat (first | exact (Kd.C_below HR1.out HB.out) | (with_reducible refine Kd.C_alloc ?_ _) | (with_reducible refine Kd.C_drewN ?_ _) | (with_reducible refine Kd.C_drew ?_))); (case side6 => exact HC1.out); rintro e w23 ⟨v250, rfl, ho0, hb⟩; have n0_ := Aside0.mk (Kd.S_elder' (by (with_reducible repeat (first | apply Kd.S_alloc | apply Kd.S_drewN | apply Kd.S_drew)); exact HO_6.out) (Kd.R_base ho0) hb); have n1_ := Aside0.mk (Kd.R_lower ho0 (below_size (by repeat (first | (with_reducible first | exact HB.out | apply below_alloc | apply pw_below_drewN | apply below_drew1 | refine below_set ?_ GE246.out) | exact HB.out)))); have n2_ := Aside0.mk (blk_below (g := gb246) (o := .cells #[.slice A0_0 l0_0.length c0_0, .slice A0_1 l0_1.length c0_1] 25 (0, 0)) (by (with_reducible repeat (first | refine blk_drewN ?_ _ | refine blk_drew ?_ | refine blk_alloc ?_ _)); exact BK246.out) hb); have n3_ := Aside0.mk (below_step (by repeat (first | (with_reducible first | exact HB.out | apply below_alloc | apply pw_below_drewN | apply below_drew1 | refine below_set ?_ GE246.out) | exact HB.out)) hb); clear HO_6; clear BK246; clear HB; have HO_6 := n0_; have HO251 := n1_; have BK246 := n2_; have HB := n3_; clear n0_ n1_ n2_ n3_; (try clear hb); (try clear hb2); (try clear hk); (try clear hi); (try clear ho0); obtain ⟨Ao24, co24, eo24⟩ := Kd.R_slice HO251.out; subst eo24) | ((with_reducible refine gate_builtin (b := .append) (xs := #[.tmp 50, .tmp 52]) rfl ?_); (try (refine gate_guard (by rfl) ?_; dsimp only)); at_builtin; refine Kd.S_append (Kd.slice 3 (Kd.int .i64)) (w0 := w) w.heap.size rfl (.tmp 50) (.tmp 52) 41 26 (.slice none 0 0) 24 rfl Try.underlying41 info26 rfl (by decide) (by omega) u6 x6_2 t249 [.slice Ao24 t249.length co24] (fun _ => True) (fun k_ => some k_ = (.slice Ao24 t249.length co24 : Value).ownBlock) rfl rfl ?aP (fun k_ hk_ => ((Kd.R_mono (ok' := fun k_ => ((fun _ => True)) k_ ∧ some k_ ≠ (u6 : Value).ownBlock) (Kd.R_apart' (HO251.out) (Kd.S_typed HO_6.out) (by decide)) (fun k_ hk => ⟨trivial, hk.2⟩))).1 k_ hk_.symm) ?aF ?aO ?aB ?aS ?aL ?_; (case aP => exact Kd.M_row (Kd.R_mono (Kd.R_tight rfl (Kd.R_mono (ok' := fun k_ => ((fun _ => True)) k_ ∧ some k_ ≠ (u6 : Value).ownBlock) (Kd.R_apart' (HO251.out) (Kd.S_typed HO_6.out) (by decide)) (fun k_ hk => ⟨trivial, hk.2⟩))) (fun _ h_ => h_))); (case aB => exact (by repeat (first | (with_reducible first | exact HB.out | apply below_alloc | apply pw_below_drewN | apply below_drew1 | refine below_set ?_ GE246.out) | exact HB.out))); (case aF => exact (fun _ _ => trivial)); (case aO => exact (by (with_reducible repeat (first | apply Kd.S_alloc | apply Kd.S_drewN | apply Kd.S_drew)); exact Kd.S_mono HO_6.out (fun k_ hk => ⟨trivial, fun e_ => hk.2 e_⟩))); (case aS => exact (below_size (by repeat (first | (with_reducible first | exact HB.out | apply below_alloc | apply pw_below_drewN | apply below_drew1 | refine below_set ?_ GE246.out) | exact HB.out)))); (case aL => have := LMc21.out; omega); intro v254 w25 ho hb hg hat; rw [← Ny253.out] at ho; have n0_ := Aside0.mk (blk_grown (g := gb246) (o := .cells #[.slice A0_0 l0_0.length c0_0, .slice A0_1 l0_1.length c0_1] 25 (0, 0)) (by (with_reducible repeat (first | refine blk_drewN ?_ _ | refine blk_drew ?_ | refine blk_alloc ?_ _)); exact BK246.out) hg (Kd.S_ne HO_6.out BK246.out (by decide))); have n1_ := Aside0.mk (hb); have n2_ := Aside0.mk (ho); clear BK246; clear HB; clear HO_6; clear HO251; have BK246 := n0_; have HB := n1_; have HO255 := n2_; clear n0_ n1_ n2_; clear ho hb hg hat))
            repeat (go_quiet (first | (go_at_call 16; (with_reducible refine (reach_From.calls k2 _ _ l0_0 _ _ l0_1 _ _ l1 x7_2 t249 t252 _ ?side1 ?side2 ?side3 ?side4 ?side5 ?side6 A18.out).mono ?_); (case side1 => repeat (first | exact (Kd.C_below HR0_0.out HB.out) | (with_reducible refine Kd.C_alloc ?_ _) | (with_reducible refine Kd.C_drewN ?_ _) | (with_reducible refine Kd.C_drew ?_))); (case side2 => exact HC0_0.out); (case side3 => repeat (first | exact (Kd.C_below HR0_1.out HB.out) | (with_reducible refine Kd.C_alloc ?_ _) | (with_reducible refine Kd.C_drewN ?_ _) | (with_reducible refine Kd.C_drew ?_))); (case side4 => exact HC0_1.out); (case side5 => repeat (first | exact (Kd.C_below HR1.out HB.out) | (with_reducible refine Kd.C_alloc ?_ _) | (with_reducible refine Kd.C_drewN ?_ _) | (with_reducible refine Kd.C_drew ?_))); (case side6 => exact HC1.out); rintro e w23 ⟨v250, rfl, ho0, hb⟩; have n0_ := Aside0.mk (Kd.S_elder' (by (with_reducible repeat (first | apply Kd.S_alloc | apply Kd.S_drewN | apply Kd.S_drew)); exact HO_6.out) (Kd.R_base ho0) hb); have n1_ := Aside0.mk (Kd.R_lower ho0 (below_size (by repeat (first | (with_reducible first | exact HB.out | apply below_alloc | apply pw_below_drewN | apply below_drew1 | refine below_set ?_ GE246.out) | exact HB.out)))); have n2_ := Aside0.mk (blk_below (g := gb246) (o := .cells #[.slice A0_0 l0_0.length c0_0, .slice A0_1 l0_1.length c0_1] 25 (0, 0)) (by (with_reducible repeat (first | refine blk_drewN ?_ _ | refine blk_drew ?_ | refine blk_alloc ?_ _)); exact BK246.out) hb); have n3_ := Aside0.mk (below_step (by repeat (first | (with_reducible first | exact HB.out | apply below_alloc | apply pw_below_drewN | apply below_drew1 | refine below_set ?_ GE246.out) | exact HB.out)) hb); clear HO_6; clear BK246; clear HB; have HO_6 := n0_; have HO251 := n1_; have BK246 := n2_; have HB := n3_; clear n0_ n1_ n2_ n3_; (try clear hb); (try clear hb2); (try clear hk); (try clear hi); (try clear ho0); obtain ⟨Ao24, co24, eo24⟩ := Kd.R_slice HO251.out; subst eo24) | ((with_reducible refine gate_builtin (b := .append) (xs := #[.tmp 50, .tmp 52]) rfl ?_); (try (refine gate_guard (by rfl) ?_; dsimp only)); at_builtin; refine Kd.S_append (Kd.slice 3 (Kd.int .i64)) (w0 := w) w.heap.size rfl (.tmp 50) (.tmp 52) 41 26 (.slice none 0 0) 24 rfl Try.underlying41 info26 rfl (by decide) (by omega) u6 x6_2 t249 [.slice Ao24 t249.length co24] (fun _ => True) (fun k_ => some k_ = (.slice Ao24 t249.length co24 : Value).ownBlock) rfl rfl ?aP (fun k_ hk_ => ((Kd.R_mono (ok' := fun k_ => ((fun _ => True)) k_ ∧ some k_ ≠ (u6 : Value).ownBlock) (Kd.R_apart' (HO251.out) (Kd.S_typed HO_6.out) (by decide)) (fun k_ hk => ⟨trivial, hk.2⟩))).1 k_ hk_.symm) ?aF ?aO ?aB ?aS ?aL ?_; (case aP => exact Kd.M_row (Kd.R_mono (Kd.R_tight rfl (Kd.R_mono (ok' := fun k_ => ((fun _ => True)) k_ ∧ some k_ ≠ (u6 : Value).ownBlock) (Kd.R_apart' (HO251.out) (Kd.S_typed HO_6.out) (by decide)) (fun k_ hk => ⟨trivial, hk.2⟩))) (fun _ h_ => h_))); (case aB => exact (by repeat (first | (with_reducible first | exact HB.out | apply below_alloc | apply pw_below_drewN | apply below_drew1 | refine below_set ?_ GE246.out) | exact HB.out))); (case aF => exact (fun _ _ => trivial)); (case aO => exact (by (with_reducible repeat (first | apply Kd.S_alloc | apply Kd.S_drewN | apply Kd.S_drew)); exact Kd.S_mono HO_6.out (fun k_ hk => ⟨trivial, fun e_ => hk.2 e_⟩))); (case aS => exact (below_size (by repeat (first | (with_reducible first | exact HB.out | apply below_alloc | apply pw_below_drewN | apply below_drew1 | refine below_set ?_ GE246.out) | exact HB.out)))); (case aL => have := LMc21.out; omega); intro v254 w25 ho hb hg hat; rw [← Ny253.out] at ho; have n0_ := Aside0.mk (blk_grown (g := gb246) (o := .cells #[.slice A0_0 l0_0.length c0_0, .slice A0_1 l0_1.length c0_1] 25 (0, 0)) (by (with_reducible repeat (first | refine blk_drewN ?_ _ | refine blk_drew ?_ | refine blk_alloc ?_ _)); exact BK246.out) hg (Kd.S_ne HO_6.out BK246.out (by decide))); have n1_ := Aside0.mk (hb); have n2_ := Aside0.mk (ho); clear BK246; clear HB; clear HO_6; clear HO251; have BK246 := n0_; have HB := n1_; have HO255 := n2_; clear n0_ n1_ n2_; clear ho hb hg hat)); try go_wp2_with (first | (go_at_call 16; (with_reducible refine (reach_From.calls k2 _ _ l0_0 _ _ l0_1 _ _ l1 x7_2 t249 t252 _ ?side1 ?side2 ?side3 ?side4 ?side5 ?side6 A18.out).mono ?_); (case side1 => repeat (first | exact (Kd.C_below HR0_0.out HB.out) | (with_reducible refine Kd.C_alloc ?_ _) | (with_reducible refine Kd.C_drewN ?_ _) | (with_reducible refine Kd.C_drew ?_))); (case side2 => exact HC0_0.out); (case side3 => repeat (first | exact (Kd.C_below HR0_1.out HB.out) | (with_reducible refine Kd.C_alloc ?_ _) | (with_reducible refine Kd.C_drewN ?_ _) | (with_reducible refine Kd.C_drew ?_))); (case side4 => exact HC0_1.out); (case side5 => repeat (first | exact (Kd.C_below HR1.out HB.out) | (with_reducible refine Kd.C_alloc ?_ _) | (with_reducible refine Kd.C_drewN ?_ _) | (with_reducible refine Kd.C_drew ?_))); (case side6 => exact HC1.out); rintro e w23 ⟨v250, rfl, ho0, hb⟩; have n0_ := Aside0.mk (Kd.S_elder' (by (with_reducible repeat (first | apply Kd.S_alloc | apply Kd.S_drewN | apply Kd.S_drew)); exact HO_6.out) (Kd.R_base ho0) hb); have n1_ := Aside0.mk (Kd.R_lower ho0 (below_size (by repeat (first | (with_reducible first | exact HB.out | apply below_alloc | apply pw_below_drewN | apply below_drew1 | refine below_set ?_ GE246.out) | exact HB.out)))); have n2_ := Aside0.mk (blk_below (g := gb246) (o := .cells #[.slice A0_0 l0_0.length c0_0, .slice A0_1 l0_1.length c0_1] 25 (0, 0)) (by (with_reducible repeat (first | refine blk_drewN ?_ _ | refine blk_drew ?_ | refine blk_alloc ?_ _)); exact BK246.out) hb); have n3_ := Aside0.mk (below_step (by repeat (first | (with_reducible first | exact HB.out | apply below_alloc | apply pw_below_drewN | apply below_drew1 | refine below_set ?_ GE246.out) | exact HB.out)) hb); clear HO_6; clear BK246; clear HB; have HO_6 := n0_; have HO251 := n1_; have BK246 := n2_; have HB := n3_; clear n0_ n1_ n2_ n3_; (try clear hb); (try clear hb2); (try clear hk); (try clear hi); (try clear ho0); obtain ⟨Ao24, co24, eo24⟩ := Kd.R_slice HO251.out; subst eo24) | ((with_reducible refine gate_builtin (b := .append) (xs := #[.tmp 50, .tmp 52]) rfl ?_); (try (refine gate_guard (by rfl) ?_; dsimp only)); at_builtin; refine Kd.S_append (Kd.slice 3 (Kd.int .i64)) (w0 := w) w.heap.size rfl (.tmp 50) (.tmp 52) 41 26 (.slice none 0 0) 24 rfl Try.underlying41 info26 rfl (by decide) (by omega) u6 x6_2 t249 [.slice Ao24 t249.length co24] (fun _ => True) (fun k_ => some k_ = (.slice Ao24 t249.length co24 : Value).ownBlock) rfl rfl ?aP (fun k_ hk_ => ((Kd.R_mono (ok' := fun k_ => ((fun _ => True)) k_ ∧ some k_ ≠ (u6 : Value).ownBlock) (Kd.R_apart' (HO251.out) (Kd.S_typed HO_6.out) (by decide)) (fun k_ hk => ⟨trivial, hk.2⟩))).1 k_ hk_.symm) ?aF ?aO ?aB ?aS ?aL ?_; (case aP => exact Kd.M_row (Kd.R_mono (Kd.R_tight rfl (Kd.R_mono (ok' := fun k_ => ((fun _ => True)) k_ ∧ some k_ ≠ (u6 : Value).ownBlock) (Kd.R_apart' (HO251.out) (Kd.S_typed HO_6.out) (by decide)) (fun k_ hk => ⟨trivial, hk.2⟩))) (fun _ h_ => h_))); (case aB => exact (by repeat (first | (with_reducible first | exact HB.out | apply below_alloc | apply pw_below_drewN | apply below_drew1 | refine below_set ?_ GE246.out) | exact HB.out))); (case aF => exact (fun _ _ => trivial)); (case aO => exact (by (with_reducible repeat (first | apply Kd.S_alloc | apply Kd.S_drewN | apply Kd.S_drew)); exact Kd.S_mono HO_6.out (fun k_ hk => ⟨trivial, fun e_ => hk.2 e_⟩))); (case aS => exact (below_size (by repeat (first | (with_reducible first | exact HB.out | apply below_alloc | apply pw_below_drewN | apply below_drew1 | refine below_set ?_ GE246.out) | exact HB.out)))); (case aL => have := LMc21.out; omega); intro v254 w25 ho hb hg hat; rw [← Ny253.out] at ho; have n0_ := Aside0.mk (blk_grown (g := gb246) (o := .cells #[.slice A0_0 l0_0.length c0_0, .slice A0_1 l0_1.length c0_1] 25 (0, 0)) (by (with_reducible repeat (first | refine blk_drewN ?_ _ | refine blk_drew ?_ | refine blk_alloc ?_ _)); exact BK246.out) hg (Kd.S_ne HO_6.out BK246.out (by decide))); have n1_ := Aside0.mk (hb); have n2_ := Aside0.mk (ho); clear BK246; clear HB; clear HO_6; clear HO251; have BK246 := n0_; have HB := n1_; have HO255 := n2_; clear n0_ n1_ n2_; clear ho hb hg hat)))
            go_roundg k2
            case measure => have := HJ4.out; have := HK2.out; omega
            case rel => exact ⟨(y253), (wrap64 (x7_2 + 1)), (by first | rfl | (simp; done) | (simp [*]; done)), H', ⟨by have := HJ4.out; have := HK2.out; omega⟩, ⟨by (with_reducible repeat (first | apply Kd.S_alloc | apply Kd.S_drewN | apply Kd.S_drew)); exact HO255.out⟩, ⟨by (with_reducible repeat (first | refine blk_drewN ?_ _ | refine blk_drew ?_ | refine blk_alloc ?_ _)); exact BK246.out⟩, ⟨by repeat (first | (with_reducible first | exact HB.out | apply below_alloc | apply pw_below_drewN | apply below_drew1 | refine below_set ?_ GE246.out) | exact HB.out)⟩⟩
          ·rw [if_neg c21] at H
           exact absurd H (by simp)
         ·rw [if_neg c20] at H
          as_aux_lemma =>
           have c20b0 : ((t249.length : Int) == (l0_0.length : Int)) = false := beq_eq_false_iff_ne.mpr c20
           have c20b1 : ((t249.length : Int) != (l0_0.length : Int)) = true := bne_iff_ne.mpr c20
           have c20b2 : (t249.length == l0_0.length) = false := by first | simpa using c20 | (simp at c20 ⊢; omega)
           obtain rfl := Option.some.inj H
           have hcz26_0 : wr.cell? ⟨gb246, 0, none⟩ = some (.slice A0_0 l0_0.length c0_0) := (blk_cell BK246.out 0).trans rfl
           have hcz26_1 : wr.cell? ⟨gb246, 1, none⟩ = some (.slice A0_1 l0_1.length c0_1) := (blk_cell BK246.out 1).trans rfl
           have hfz26_0 := blk_frozen BK246.out 0
           have hfz26_1 := blk_frozen BK246.out 1
           go_wp2_with (first | (go_at_call 16; (with_reducible refine (reach_From.calls k2 _ _ l0_0 _ _ l0_1 _ _ l1 x7_2 t249 t252 _ ?side1 ?side2 ?side3 ?side4 ?side5 ?side6 A18.out).mono ?_); (case side1 => repeat (first | exact (Kd.C_below HR0_0.out HB.out) | (with_reducible refine Kd.C_alloc ?_ _) | (with_reducible refine Kd.C_drewN ?_ _) | (with_reducible refine Kd.C_drew ?_))); (case side2 => exact HC0_0.out); (case side3 => repeat (first | exact (Kd.C_below HR0_1.out HB.out) | (with_reducible refine Kd.C_alloc ?_ _) | (with_reducible refine Kd.C_drewN ?_ _) | (with_reducible refine Kd.C_drew ?_))); (case side4 => exact HC0_1.out); (case side5 => repeat (first | exact (Kd.C_below HR1.out HB.out) | (with_reducible refine Kd.C_alloc ?_ _) | (with_reducible refine Kd.C_drewN ?_ _) | (with_reducible refine Kd.C_drew ?_))); (case side6 => exact HC1.out); rintro e w27 ⟨v250, rfl, ho0, hb⟩; have n0_ := Aside0.mk (Kd.S_elder' (by (with_reducible repeat (first | apply Kd.S_alloc | apply Kd.S_drewN | apply Kd.S_drew)); exact HO_6.out) (Kd.R_base ho0) hb); have n1_ := Aside0.mk (Kd.R_lower ho0 (below_size (by repeat (first | (with_reducible first | exact HB.out | apply below_alloc | apply pw_below_drewN | apply below_drew1 | refine below_set ?_ GE246.out) | exact HB.out)))); have n2_ := Aside0.mk (blk_below (g := gb246) (o := .cells #[.slice A0_0 l0_0.length c0_0, .slice A0_1 l0_1.length c0_1] 25 (0, 0)) (by (with_reducible repeat (first | refine blk_drewN ?_ _ | refine blk_drew ?_ | refine blk_alloc ?_ _)); exact BK246.out) hb); have n3_ := Aside0.mk (below_step (by repeat (first | (with_reducible first | exact HB.out | apply below_alloc | apply pw_below_drewN | apply below_drew1 | refine below_set ?_ GE246.out) | exact HB.out)) hb); clear HO_6; clear BK246; clear HB; have HO_6 := n0_; have HO251 := n1_; have BK246 := n2_; have HB := n3_; clear n0_ n1_ n2_ n3_; (try clear hb); (try clear hb2); (try clear hk); (try clear hi); (try clear ho0); obtain ⟨Ao28, co28, eo28⟩ := Kd.R_slice HO251.out; subst eo28))
           repeat (go_quiet (first | (go_at_call 16; (with_reducible refine (reach_From.calls k2 _ _ l0_0 _ _ l0_1 _ _ l1 x7_2 t249 t252 _ ?side1 ?side2 ?side3 ?side4 ?side5 ?side6 A18.out).mono ?_); (case side1 => repeat (first | exact (Kd.C_below HR0_0.out HB.out) | (with_reducible refine Kd.C_alloc ?_ _) | (with_reducible refine Kd.C_drewN ?_ _) | (with_reducible refine Kd.C_drew ?_))); (case side2 => exact HC0_0.out); (case side3 => repeat (first | exact (Kd.C_below HR0_1.out HB.out) | (with_reducible refine Kd.C_alloc ?_ _) | (with_reducible refine Kd.C_drewN ?_ _) | (with_reducible refine Kd.C_drew ?_))); (case side4 => exact HC0_1.out); (case side5 => repeat (first | exact (Kd.C_below HR1.out HB.out) | (with_reducible refine Kd.C_alloc ?_ _) | (with_reducible refine Kd.C_drewN ?_ _) | (with_reducible refine Kd.C_drew ?_))); (case side6 => exact HC1.out); rintro e w27 ⟨v250, rfl, ho0, hb⟩; have n0_ := Aside0.mk (Kd.S_elder' (by (with_reducible repeat (first | apply Kd.S_alloc | apply Kd.S_drewN | apply Kd.S_drew)); exact HO_6.out) (Kd.R_base ho0) hb); have n1_ := Aside0.mk (Kd.R_lower ho0 (below_size (by repeat (first | (with_reducible first | exact HB.out | apply below_alloc | apply pw_below_drewN | apply below_drew1 | refine below_set ?_ GE246.out) | exact HB.out)))); have n2_ := Aside0.mk (blk_below (g := gb246) (o := .cells #[.slice A0_0 l0_0.length c0_0, .slice A0_1 l0_1.length c0_1] 25 (0, 0)) (by (with_reducible repeat (first | refine blk_drewN ?_ _ | refine blk_drew ?_ | refine blk_alloc ?_ _)); exact BK246.out) hb); have n3_ := Aside0.mk (below_step (by repeat (first | (with_reducible first | exact HB.out | apply below_alloc | apply pw_below_drewN | apply below_drew1 | refine below_set ?_ GE246.out) | exact HB.out)) hb); clear HO_6; clear BK246; clear HB; have HO_6 := n0_; have HO251 := n1_; have BK246 := n2_; have HB := n3_; clear n0_ n1_ n2_ n3_; (try clear hb); (try clear hb2); (try clear hk); (try clear hi); (try clear ho0); obtain ⟨Ao28, co28, eo28⟩ := Kd.R_slice HO251.out; subst eo28)); try go_wp2_with (first | (go_at_call 16; (with_reducible refine (reach_From.calls k2 _ _ l0_0 _ _ l0_1 _ _ l1 x7_2 t249 t252 _ ?side1 ?side2 ?side3 ?side4 ?side5 ?side6 A18.out).mono ?_); (case side1 => repeat (first | exact (Kd.C_below HR0_0.out HB.out) | (with_reducible refine Kd.C_alloc ?_ _) | (with_reducible refine Kd.C_drewN ?_ _) | (with_reducible refine Kd.C_drew ?_))); (case side2 => exact HC0_0.out); (case side3 => repeat (first | exact (Kd.C_below HR0_1.out HB.out) | (with_reducible refine Kd.C_alloc ?_ _) | (with_reducible refine Kd.C_drewN ?_ _) | (with_reducible refine Kd.C_drew ?_))); (case side4 => exact HC0_1.out); (case side5 => repeat (first | exact (Kd.C_below HR1.out HB.out) | (with_reducible refine Kd.C_alloc ?_ _) | (with_reducible refine Kd.C_drewN ?_ _) | (with_reducible refine Kd.C_drew ?_))); (case side6 => exact HC1.out); rintro e w27 ⟨v250, rfl, ho0, hb⟩; have n0_ := Aside0.mk (Kd.S_elder' (by (with_reducible repeat (first | apply Kd.S_alloc | apply Kd.S_drewN | apply Kd.S_drew)); exact HO_6.out) (Kd.R_base ho0) hb); have n1_ := Aside0.mk (Kd.R_lower ho0 (below_size (by repeat (first | (with_reducible first | exact HB.out | apply below_alloc | apply pw_below_drewN | apply below_drew1 | refine below_set ?_ GE246.out) | exact HB.out)))); have n2_ := Aside0.mk (blk_below (g := gb246) (o := .cells #[.slice A0_0 l0_0.length c0_0, .slice A0_1 l0_1.length c0_1] 25 (0, 0)) (by (with_reducible repeat (first | refine blk_drewN ?_ _ | refine blk_drew ?_ | refine blk_alloc ?_ _)); exact BK246.out) hb); have n3_ := Aside0.mk (below_step (by repeat (first | (with_reducible first | exact HB.out | apply below_alloc | apply pw_below_drewN | apply below_drew1 | refine below_set ?_ GE246.out) | exact HB.out)) hb); clear HO_6; clear BK246; clear HB; have HO_6 := n0_; have HO251 := n1_; have BK246 := n2_; have HB := n3_; clear n0_ n1_ n2_ n3_; (try clear hb); (try clear hb2); (try clear hk); (try clear hi); (try clear ho0); obtain ⟨Ao28, co28, eo28⟩ := Kd.R_slice HO251.out; subst eo28)))
           go_ret
           exact ⟨by first | rfl | (simp [errW_none, errW_some] <;> rfl) | (simp [*, errW_none, errW_some] <;> rfl), by repeat (first | (with_reducible first | exact HB.out | apply below_alloc | apply pw_below_drewN | apply below_drew1 | refine below_set ?_ GE246.out) | exact HB.out)⟩
        ·rw [if_neg c19] at H
         as_aux_lemma =>
          have c19b0 : (t252 == 0) = false := beq_eq_false_iff_ne.mpr c19
          have c19b1 : (t252 != 0) = true := bne_iff_ne.mpr c19
          obtain rfl := Option.some.inj H
          have hcz29_0 : wr.cell? ⟨gb246, 0, none⟩ = some (.slice A0_0 l0_0.length c0_0) := (blk_cell BK246.out 0).trans rfl
          have hcz29_1 : wr.cell? ⟨gb246, 1, none⟩ = some (.slice A0_1 l0_1.length c0_1) := (blk_cell BK246.out 1).trans rfl
          have hfz29_0 := blk_frozen BK246.out 0
          have hfz29_1 := blk_frozen BK246.out 1
          go_wp2_with (first | (go_at_call 16; (with_reducible refine (reach_From.calls k2 _ _ l0_0 _ _ l0_1 _ _ l1 x7_2 t249 t252 _ ?side1 ?side2 ?side3 ?side4 ?side5 ?side6 A18.out).mono ?_); (case side1 => repeat (first | exact (Kd.C_below HR0_0.out HB.out) | (with_reducible refine Kd.C_alloc ?_ _) | (with_reducible refine Kd.C_drewN ?_ _) | (with_reducible refine Kd.C_drew ?_))); (case side2 => exact HC0_0.out); (case side3 => repeat (first | exact (Kd.C_below HR0_1.out HB.out) | (with_reducible refine Kd.C_alloc ?_ _) | (with_reducible refine Kd.C_drewN ?_ _) | (with_reducible refine Kd.C_drew ?_))); (case side4 => exact HC0_1.out); (case side5 => repeat (first | exact (Kd.C_below HR1.out HB.out) | (with_reducible refine Kd.C_alloc ?_ _) | (with_reducible refine Kd.C_drewN ?_ _) | (with_reducible refine Kd.C_drew ?_))); (case side6 => exact HC1.out); rintro e w30 ⟨v250, rfl, ho0, hb⟩; have n0_ := Aside0.mk (Kd.S_elder' (by (with_reducible repeat (first | apply Kd.S_alloc | apply Kd.S_drewN | apply Kd.S_drew)); exact HO_6.out) (Kd.R_base ho0) hb); have n1_ := Aside0.mk (Kd.R_lower ho0 (below_size (by repeat (first | (with_reducible first | exact HB.out | apply below_alloc | apply pw_below_drewN | apply below_drew1 | refine below_set ?_ GE246.out) | exact HB.out)))); have n2_ := Aside0.mk (blk_below (g := gb246) (o := .cells #[.slice A0_0 l0_0.length c0_0, .slice A0_1 l0_1.length c0_1] 25 (0, 0)) (by (with_reducible repeat (first | refine blk_drewN ?_ _ | refine blk_drew ?_ | refine blk_alloc ?_ _)); exact BK246.out) hb); have n3_ := Aside0.mk (below_step (by repeat (first | (with_reducible first | exact HB.out | apply below_alloc | apply pw_below_drewN | apply below_drew1 | refine below_set ?_ GE246.out) | exact HB.out)) hb); clear HO_6; clear BK246; clear HB; have HO_6 := n0_; have HO251 := n1_; have BK246 := n2_; have HB := n3_; clear n0_ n1_ n2_ n3_; (try clear hb); (try clear hb2); (try clear hk); (try clear hi); (try clear ho0)))
          repeat (go_quiet (first | (go_at_call 16; (with_reducible refine (reach_From.calls k2 _ _ l0_0 _ _ l0_1 _ _ l1 x7_2 t249 t252 _ ?side1 ?side2 ?side3 ?side4 ?side5 ?side6 A18.out).mono ?_); (case side1 => repeat (first | exact (Kd.C_below HR0_0.out HB.out) | (with_reducible refine Kd.C_alloc ?_ _) | (with_reducible refine Kd.C_drewN ?_ _) | (with_reducible refine Kd.C_drew ?_))); (case side2 => exact HC0_0.out); (case side3 => repeat (first | exact (Kd.C_below HR0_1.out HB.out) | (with_reducible refine Kd.C_alloc ?_ _) | (with_reducible refine Kd.C_drewN ?_ _) | (with_reducible refine Kd.C_drew ?_))); (case side4 => exact HC0_1.out); (case side5 => repeat (first | exact (Kd.C_below HR1.out HB.out) | (with_reducible refine Kd.C_alloc ?_ _) | (with_reducible refine Kd.C_drewN ?_ _) | (with_reducible refine Kd.C_drew ?_))); (case side6 => exact HC1.out); rintro e w30 ⟨v250, rfl, ho0, hb⟩; have n0_ := Aside0.mk (Kd.S_elder' (by (with_reducible repeat (first | apply Kd.S_alloc | apply Kd.S_drewN | apply Kd.S_drew)); exact HO_6.out) (Kd.R_base ho0) hb); have n1_ := Aside0.mk (Kd.R_lower ho0 (below_size (by repeat (first | (with_reducible first | exact HB.out | apply below_alloc | apply pw_below_drewN | apply below_drew1 | refine below_set ?_ GE246.out) | exact HB.out)))); have n2_ := Aside0.mk (blk_below (g := gb246) (o := .cells #[.slice A0_0 l0_0.length c0_0, .slice A0_1 l0_1.length c0_1] 25 (0, 0)) (by (with_reducible repeat (first | refine blk_drewN ?_ _ | refine blk_drew ?_ | refine blk_alloc ?_ _)); exact BK246.out) hb); have n3_ := Aside0.mk (below_step (by repeat (first | (with_reducible first | exact HB.out | apply below_alloc | apply pw_below_drewN | apply below_drew1 | refine below_set ?_ GE246.out) | exact HB.out)) hb); clear HO_6; clear BK246; clear HB; have HO_6 := n0_; have HO251 := n1_; have BK246 := n2_; have HB := n3_; clear n0_ n1_ n2_ n3_; (try clear hb); (try clear hb2); (try clear hk); (try clear hi); (try clear ho0))); try go_wp2_with (first | (go_at_call 16; (with_reducible refine (reach_From.calls k2 _ _ l0_0 _ _ l0_1 _ _ l1 x7_2 t249 t252 _ ?side1 ?side2 ?side3 ?side4 ?side5 ?side6 A18.out).mono ?_); (case side1 => repeat (first | exact (Kd.C_below HR0_0.out HB.out) | (with_reducible refine Kd.C_alloc ?_ _) | (with_reducible refine Kd.C_drewN ?_ _) | (with_reducible refine Kd.C_drew ?_))); (case side2 => exact HC0_0.out); (case side3 => repeat (first | exact (Kd.C_below HR0_1.out HB.out) | (with_reducible refine Kd.C_alloc ?_ _) | (with_reducible refine Kd.C_drewN ?_ _) | (with_reducible refine Kd.C_drew ?_))); (case side4 => exact HC0_1.out); (case side5 => repeat (first | exact (Kd.C_below HR1.out HB.out) | (with_reducible refine Kd.C_alloc ?_ _) | (with_reducible refine Kd.C_drewN ?_ _) | (with_reducible refine Kd.C_drew ?_))); (case side6 => exact HC1.out); rintro e w30 ⟨v250, rfl, ho0, hb⟩; have n0_ := Aside0.mk (Kd.S_elder' (by (with_reducible repeat (first | apply Kd.S_alloc | apply Kd.S_drewN | apply Kd.S_drew)); exact HO_6.out) (Kd.R_base ho0) hb); have n1_ := Aside0.mk (Kd.R_lower ho0 (below_size (by repeat (first | (with_reducible first | exact HB.out | apply below_alloc | apply pw_below_drewN | apply below_drew1 | refine below_set ?_ GE246.out) | exact HB.out)))); have n2_ := Aside0.mk (blk_below (g := gb246) (o := .cells #[.slice A0_0 l0_0.length c0_0, .slice A0_1 l0_1.length c0_1] 25 (0, 0)) (by (with_reducible repeat (first | refine blk_drewN ?_ _ | refine blk_drew ?_ | refine blk_alloc ?_ _)); exact BK246.out) hb); have n3_ := Aside0.mk (below_step (by repeat (first | (with_reducible first | exact HB.out | apply below_alloc | apply pw_below_drewN | apply below_drew1 | refine below_set ?_ GE246.out) | exact HB.out)) hb); clear HO_6; clear BK246; clear HB; have HO_6 := n0_; have HO251 := n1_; have BK246 := n2_; have HB := n3_; clear n0_ n1_ n2_ n3_; (try clear hb); (try clear hb2); (try clear hk); (try clear hi); (try clear ho0))))
          go_ret
          exact ⟨by first | rfl | (simp [errW_none, errW_some] <;> rfl) | (simp [*, errW_none, errW_some] <;> rfl), by repeat (first | (with_reducible first | exact HB.out | apply below_alloc | apply pw_below_drewN | apply below_drew1 | refine below_set ?_ GE246.out) | exact HB.out)⟩
       ·rw [if_neg c17] at H
        have c17b0 : decide (x7_2 < (l0_0.length : Int)) = false := decide_eq_false c17
        clear c17
        have H' := Aside0.mk H
        clear H
        go_wp2
        repeat (go_quiet (fail); try go_wp2)
        go_loopg [10] k2 (fun kq v10 w' => ∃ (x10_3 : Int), v10 = .int .i64 x10_3 ∧ Aside0 (stillagelaw07_ReachSums.l1 kq (l0_0.length : Int) x6_2 x10_3 l0_0 l0_1 = some r) ∧ Aside0 (kq ≤ k2) ∧ Aside0 (Kd.S (Kd.slice 3 (Kd.int .i64)) 26 w' w.heap.size (fun _ => True) u6 x6_2) ∧ Aside0 (w'.heap[gb246]? = some (.cells #[(.slice A0_0 l0_0.length c0_0), (.slice A0_1 l0_1.length c0_1)] 25 (0, 0))) ∧ Aside0 (Below w.heap.size w w'))
        case atStart => exact ⟨(0), (by first | rfl | (simp; done) | (simp [*]; done)), H', ⟨Nat.le_refl _⟩, ⟨by (with_reducible repeat (first | apply Kd.S_alloc | apply Kd.S_drewN | apply Kd.S_drew)); exact HO_6.out⟩, ⟨by (with_reducible repeat (first | refine blk_drewN ?_ _ | refine blk_drew ?_ | refine blk_alloc ?_ _)); exact BK246.out⟩, ⟨by repeat (first | (with_reducible first | exact HB.out | apply below_alloc | apply pw_below_drewN | apply below_drew1 | refine below_set ?_ GE246.out) | exact HB.out)⟩⟩
        case round =>
         clear H'
         try clear c1
         try clear c2
         try clear p2
         try clear c4
         try clear c5
         try clear p6
         try clear c9
         try clear c15
         try clear c17
         try clear c17b0
         try clear c19
         try clear c19b0
         try clear c19b1
         try clear c20
         try clear c20b0
         try clear c20b1
         try clear c20b2
         try clear c21
         try clear hcz10_0
         try clear hcz10_1
         try clear hcz12_0
         try clear hcz12_1
         try clear hcz13_0
         try clear hcz13_1
         try clear hcz16_0
         try clear hcz16_1
         try clear hcz22_0
         try clear hcz22_1
         try clear hcz26_0
         try clear hcz26_1
         try clear hcz29_0
         try clear hcz29_1
         try clear hfz10_0
         try clear hfz10_1
         try clear hfz12_0
         try clear hfz12_1
         try clear hfz13_0
         try clear hfz13_1
         try clear hfz16_0
         try clear hfz16_1
         try clear hfz22_0
         try clear hfz22_1
         try clear hfz26_0
         try clear hfz26_1
         try clear hfz29_0
         try clear hfz29_1
         try clear p2
         obtain ⟨x10_3, rfl, HA, HK3, HO_6, BK246, HB⟩ := hrel
         cases gk with
         | zero => exact absurd HA.out (by simp [stillagelaw07_ReachSums.l1])
         | succ k3 =>
          have H := HA.out
          clear HA
          simp only [stillagelaw07_ReachSums.l1] at H
          by_cases c31 : x10_3 < (l0_0.length : Int)
          ·rw [if_pos c31] at H
           have c31b0 : decide (x10_3 < (l0_0.length : Int)) = true := decide_eq_true c31
           clear c31
           have H' := Aside0.mk H
           clear H
           go_wp2
           repeat (go_quiet (fail); try go_wp2)
           go_loopg [11] k3 (fun kq v11 w' => ∃ (x11_4 : Int), v11 = .int .i64 x11_4 ∧ Aside0 (stillagelaw07_ReachSums.l2 kq (l0_0.length : Int) x6_2 x10_3 x11_4 l0_0 l0_1 = some r) ∧ Aside0 (kq ≤ k3) ∧ Aside0 (Kd.S (Kd.slice 3 (Kd.int .i64)) 26 w' w.heap.size (fun _ => True) u6 x6_2) ∧ Aside0 (w'.heap[gb246]? = some (.cells #[(.slice A0_0 l0_0.length c0_0), (.slice A0_1 l0_1.length c0_1)] 25 (0, 0))) ∧ Aside0 (Below w.heap.size w w'))
           case atStart => exact ⟨(0), (by first | rfl | (simp; done) | (simp [*]; done)), H', ⟨Nat.le_refl _⟩, ⟨by (with_reducible repeat (first | apply Kd.S_alloc | apply Kd.S_drewN | apply Kd.S_drew)); exact HO_6.out⟩, ⟨by (with_reducible repeat (first | refine blk_drewN ?_ _ | refine blk_drew ?_ | refine blk_alloc ?_ _)); exact BK246.out⟩, ⟨by repeat (first | (with_reducible first | exact HB.out | apply below_alloc | apply pw_below_drewN | apply below_drew1 | refine below_set ?_ GE246.out) | exact HB.out)⟩⟩
           case round =>
            clear H'
            try clear c1
            try clear c2
            try clear p2
            try clear c3
            try clear c4
            try clear c5
            try clear p6
            try clear c9
            try clear c15
            try clear c17
            try clear c17b0
            try clear c19
            try clear c19b0
            try clear c19b1
            try clear c20
            try clear c20b0
            try clear c20b1
            try clear c20b2
            try clear c21
            try clear c31
            try clear c31b0
            try clear hcz10_0
            try clear hcz10_1
            try clear hcz12_0
            try clear hcz12_1
            try clear hcz13_0
            try clear hcz13_1
            try clear hcz16_0
            try clear hcz16_1
            try clear hcz22_0
            try clear hcz22_1
            try clear hcz26_0
            try clear hcz26_1
            try clear hcz29_0
            try clear hcz29_1
            try clear hfz10_0
            try clear hfz10_1
            try clear hfz12_0
            try clear hfz12_1
            try clear hfz13_0
            try clear hfz13_1
            try clear hfz16_0
            try clear hfz16_1
            try clear hfz22_0
            try clear hfz22_1
            try clear hfz26_0
            try clear hfz26_1
            try clear hfz29_0
            try clear hfz29_1
            try clear p2
            try clear p6
            obtain ⟨x11_4, rfl, HA, HK4, HO_6, BK246, HB⟩ := hrel
            cases gk with
            | zero => exact absurd HA.out (by simp [stillagelaw07_ReachSums.l2])
            | succ k4 =>
             have H := HA.out
             clear HA
             simp only [stillagelaw07_ReachSums.l2] at H
             by_cases c32 : x11_4 < (l0_0.length : Int)
             ·rw [if_pos c32] at H
              have c32b0 : decide (x11_4 < (l0_0.length : Int)) = true := decide_eq_true c32
              clear c32
              have H' := Aside0.mk H
              clear H
              go_wp2
              repeat (go_quiet (fail); try go_wp2)
              go_loopg [12, 13] k4 (fun kq v12 v13 w' => ∃ (x12_5 : Int) (x13_5 : Int), v12 = .int .i64 x12_5 ∧ v13 = .int .i64 x13_5 ∧ Aside0 (stillagelaw07_ReachSums.l3 kq (l0_0.length : Int) x6_2 x10_3 x11_4 x12_5 x13_5 l0_0 l0_1 = some r) ∧ Aside0 (kq ≤ k4) ∧ Aside0 (Kd.S (Kd.slice 3 (Kd.int .i64)) 26 w' w.heap.size (fun _ => True) u6 x6_2) ∧ Aside0 (w'.heap[gb246]? = some (.cells #[(.slice A0_0 l0_0.length c0_0), (.slice A0_1 l0_1.length c0_1)] 25 (0, 0))) ∧ Aside0 (Below w.heap.size w w'))
              case atStart => exact ⟨((-1)), (0), (by first | rfl | (simp; done) | (simp [*]; done)), (by first | rfl | (simp; done) | (simp [*]; done)), H', ⟨Nat.le_refl _⟩, ⟨by (with_reducible repeat (first | apply Kd.S_alloc | apply Kd.S_drewN | apply Kd.S_drew)); exact HO_6.out⟩, ⟨by (with_reducible repeat (first | refine blk_drewN ?_ _ | refine blk_drew ?_ | refine blk_alloc ?_ _)); exact BK246.out⟩, ⟨by repeat (first | (with_reducible first | exact HB.out | apply below_alloc | apply pw_below_drewN | apply below_drew1 | refine below_set ?_ GE246.out) | exact HB.out)⟩⟩
              case round =>
               clear H'
               try clear c1
               try clear c2
               try clear p2
               try clear c3
               try clear c4
               try clear c5
               try clear p6
               try clear c9
               try clear c15
               try clear c17
               try clear c17b0
               try clear c19
               try clear c19b0
               try clear c19b1
               try clear c20
               try clear c20b0
               try clear c20b1
               try clear c20b2
               try clear c21
               try clear c31
               try clear c31b0
               try clear c32
               try clear c32b0
               try clear hcz10_0
               try clear hcz10_1
               try clear hcz12_0
               try clear hcz12_1
               try clear hcz13_0
               try clear hcz13_1
               try clear hcz16_0
               try clear hcz16_1
               try clear hcz22_0
               try clear hcz22_1
               try clear hcz26_0
               try clear hcz26_1
               try clear hcz29_0
               try clear hcz29_1
               try clear hfz10_0
               try clear hfz10_1
               try clear hfz12_0
               try clear hfz12_1
               try clear hfz13_0
               try clear hfz13_1
               try clear hfz16_0
               try clear hfz16_1
               try clear hfz22_0
               try clear hfz22_1
               try clear hfz26_0
               try clear hfz26_1
               try clear hfz29_0
               try clear hfz29_1
               try clear p2
               try clear p6
               obtain ⟨x12_5, x13_5, rfl, rfl, HA, HK5, HO_6, BK246, HB⟩ := hrel
               cases gk with
               | zero => exact absurd HA.out (by simp [stillagelaw07_ReachSums.l3])
               | succ k5 =>
                have H := HA.out
                clear HA
                simp only [stillagelaw07_ReachSums.l3] at H
                by_cases c33 : x13_5 < (l0_0.length : Int)
                ·rw [if_pos c33] at H
                 have c33b0 : decide (x13_5 < (l0_0.length : Int)) = true := decide_eq_true c33
                 clear c33
                 have HC34 := Aside0.mk H
                 clear H
                 go_upto_region 24 with (fail)
                 repeat (go_quiet (fail); go_upto_region 24 with (fail))
                 go_cut [105] (fun v105 wc => ∃ (kq : Nat) (x105_33 : Bool), v105 = .bool x105_33 ∧ Aside0 (stillagelaw07_ReachSums.j5 kq (l0_0.length : Int) x6_2 x10_3 x11_4 x12_5 x13_5 x105_33 l0_0 l0_1 = some r) ∧ Aside0 (kq ≤ k5) ∧ Aside0 (Kd.S (Kd.slice 3 (Kd.int .i64)) 26 wc w.heap.size (fun _ => True) u6 x6_2) ∧ Aside0 (wc.heap[gb246]? = some (.cells #[(.slice A0_0 l0_0.length c0_0), (.slice A0_1 l0_1.length c0_1)] 25 (0, 0))) ∧ Aside0 (Below w.heap.size w wc))
                 case first =>
                  have H := HC34.out
                  clear HC34
                  by_cases c35 : 0 ≤ x13_5
                  ·rw [if_pos c35] at H
                   have c35b0 : decide (0 ≤ x13_5) = true := decide_eq_true c35
                   clear c35
                   (first | rw [c35b0] | (simp only [i64_w, i32_w]; rw [c35b0]) | skip)
                   by_cases c36 : x13_5 < (l0_0.length : Int)
                   ·rw [if_pos c36] at H
                    have c36b0 : decide (x13_5 < (l0_0.length : Int)) = true := decide_eq_true c36
                    clear c36
                    by_cases c37 : ((rd_T43 l0_0 x13_5).f1) = 1
                    ·rw [if_pos c37] at H
                     have c37b0 : (((rd_T43 l0_0 x13_5).f1) == 1) = true := beq_iff_eq.mpr c37
                     have c37b1 : (((rd_T43 l0_0 x13_5).f1) != 1) = false := bne_eq_false_iff_eq.mpr c37
                     clear c37
                     by_cases c38 : x13_5 = x10_3
                     ·rw [if_pos c38] at H
                      as_aux_lemma =>
                       have c38b0 : (x13_5 == x10_3) = true := beq_iff_eq.mpr c38
                       have c38b1 : (x13_5 != x10_3) = false := bne_eq_false_iff_eq.mpr c38
                       clear c38
                       have H' := Aside0.mk H
                       clear H
                       have hcz39_0 : wr.cell? ⟨gb246, 0, none⟩ = some (.slice A0_0 l0_0.length c0_0) := (blk_cell BK246.out 0).trans rfl
                       have hcz39_1 : wr.cell? ⟨gb246, 1, none⟩ = some (.slice A0_1 l0_1.length c0_1) := (blk_cell BK246.out 1).trans rfl
                       have hfz39_0 := blk_frozen BK246.out 0
                       have hfz39_1 := blk_frozen BK246.out 1
                       have p272 : 0 ≤ (x13_5 : Int) := of_decide_eq_true (by first | (with_reducible assumption) | assumption)
                       have q272 : x13_5 < (l0_0.length : Int) := of_decide_eq_true (by first | (with_reducible assumption) | assumption)
                       obtain ⟨ad272, e272, hx272_0, hx272_1, hx272_2⟩ := at_T43 HR0_0.out x13_5 p272 q272
                       cases e272
                       replace hx272_0 := (HB.out.cell (World.block_lt_of_cell? w _ hx272_0)).trans hx272_0
                       replace hx272_1 := (HB.out.cell (World.block_lt_of_cell? w _ hx272_1)).trans hx272_1
                       replace hx272_2 := (HB.out.cell (World.block_lt_of_cell? w _ hx272_2)).trans hx272_2
                       replace p272 := eq_true p272
                       replace q272 := eq_true q272
                       go_wp2
                       repeat (go_quiet (fail); try go_wp2)
                       go_meet
                       case rel => exact ⟨_, (true), (by first | rfl | (simp; done) | (simp [*]; done)), H', ⟨by have := HJ4.out; have := HK2.out; have := HK3.out; have := HK4.out; have := HK5.out; first | omega | exact Nat.le_refl _⟩, ⟨by (with_reducible repeat (first | apply Kd.S_alloc | apply Kd.S_drewN | apply Kd.S_drew)); exact HO_6.out⟩, ⟨by (with_reducible repeat (first | refine blk_drewN ?_ _ | refine blk_drew ?_ | refine blk_alloc ?_ _)); exact BK246.out⟩, ⟨by repeat (first | (with_reducible first | exact HB.out | apply below_alloc | apply pw_below_drewN | apply below_drew1 | refine below_set ?_ GE246.out) | exact HB.out)⟩⟩
                     ·rw [if_neg c38] at H
                      have c38b0 : (x13_5 == x10_3) = false := beq_eq_false_iff_ne.mpr c38
                      have c38b1 : (x13_5 != x10_3) = true := bne_iff_ne.mpr c38
                      by_cases c40 : x13_5 = x11_4
                      ·rw [if_pos c40] at H
                       as_aux_lemma =>
                        have c40b0 : (x13_5 == x11_4) = true := beq_iff_eq.mpr c40
                        have c40b1 : (x13_5 != x11_4) = false := bne_eq_false_iff_eq.mpr c40
                        clear c40
                        have H' := Aside0.mk H
                        clear H
                        have hcz41_0 : wr.cell? ⟨gb246, 0, none⟩ = some (.slice A0_0 l0_0.length c0_0) := (blk_cell BK246.out 0).trans rfl
                        have hcz41_1 : wr.cell? ⟨gb246, 1, none⟩ = some (.slice A0_1 l0_1.length c0_1) := (blk_cell BK246.out 1).trans rfl
                        have hfz41_0 := blk_frozen BK246.out 0
                        have hfz41_1 := blk_frozen BK246.out 1
                        have p272 : 0 ≤ (x13_5 : Int) := of_decide_eq_true (by first | (with_reducible assumption) | assumption)
                        have q272 : x13_5 < (l0_0.length : Int) := of_decide_eq_true (by first | (with_reducible assumption) | assumption)
                        obtain ⟨ad272, e272, hx272_0, hx272_1, hx272_2⟩ := at_T43 HR0_0.out x13_5 p272 q272
                        cases e272
                        replace hx272_0 := (HB.out.cell (World.block_lt_of_cell? w _ hx272_0)).trans hx272_0
                        replace hx272_1 := (HB.out.cell (World.block_lt_of_cell? w _ hx272_1)).trans hx272_1
                        replace hx272_2 := (HB.out.cell (World.block_lt_of_cell? w _ hx272_2)).trans hx272_2
                        replace p272 := eq_true p272
                        replace q272 := eq_true q272
                        go_wp2
                        repeat (go_quiet (fail); try go_wp2)
                        go_meet
                        case rel => exact ⟨_, (true), (by first | rfl | (simp; done) | (simp [*]; done)), H', ⟨by have := HJ4.out; have := HK2.out; have := HK3.out; have := HK4.out; have := HK5.out; first | omega | exact Nat.le_refl _⟩, ⟨by (with_reducible repeat (first | apply Kd.S_alloc | apply Kd.S_drewN | apply Kd.S_drew)); exact HO_6.out⟩, ⟨by (with_reducible repeat (first | refine blk_drewN ?_ _ | refine blk_drew ?_ | refine blk_alloc ?_ _)); exact BK246.out⟩, ⟨by repeat (first | (with_reducible first | exact HB.out | apply below_alloc | apply pw_below_drewN | apply below_drew1 | refine below_set ?_ GE246.out) | exact HB.out)⟩⟩
                      ·rw [if_neg c40] at H
                       have c40b0 : (x13_5 == x11_4) = false := beq_eq_false_iff_ne.mpr c40
                       have c40b1 : (x13_5 != x11_4) = true := bne_iff_ne.mpr c40
                       by_cases c42 : 0 ≤ x10_3
                       ·rw [if_pos c42] at H
                        have c42b0 : decide (0 ≤ x10_3) = true := decide_eq_true c42
                        clear c42
                        by_cases c43 : x10_3 < (x6_2.length : Int)
                        ·rw [if_pos c43] at H
                         have c43b0 : decide (x10_3 < (x6_2.length : Int)) = true := decide_eq_true c43
                         clear c43
                         by_cases c44 : x13_5 < ((rd_L5 x6_2 x10_3).length : Int)
                         ·rw [if_pos c44] at H
                          have c44b0 : decide (x13_5 < ((rd_L5 x6_2 x10_3).length : Int)) = true := decide_eq_true c44
                          clear c44
                          by_cases c45 : (rd (rd_L5 x6_2 x10_3) x13_5) < 0
                          ·rw [if_pos c45] at H
                           as_aux_lemma =>
                            have c45b0 : decide ((rd (rd_L5 x6_2 x10_3) x13_5) < 0) = true := decide_eq_true c45
                            clear c45
                            have H' := Aside0.mk H
                            clear H
                            have hcz46_0 : wr.cell? ⟨gb246, 0, none⟩ = some (.slice A0_0 l0_0.length c0_0) := (blk_cell BK246.out 0).trans rfl
                            have hcz46_1 : wr.cell? ⟨gb246, 1, none⟩ = some (.slice A0_1 l0_1.length c0_1) := (blk_cell BK246.out 1).trans rfl
                            have hfz46_0 := blk_frozen BK246.out 0
                            have hfz46_1 := blk_frozen BK246.out 1
                            have p272 : 0 ≤ (x13_5 : Int) := of_decide_eq_true (by first | (with_reducible assumption) | assumption)
                            have q272 : x13_5 < (l0_0.length : Int) := of_decide_eq_true (by first | (with_reducible assumption) | assumption)
                            obtain ⟨ad272, e272, hx272_0, hx272_1, hx272_2⟩ := at_T43 HR0_0.out x13_5 p272 q272
                            cases e272
                            replace hx272_0 := (HB.out.cell (World.block_lt_of_cell? w _ hx272_0)).trans hx272_0
                            replace hx272_1 := (HB.out.cell (World.block_lt_of_cell? w _ hx272_1)).trans hx272_1
                            replace hx272_2 := (HB.out.cell (World.block_lt_of_cell? w _ hx272_2)).trans hx272_2
                            replace p272 := eq_true p272
                            replace q272 := eq_true q272
                            obtain ⟨Ao47, co47, eo47⟩ := Kd.S_slice HO_6.out
                            subst eo47
                            have p273 : 0 ≤ (x10_3 : Int) := of_decide_eq_true (by first | (with_reducible assumption) | assumption)
                            have q273 : x10_3 < (x6_2.length : Int) := of_decide_eq_true (by first | (with_reducible assumption) | assumption)
                            obtain ⟨ad273, A273_0, c273_0, e273, hx273_0, hl273_0, hi273_0⟩ := at_L5 (Kd.S_reads' HO_6.out).2.2 x10_3 p273 q273
                            cases e273
                            obtain ⟨ce273, hce273, hMe273, hcc273⟩ := Kd.S_get HO_6.out [] x10_3 p273 (by first | exact q273 | exact of_decide_eq_true (by first | (with_reducible assumption) | assumption) | (have e_ := (Kd.S_reads' HO_6.out).1; omega))
                            obtain ⟨ve273_0, rfl, ge273_0⟩ := hMe273
                            have hv273_0 := hcc273 0 _ rfl
                            rw [Nat.add_zero, show ((Kd.slice 3 (Kd.int .i64))).sz = 1 from rfl, Nat.mul_one] at hv273_0
                            replace hv273_0 := Option.some.inj (hv273_0.symm.trans hx273_0)
                            rw [hv273_0] at ge273_0
                            have HL273_0 := Aside0.mk (show Kd.R (Kd.int .i64) 3 _ _ _ _ (rd_L5 x6_2 x10_3) from ge273_0)
                            clear hv273_0 ge273_0
                            clear hcc273 hce273
                            have HR273_0 := Aside0.mk hi273_0
                            have HC273_0 := Aside0.mk hl273_0
                            clear hi273_0 hl273_0
                            replace p273 := eq_true p273
                            replace q273 := eq_true q273
                            have p274 : 0 ≤ (x13_5 : Int) := of_decide_eq_true (by first | (with_reducible assumption) | assumption)
                            have q274 : x13_5 < ((rd_L5 x6_2 x10_3).length : Int) := of_decide_eq_true (by first | (with_reducible assumption) | assumption)
                            obtain ⟨ad274, e274, hx274_0⟩ := Kd.at_int (by repeat (first | (with_reducible exact HR273_0.out) | (with_reducible refine Kd.C_alloc ?_ _) | (with_reducible refine Kd.C_drewN ?_ _) | (with_reducible refine Kd.C_drew ?_) | exact HR273_0.out)) x13_5 p274 q274
                            cases e274
                            replace p274 := eq_true p274
                            replace q274 := eq_true q274
                            go_wp2
                            repeat (go_quiet (fail); try go_wp2)
                            go_meet
                            case rel => exact ⟨_, (true), (by first | rfl | (simp; done) | (simp [*]; done)), H', ⟨by have := HJ4.out; have := HK2.out; have := HK3.out; have := HK4.out; have := HK5.out; first | omega | exact Nat.le_refl _⟩, ⟨by (with_reducible repeat (first | apply Kd.S_alloc | apply Kd.S_drewN | apply Kd.S_drew)); exact HO_6.out⟩, ⟨by (with_reducible repeat (first | refine blk_drewN ?_ _ | refine blk_drew ?_ | refine blk_alloc ?_ _)); exact BK246.out⟩, ⟨by repeat (first | (with_reducible first | exact HB.out | apply below_alloc | apply pw_below_drewN | apply below_drew1 | refine below_set ?_ GE246.out) | exact HB.out)⟩⟩
                          ·rw [if_neg c45] at H
                           have c45b0 : decide ((rd (rd_L5 x6_2 x10_3) x13_5) < 0) = false := decide_eq_false c45
                           clear c45
                           by_cases c48 : x13_5 < (x6_2.length : Int)
                           ·rw [if_pos c48] at H
                            have c48b0 : decide (x13_5 < (x6_2.length : Int)) = true := decide_eq_true c48
                            clear c48
                            by_cases c49 : 0 ≤ x11_4
                            ·rw [if_pos c49] at H
                             have c49b0 : decide (0 ≤ x11_4) = true := decide_eq_true c49
                             clear c49
                             by_cases c50 : x11_4 < ((rd_L5 x6_2 x13_5).length : Int)
                             ·rw [if_pos c50] at H
                              as_aux_lemma =>
                               have c50b0 : decide (x11_4 < ((rd_L5 x6_2 x13_5).length : Int)) = true := decide_eq_true c50
                               clear c50
                               have H' := Aside0.mk H
                               clear H
                               have hcz51_0 : wr.cell? ⟨gb246, 0, none⟩ = some (.slice A0_0 l0_0.length c0_0) := (blk_cell BK246.out 0).trans rfl
                               have hcz51_1 : wr.cell? ⟨gb246, 1, none⟩ = some (.slice A0_1 l0_1.length c0_1) := (blk_cell BK246.out 1).trans rfl
                               have hfz51_0 := blk_frozen BK246.out 0
                               have hfz51_1 := blk_frozen BK246.out 1
                               have p272 : 0 ≤ (x13_5 : Int) := of_decide_eq_true (by first | (with_reducible assumption) | assumption)
                               have q272 : x13_5 < (l0_0.length : Int) := of_decide_eq_true (by first | (with_reducible assumption) | assumption)
                               obtain ⟨ad272, e272, hx272_0, hx272_1, hx272_2⟩ := at_T43 HR0_0.out x13_5 p272 q272
                               cases e272
                               replace hx272_0 := (HB.out.cell (World.block_lt_of_cell? w _ hx272_0)).trans hx272_0
                               replace hx272_1 := (HB.out.cell (World.block_lt_of_cell? w _ hx272_1)).trans hx272_1
                               replace hx272_2 := (HB.out.cell (World.block_lt_of_cell? w _ hx272_2)).trans hx272_2
                               replace p272 := eq_true p272
                               replace q272 := eq_true q272
                               obtain ⟨Ao52, co52, eo52⟩ := Kd.S_slice HO_6.out
                               subst eo52
                               have p273 : 0 ≤ (x10_3 : Int) := of_decide_eq_true (by first | (with_reducible assumption) | assumption)
                               have q273 : x10_3 < (x6_2.length : Int) := of_decide_eq_true (by first | (with_reducible assumption) | assumption)
                               obtain ⟨ad273, A273_0, c273_0, e273, hx273_0, hl273_0, hi273_0⟩ := at_L5 (Kd.S_reads' HO_6.out).2.2 x10_3 p273 q273
                               cases e273
                               obtain ⟨ce273, hce273, hMe273, hcc273⟩ := Kd.S_get HO_6.out [] x10_3 p273 (by first | exact q273 | exact of_decide_eq_true (by first | (with_reducible assumption) | assumption) | (have e_ := (Kd.S_reads' HO_6.out).1; omega))
                               obtain ⟨ve273_0, rfl, ge273_0⟩ := hMe273
                               have hv273_0 := hcc273 0 _ rfl
                               rw [Nat.add_zero, show ((Kd.slice 3 (Kd.int .i64))).sz = 1 from rfl, Nat.mul_one] at hv273_0
                               replace hv273_0 := Option.some.inj (hv273_0.symm.trans hx273_0)
                               rw [hv273_0] at ge273_0
                               have HL273_0 := Aside0.mk (show Kd.R (Kd.int .i64) 3 _ _ _ _ (rd_L5 x6_2 x10_3) from ge273_0)
                               clear hv273_0 ge273_0
                               clear hcc273 hce273
                               have HR273_0 := Aside0.mk hi273_0
                               have HC273_0 := Aside0.mk hl273_0
                               clear hi273_0 hl273_0
                               replace p273 := eq_true p273
                               replace q273 := eq_true q273
                               have p274 : 0 ≤ (x13_5 : Int) := of_decide_eq_true (by first | (with_reducible assumption) | assumption)
                               have q274 : x13_5 < ((rd_L5 x6_2 x10_3).length : Int) := of_decide_eq_true (by first | (with_reducible assumption) | assumption)
                               obtain ⟨ad274, e274, hx274_0⟩ := Kd.at_int (by repeat (first | (with_reducible exact HR273_0.out) | (with_reducible refine Kd.C_alloc ?_ _) | (with_reducible refine Kd.C_drewN ?_ _) | (with_reducible refine Kd.C_drew ?_) | exact HR273_0.out)) x13_5 p274 q274
                               cases e274
                               replace p274 := eq_true p274
                               replace q274 := eq_true q274
                               have p275 : 0 ≤ (x13_5 : Int) := of_decide_eq_true (by first | (with_reducible assumption) | assumption)
                               have q275 : x13_5 < (x6_2.length : Int) := of_decide_eq_true (by first | (with_reducible assumption) | assumption)
                               obtain ⟨ad275, A275_0, c275_0, e275, hx275_0, hl275_0, hi275_0⟩ := at_L5 (Kd.S_reads' HO_6.out).2.2 x13_5 p275 q275
                               obtain rfl : ad273 = ad275 := (by injection e275)
                               obtain ⟨ce275, hce275, hMe275, hcc275⟩ := Kd.S_get HO_6.out [] x13_5 p275 (by first | exact q275 | exact of_decide_eq_true (by first | (with_reducible assumption) | assumption) | (have e_ := (Kd.S_reads' HO_6.out).1; omega))
                               obtain ⟨ve275_0, rfl, ge275_0⟩ := hMe275
                               have hv275_0 := hcc275 0 _ rfl
                               rw [Nat.add_zero, show ((Kd.slice 3 (Kd.int .i64))).sz = 1 from rfl, Nat.mul_one] at hv275_0
                               replace hv275_0 := Option.some.inj (hv275_0.symm.trans hx275_0)
                               rw [hv275_0] at ge275_0
                               have HL275_0 := Aside0.mk (show Kd.R (Kd.int .i64) 3 _ _ _ _ (rd_L5 x6_2 x13_5) from ge275_0)
                               clear hv275_0 ge275_0
                               clear hcc275 hce275
                               have HR275_0 := Aside0.mk hi275_0
                               have HC275_0 := Aside0.mk hl275_0
                               clear hi275_0 hl275_0
                               replace p275 := eq_true p275
                               replace q275 := eq_true q275
                               have p276 : 0 ≤ (x11_4 : Int) := of_decide_eq_true (by first | (with_reducible assumption) | assumption)
                               have q276 : x11_4 < ((rd_L5 x6_2 x13_5).length : Int) := of_decide_eq_true (by first | (with_reducible assumption) | assumption)
                               obtain ⟨ad276, e276, hx276_0⟩ := Kd.at_int (by repeat (first | (with_reducible exact HR275_0.out) | (with_reducible refine Kd.C_alloc ?_ _) | (with_reducible refine Kd.C_drewN ?_ _) | (with_reducible refine Kd.C_drew ?_) | exact HR275_0.out)) x11_4 p276 q276
                               cases e276
                               replace p276 := eq_true p276
                               replace q276 := eq_true q276
                               go_wp2
                               repeat (go_quiet (fail); try go_wp2)
                               go_meet
                               case rel => exact ⟨_, (decide ((rd (rd_L5 x6_2 x13_5) x11_4) < 0)), (by first | rfl | (simp; done) | (simp [*]; done)), H', ⟨by have := HJ4.out; have := HK2.out; have := HK3.out; have := HK4.out; have := HK5.out; first | omega | exact Nat.le_refl _⟩, ⟨by (with_reducible repeat (first | apply Kd.S_alloc | apply Kd.S_drewN | apply Kd.S_drew)); exact HO_6.out⟩, ⟨by (with_reducible repeat (first | refine blk_drewN ?_ _ | refine blk_drew ?_ | refine blk_alloc ?_ _)); exact BK246.out⟩, ⟨by repeat (first | (with_reducible first | exact HB.out | apply below_alloc | apply pw_below_drewN | apply below_drew1 | refine below_set ?_ GE246.out) | exact HB.out)⟩⟩
                             ·rw [if_neg c50] at H
                              exact absurd H (by simp)
                            ·rw [if_neg c49] at H
                             exact absurd H (by simp)
                           ·rw [if_neg c48] at H
                            exact absurd H (by simp)
                         ·rw [if_neg c44] at H
                          exact absurd H (by simp)
                        ·rw [if_neg c43] at H
                         exact absurd H (by simp)
                       ·rw [if_neg c42] at H
                        exact absurd H (by simp)
                    ·rw [if_neg c37] at H
                     as_aux_lemma =>
                      have c37b0 : (((rd_T43 l0_0 x13_5).f1) == 1) = false := beq_eq_false_iff_ne.mpr c37
                      have c37b1 : (((rd_T43 l0_0 x13_5).f1) != 1) = true := bne_iff_ne.mpr c37
                      have H' := Aside0.mk H
                      clear H
                      have hcz53_0 : wr.cell? ⟨gb246, 0, none⟩ = some (.slice A0_0 l0_0.length c0_0) := (blk_cell BK246.out 0).trans rfl
                      have hcz53_1 : wr.cell? ⟨gb246, 1, none⟩ = some (.slice A0_1 l0_1.length c0_1) := (blk_cell BK246.out 1).trans rfl
                      have hfz53_0 := blk_frozen BK246.out 0
                      have hfz53_1 := blk_frozen BK246.out 1
                      have p272 : 0 ≤ (x13_5 : Int) := of_decide_eq_true (by first | (with_reducible assumption) | assumption)
                      have q272 : x13_5 < (l0_0.length : Int) := of_decide_eq_true (by first | (with_reducible assumption) | assumption)
                      obtain ⟨ad272, e272, hx272_0, hx272_1, hx272_2⟩ := at_T43 HR0_0.out x13_5 p272 q272
                      cases e272
                      replace hx272_0 := (HB.out.cell (World.block_lt_of_cell? w _ hx272_0)).trans hx272_0
                      replace hx272_1 := (HB.out.cell (World.block_lt_of_cell? w _ hx272_1)).trans hx272_1
                      replace hx272_2 := (HB.out.cell (World.block_lt_of_cell? w _ hx272_2)).trans hx272_2
                      replace p272 := eq_true p272
                      replace q272 := eq_true q272
                      go_wp2
                      repeat (go_quiet (fail); try go_wp2)
                      go_meet
                      case rel => exact ⟨_, (true), (by first | rfl | (simp; done) | (simp [*]; done)), H', ⟨by have := HJ4.out; have := HK2.out; have := HK3.out; have := HK4.out; have := HK5.out; first | omega | exact Nat.le_refl _⟩, ⟨by (with_reducible repeat (first | apply Kd.S_alloc | apply Kd.S_drewN | apply Kd.S_drew)); exact HO_6.out⟩, ⟨by (with_reducible repeat (first | refine blk_drewN ?_ _ | refine blk_drew ?_ | refine blk_alloc ?_ _)); exact BK246.out⟩, ⟨by repeat (first | (with_reducible first | exact HB.out | apply below_alloc | apply pw_below_drewN | apply below_drew1 | refine below_set ?_ GE246.out) | exact HB.out)⟩⟩
                   ·rw [if_neg c36] at H
                    exact absurd H (by simp)
                  ·rw [if_neg c35] at H
                   exact absurd H (by simp)
                 case rest =>
                  clear HC34
                  try clear c1
                  try clear c2
                  try clear p2
                  try clear q2
                  try clear hx2
                  try clear c3
                  try clear c4
                  try clear c5
                  try clear p6
                  try clear c9
                  try clear c15
                  try clear c17
                  try clear c17b0
                  try clear c19
                  try clear c19b0
                  try clear c19b1
                  try clear c20
                  try clear c20b0
                  try clear c20b1
                  try clear c20b2
                  try clear c21
                  try clear c27
                  try clear p27
                  try clear q27
                  try clear hx27
                  try clear c31
                  try clear c31b0
                  try clear c32
                  try clear c32b0
                  try clear c33
                  try clear c33b0
                  try clear c35
                  try clear c35b0
                  try clear c36
                  try clear c36b0
                  try clear c37
                  try clear c37b0
                  try clear c37b1
                  try clear c38
                  try clear c38b0
                  try clear c38b1
                  try clear c40
                  try clear c40b0
                  try clear c40b1
                  try clear c42
                  try clear c42b0
                  try clear c43
                  try clear c43b0
                  try clear c44
                  try clear c44b0
                  try clear c45
                  try clear c45b0
                  try clear c48
                  try clear c48b0
                  try clear c49
                  try clear c49b0
                  try clear c50
                  try clear c50b0
                  try clear hcz10_0
                  try clear hcz10_1
                  try clear hcz12_0
                  try clear hcz12_1
                  try clear hcz13_0
                  try clear hcz13_1
                  try clear hcz16_0
                  try clear hcz16_1
                  try clear hcz22_0
                  try clear hcz22_1
                  try clear hcz26_0
                  try clear hcz26_1
                  try clear hcz29_0
                  try clear hcz29_1
                  try clear hcz39_0
                  try clear hcz39_1
                  try clear hcz41_0
                  try clear hcz41_1
                  try clear hcz46_0
                  try clear hcz46_1
                  try clear hcz51_0
                  try clear hcz51_1
                  try clear hcz53_0
                  try clear hcz53_1
                  try clear hfz10_0
                  try clear hfz10_1
                  try clear hfz12_0
                  try clear hfz12_1
                  try clear hfz13_0
                  try clear hfz13_1
                  try clear hfz16_0
                  try clear hfz16_1
                  try clear hfz22_0
                  try clear hfz22_1
                  try clear hfz26_0
                  try clear hfz26_1
                  try clear hfz29_0
                  try clear hfz29_1
                  try clear hfz39_0
                  try clear hfz39_1
                  try clear hfz41_0
                  try clear hfz41_1
                  try clear hfz46_0
                  try clear hfz46_1
                  try clear hfz51_0
                  try clear hfz51_1
                  try clear hfz53_0
                  try clear hfz53_1
                  try clear hx272_0
                  try clear hx272_1
                  try clear hx272_2
                  try clear hx273_0
                  try clear hx274_0
                  try clear hx275_0
                  try clear hx276_0
                  try clear p2
                  try clear p272
                  try clear p273
                  try clear p274
                  try clear p275
                  try clear p276
                  try clear p6
                  try clear q272
                  try clear q273
                  try clear q274
                  try clear q275
                  try clear q276
                  obtain ⟨kq, x105_33, rfl, HA, HJ33, HO_6, BK246, HB⟩ := hcut
                  cases kq with
                  | zero => exact absurd HA.out (by simp [stillagelaw07_ReachSums.j5])
                  | succ kj33 =>
                   have H := HA.out
                   clear HA
                   simp only [stillagelaw07_ReachSums.j5] at H
                   by_cases c54 : x105_33 = true
                   ·subst c54
                    as_aux_lemma =>
                     have H1 : (stillagelaw07_ReachSums.l3 kj33 (l0_0.length : Int) x6_2 x10_3 x11_4 x12_5 (wrap64 (x13_5 + 1)) l0_0 l0_1) = some r := by rw [if_pos rfl] at H; exact H
                     clear H
                     have H := H1
                     clear H1
                     have H' := Aside0.mk H
                     clear H
                     go_wp2
                     repeat (go_quiet (fail); try go_wp2)
                     go_roundg kj33
                     case measure => have := HJ4.out; have := HK2.out; have := HK3.out; have := HK4.out; have := HK5.out; have := HJ33.out; omega
                     case rel => exact ⟨(x12_5), (wrap64 (x13_5 + 1)), (by first | rfl | (simp; done) | (simp [*]; done)), (by first | rfl | (simp; done) | (simp [*]; done)), H', ⟨by have := HJ4.out; have := HK2.out; have := HK3.out; have := HK4.out; have := HK5.out; have := HJ33.out; omega⟩, ⟨by (with_reducible repeat (first | apply Kd.S_alloc | apply Kd.S_drewN | apply Kd.S_drew)); exact HO_6.out⟩, ⟨by (with_reducible repeat (first | refine blk_drewN ?_ _ | refine blk_drew ?_ | refine blk_alloc ?_ _)); exact BK246.out⟩, ⟨by repeat (first | (with_reducible first | exact HB.out | apply below_alloc | apply pw_below_drewN | apply below_drew1 | refine below_set ?_ GE246.out) | exact HB.out)⟩⟩
                   ·replace c54 := Bool.eq_false_iff.mpr c54
                    subst c54
                    have H1 : (if 0 ≤ x10_3 then (if x10_3 < (x6_2.length : Int) then (if 0 ≤ x13_5 then (if x13_5 < ((rd_L5 x6_2 x10_3).length : Int) then (if x13_5 < (x6_2.length : Int) then (if 0 ≤ x11_4 then (if x11_4 < ((rd_L5 x6_2 x13_5).length : Int) then (if x12_5 < 0 then (stillagelaw07_ReachSums.l3 kj33 (l0_0.length : Int) x6_2 x10_3 x11_4 (wrap64 ((rd (rd_L5 x6_2 x10_3) x13_5) + (rd (rd_L5 x6_2 x13_5) x11_4))) (wrap64 (x13_5 + 1)) l0_0 l0_1) else (if (wrap64 ((rd (rd_L5 x6_2 x10_3) x13_5) + (rd (rd_L5 x6_2 x13_5) x11_4))) < x12_5 then (stillagelaw07_ReachSums.l3 kj33 (l0_0.length : Int) x6_2 x10_3 x11_4 (wrap64 ((rd (rd_L5 x6_2 x10_3) x13_5) + (rd (rd_L5 x6_2 x13_5) x11_4))) (wrap64 (x13_5 + 1)) l0_0 l0_1) else (stillagelaw07_ReachSums.l3 kj33 (l0_0.length : Int) x6_2 x10_3 x11_4 x12_5 (wrap64 (x13_5 + 1)) l0_0 l0_1))) else (none)) else (none)) else (none)) else (none)) else (none)) else (none)) else (none)) = some r := by rw [if_neg (show ¬ (false = true) by decide)] at H; exact H
                    clear H
                    have H := H1
                    clear H1
                    by_cases c55 : 0 ≤ x10_3
                    ·rw [if_pos c55] at H
                     have c55b0 : decide (0 ≤ x10_3) = true := decide_eq_true c55
                     clear c55
                     by_cases c56 : x10_3 < (x6_2.length : Int)
                     ·rw [if_pos c56] at H
                      have c56b0 : decide (x10_3 < (x6_2.length : Int)) = true := decide_eq_true c56
                      clear c56
                      by_cases c57 : 0 ≤ x13_5
                      ·rw [if_pos c57] at H
                       have c57b0 : decide (0 ≤ x13_5) = true := decide_eq_true c57
                       clear c57
                       by_cases c58 : x13_5 < ((rd_L5 x6_2 x10_3).length : Int)
                       ·rw [if_pos c58] at H
                        have c58b0 : decide (x13_5 < ((rd_L5 x6_2 x10_3).length : Int)) = true := decide_eq_true c58
                        clear c58
                        by_cases c59 : x13_5 < (x6_2.length : Int)
                        ·rw [if_pos c59] at H
                         have c59b0 : decide (x13_5 < (x6_2.length : Int)) = true := decide_eq_true c59
                         clear c59
                         by_cases c60 : 0 ≤ x11_4
                         ·rw [if_pos c60] at H
                          have c60b0 : decide (0 ≤ x11_4) = true := decide_eq_true c60
                          clear c60
                          by_cases c61 : x11_4 < ((rd_L5 x6_2 x13_5).length : Int)
                          ·rw [if_pos c61] at H
                           have c61b0 : decide (x11_4 < ((rd_L5 x6_2 x13_5).length : Int)) = true := decide_eq_true c61
                           clear c61
                           by_cases c62 : x12_5 < 0
                           ·rw [if_pos c62] at H
                            as_aux_lemma =>
                             have c62b0 : decide (x12_5 < 0) = true := decide_eq_true c62
                             clear c62
                             have H' := Aside0.mk H
                             clear H
                             obtain ⟨Ao63, co63, eo63⟩ := Kd.S_slice HO_6.out
                             subst eo63
                             have p277 : 0 ≤ (x10_3 : Int) := of_decide_eq_true (by first | (with_reducible assumption) | assumption)
                             have q277 : x10_3 < (x6_2.length : Int) := of_decide_eq_true (by first | (with_reducible assumption) | assumption)
                             obtain ⟨ad277, A277_0, c277_0, e277, hx277_0, hl277_0, hi277_0⟩ := at_L5 (Kd.S_reads' HO_6.out).2.2 x10_3 p277 q277
                             cases e277
                             obtain ⟨ce277, hce277, hMe277, hcc277⟩ := Kd.S_get HO_6.out [] x10_3 p277 (by first | exact q277 | exact of_decide_eq_true (by first | (with_reducible assumption) | assumption) | (have e_ := (Kd.S_reads' HO_6.out).1; omega))
                             obtain ⟨ve277_0, rfl, ge277_0⟩ := hMe277
                             have hv277_0 := hcc277 0 _ rfl
                             rw [Nat.add_zero, show ((Kd.slice 3 (Kd.int .i64))).sz = 1 from rfl, Nat.mul_one] at hv277_0
                             replace hv277_0 := Option.some.inj (hv277_0.symm.trans hx277_0)
                             rw [hv277_0] at ge277_0
                             have HL277_0 := Aside0.mk (show Kd.R (Kd.int .i64) 3 _ _ _ _ (rd_L5 x6_2 x10_3) from ge277_0)
                             clear hv277_0 ge277_0
                             clear hcc277 hce277
                             have HR277_0 := Aside0.mk hi277_0
                             have HC277_0 := Aside0.mk hl277_0
                             clear hi277_0 hl277_0
                             replace p277 := eq_true p277
                             replace q277 := eq_true q277
                             have p278 : 0 ≤ (x13_5 : Int) := of_decide_eq_true (by first | (with_reducible assumption) | assumption)
                             have q278 : x13_5 < ((rd_L5 x6_2 x10_3).length : Int) := of_decide_eq_true (by first | (with_reducible assumption) | assumption)
                             obtain ⟨ad278, e278, hx278_0⟩ := Kd.at_int (by repeat (first | (with_reducible exact HR277_0.out) | (with_reducible refine Kd.C_alloc ?_ _) | (with_reducible refine Kd.C_drewN ?_ _) | (with_reducible refine Kd.C_drew ?_) | exact HR277_0.out)) x13_5 p278 q278
                             cases e278
                             replace p278 := eq_true p278
                             replace q278 := eq_true q278
                             have p279 : 0 ≤ (x13_5 : Int) := of_decide_eq_true (by first | (with_reducible assumption) | assumption)
                             have q279 : x13_5 < (x6_2.length : Int) := of_decide_eq_true (by first | (with_reducible assumption) | assumption)
                             obtain ⟨ad279, A279_0, c279_0, e279, hx279_0, hl279_0, hi279_0⟩ := at_L5 (Kd.S_reads' HO_6.out).2.2 x13_5 p279 q279
                             obtain rfl : ad277 = ad279 := (by injection e279)
                             obtain ⟨ce279, hce279, hMe279, hcc279⟩ := Kd.S_get HO_6.out [] x13_5 p279 (by first | exact q279 | exact of_decide_eq_true (by first | (with_reducible assumption) | assumption) | (have e_ := (Kd.S_reads' HO_6.out).1; omega))
                             obtain ⟨ve279_0, rfl, ge279_0⟩ := hMe279
                             have hv279_0 := hcc279 0 _ rfl
                             rw [Nat.add_zero, show ((Kd.slice 3 (Kd.int .i64))).sz = 1 from rfl, Nat.mul_one] at hv279_0
                             replace hv279_0 := Option.some.inj (hv279_0.symm.trans hx279_0)
                             rw [hv279_0] at ge279_0
                             have HL279_0 := Aside0.mk (show Kd.R (Kd.int .i64) 3 _ _ _ _ (rd_L5 x6_2 x13_5) from ge279_0)
                             clear hv279_0 ge279_0
                             clear hcc279 hce279
                             have HR279_0 := Aside0.mk hi279_0
                             have HC279_0 := Aside0.mk hl279_0
                             clear hi279_0 hl279_0
                             replace p279 := eq_true p279
                             replace q279 := eq_true q279
                             have p280 : 0 ≤ (x11_4 : Int) := of_decide_eq_true (by first | (with_reducible assumption) | assumption)
                             have q280 : x11_4 < ((rd_L5 x6_2 x13_5).length : Int) := of_decide_eq_true (by first | (with_reducible assumption) | assumption)
                             obtain ⟨ad280, e280, hx280_0⟩ := Kd.at_int (by repeat (first | (with_reducible exact HR279_0.out) | (with_reducible refine Kd.C_alloc ?_ _) | (with_reducible refine Kd.C_drewN ?_ _) | (with_reducible refine Kd.C_drew ?_) | exact HR279_0.out)) x11_4 p280 q280
                             cases e280
                             replace p280 := eq_true p280
                             replace q280 := eq_true q280
                             go_wp2
                             repeat (go_quiet (fail); try go_wp2)
                             go_roundg kj33
                             case measure => have := HJ4.out; have := HK2.out; have := HK3.out; have := HK4.out; have := HK5.out; have := HJ33.out; omega
                             case rel => exact ⟨(wrap64 ((rd (rd_L5 x6_2 x10_3) x13_5) + (rd (rd_L5 x6_2 x13_5) x11_4))), (wrap64 (x13_5 + 1)), (by first | rfl | (simp; done) | (simp [*]; done)), (by first | rfl | (simp; done) | (simp [*]; done)), H', ⟨by have := HJ4.out; have := HK2.out; have := HK3.out; have := HK4.out; have := HK5.out; have := HJ33.out; omega⟩, ⟨by (with_reducible repeat (first | apply Kd.S_alloc | apply Kd.S_drewN | apply Kd.S_drew)); exact HO_6.out⟩, ⟨by (with_reducible repeat (first | refine blk_drewN ?_ _ | refine blk_drew ?_ | refine blk_alloc ?_ _)); exact BK246.out⟩, ⟨by repeat (first | (with_reducible first | exact HB.out | apply below_alloc | apply pw_below_drewN | apply below_drew1 | refine below_set ?_ GE246.out) | exact HB.out)⟩⟩
                           ·rw [if_neg c62] at H
                            have c62b0 : decide (x12_5 < 0) = false := decide_eq_false c62
                            clear c62
                            by_cases c64 : (wrap64 ((rd (rd_L5 x6_2 x10_3) x13_5) + (rd (rd_L5 x6_2 x13_5) x11_4))) < x12_5
                            ·rw [if_pos c64] at H
                             as_aux_lemma =>
                              have c64b0 : decide ((wrap64 ((rd (rd_L5 x6_2 x10_3) x13_5) + (rd (rd_L5 x6_2 x13_5) x11_4))) < x12_5) = true := decide_eq_true c64
                              clear c64
                              have H' := Aside0.mk H
                              clear H
                              obtain ⟨Ao65, co65, eo65⟩ := Kd.S_slice HO_6.out
                              subst eo65
                              have p277 : 0 ≤ (x10_3 : Int) := of_decide_eq_true (by first | (with_reducible assumption) | assumption)
                              have q277 : x10_3 < (x6_2.length : Int) := of_decide_eq_true (by first | (with_reducible assumption) | assumption)
                              obtain ⟨ad277, A277_0, c277_0, e277, hx277_0, hl277_0, hi277_0⟩ := at_L5 (Kd.S_reads' HO_6.out).2.2 x10_3 p277 q277
                              cases e277
                              obtain ⟨ce277, hce277, hMe277, hcc277⟩ := Kd.S_get HO_6.out [] x10_3 p277 (by first | exact q277 | exact of_decide_eq_true (by first | (with_reducible assumption) | assumption) | (have e_ := (Kd.S_reads' HO_6.out).1; omega))
                              obtain ⟨ve277_0, rfl, ge277_0⟩ := hMe277
                              have hv277_0 := hcc277 0 _ rfl
                              rw [Nat.add_zero, show ((Kd.slice 3 (Kd.int .i64))).sz = 1 from rfl, Nat.mul_one] at hv277_0
                              replace hv277_0 := Option.some.inj (hv277_0.symm.trans hx277_0)
                              rw [hv277_0] at ge277_0
                              have HL277_0 := Aside0.mk (show Kd.R (Kd.int .i64) 3 _ _ _ _ (rd_L5 x6_2 x10_3) from ge277_0)
                              clear hv277_0 ge277_0
                              clear hcc277 hce277
                              have HR277_0 := Aside0.mk hi277_0
                              have HC277_0 := Aside0.mk hl277_0
                              clear hi277_0 hl277_0
                              replace p277 := eq_true p277
                              replace q277 := eq_true q277
                              have p278 : 0 ≤ (x13_5 : Int) := of_decide_eq_true (by first | (with_reducible assumption) | assumption)
                              have q278 : x13_5 < ((rd_L5 x6_2 x10_3).length : Int) := of_decide_eq_true (by first | (with_reducible assumption) | assumption)
                              obtain ⟨ad278, e278, hx278_0⟩ := Kd.at_int (by repeat (first | (with_reducible exact HR277_0.out) | (with_reducible refine Kd.C_alloc ?_ _) | (with_reducible refine Kd.C_drewN ?_ _) | (with_reducible refine Kd.C_drew ?_) | exact HR277_0.out)) x13_5 p278 q278
                              cases e278
                              replace p278 := eq_true p278
                              replace q278 := eq_true q278
                              have p279 : 0 ≤ (x13_5 : Int) := of_decide_eq_true (by first | (with_reducible assumption) | assumption)
                              have q279 : x13_5 < (x6_2.length : Int) := of_decide_eq_true (by first | (with_reducible assumption) | assumption)
                              obtain ⟨ad279, A279_0, c279_0, e279, hx279_0, hl279_0, hi279_0⟩ := at_L5 (Kd.S_reads' HO_6.out).2.2 x13_5 p279 q279
                              obtain rfl : ad277 = ad279 := (by injection e279)
                              obtain ⟨ce279, hce279, hMe279, hcc279⟩ := Kd.S_get HO_6.out [] x13_5 p279 (by first | exact q279 | exact of_decide_eq_true (by first | (with_reducible assumption) | assumption) | (have e_ := (Kd.S_reads' HO_6.out).1; omega))
                              obtain ⟨ve279_0, rfl, ge279_0⟩ := hMe279
                              have hv279_0 := hcc279 0 _ rfl
                              rw [Nat.add_zero, show ((Kd.slice 3 (Kd.int .i64))).sz = 1 from rfl, Nat.mul_one] at hv279_0
                              replace hv279_0 := Option.some.inj (hv279_0.symm.trans hx279_0)
                              rw [hv279_0] at ge279_0
                              have HL279_0 := Aside0.mk (show Kd.R (Kd.int .i64) 3 _ _ _ _ (rd_L5 x6_2 x13_5) from ge279_0)
                              clear hv279_0 ge279_0
                              clear hcc279 hce279
                              have HR279_0 := Aside0.mk hi279_0
                              have HC279_0 := Aside0.mk hl279_0
                              clear hi279_0 hl279_0
                              replace p279 := eq_true p279
                              replace q279 := eq_true q279
                              have p280 : 0 ≤ (x11_4 : Int) := of_decide_eq_true (by first | (with_reducible assumption) | assumption)
                              have q280 : x11_4 < ((rd_L5 x6_2 x13_5).length : Int) := of_decide_eq_true (by first | (with_reducible assumption) | assumption)
                              obtain ⟨ad280, e280, hx280_0⟩ := Kd.at_int (by repeat (first | (with_reducible exact HR279_0.out) | (with_reducible refine Kd.C_alloc ?_ _) | (with_reducible refine Kd.C_drewN ?_ _) | (with_reducible refine Kd.C_drew ?_) | exact HR279_0.out)) x11_4 p280 q280
                              cases e280
                              replace p280 := eq_true p280
                              replace q280 := eq_true q280
                              go_wp2
                              repeat (go_quiet (fail); try go_wp2)
                              go_roundg kj33
                              case measure => have := HJ4.out; have := HK2.out; have := HK3.out; have := HK4.out; have := HK5.out; have := HJ33.out; omega
                              case rel => exact ⟨(wrap64 ((rd (rd_L5 x6_2 x10_3) x13_5) + (rd (rd_L5 x6_2 x13_5) x11_4))), (wrap64 (x13_5 + 1)), (by first | rfl | (simp; done) | (simp [*]; done)), (by first | rfl | (simp; done) | (simp [*]; done)), H', ⟨by have := HJ4.out; have := HK2.out; have := HK3.out; have := HK4.out; have := HK5.out; have := HJ33.out; omega⟩, ⟨by (with_reducible repeat (first | apply Kd.S_alloc | apply Kd.S_drewN | apply Kd.S_drew)); exact HO_6.out⟩, ⟨by (with_reducible repeat (first | refine blk_drewN ?_ _ | refine blk_drew ?_ | refine blk_alloc ?_ _)); exact BK246.out⟩, ⟨by repeat (first | (with_reducible first | exact HB.out | apply below_alloc | apply pw_below_drewN | apply below_drew1 | refine below_set ?_ GE246.out) | exact HB.out)⟩⟩
                            ·rw [if_neg c64] at H
                             as_aux_lemma =>
                              have c64b0 : decide ((wrap64 ((rd (rd_L5 x6_2 x10_3) x13_5) + (rd (rd_L5 x6_2 x13_5) x11_4))) < x12_5) = false := decide_eq_false c64
                              clear c64
                              have H' := Aside0.mk H
                              clear H
                              obtain ⟨Ao66, co66, eo66⟩ := Kd.S_slice HO_6.out
                              subst eo66
                              have p277 : 0 ≤ (x10_3 : Int) := of_decide_eq_true (by first | (with_reducible assumption) | assumption)
                              have q277 : x10_3 < (x6_2.length : Int) := of_decide_eq_true (by first | (with_reducible assumption) | assumption)
                              obtain ⟨ad277, A277_0, c277_0, e277, hx277_0, hl277_0, hi277_0⟩ := at_L5 (Kd.S_reads' HO_6.out).2.2 x10_3 p277 q277
                              cases e277
                              obtain ⟨ce277, hce277, hMe277, hcc277⟩ := Kd.S_get HO_6.out [] x10_3 p277 (by first | exact q277 | exact of_decide_eq_true (by first | (with_reducible assumption) | assumption) | (have e_ := (Kd.S_reads' HO_6.out).1; omega))
                              obtain ⟨ve277_0, rfl, ge277_0⟩ := hMe277
                              have hv277_0 := hcc277 0 _ rfl
                              rw [Nat.add_zero, show ((Kd.slice 3 (Kd.int .i64))).sz = 1 from rfl, Nat.mul_one] at hv277_0
                              replace hv277_0 := Option.some.inj (hv277_0.symm.trans hx277_0)
                              rw [hv277_0] at ge277_0
                              have HL277_0 := Aside0.mk (show Kd.R (Kd.int .i64) 3 _ _ _ _ (rd_L5 x6_2 x10_3) from ge277_0)
                              clear hv277_0 ge277_0
                              clear hcc277 hce277
                              have HR277_0 := Aside0.mk hi277_0
                              have HC277_0 := Aside0.mk hl277_0
                              clear hi277_0 hl277_0
                              replace p277 := eq_true p277
                              replace q277 := eq_true q277
                              have p278 : 0 ≤ (x13_5 : Int) := of_decide_eq_true (by first | (with_reducible assumption) | assumption)
                              have q278 : x13_5 < ((rd_L5 x6_2 x10_3).length : Int) := of_decide_eq_true (by first | (with_reducible assumption) | assumption)
                              obtain ⟨ad278, e278, hx278_0⟩ := Kd.at_int (by repeat (first | (with_reducible exact HR277_0.out) | (with_reducible refine Kd.C_alloc ?_ _) | (with_reducible refine Kd.C_drewN ?_ _) | (with_reducible refine Kd.C_drew ?_) | exact HR277_0.out)) x13_5 p278 q278
                              cases e278
                              replace p278 := eq_true p278
                              replace q278 := eq_true q278
                              have p279 : 0 ≤ (x13_5 : Int) := of_decide_eq_true (by first | (with_reducible assumption) | assumption)
                              have q279 : x13_5 < (x6_2.length : Int) := of_decide_eq_true (by first | (with_reducible assumption) | assumption)
                              obtain ⟨ad279, A279_0, c279_0, e279, hx279_0, hl279_0, hi279_0⟩ := at_L5 (Kd.S_reads' HO_6.out).2.2 x13_5 p279 q279
                              obtain rfl : ad277 = ad279 := (by injection e279)
                              obtain ⟨ce279, hce279, hMe279, hcc279⟩ := Kd.S_get HO_6.out [] x13_5 p279 (by first | exact q279 | exact of_decide_eq_true (by first | (with_reducible assumption) | assumption) | (have e_ := (Kd.S_reads' HO_6.out).1; omega))
                              obtain ⟨ve279_0, rfl, ge279_0⟩ := hMe279
                              have hv279_0 := hcc279 0 _ rfl
                              rw [Nat.add_zero, show ((Kd.slice 3 (Kd.int .i64))).sz = 1 from rfl, Nat.mul_one] at hv279_0
                              replace hv279_0 := Option.some.inj (hv279_0.symm.trans hx279_0)
                              rw [hv279_0] at ge279_0
                              have HL279_0 := Aside0.mk (show Kd.R (Kd.int .i64) 3 _ _ _ _ (rd_L5 x6_2 x13_5) from ge279_0)
                              clear hv279_0 ge279_0
                              clear hcc279 hce279
                              have HR279_0 := Aside0.mk hi279_0
                              have HC279_0 := Aside0.mk hl279_0
                              clear hi279_0 hl279_0
                              replace p279 := eq_true p279
                              replace q279 := eq_true q279
                              have p280 : 0 ≤ (x11_4 : Int) := of_decide_eq_true (by first | (with_reducible assumption) | assumption)
                              have q280 : x11_4 < ((rd_L5 x6_2 x13_5).length : Int) := of_decide_eq_true (by first | (with_reducible assumption) | assumption)
                              obtain ⟨ad280, e280, hx280_0⟩ := Kd.at_int (by repeat (first | (with_reducible exact HR279_0.out) | (with_reducible refine Kd.C_alloc ?_ _) | (with_reducible refine Kd.C_drewN ?_ _) | (with_reducible refine Kd.C_drew ?_) | exact HR279_0.out)) x11_4 p280 q280
                              cases e280
                              replace p280 := eq_true p280
                              replace q280 := eq_true q280
                              go_wp2
                              repeat (go_quiet (fail); try go_wp2)
                              go_roundg kj33
                              case measure => have := HJ4.out; have := HK2.out; have := HK3.out; have := HK4.out; have := HK5.out; have := HJ33.out; omega
                              case rel => exact ⟨(x12_5), (wrap64 (x13_5 + 1)), (by first | rfl | (simp; done) | (simp [*]; done)), (by first | rfl | (simp; done) | (simp [*]; done)), H', ⟨by have := HJ4.out; have := HK2.out; have := HK3.out; have := HK4.out; have := HK5.out; have := HJ33.out; omega⟩, ⟨by (with_reducible repeat (first | apply Kd.S_alloc | apply Kd.S_drewN | apply Kd.S_drew)); exact HO_6.out⟩, ⟨by (with_reducible repeat (first | refine blk_drewN ?_ _ | refine blk_drew ?_ | refine blk_alloc ?_ _)); exact BK246.out⟩, ⟨by repeat (first | (with_reducible first | exact HB.out | apply below_alloc | apply pw_below_drewN | apply below_drew1 | refine below_set ?_ GE246.out) | exact HB.out)⟩⟩
                          ·rw [if_neg c61] at H
                           exact absurd H (by simp)
                         ·rw [if_neg c60] at H
                          exact absurd H (by simp)
                        ·rw [if_neg c59] at H
                         exact absurd H (by simp)
                       ·rw [if_neg c58] at H
                        exact absurd H (by simp)
                      ·rw [if_neg c57] at H
                       exact absurd H (by simp)
                     ·rw [if_neg c56] at H
                      exact absurd H (by simp)
                    ·rw [if_neg c55] at H
                     exact absurd H (by simp)
                ·rw [if_neg c33] at H
                 have c33b0 : decide (x13_5 < (l0_0.length : Int)) = false := decide_eq_false c33
                 clear c33
                 by_cases c67 : x12_5 ≥ 0
                 ·rw [if_pos c67] at H
                  have c67b0 : decide (0 ≤ x12_5) = true := decide_eq_true c67
                  clear c67
                  by_cases c68 : x10_3 = x11_4
                  ·rw [if_pos c68] at H
                   have c68b0 : (x10_3 == x11_4) = true := beq_iff_eq.mpr c68
                   have c68b1 : (x10_3 != x11_4) = false := bne_eq_false_iff_eq.mpr c68
                   clear c68
                   by_cases c69 : 0 ≤ x10_3
                   ·rw [if_pos c69] at H
                    have c69b0 : decide (0 ≤ x10_3) = true := decide_eq_true c69
                    clear c69
                    by_cases c70 : x10_3 < (x6_2.length : Int)
                    ·rw [if_pos c70] at H
                     have c70b0 : decide (x10_3 < (x6_2.length : Int)) = true := decide_eq_true c70
                     clear c70
                     by_cases c71 : 0 ≤ x11_4
                     ·rw [if_pos c71] at H
                      have c71b0 : decide (0 ≤ x11_4) = true := decide_eq_true c71
                      clear c71
                      by_cases c72 : x11_4 < ((rd_L5 x6_2 x10_3).length : Int)
                      ·rw [if_pos c72] at H
                       have c72b0 : decide (x11_4 < ((rd_L5 x6_2 x10_3).length : Int)) = true := decide_eq_true c72
                       clear c72
                       by_cases c73 : (rd (rd_L5 x6_2 x10_3) x11_4) ≥ 2
                       ·rw [if_pos c73] at H
                        have c73b0 : decide (2 ≤ (rd (rd_L5 x6_2 x10_3) x11_4)) = true := decide_eq_true c73
                        clear c73
                        by_cases c74 : (rd (rd_L5 x6_2 x10_3) x11_4) = x12_5
                        ·rw [if_pos c74] at H
                         as_aux_lemma =>
                          have c74b0 : ((rd (rd_L5 x6_2 x10_3) x11_4) == x12_5) = true := beq_iff_eq.mpr c74
                          have c74b1 : ((rd (rd_L5 x6_2 x10_3) x11_4) != x12_5) = false := bne_eq_false_iff_eq.mpr c74
                          clear c74
                          have H' := Aside0.mk H
                          clear H
                          obtain ⟨Ao75, co75, eo75⟩ := Kd.S_slice HO_6.out
                          subst eo75
                          have p256 : 0 ≤ (x10_3 : Int) := of_decide_eq_true (by first | (with_reducible assumption) | assumption)
                          have q256 : x10_3 < (x6_2.length : Int) := of_decide_eq_true (by first | (with_reducible assumption) | assumption)
                          obtain ⟨ad256, A256_0, c256_0, e256, hx256_0, hl256_0, hi256_0⟩ := at_L5 (Kd.S_reads' HO_6.out).2.2 x10_3 p256 q256
                          cases e256
                          obtain ⟨ce256, hce256, hMe256, hcc256⟩ := Kd.S_get HO_6.out [] x10_3 p256 (by first | exact q256 | exact of_decide_eq_true (by first | (with_reducible assumption) | assumption) | (have e_ := (Kd.S_reads' HO_6.out).1; omega))
                          obtain ⟨ve256_0, rfl, ge256_0⟩ := hMe256
                          have hv256_0 := hcc256 0 _ rfl
                          rw [Nat.add_zero, show ((Kd.slice 3 (Kd.int .i64))).sz = 1 from rfl, Nat.mul_one] at hv256_0
                          replace hv256_0 := Option.some.inj (hv256_0.symm.trans hx256_0)
                          rw [hv256_0] at ge256_0
                          have HL256_0 := Aside0.mk (show Kd.R (Kd.int .i64) 3 _ _ _ _ (rd_L5 x6_2 x10_3) from ge256_0)
                          clear hv256_0 ge256_0
                          clear hcc256 hce256
                          have HR256_0 := Aside0.mk hi256_0
                          have HC256_0 := Aside0.mk hl256_0
                          clear hi256_0 hl256_0
                          replace p256 := eq_true p256
                          replace q256 := eq_true q256
                          have p257 : 0 ≤ (x11_4 : Int) := of_decide_eq_true (by first | (with_reducible assumption) | assumption)
                          have q257 : x11_4 < ((rd_L5 x6_2 x10_3).length : Int) := of_decide_eq_true (by first | (with_reducible assumption) | assumption)
                          obtain ⟨ad257, e257, hx257_0⟩ := Kd.at_int (by repeat (first | (with_reducible exact HR256_0.out) | (with_reducible refine Kd.C_alloc ?_ _) | (with_reducible refine Kd.C_drewN ?_ _) | (with_reducible refine Kd.C_drew ?_) | exact HR256_0.out)) x11_4 p257 q257
                          cases e257
                          replace p257 := eq_true p257
                          replace q257 := eq_true q257
                          have p258 : 0 ≤ (x10_3 : Int) := of_decide_eq_true (by first | (with_reducible assumption) | assumption)
                          have q258 : x10_3 < (x6_2.length : Int) := of_decide_eq_true (by first | (with_reducible assumption) | assumption)
                          obtain ⟨ad258, A258_0, c258_0, e258, hx258_0, hl258_0, hi258_0⟩ := at_L5 (Kd.S_reads' HO_6.out).2.2 x10_3 p258 q258
                          obtain rfl : ad256 = ad258 := (by injection e258)
                          obtain ⟨ce258, hce258, hMe258, hcc258⟩ := Kd.S_get HO_6.out [] x10_3 p258 (by first | exact q258 | exact of_decide_eq_true (by first | (with_reducible assumption) | assumption) | (have e_ := (Kd.S_reads' HO_6.out).1; omega))
                          obtain ⟨ve258_0, rfl, ge258_0⟩ := hMe258
                          have hv258_0 := hcc258 0 _ rfl
                          rw [Nat.add_zero, show ((Kd.slice 3 (Kd.int .i64))).sz = 1 from rfl, Nat.mul_one] at hv258_0
                          replace hv258_0 := Option.some.inj (hv258_0.symm.trans hx258_0)
                          rw [hv258_0] at ge258_0
                          have HL258_0 := Aside0.mk (show Kd.R (Kd.int .i64) 3 _ _ _ _ (rd_L5 x6_2 x10_3) from ge258_0)
                          clear hv258_0 ge258_0
                          clear hcc258 hce258
                          have HR258_0 := Aside0.mk hi258_0
                          have HC258_0 := Aside0.mk hl258_0
                          clear hi258_0 hl258_0
                          replace p258 := eq_true p258
                          replace q258 := eq_true q258
                          have ea_ := Option.some.inj (hx256_0.symm.trans hx258_0)
                          injection ea_ with ea_ en_ ec_
                          subst ea_
                          subst ec_
                          clear en_
                          have p259 : 0 ≤ (x11_4 : Int) := of_decide_eq_true (by first | (with_reducible assumption) | assumption)
                          have q259 : x11_4 < ((rd_L5 x6_2 x10_3).length : Int) := of_decide_eq_true (by first | (with_reducible assumption) | assumption)
                          obtain ⟨ad259, e259, hx259_0⟩ := Kd.at_int (by repeat (first | (with_reducible exact HR258_0.out) | (with_reducible refine Kd.C_alloc ?_ _) | (with_reducible refine Kd.C_drewN ?_ _) | (with_reducible refine Kd.C_drew ?_) | exact HR258_0.out)) x11_4 p259 q259
                          cases e259
                          replace p259 := eq_true p259
                          replace q259 := eq_true q259
                          go_wp2
                          repeat (go_quiet (fail); try go_wp2)
                          go_roundg k5
                          case measure => have := HJ4.out; have := HK2.out; have := HK3.out; have := HK4.out; have := HK5.out; omega
                          case rel => exact ⟨(wrap64 (x11_4 + 1)), (by first | rfl | (simp; done) | (simp [*]; done)), H', ⟨by have := HJ4.out; have := HK2.out; have := HK3.out; have := HK4.out; have := HK5.out; omega⟩, ⟨by (with_reducible repeat (first | apply Kd.S_alloc | apply Kd.S_drewN | apply Kd.S_drew)); exact HO_6.out⟩, ⟨by (with_reducible repeat (first | refine blk_drewN ?_ _ | refine blk_drew ?_ | refine blk_alloc ?_ _)); exact BK246.out⟩, ⟨by repeat (first | (with_reducible first | exact HB.out | apply below_alloc | apply pw_below_drewN | apply below_drew1 | refine below_set ?_ GE246.out) | exact HB.out)⟩⟩
                        ·rw [if_neg c74] at H
                         as_aux_lemma =>
                          have c74b0 : ((rd (rd_L5 x6_2 x10_3) x11_4) == x12_5) = false := beq_eq_false_iff_ne.mpr c74
                          have c74b1 : ((rd (rd_L5 x6_2 x10_3) x11_4) != x12_5) = true := bne_iff_ne.mpr c74
                          obtain rfl := Option.some.inj H
                          obtain ⟨Ao76, co76, eo76⟩ := Kd.S_slice HO_6.out
                          subst eo76
                          have p256 : 0 ≤ (x10_3 : Int) := of_decide_eq_true (by first | (with_reducible assumption) | assumption)
                          have q256 : x10_3 < (x6_2.length : Int) := of_decide_eq_true (by first | (with_reducible assumption) | assumption)
                          obtain ⟨ad256, A256_0, c256_0, e256, hx256_0, hl256_0, hi256_0⟩ := at_L5 (Kd.S_reads' HO_6.out).2.2 x10_3 p256 q256
                          cases e256
                          obtain ⟨ce256, hce256, hMe256, hcc256⟩ := Kd.S_get HO_6.out [] x10_3 p256 (by first | exact q256 | exact of_decide_eq_true (by first | (with_reducible assumption) | assumption) | (have e_ := (Kd.S_reads' HO_6.out).1; omega))
                          obtain ⟨ve256_0, rfl, ge256_0⟩ := hMe256
                          have hv256_0 := hcc256 0 _ rfl
                          rw [Nat.add_zero, show ((Kd.slice 3 (Kd.int .i64))).sz = 1 from rfl, Nat.mul_one] at hv256_0
                          replace hv256_0 := Option.some.inj (hv256_0.symm.trans hx256_0)
                          rw [hv256_0] at ge256_0
                          have HL256_0 := Aside0.mk (show Kd.R (Kd.int .i64) 3 _ _ _ _ (rd_L5 x6_2 x10_3) from ge256_0)
                          clear hv256_0 ge256_0
                          clear hcc256 hce256
                          have HR256_0 := Aside0.mk hi256_0
                          have HC256_0 := Aside0.mk hl256_0
                          clear hi256_0 hl256_0
                          replace p256 := eq_true p256
                          replace q256 := eq_true q256
                          have p257 : 0 ≤ (x11_4 : Int) := of_decide_eq_true (by first | (with_reducible assumption) | assumption)
                          have q257 : x11_4 < ((rd_L5 x6_2 x10_3).length : Int) := of_decide_eq_true (by first | (with_reducible assumption) | assumption)
                          obtain ⟨ad257, e257, hx257_0⟩ := Kd.at_int (by repeat (first | (with_reducible exact HR256_0.out) | (with_reducible refine Kd.C_alloc ?_ _) | (with_reducible refine Kd.C_drewN ?_ _) | (with_reducible refine Kd.C_drew ?_) | exact HR256_0.out)) x11_4 p257 q257
                          cases e257
                          replace p257 := eq_true p257
                          replace q257 := eq_true q257
                          have p258 : 0 ≤ (x10_3 : Int) := of_decide_eq_true (by first | (with_reducible assumption) | assumption)
                          have q258 : x10_3 < (x6_2.length : Int) := of_decide_eq_true (by first | (with_reducible assumption) | assumption)
                          obtain ⟨ad258, A258_0, c258_0, e258, hx258_0, hl258_0, hi258_0⟩ := at_L5 (Kd.S_reads' HO_6.out).2.2 x10_3 p258 q258
                          obtain rfl : ad256 = ad258 := (by injection e258)
                          obtain ⟨ce258, hce258, hMe258, hcc258⟩ := Kd.S_get HO_6.out [] x10_3 p258 (by first | exact q258 | exact of_decide_eq_true (by first | (with_reducible assumption) | assumption) | (have e_ := (Kd.S_reads' HO_6.out).1; omega))
                          obtain ⟨ve258_0, rfl, ge258_0⟩ := hMe258
                          have hv258_0 := hcc258 0 _ rfl
                          rw [Nat.add_zero, show ((Kd.slice 3 (Kd.int .i64))).sz = 1 from rfl, Nat.mul_one] at hv258_0
                          replace hv258_0 := Option.some.inj (hv258_0.symm.trans hx258_0)
                          rw [hv258_0] at ge258_0
                          have HL258_0 := Aside0.mk (show Kd.R (Kd.int .i64) 3 _ _ _ _ (rd_L5 x6_2 x10_3) from ge258_0)
                          clear hv258_0 ge258_0
                          clear hcc258 hce258
                          have HR258_0 := Aside0.mk hi258_0
                          have HC258_0 := Aside0.mk hl258_0
                          clear hi258_0 hl258_0
                          replace p258 := eq_true p258
                          replace q258 := eq_true q258
                          have ea_ := Option.some.inj (hx256_0.symm.trans hx258_0)
                          injection ea_ with ea_ en_ ec_
                          subst ea_
                          subst ec_
                          clear en_
                          have p259 : 0 ≤ (x11_4 : Int) := of_decide_eq_true (by first | (with_reducible assumption) | assumption)
                          have q259 : x11_4 < ((rd_L5 x6_2 x10_3).length : Int) := of_decide_eq_true (by first | (with_reducible assumption) | assumption)
                          obtain ⟨ad259, e259, hx259_0⟩ := Kd.at_int (by repeat (first | (with_reducible exact HR258_0.out) | (with_reducible refine Kd.C_alloc ?_ _) | (with_reducible refine Kd.C_drewN ?_ _) | (with_reducible refine Kd.C_drew ?_) | exact HR258_0.out)) x11_4 p259 q259
                          cases e259
                          replace p259 := eq_true p259
                          replace q259 := eq_true q259
                          go_wp2
                          repeat (go_quiet (fail); try go_wp2)
                          go_ret
                          exact ⟨by first | rfl | (simp [errW_none, errW_some] <;> rfl) | (simp [*, errW_none, errW_some] <;> rfl), by repeat (first | (with_reducible first | exact HB.out | apply below_alloc | apply pw_below_drewN | apply below_drew1 | refine below_set ?_ GE246.out) | exact HB.out)⟩
                       ·rw [if_neg c73] at H
                        as_aux_lemma =>
                         have c73b0 : decide (2 ≤ (rd (rd_L5 x6_2 x10_3) x11_4)) = false := decide_eq_false c73
                         clear c73
                         have H' := Aside0.mk H
                         clear H
                         obtain ⟨Ao77, co77, eo77⟩ := Kd.S_slice HO_6.out
                         subst eo77
                         have p256 : 0 ≤ (x10_3 : Int) := of_decide_eq_true (by first | (with_reducible assumption) | assumption)
                         have q256 : x10_3 < (x6_2.length : Int) := of_decide_eq_true (by first | (with_reducible assumption) | assumption)
                         obtain ⟨ad256, A256_0, c256_0, e256, hx256_0, hl256_0, hi256_0⟩ := at_L5 (Kd.S_reads' HO_6.out).2.2 x10_3 p256 q256
                         cases e256
                         obtain ⟨ce256, hce256, hMe256, hcc256⟩ := Kd.S_get HO_6.out [] x10_3 p256 (by first | exact q256 | exact of_decide_eq_true (by first | (with_reducible assumption) | assumption) | (have e_ := (Kd.S_reads' HO_6.out).1; omega))
                         obtain ⟨ve256_0, rfl, ge256_0⟩ := hMe256
                         have hv256_0 := hcc256 0 _ rfl
                         rw [Nat.add_zero, show ((Kd.slice 3 (Kd.int .i64))).sz = 1 from rfl, Nat.mul_one] at hv256_0
                         replace hv256_0 := Option.some.inj (hv256_0.symm.trans hx256_0)
                         rw [hv256_0] at ge256_0
                         have HL256_0 := Aside0.mk (show Kd.R (Kd.int .i64) 3 _ _ _ _ (rd_L5 x6_2 x10_3) from ge256_0)
                         clear hv256_0 ge256_0
                         clear hcc256 hce256
                         have HR256_0 := Aside0.mk hi256_0
                         have HC256_0 := Aside0.mk hl256_0
                         clear hi256_0 hl256_0
                         replace p256 := eq_true p256
                         replace q256 := eq_true q256
                         have p257 : 0 ≤ (x11_4 : Int) := of_decide_eq_true (by first | (with_reducible assumption) | assumption)
                         have q257 : x11_4 < ((rd_L5 x6_2 x10_3).length : Int) := of_decide_eq_true (by first | (with_reducible assumption) | assumption)
                         obtain ⟨ad257, e257, hx257_0⟩ := Kd.at_int (by repeat (first | (with_reducible exact HR256_0.out) | (with_reducible refine Kd.C_alloc ?_ _) | (with_reducible refine Kd.C_drewN ?_ _) | (with_reducible refine Kd.C_drew ?_) | exact HR256_0.out)) x11_4 p257 q257
                         cases e257
                         replace p257 := eq_true p257
                         replace q257 := eq_true q257
                         go_wp2
                         repeat (go_quiet (fail); try go_wp2)
                         go_roundg k5
                         case measure => have := HJ4.out; have := HK2.out; have := HK3.out; have := HK4.out; have := HK5.out; omega
                         case rel => exact ⟨(wrap64 (x11_4 + 1)), (by first | rfl | (simp; done) | (simp [*]; done)), H', ⟨by have := HJ4.out; have := HK2.out; have := HK3.out; have := HK4.out; have := HK5.out; omega⟩, ⟨by (with_reducible repeat (first | apply Kd.S_alloc | apply Kd.S_drewN | apply Kd.S_drew)); exact HO_6.out⟩, ⟨by (with_reducible repeat (first | refine blk_drewN ?_ _ | refine blk_drew ?_ | refine blk_alloc ?_ _)); exact BK246.out⟩, ⟨by repeat (first | (with_reducible first | exact HB.out | apply below_alloc | apply pw_below_drewN | apply below_drew1 | refine below_set ?_ GE246.out) | exact HB.out)⟩⟩
                      ·rw [if_neg c72] at H
                       exact absurd H (by simp)
                     ·rw [if_neg c71] at H
                      exact absurd H (by simp)
                    ·rw [if_neg c70] at H
                     exact absurd H (by simp)
                   ·rw [if_neg c69] at H
                    exact absurd H (by simp)
                  ·rw [if_neg c68] at H
                   have c68b0 : (x10_3 == x11_4) = false := beq_eq_false_iff_ne.mpr c68
                   have c68b1 : (x10_3 != x11_4) = true := bne_iff_ne.mpr c68
                   by_cases c78 : 0 ≤ x10_3
                   ·rw [if_pos c78] at H
                    have c78b0 : decide (0 ≤ x10_3) = true := decide_eq_true c78
                    clear c78
                    by_cases c79 : x10_3 < (x6_2.length : Int)
                    ·rw [if_pos c79] at H
                     have c79b0 : decide (x10_3 < (x6_2.length : Int)) = true := decide_eq_true c79
                     clear c79
                     by_cases c80 : 0 ≤ x11_4
                     ·rw [if_pos c80] at H
                      have c80b0 : decide (0 ≤ x11_4) = true := decide_eq_true c80
                      clear c80
                      by_cases c81 : x11_4 < ((rd_L5 x6_2 x10_3).length : Int)
                      ·rw [if_pos c81] at H
                       have c81b0 : decide (x11_4 < ((rd_L5 x6_2 x10_3).length : Int)) = true := decide_eq_true c81
                       clear c81
                       by_cases c82 : (rd (rd_L5 x6_2 x10_3) x11_4) < 0
                       ·rw [if_pos c82] at H
                        as_aux_lemma =>
                         have c82b0 : decide ((rd (rd_L5 x6_2 x10_3) x11_4) < 0) = true := decide_eq_true c82
                         clear c82
                         obtain rfl := Option.some.inj H
                         obtain ⟨Ao83, co83, eo83⟩ := Kd.S_slice HO_6.out
                         subst eo83
                         have p260 : 0 ≤ (x10_3 : Int) := of_decide_eq_true (by first | (with_reducible assumption) | assumption)
                         have q260 : x10_3 < (x6_2.length : Int) := of_decide_eq_true (by first | (with_reducible assumption) | assumption)
                         obtain ⟨ad260, A260_0, c260_0, e260, hx260_0, hl260_0, hi260_0⟩ := at_L5 (Kd.S_reads' HO_6.out).2.2 x10_3 p260 q260
                         cases e260
                         obtain ⟨ce260, hce260, hMe260, hcc260⟩ := Kd.S_get HO_6.out [] x10_3 p260 (by first | exact q260 | exact of_decide_eq_true (by first | (with_reducible assumption) | assumption) | (have e_ := (Kd.S_reads' HO_6.out).1; omega))
                         obtain ⟨ve260_0, rfl, ge260_0⟩ := hMe260
                         have hv260_0 := hcc260 0 _ rfl
                         rw [Nat.add_zero, show ((Kd.slice 3 (Kd.int .i64))).sz = 1 from rfl, Nat.mul_one] at hv260_0
                         replace hv260_0 := Option.some.inj (hv260_0.symm.trans hx260_0)
                         rw [hv260_0] at ge260_0
                         have HL260_0 := Aside0.mk (show Kd.R (Kd.int .i64) 3 _ _ _ _ (rd_L5 x6_2 x10_3) from ge260_0)
                         clear hv260_0 ge260_0
                         clear hcc260 hce260
                         have HR260_0 := Aside0.mk hi260_0
                         have HC260_0 := Aside0.mk hl260_0
                         clear hi260_0 hl260_0
                         replace p260 := eq_true p260
                         replace q260 := eq_true q260
                         have p261 : 0 ≤ (x11_4 : Int) := of_decide_eq_true (by first | (with_reducible assumption) | assumption)
                         have q261 : x11_4 < ((rd_L5 x6_2 x10_3).length : Int) := of_decide_eq_true (by first | (with_reducible assumption) | assumption)
                         obtain ⟨ad261, e261, hx261_0⟩ := Kd.at_int (by repeat (first | (with_reducible exact HR260_0.out) | (with_reducible refine Kd.C_alloc ?_ _) | (with_reducible refine Kd.C_drewN ?_ _) | (with_reducible refine Kd.C_drew ?_) | exact HR260_0.out)) x11_4 p261 q261
                         cases e261
                         replace p261 := eq_true p261
                         replace q261 := eq_true q261
                         go_wp2
                         repeat (go_quiet (fail); try go_wp2)
                         go_ret
                         exact ⟨by first | rfl | (simp [errW_none, errW_some] <;> rfl) | (simp [*, errW_none, errW_some] <;> rfl), by repeat (first | (with_reducible first | exact HB.out | apply below_alloc | apply pw_below_drewN | apply below_drew1 | refine below_set ?_ GE246.out) | exact HB.out)⟩
                       ·rw [if_neg c82] at H
                        have c82b0 : decide ((rd (rd_L5 x6_2 x10_3) x11_4) < 0) = false := decide_eq_false c82
                        clear c82
                        by_cases c84 : (rd (rd_L5 x6_2 x10_3) x11_4) > x12_5
                        ·rw [if_pos c84] at H
                         as_aux_lemma =>
                          have c84b0 : decide (x12_5 < (rd (rd_L5 x6_2 x10_3) x11_4)) = true := decide_eq_true c84
                          clear c84
                          obtain rfl := Option.some.inj H
                          obtain ⟨Ao85, co85, eo85⟩ := Kd.S_slice HO_6.out
                          subst eo85
                          have p260 : 0 ≤ (x10_3 : Int) := of_decide_eq_true (by first | (with_reducible assumption) | assumption)
                          have q260 : x10_3 < (x6_2.length : Int) := of_decide_eq_true (by first | (with_reducible assumption) | assumption)
                          obtain ⟨ad260, A260_0, c260_0, e260, hx260_0, hl260_0, hi260_0⟩ := at_L5 (Kd.S_reads' HO_6.out).2.2 x10_3 p260 q260
                          cases e260
                          obtain ⟨ce260, hce260, hMe260, hcc260⟩ := Kd.S_get HO_6.out [] x10_3 p260 (by first | exact q260 | exact of_decide_eq_true (by first | (with_reducible assumption) | assumption) | (have e_ := (Kd.S_reads' HO_6.out).1; omega))
                          obtain ⟨ve260_0, rfl, ge260_0⟩ := hMe260
                          have hv260_0 := hcc260 0 _ rfl
                          rw [Nat.add_zero, show ((Kd.slice 3 (Kd.int .i64))).sz = 1 from rfl, Nat.mul_one] at hv260_0
                          replace hv260_0 := Option.some.inj (hv260_0.symm.trans hx260_0)
                          rw [hv260_0] at ge260_0
                          have HL260_0 := Aside0.mk (show Kd.R (Kd.int .i64) 3 _ _ _ _ (rd_L5 x6_2 x10_3) from ge260_0)
                          clear hv260_0 ge260_0
                          clear hcc260 hce260
                          have HR260_0 := Aside0.mk hi260_0
                          have HC260_0 := Aside0.mk hl260_0
                          clear hi260_0 hl260_0
                          replace p260 := eq_true p260
                          replace q260 := eq_true q260
                          have p261 : 0 ≤ (x11_4 : Int) := of_decide_eq_true (by first | (with_reducible assumption) | assumption)
                          have q261 : x11_4 < ((rd_L5 x6_2 x10_3).length : Int) := of_decide_eq_true (by first | (with_reducible assumption) | assumption)
                          obtain ⟨ad261, e261, hx261_0⟩ := Kd.at_int (by repeat (first | (with_reducible exact HR260_0.out) | (with_reducible refine Kd.C_alloc ?_ _) | (with_reducible refine Kd.C_drewN ?_ _) | (with_reducible refine Kd.C_drew ?_) | exact HR260_0.out)) x11_4 p261 q261
                          cases e261
                          replace p261 := eq_true p261
                          replace q261 := eq_true q261
                          have p262 : 0 ≤ (x10_3 : Int) := of_decide_eq_true (by first | (with_reducible assumption) | assumption)
                          have q262 : x10_3 < (x6_2.length : Int) := of_decide_eq_true (by first | (with_reducible assumption) | assumption)
                          obtain ⟨ad262, A262_0, c262_0, e262, hx262_0, hl262_0, hi262_0⟩ := at_L5 (Kd.S_reads' HO_6.out).2.2 x10_3 p262 q262
                          obtain rfl : ad260 = ad262 := (by injection e262)
                          obtain ⟨ce262, hce262, hMe262, hcc262⟩ := Kd.S_get HO_6.out [] x10_3 p262 (by first | exact q262 | exact of_decide_eq_true (by first | (with_reducible assumption) | assumption) | (have e_ := (Kd.S_reads' HO_6.out).1; omega))
                          obtain ⟨ve262_0, rfl, ge262_0⟩ := hMe262
                          have hv262_0 := hcc262 0 _ rfl
                          rw [Nat.add_zero, show ((Kd.slice 3 (Kd.int .i64))).sz = 1 from rfl, Nat.mul_one] at hv262_0
                          replace hv262_0 := Option.some.inj (hv262_0.symm.trans hx262_0)
                          rw [hv262_0] at ge262_0
                          have HL262_0 := Aside0.mk (show Kd.R (Kd.int .i64) 3 _ _ _ _ (rd_L5 x6_2 x10_3) from ge262_0)
                          clear hv262_0 ge262_0
                          clear hcc262 hce262
                          have HR262_0 := Aside0.mk hi262_0
                          have HC262_0 := Aside0.mk hl262_0
                          clear hi262_0 hl262_0
                          replace p262 := eq_true p262
                          replace q262 := eq_true q262
                          have ea_ := Option.some.inj (hx260_0.symm.trans hx262_0)
                          injection ea_ with ea_ en_ ec_
                          subst ea_
                          subst ec_
                          clear en_
                          have p263 : 0 ≤ (x11_4 : Int) := of_decide_eq_true (by first | (with_reducible assumption) | assumption)
                          have q263 : x11_4 < ((rd_L5 x6_2 x10_3).length : Int) := of_decide_eq_true (by first | (with_reducible assumption) | assumption)
                          obtain ⟨ad263, e263, hx263_0⟩ := Kd.at_int (by repeat (first | (with_reducible exact HR262_0.out) | (with_reducible refine Kd.C_alloc ?_ _) | (with_reducible refine Kd.C_drewN ?_ _) | (with_reducible refine Kd.C_drew ?_) | exact HR262_0.out)) x11_4 p263 q263
                          cases e263
                          replace p263 := eq_true p263
                          replace q263 := eq_true q263
                          go_wp2
                          repeat (go_quiet (fail); try go_wp2)
                          go_ret
                          exact ⟨by first | rfl | (simp [errW_none, errW_some] <;> rfl) | (simp [*, errW_none, errW_some] <;> rfl), by repeat (first | (with_reducible first | exact HB.out | apply below_alloc | apply pw_below_drewN | apply below_drew1 | refine below_set ?_ GE246.out) | exact HB.out)⟩
                        ·rw [if_neg c84] at H
                         have c84b0 : decide (x12_5 < (rd (rd_L5 x6_2 x10_3) x11_4)) = false := decide_eq_false c84
                         clear c84
                         by_cases c86 : (rd (rd_L5 x6_2 x10_3) x11_4) ≥ 2
                         ·rw [if_pos c86] at H
                          have c86b0 : decide (2 ≤ (rd (rd_L5 x6_2 x10_3) x11_4)) = true := decide_eq_true c86
                          clear c86
                          by_cases c87 : (rd (rd_L5 x6_2 x10_3) x11_4) = x12_5
                          ·rw [if_pos c87] at H
                           as_aux_lemma =>
                            have c87b0 : ((rd (rd_L5 x6_2 x10_3) x11_4) == x12_5) = true := beq_iff_eq.mpr c87
                            have c87b1 : ((rd (rd_L5 x6_2 x10_3) x11_4) != x12_5) = false := bne_eq_false_iff_eq.mpr c87
                            clear c87
                            have H' := Aside0.mk H
                            clear H
                            obtain ⟨Ao88, co88, eo88⟩ := Kd.S_slice HO_6.out
                            subst eo88
                            have p260 : 0 ≤ (x10_3 : Int) := of_decide_eq_true (by first | (with_reducible assumption) | assumption)
                            have q260 : x10_3 < (x6_2.length : Int) := of_decide_eq_true (by first | (with_reducible assumption) | assumption)
                            obtain ⟨ad260, A260_0, c260_0, e260, hx260_0, hl260_0, hi260_0⟩ := at_L5 (Kd.S_reads' HO_6.out).2.2 x10_3 p260 q260
                            cases e260
                            obtain ⟨ce260, hce260, hMe260, hcc260⟩ := Kd.S_get HO_6.out [] x10_3 p260 (by first | exact q260 | exact of_decide_eq_true (by first | (with_reducible assumption) | assumption) | (have e_ := (Kd.S_reads' HO_6.out).1; omega))
                            obtain ⟨ve260_0, rfl, ge260_0⟩ := hMe260
                            have hv260_0 := hcc260 0 _ rfl
                            rw [Nat.add_zero, show ((Kd.slice 3 (Kd.int .i64))).sz = 1 from rfl, Nat.mul_one] at hv260_0
                            replace hv260_0 := Option.some.inj (hv260_0.symm.trans hx260_0)
                            rw [hv260_0] at ge260_0
                            have HL260_0 := Aside0.mk (show Kd.R (Kd.int .i64) 3 _ _ _ _ (rd_L5 x6_2 x10_3) from ge260_0)
                            clear hv260_0 ge260_0
                            clear hcc260 hce260
                            have HR260_0 := Aside0.mk hi260_0
                            have HC260_0 := Aside0.mk hl260_0
                            clear hi260_0 hl260_0
                            replace p260 := eq_true p260
                            replace q260 := eq_true q260
                            have p261 : 0 ≤ (x11_4 : Int) := of_decide_eq_true (by first | (with_reducible assumption) | assumption)
                            have q261 : x11_4 < ((rd_L5 x6_2 x10_3).length : Int) := of_decide_eq_true (by first | (with_reducible assumption) | assumption)
                            obtain ⟨ad261, e261, hx261_0⟩ := Kd.at_int (by repeat (first | (with_reducible exact HR260_0.out) | (with_reducible refine Kd.C_alloc ?_ _) | (with_reducible refine Kd.C_drewN ?_ _) | (with_reducible refine Kd.C_drew ?_) | exact HR260_0.out)) x11_4 p261 q261
                            cases e261
                            replace p261 := eq_true p261
                            replace q261 := eq_true q261
                            have p262 : 0 ≤ (x10_3 : Int) := of_decide_eq_true (by first | (with_reducible assumption) | assumption)
                            have q262 : x10_3 < (x6_2.length : Int) := of_decide_eq_true (by first | (with_reducible assumption) | assumption)
                            obtain ⟨ad262, A262_0, c262_0, e262, hx262_0, hl262_0, hi262_0⟩ := at_L5 (Kd.S_reads' HO_6.out).2.2 x10_3 p262 q262
                            obtain rfl : ad260 = ad262 := (by injection e262)
                            obtain ⟨ce262, hce262, hMe262, hcc262⟩ := Kd.S_get HO_6.out [] x10_3 p262 (by first | exact q262 | exact of_decide_eq_true (by first | (with_reducible assumption) | assumption) | (have e_ := (Kd.S_reads' HO_6.out).1; omega))
                            obtain ⟨ve262_0, rfl, ge262_0⟩ := hMe262
                            have hv262_0 := hcc262 0 _ rfl
                            rw [Nat.add_zero, show ((Kd.slice 3 (Kd.int .i64))).sz = 1 from rfl, Nat.mul_one] at hv262_0
                            replace hv262_0 := Option.some.inj (hv262_0.symm.trans hx262_0)
                            rw [hv262_0] at ge262_0
                            have HL262_0 := Aside0.mk (show Kd.R (Kd.int .i64) 3 _ _ _ _ (rd_L5 x6_2 x10_3) from ge262_0)
                            clear hv262_0 ge262_0
                            clear hcc262 hce262
                            have HR262_0 := Aside0.mk hi262_0
                            have HC262_0 := Aside0.mk hl262_0
                            clear hi262_0 hl262_0
                            replace p262 := eq_true p262
                            replace q262 := eq_true q262
                            have ea_ := Option.some.inj (hx260_0.symm.trans hx262_0)
                            injection ea_ with ea_ en_ ec_
                            subst ea_
                            subst ec_
                            clear en_
                            have p263 : 0 ≤ (x11_4 : Int) := of_decide_eq_true (by first | (with_reducible assumption) | assumption)
                            have q263 : x11_4 < ((rd_L5 x6_2 x10_3).length : Int) := of_decide_eq_true (by first | (with_reducible assumption) | assumption)
                            obtain ⟨ad263, e263, hx263_0⟩ := Kd.at_int (by repeat (first | (with_reducible exact HR262_0.out) | (with_reducible refine Kd.C_alloc ?_ _) | (with_reducible refine Kd.C_drewN ?_ _) | (with_reducible refine Kd.C_drew ?_) | exact HR262_0.out)) x11_4 p263 q263
                            cases e263
                            replace p263 := eq_true p263
                            replace q263 := eq_true q263
                            have p264 : 0 ≤ (x10_3 : Int) := of_decide_eq_true (by first | (with_reducible assumption) | assumption)
                            have q264 : x10_3 < (x6_2.length : Int) := of_decide_eq_true (by first | (with_reducible assumption) | assumption)
                            obtain ⟨ad264, A264_0, c264_0, e264, hx264_0, hl264_0, hi264_0⟩ := at_L5 (Kd.S_reads' HO_6.out).2.2 x10_3 p264 q264
                            obtain rfl : ad260 = ad264 := (by injection e264)
                            obtain ⟨ce264, hce264, hMe264, hcc264⟩ := Kd.S_get HO_6.out [] x10_3 p264 (by first | exact q264 | exact of_decide_eq_true (by first | (with_reducible assumption) | assumption) | (have e_ := (Kd.S_reads' HO_6.out).1; omega))
                            obtain ⟨ve264_0, rfl, ge264_0⟩ := hMe264
                            have hv264_0 := hcc264 0 _ rfl
                            rw [Nat.add_zero, show ((Kd.slice 3 (Kd.int .i64))).sz = 1 from rfl, Nat.mul_one] at hv264_0
                            replace hv264_0 := Option.some.inj (hv264_0.symm.trans hx264_0)
                            rw [hv264_0] at ge264_0
                            have HL264_0 := Aside0.mk (show Kd.R (Kd.int .i64) 3 _ _ _ _ (rd_L5 x6_2 x10_3) from ge264_0)
                            clear hv264_0 ge264_0
                            clear hcc264 hce264
                            have HR264_0 := Aside0.mk hi264_0
                            have HC264_0 := Aside0.mk hl264_0
                            clear hi264_0 hl264_0
                            replace p264 := eq_true p264
                            replace q264 := eq_true q264
                            have ea_ := Option.some.inj (hx260_0.symm.trans hx264_0)
                            injection ea_ with ea_ en_ ec_
                            subst ea_
                            subst ec_
                            clear en_
                            have p265 : 0 ≤ (x11_4 : Int) := of_decide_eq_true (by first | (with_reducible assumption) | assumption)
                            have q265 : x11_4 < ((rd_L5 x6_2 x10_3).length : Int) := of_decide_eq_true (by first | (with_reducible assumption) | assumption)
                            obtain ⟨ad265, e265, hx265_0⟩ := Kd.at_int (by repeat (first | (with_reducible exact HR264_0.out) | (with_reducible refine Kd.C_alloc ?_ _) | (with_reducible refine Kd.C_drewN ?_ _) | (with_reducible refine Kd.C_drew ?_) | exact HR264_0.out)) x11_4 p265 q265
                            cases e265
                            replace p265 := eq_true p265
                            replace q265 := eq_true q265
                            have p266 : 0 ≤ (x10_3 : Int) := of_decide_eq_true (by first | (with_reducible assumption) | assumption)
                            have q266 : x10_3 < (x6_2.length : Int) := of_decide_eq_true (by first | (with_reducible assumption) | assumption)
                            obtain ⟨ad266, A266_0, c266_0, e266, hx266_0, hl266_0, hi266_0⟩ := at_L5 (Kd.S_reads' HO_6.out).2.2 x10_3 p266 q266
                            obtain rfl : ad260 = ad266 := (by injection e266)
                            obtain ⟨ce266, hce266, hMe266, hcc266⟩ := Kd.S_get HO_6.out [] x10_3 p266 (by first | exact q266 | exact of_decide_eq_true (by first | (with_reducible assumption) | assumption) | (have e_ := (Kd.S_reads' HO_6.out).1; omega))
                            obtain ⟨ve266_0, rfl, ge266_0⟩ := hMe266
                            have hv266_0 := hcc266 0 _ rfl
                            rw [Nat.add_zero, show ((Kd.slice 3 (Kd.int .i64))).sz = 1 from rfl, Nat.mul_one] at hv266_0
                            replace hv266_0 := Option.some.inj (hv266_0.symm.trans hx266_0)
                            rw [hv266_0] at ge266_0
                            have HL266_0 := Aside0.mk (show Kd.R (Kd.int .i64) 3 _ _ _ _ (rd_L5 x6_2 x10_3) from ge266_0)
                            clear hv266_0 ge266_0
                            clear hcc266 hce266
                            have HR266_0 := Aside0.mk hi266_0
                            have HC266_0 := Aside0.mk hl266_0
                            clear hi266_0 hl266_0
                            replace p266 := eq_true p266
                            replace q266 := eq_true q266
                            have ea_ := Option.some.inj (hx260_0.symm.trans hx266_0)
                            injection ea_ with ea_ en_ ec_
                            subst ea_
                            subst ec_
                            clear en_
                            have p267 : 0 ≤ (x11_4 : Int) := of_decide_eq_true (by first | (with_reducible assumption) | assumption)
                            have q267 : x11_4 < ((rd_L5 x6_2 x10_3).length : Int) := of_decide_eq_true (by first | (with_reducible assumption) | assumption)
                            obtain ⟨ad267, e267, hx267_0⟩ := Kd.at_int (by repeat (first | (with_reducible exact HR266_0.out) | (with_reducible refine Kd.C_alloc ?_ _) | (with_reducible refine Kd.C_drewN ?_ _) | (with_reducible refine Kd.C_drew ?_) | exact HR266_0.out)) x11_4 p267 q267
                            cases e267
                            replace p267 := eq_true p267
                            replace q267 := eq_true q267
                            go_wp2
                            repeat (go_quiet (fail); try go_wp2)
                            go_roundg k5
                            case measure => have := HJ4.out; have := HK2.out; have := HK3.out; have := HK4.out; have := HK5.out; omega
                            case rel => exact ⟨(wrap64 (x11_4 + 1)), (by first | rfl | (simp; done) | (simp [*]; done)), H', ⟨by have := HJ4.out; have := HK2.out; have := HK3.out; have := HK4.out; have := HK5.out; omega⟩, ⟨by (with_reducible repeat (first | apply Kd.S_alloc | apply Kd.S_drewN | apply Kd.S_drew)); exact HO_6.out⟩, ⟨by (with_reducible repeat (first | refine blk_drewN ?_ _ | refine blk_drew ?_ | refine blk_alloc ?_ _)); exact BK246.out⟩, ⟨by repeat (first | (with_reducible first | exact HB.out | apply below_alloc | apply pw_below_drewN | apply below_drew1 | refine below_set ?_ GE246.out) | exact HB.out)⟩⟩
                          ·rw [if_neg c87] at H
                           as_aux_lemma =>
                            have c87b0 : ((rd (rd_L5 x6_2 x10_3) x11_4) == x12_5) = false := beq_eq_false_iff_ne.mpr c87
                            have c87b1 : ((rd (rd_L5 x6_2 x10_3) x11_4) != x12_5) = true := bne_iff_ne.mpr c87
                            obtain rfl := Option.some.inj H
                            obtain ⟨Ao89, co89, eo89⟩ := Kd.S_slice HO_6.out
                            subst eo89
                            have p260 : 0 ≤ (x10_3 : Int) := of_decide_eq_true (by first | (with_reducible assumption) | assumption)
                            have q260 : x10_3 < (x6_2.length : Int) := of_decide_eq_true (by first | (with_reducible assumption) | assumption)
                            obtain ⟨ad260, A260_0, c260_0, e260, hx260_0, hl260_0, hi260_0⟩ := at_L5 (Kd.S_reads' HO_6.out).2.2 x10_3 p260 q260
                            cases e260
                            obtain ⟨ce260, hce260, hMe260, hcc260⟩ := Kd.S_get HO_6.out [] x10_3 p260 (by first | exact q260 | exact of_decide_eq_true (by first | (with_reducible assumption) | assumption) | (have e_ := (Kd.S_reads' HO_6.out).1; omega))
                            obtain ⟨ve260_0, rfl, ge260_0⟩ := hMe260
                            have hv260_0 := hcc260 0 _ rfl
                            rw [Nat.add_zero, show ((Kd.slice 3 (Kd.int .i64))).sz = 1 from rfl, Nat.mul_one] at hv260_0
                            replace hv260_0 := Option.some.inj (hv260_0.symm.trans hx260_0)
                            rw [hv260_0] at ge260_0
                            have HL260_0 := Aside0.mk (show Kd.R (Kd.int .i64) 3 _ _ _ _ (rd_L5 x6_2 x10_3) from ge260_0)
                            clear hv260_0 ge260_0
                            clear hcc260 hce260
                            have HR260_0 := Aside0.mk hi260_0
                            have HC260_0 := Aside0.mk hl260_0
                            clear hi260_0 hl260_0
                            replace p260 := eq_true p260
                            replace q260 := eq_true q260
                            have p261 : 0 ≤ (x11_4 : Int) := of_decide_eq_true (by first | (with_reducible assumption) | assumption)
                            have q261 : x11_4 < ((rd_L5 x6_2 x10_3).length : Int) := of_decide_eq_true (by first | (with_reducible assumption) | assumption)
                            obtain ⟨ad261, e261, hx261_0⟩ := Kd.at_int (by repeat (first | (with_reducible exact HR260_0.out) | (with_reducible refine Kd.C_alloc ?_ _) | (with_reducible refine Kd.C_drewN ?_ _) | (with_reducible refine Kd.C_drew ?_) | exact HR260_0.out)) x11_4 p261 q261
                            cases e261
                            replace p261 := eq_true p261
                            replace q261 := eq_true q261
                            have p262 : 0 ≤ (x10_3 : Int) := of_decide_eq_true (by first | (with_reducible assumption) | assumption)
                            have q262 : x10_3 < (x6_2.length : Int) := of_decide_eq_true (by first | (with_reducible assumption) | assumption)
                            obtain ⟨ad262, A262_0, c262_0, e262, hx262_0, hl262_0, hi262_0⟩ := at_L5 (Kd.S_reads' HO_6.out).2.2 x10_3 p262 q262
                            obtain rfl : ad260 = ad262 := (by injection e262)
                            obtain ⟨ce262, hce262, hMe262, hcc262⟩ := Kd.S_get HO_6.out [] x10_3 p262 (by first | exact q262 | exact of_decide_eq_true (by first | (with_reducible assumption) | assumption) | (have e_ := (Kd.S_reads' HO_6.out).1; omega))
                            obtain ⟨ve262_0, rfl, ge262_0⟩ := hMe262
                            have hv262_0 := hcc262 0 _ rfl
                            rw [Nat.add_zero, show ((Kd.slice 3 (Kd.int .i64))).sz = 1 from rfl, Nat.mul_one] at hv262_0
                            replace hv262_0 := Option.some.inj (hv262_0.symm.trans hx262_0)
                            rw [hv262_0] at ge262_0
                            have HL262_0 := Aside0.mk (show Kd.R (Kd.int .i64) 3 _ _ _ _ (rd_L5 x6_2 x10_3) from ge262_0)
                            clear hv262_0 ge262_0
                            clear hcc262 hce262
                            have HR262_0 := Aside0.mk hi262_0
                            have HC262_0 := Aside0.mk hl262_0
                            clear hi262_0 hl262_0
                            replace p262 := eq_true p262
                            replace q262 := eq_true q262
                            have ea_ := Option.some.inj (hx260_0.symm.trans hx262_0)
                            injection ea_ with ea_ en_ ec_
                            subst ea_
                            subst ec_
                            clear en_
                            have p263 : 0 ≤ (x11_4 : Int) := of_decide_eq_true (by first | (with_reducible assumption) | assumption)
                            have q263 : x11_4 < ((rd_L5 x6_2 x10_3).length : Int) := of_decide_eq_true (by first | (with_reducible assumption) | assumption)
                            obtain ⟨ad263, e263, hx263_0⟩ := Kd.at_int (by repeat (first | (with_reducible exact HR262_0.out) | (with_reducible refine Kd.C_alloc ?_ _) | (with_reducible refine Kd.C_drewN ?_ _) | (with_reducible refine Kd.C_drew ?_) | exact HR262_0.out)) x11_4 p263 q263
                            cases e263
                            replace p263 := eq_true p263
                            replace q263 := eq_true q263
                            have p264 : 0 ≤ (x10_3 : Int) := of_decide_eq_true (by first | (with_reducible assumption) | assumption)
                            have q264 : x10_3 < (x6_2.length : Int) := of_decide_eq_true (by first | (with_reducible assumption) | assumption)
                            obtain ⟨ad264, A264_0, c264_0, e264, hx264_0, hl264_0, hi264_0⟩ := at_L5 (Kd.S_reads' HO_6.out).2.2 x10_3 p264 q264
                            obtain rfl : ad260 = ad264 := (by injection e264)
                            obtain ⟨ce264, hce264, hMe264, hcc264⟩ := Kd.S_get HO_6.out [] x10_3 p264 (by first | exact q264 | exact of_decide_eq_true (by first | (with_reducible assumption) | assumption) | (have e_ := (Kd.S_reads' HO_6.out).1; omega))
                            obtain ⟨ve264_0, rfl, ge264_0⟩ := hMe264
                            have hv264_0 := hcc264 0 _ rfl
                            rw [Nat.add_zero, show ((Kd.slice 3 (Kd.int .i64))).sz = 1 from rfl, Nat.mul_one] at hv264_0
                            replace hv264_0 := Option.some.inj (hv264_0.symm.trans hx264_0)
                            rw [hv264_0] at ge264_0
                            have HL264_0 := Aside0.mk (show Kd.R (Kd.int .i64) 3 _ _ _ _ (rd_L5 x6_2 x10_3) from ge264_0)
                            clear hv264_0 ge264_0
                            clear hcc264 hce264
                            have HR264_0 := Aside0.mk hi264_0
                            have HC264_0 := Aside0.mk hl264_0
                            clear hi264_0 hl264_0
                            replace p264 := eq_true p264
                            replace q264 := eq_true q264
                            have ea_ := Option.some.inj (hx260_0.symm.trans hx264_0)
                            injection ea_ with ea_ en_ ec_
                            subst ea_
                            subst ec_
                            clear en_
                            have p265 : 0 ≤ (x11_4 : Int) := of_decide_eq_true (by first | (with_reducible assumption) | assumption)
                            have q265 : x11_4 < ((rd_L5 x6_2 x10_3).length : Int) := of_decide_eq_true (by first | (with_reducible assumption) | assumption)
                            obtain ⟨ad265, e265, hx265_0⟩ := Kd.at_int (by repeat (first | (with_reducible exact HR264_0.out) | (with_reducible refine Kd.C_alloc ?_ _) | (with_reducible refine Kd.C_drewN ?_ _) | (with_reducible refine Kd.C_drew ?_) | exact HR264_0.out)) x11_4 p265 q265
                            cases e265
                            replace p265 := eq_true p265
                            replace q265 := eq_true q265
                            have p266 : 0 ≤ (x10_3 : Int) := of_decide_eq_true (by first | (with_reducible assumption) | assumption)
                            have q266 : x10_3 < (x6_2.length : Int) := of_decide_eq_true (by first | (with_reducible assumption) | assumption)
                            obtain ⟨ad266, A266_0, c266_0, e266, hx266_0, hl266_0, hi266_0⟩ := at_L5 (Kd.S_reads' HO_6.out).2.2 x10_3 p266 q266
                            obtain rfl : ad260 = ad266 := (by injection e266)
                            obtain ⟨ce266, hce266, hMe266, hcc266⟩ := Kd.S_get HO_6.out [] x10_3 p266 (by first | exact q266 | exact of_decide_eq_true (by first | (with_reducible assumption) | assumption) | (have e_ := (Kd.S_reads' HO_6.out).1; omega))
                            obtain ⟨ve266_0, rfl, ge266_0⟩ := hMe266
                            have hv266_0 := hcc266 0 _ rfl
                            rw [Nat.add_zero, show ((Kd.slice 3 (Kd.int .i64))).sz = 1 from rfl, Nat.mul_one] at hv266_0
                            replace hv266_0 := Option.some.inj (hv266_0.symm.trans hx266_0)
                            rw [hv266_0] at ge266_0
                            have HL266_0 := Aside0.mk (show Kd.R (Kd.int .i64) 3 _ _ _ _ (rd_L5 x6_2 x10_3) from ge266_0)
                            clear hv266_0 ge266_0
                            clear hcc266 hce266
                            have HR266_0 := Aside0.mk hi266_0
                            have HC266_0 := Aside0.mk hl266_0
                            clear hi266_0 hl266_0
                            replace p266 := eq_true p266
                            replace q266 := eq_true q266
                            have ea_ := Option.some.inj (hx260_0.symm.trans hx266_0)
                            injection ea_ with ea_ en_ ec_
                            subst ea_
                            subst ec_
                            clear en_
                            have p267 : 0 ≤ (x11_4 : Int) := of_decide_eq_true (by first | (with_reducible assumption) | assumption)
                            have q267 : x11_4 < ((rd_L5 x6_2 x10_3).length : Int) := of_decide_eq_true (by first | (with_reducible assumption) | assumption)
                            obtain ⟨ad267, e267, hx267_0⟩ := Kd.at_int (by repeat (first | (with_reducible exact HR266_0.out) | (with_reducible refine Kd.C_alloc ?_ _) | (with_reducible refine Kd.C_drewN ?_ _) | (with_reducible refine Kd.C_drew ?_) | exact HR266_0.out)) x11_4 p267 q267
                            cases e267
                            replace p267 := eq_true p267
                            replace q267 := eq_true q267
                            go_wp2
                            repeat (go_quiet (fail); try go_wp2)
                            go_ret
                            exact ⟨by first | rfl | (simp [errW_none, errW_some] <;> rfl) | (simp [*, errW_none, errW_some] <;> rfl), by repeat (first | (with_reducible first | exact HB.out | apply below_alloc | apply pw_below_drewN | apply below_drew1 | refine below_set ?_ GE246.out) | exact HB.out)⟩
                         ·rw [if_neg c86] at H
                          as_aux_lemma =>
                           have c86b0 : decide (2 ≤ (rd (rd_L5 x6_2 x10_3) x11_4)) = false := decide_eq_false c86
                           clear c86
                           have H' := Aside0.mk H
                           clear H
                           obtain ⟨Ao90, co90, eo90⟩ := Kd.S_slice HO_6.out
                           subst eo90
                           have p260 : 0 ≤ (x10_3 : Int) := of_decide_eq_true (by first | (with_reducible assumption) | assumption)
                           have q260 : x10_3 < (x6_2.length : Int) := of_decide_eq_true (by first | (with_reducible assumption) | assumption)
                           obtain ⟨ad260, A260_0, c260_0, e260, hx260_0, hl260_0, hi260_0⟩ := at_L5 (Kd.S_reads' HO_6.out).2.2 x10_3 p260 q260
                           cases e260
                           obtain ⟨ce260, hce260, hMe260, hcc260⟩ := Kd.S_get HO_6.out [] x10_3 p260 (by first | exact q260 | exact of_decide_eq_true (by first | (with_reducible assumption) | assumption) | (have e_ := (Kd.S_reads' HO_6.out).1; omega))
                           obtain ⟨ve260_0, rfl, ge260_0⟩ := hMe260
                           have hv260_0 := hcc260 0 _ rfl
                           rw [Nat.add_zero, show ((Kd.slice 3 (Kd.int .i64))).sz = 1 from rfl, Nat.mul_one] at hv260_0
                           replace hv260_0 := Option.some.inj (hv260_0.symm.trans hx260_0)
                           rw [hv260_0] at ge260_0
                           have HL260_0 := Aside0.mk (show Kd.R (Kd.int .i64) 3 _ _ _ _ (rd_L5 x6_2 x10_3) from ge260_0)
                           clear hv260_0 ge260_0
                           clear hcc260 hce260
                           have HR260_0 := Aside0.mk hi260_0
                           have HC260_0 := Aside0.mk hl260_0
                           clear hi260_0 hl260_0
                           replace p260 := eq_true p260
                           replace q260 := eq_true q260
                           have p261 : 0 ≤ (x11_4 : Int) := of_decide_eq_true (by first | (with_reducible assumption) | assumption)
                           have q261 : x11_4 < ((rd_L5 x6_2 x10_3).length : Int) := of_decide_eq_true (by first | (with_reducible assumption) | assumption)
                           obtain ⟨ad261, e261, hx261_0⟩ := Kd.at_int (by repeat (first | (with_reducible exact HR260_0.out) | (with_reducible refine Kd.C_alloc ?_ _) | (with_reducible refine Kd.C_drewN ?_ _) | (with_reducible refine Kd.C_drew ?_) | exact HR260_0.out)) x11_4 p261 q261
                           cases e261
                           replace p261 := eq_true p261
                           replace q261 := eq_true q261
                           have p262 : 0 ≤ (x10_3 : Int) := of_decide_eq_true (by first | (with_reducible assumption) | assumption)
                           have q262 : x10_3 < (x6_2.length : Int) := of_decide_eq_true (by first | (with_reducible assumption) | assumption)
                           obtain ⟨ad262, A262_0, c262_0, e262, hx262_0, hl262_0, hi262_0⟩ := at_L5 (Kd.S_reads' HO_6.out).2.2 x10_3 p262 q262
                           obtain rfl : ad260 = ad262 := (by injection e262)
                           obtain ⟨ce262, hce262, hMe262, hcc262⟩ := Kd.S_get HO_6.out [] x10_3 p262 (by first | exact q262 | exact of_decide_eq_true (by first | (with_reducible assumption) | assumption) | (have e_ := (Kd.S_reads' HO_6.out).1; omega))
                           obtain ⟨ve262_0, rfl, ge262_0⟩ := hMe262
                           have hv262_0 := hcc262 0 _ rfl
                           rw [Nat.add_zero, show ((Kd.slice 3 (Kd.int .i64))).sz = 1 from rfl, Nat.mul_one] at hv262_0
                           replace hv262_0 := Option.some.inj (hv262_0.symm.trans hx262_0)
                           rw [hv262_0] at ge262_0
                           have HL262_0 := Aside0.mk (show Kd.R (Kd.int .i64) 3 _ _ _ _ (rd_L5 x6_2 x10_3) from ge262_0)
                           clear hv262_0 ge262_0
                           clear hcc262 hce262
                           have HR262_0 := Aside0.mk hi262_0
                           have HC262_0 := Aside0.mk hl262_0
                           clear hi262_0 hl262_0
                           replace p262 := eq_true p262
                           replace q262 := eq_true q262
                           have ea_ := Option.some.inj (hx260_0.symm.trans hx262_0)
                           injection ea_ with ea_ en_ ec_
                           subst ea_
                           subst ec_
                           clear en_
                           have p263 : 0 ≤ (x11_4 : Int) := of_decide_eq_true (by first | (with_reducible assumption) | assumption)
                           have q263 : x11_4 < ((rd_L5 x6_2 x10_3).length : Int) := of_decide_eq_true (by first | (with_reducible assumption) | assumption)
                           obtain ⟨ad263, e263, hx263_0⟩ := Kd.at_int (by repeat (first | (with_reducible exact HR262_0.out) | (with_reducible refine Kd.C_alloc ?_ _) | (with_reducible refine Kd.C_drewN ?_ _) | (with_reducible refine Kd.C_drew ?_) | exact HR262_0.out)) x11_4 p263 q263
                           cases e263
                           replace p263 := eq_true p263
                           replace q263 := eq_true q263
                           have p264 : 0 ≤ (x10_3 : Int) := of_decide_eq_true (by first | (with_reducible assumption) | assumption)
                           have q264 : x10_3 < (x6_2.length : Int) := of_decide_eq_true (by first | (with_reducible assumption) | assumption)
                           obtain ⟨ad264, A264_0, c264_0, e264, hx264_0, hl264_0, hi264_0⟩ := at_L5 (Kd.S_reads' HO_6.out).2.2 x10_3 p264 q264
                           obtain rfl : ad260 = ad264 := (by injection e264)
                           obtain ⟨ce264, hce264, hMe264, hcc264⟩ := Kd.S_get HO_6.out [] x10_3 p264 (by first | exact q264 | exact of_decide_eq_true (by first | (with_reducible assumption) | assumption) | (have e_ := (Kd.S_reads' HO_6.out).1; omega))
                           obtain ⟨ve264_0, rfl, ge264_0⟩ := hMe264
                           have hv264_0 := hcc264 0 _ rfl
                           rw [Nat.add_zero, show ((Kd.slice 3 (Kd.int .i64))).sz = 1 from rfl, Nat.mul_one] at hv264_0
                           replace hv264_0 := Option.some.inj (hv264_0.symm.trans hx264_0)
                           rw [hv264_0] at ge264_0
                           have HL264_0 := Aside0.mk (show Kd.R (Kd.int .i64) 3 _ _ _ _ (rd_L5 x6_2 x10_3) from ge264_0)
                           clear hv264_0 ge264_0
                           clear hcc264 hce264
                           have HR264_0 := Aside0.mk hi264_0
                           have HC264_0 := Aside0.mk hl264_0
                           clear hi264_0 hl264_0
                           replace p264 := eq_true p264
                           replace q264 := eq_true q264
                           have ea_ := Option.some.inj (hx260_0.symm.trans hx264_0)
                           injection ea_ with ea_ en_ ec_
                           subst ea_
                           subst ec_
                           clear en_
                           have p265 : 0 ≤ (x11_4 : Int) := of_decide_eq_true (by first | (with_reducible assumption) | assumption)
                           have q265 : x11_4 < ((rd_L5 x6_2 x10_3).length : Int) := of_decide_eq_true (by first | (with_reducible assumption) | assumption)
                           obtain ⟨ad265, e265, hx265_0⟩ := Kd.at_int (by repeat (first | (with_reducible exact HR264_0.out) | (with_reducible refine Kd.C_alloc ?_ _) | (with_reducible refine Kd.C_drewN ?_ _) | (with_reducible refine Kd.C_drew ?_) | exact HR264_0.out)) x11_4 p265 q265
                           cases e265
                           replace p265 := eq_true p265
                           replace q265 := eq_true q265
                           go_wp2
                           repeat (go_quiet (fail); try go_wp2)
                           go_roundg k5
                           case measure => have := HJ4.out; have := HK2.out; have := HK3.out; have := HK4.out; have := HK5.out; omega
                           case rel => exact ⟨(wrap64 (x11_4 + 1)), (by first | rfl | (simp; done) | (simp [*]; done)), H', ⟨by have := HJ4.out; have := HK2.out; have := HK3.out; have := HK4.out; have := HK5.out; omega⟩, ⟨by (with_reducible repeat (first | apply Kd.S_alloc | apply Kd.S_drewN | apply Kd.S_drew)); exact HO_6.out⟩, ⟨by (with_reducible repeat (first | refine blk_drewN ?_ _ | refine blk_drew ?_ | refine blk_alloc ?_ _)); exact BK246.out⟩, ⟨by repeat (first | (with_reducible first | exact HB.out | apply below_alloc | apply pw_below_drewN | apply below_drew1 | refine below_set ?_ GE246.out) | exact HB.out)⟩⟩
                      ·rw [if_neg c81] at H
                       exact absurd H (by simp)
                     ·rw [if_neg c80] at H
                      exact absurd H (by simp)
                    ·rw [if_neg c79] at H
                     exact absurd H (by simp)
                   ·rw [if_neg c78] at H
                    exact absurd H (by simp)
                 ·rw [if_neg c67] at H
                  have c67b0 : decide (0 ≤ x12_5) = false := decide_eq_false c67
                  clear c67
                  by_cases c91 : 0 ≤ x10_3
                  ·rw [if_pos c91] at H
                   have c91b0 : decide (0 ≤ x10_3) = true := decide_eq_true c91
                   clear c91
                   by_cases c92 : x10_3 < (x6_2.length : Int)
                   ·rw [if_pos c92] at H
                    have c92b0 : decide (x10_3 < (x6_2.length : Int)) = true := decide_eq_true c92
                    clear c92
                    by_cases c93 : 0 ≤ x11_4
                    ·rw [if_pos c93] at H
                     have c93b0 : decide (0 ≤ x11_4) = true := decide_eq_true c93
                     clear c93
                     by_cases c94 : x11_4 < ((rd_L5 x6_2 x10_3).length : Int)
                     ·rw [if_pos c94] at H
                      have c94b0 : decide (x11_4 < ((rd_L5 x6_2 x10_3).length : Int)) = true := decide_eq_true c94
                      clear c94
                      by_cases c95 : (rd (rd_L5 x6_2 x10_3) x11_4) ≥ 2
                      ·rw [if_pos c95] at H
                       have c95b0 : decide (2 ≤ (rd (rd_L5 x6_2 x10_3) x11_4)) = true := decide_eq_true c95
                       clear c95
                       by_cases c96 : (rd (rd_L5 x6_2 x10_3) x11_4) = x12_5
                       ·rw [if_pos c96] at H
                        as_aux_lemma =>
                         have c96b0 : ((rd (rd_L5 x6_2 x10_3) x11_4) == x12_5) = true := beq_iff_eq.mpr c96
                         have c96b1 : ((rd (rd_L5 x6_2 x10_3) x11_4) != x12_5) = false := bne_eq_false_iff_eq.mpr c96
                         clear c96
                         have H' := Aside0.mk H
                         clear H
                         obtain ⟨Ao97, co97, eo97⟩ := Kd.S_slice HO_6.out
                         subst eo97
                         have p268 : 0 ≤ (x10_3 : Int) := of_decide_eq_true (by first | (with_reducible assumption) | assumption)
                         have q268 : x10_3 < (x6_2.length : Int) := of_decide_eq_true (by first | (with_reducible assumption) | assumption)
                         obtain ⟨ad268, A268_0, c268_0, e268, hx268_0, hl268_0, hi268_0⟩ := at_L5 (Kd.S_reads' HO_6.out).2.2 x10_3 p268 q268
                         cases e268
                         obtain ⟨ce268, hce268, hMe268, hcc268⟩ := Kd.S_get HO_6.out [] x10_3 p268 (by first | exact q268 | exact of_decide_eq_true (by first | (with_reducible assumption) | assumption) | (have e_ := (Kd.S_reads' HO_6.out).1; omega))
                         obtain ⟨ve268_0, rfl, ge268_0⟩ := hMe268
                         have hv268_0 := hcc268 0 _ rfl
                         rw [Nat.add_zero, show ((Kd.slice 3 (Kd.int .i64))).sz = 1 from rfl, Nat.mul_one] at hv268_0
                         replace hv268_0 := Option.some.inj (hv268_0.symm.trans hx268_0)
                         rw [hv268_0] at ge268_0
                         have HL268_0 := Aside0.mk (show Kd.R (Kd.int .i64) 3 _ _ _ _ (rd_L5 x6_2 x10_3) from ge268_0)
                         clear hv268_0 ge268_0
                         clear hcc268 hce268
                         have HR268_0 := Aside0.mk hi268_0
                         have HC268_0 := Aside0.mk hl268_0
                         clear hi268_0 hl268_0
                         replace p268 := eq_true p268
                         replace q268 := eq_true q268
                         have p269 : 0 ≤ (x11_4 : Int) := of_decide_eq_true (by first | (with_reducible assumption) | assumption)
                         have q269 : x11_4 < ((rd_L5 x6_2 x10_3).length : Int) := of_decide_eq_true (by first | (with_reducible assumption) | assumption)
                         obtain ⟨ad269, e269, hx269_0⟩ := Kd.at_int (by repeat (first | (with_reducible exact HR268_0.out) | (with_reducible refine Kd.C_alloc ?_ _) | (with_reducible refine Kd.C_drewN ?_ _) | (with_reducible refine Kd.C_drew ?_) | exact HR268_0.out)) x11_4 p269 q269
                         cases e269
                         replace p269 := eq_true p269
                         replace q269 := eq_true q269
                         have p270 : 0 ≤ (x10_3 : Int) := of_decide_eq_true (by first | (with_reducible assumption) | assumption)
                         have q270 : x10_3 < (x6_2.length : Int) := of_decide_eq_true (by first | (with_reducible assumption) | assumption)
                         obtain ⟨ad270, A270_0, c270_0, e270, hx270_0, hl270_0, hi270_0⟩ := at_L5 (Kd.S_reads' HO_6.out).2.2 x10_3 p270 q270
                         obtain rfl : ad268 = ad270 := (by injection e270)
                         obtain ⟨ce270, hce270, hMe270, hcc270⟩ := Kd.S_get HO_6.out [] x10_3 p270 (by first | exact q270 | exact of_decide_eq_true (by first | (with_reducible assumption) | assumption) | (have e_ := (Kd.S_reads' HO_6.out).1; omega))
                         obtain ⟨ve270_0, rfl, ge270_0⟩ := hMe270
                         have hv270_0 := hcc270 0 _ rfl
                         rw [Nat.add_zero, show ((Kd.slice 3 (Kd.int .i64))).sz = 1 from rfl, Nat.mul_one] at hv270_0
                         replace hv270_0 := Option.some.inj (hv270_0.symm.trans hx270_0)
                         rw [hv270_0] at ge270_0
                         have HL270_0 := Aside0.mk (show Kd.R (Kd.int .i64) 3 _ _ _ _ (rd_L5 x6_2 x10_3) from ge270_0)
                         clear hv270_0 ge270_0
                         clear hcc270 hce270
                         have HR270_0 := Aside0.mk hi270_0
                         have HC270_0 := Aside0.mk hl270_0
                         clear hi270_0 hl270_0
                         replace p270 := eq_true p270
                         replace q270 := eq_true q270
                         have ea_ := Option.some.inj (hx268_0.symm.trans hx270_0)
                         injection ea_ with ea_ en_ ec_
                         subst ea_
                         subst ec_
                         clear en_
                         have p271 : 0 ≤ (x11_4 : Int) := of_decide_eq_true (by first | (with_reducible assumption) | assumption)
                         have q271 : x11_4 < ((rd_L5 x6_2 x10_3).length : Int) := of_decide_eq_true (by first | (with_reducible assumption) | assumption)
                         obtain ⟨ad271, e271, hx271_0⟩ := Kd.at_int (by repeat (first | (with_reducible exact HR270_0.out) | (with_reducible refine Kd.C_alloc ?_ _) | (with_reducible refine Kd.C_drewN ?_ _) | (with_reducible refine Kd.C_drew ?_) | exact HR270_0.out)) x11_4 p271 q271
                         cases e271
                         replace p271 := eq_true p271
                         replace q271 := eq_true q271
                         go_wp2
                         repeat (go_quiet (fail); try go_wp2)
                         go_roundg k5
                         case measure => have := HJ4.out; have := HK2.out; have := HK3.out; have := HK4.out; have := HK5.out; omega
                         case rel => exact ⟨(wrap64 (x11_4 + 1)), (by first | rfl | (simp; done) | (simp [*]; done)), H', ⟨by have := HJ4.out; have := HK2.out; have := HK3.out; have := HK4.out; have := HK5.out; omega⟩, ⟨by (with_reducible repeat (first | apply Kd.S_alloc | apply Kd.S_drewN | apply Kd.S_drew)); exact HO_6.out⟩, ⟨by (with_reducible repeat (first | refine blk_drewN ?_ _ | refine blk_drew ?_ | refine blk_alloc ?_ _)); exact BK246.out⟩, ⟨by repeat (first | (with_reducible first | exact HB.out | apply below_alloc | apply pw_below_drewN | apply below_drew1 | refine below_set ?_ GE246.out) | exact HB.out)⟩⟩
                       ·rw [if_neg c96] at H
                        as_aux_lemma =>
                         have c96b0 : ((rd (rd_L5 x6_2 x10_3) x11_4) == x12_5) = false := beq_eq_false_iff_ne.mpr c96
                         have c96b1 : ((rd (rd_L5 x6_2 x10_3) x11_4) != x12_5) = true := bne_iff_ne.mpr c96
                         obtain rfl := Option.some.inj H
                         obtain ⟨Ao98, co98, eo98⟩ := Kd.S_slice HO_6.out
                         subst eo98
                         have p268 : 0 ≤ (x10_3 : Int) := of_decide_eq_true (by first | (with_reducible assumption) | assumption)
                         have q268 : x10_3 < (x6_2.length : Int) := of_decide_eq_true (by first | (with_reducible assumption) | assumption)
                         obtain ⟨ad268, A268_0, c268_0, e268, hx268_0, hl268_0, hi268_0⟩ := at_L5 (Kd.S_reads' HO_6.out).2.2 x10_3 p268 q268
                         cases e268
                         obtain ⟨ce268, hce268, hMe268, hcc268⟩ := Kd.S_get HO_6.out [] x10_3 p268 (by first | exact q268 | exact of_decide_eq_true (by first | (with_reducible assumption) | assumption) | (have e_ := (Kd.S_reads' HO_6.out).1; omega))
                         obtain ⟨ve268_0, rfl, ge268_0⟩ := hMe268
                         have hv268_0 := hcc268 0 _ rfl
                         rw [Nat.add_zero, show ((Kd.slice 3 (Kd.int .i64))).sz = 1 from rfl, Nat.mul_one] at hv268_0
                         replace hv268_0 := Option.some.inj (hv268_0.symm.trans hx268_0)
                         rw [hv268_0] at ge268_0
                         have HL268_0 := Aside0.mk (show Kd.R (Kd.int .i64) 3 _ _ _ _ (rd_L5 x6_2 x10_3) from ge268_0)
                         clear hv268_0 ge268_0
                         clear hcc268 hce268
                         have HR268_0 := Aside0.mk hi268_0
                         have HC268_0 := Aside0.mk hl268_0
                         clear hi268_0 hl268_0
                         replace p268 := eq_true p268
                         replace q268 := eq_true q268
                         have p269 : 0 ≤ (x11_4 : Int) := of_decide_eq_true (by first | (with_reducible assumption) | assumption)
                         have q269 : x11_4 < ((rd_L5 x6_2 x10_3).length : Int) := of_decide_eq_true (by first | (with_reducible assumption) | assumption)
                         obtain ⟨ad269, e269, hx269_0⟩ := Kd.at_int (by repeat (first | (with_reducible exact HR268_0.out) | (with_reducible refine Kd.C_alloc ?_ _) | (with_reducible refine Kd.C_drewN ?_ _) | (with_reducible refine Kd.C_drew ?_) | exact HR268_0.out)) x11_4 p269 q269
                         cases e269
                         replace p269 := eq_true p269
                         replace q269 := eq_true q269
                         have p270 : 0 ≤ (x10_3 : Int) := of_decide_eq_true (by first | (with_reducible assumption) | assumption)
                         have q270 : x10_3 < (x6_2.length : Int) := of_decide_eq_true (by first | (with_reducible assumption) | assumption)
                         obtain ⟨ad270, A270_0, c270_0, e270, hx270_0, hl270_0, hi270_0⟩ := at_L5 (Kd.S_reads' HO_6.out).2.2 x10_3 p270 q270
                         obtain rfl : ad268 = ad270 := (by injection e270)
                         obtain ⟨ce270, hce270, hMe270, hcc270⟩ := Kd.S_get HO_6.out [] x10_3 p270 (by first | exact q270 | exact of_decide_eq_true (by first | (with_reducible assumption) | assumption) | (have e_ := (Kd.S_reads' HO_6.out).1; omega))
                         obtain ⟨ve270_0, rfl, ge270_0⟩ := hMe270
                         have hv270_0 := hcc270 0 _ rfl
                         rw [Nat.add_zero, show ((Kd.slice 3 (Kd.int .i64))).sz = 1 from rfl, Nat.mul_one] at hv270_0
                         replace hv270_0 := Option.some.inj (hv270_0.symm.trans hx270_0)
                         rw [hv270_0] at ge270_0
                         have HL270_0 := Aside0.mk (show Kd.R (Kd.int .i64) 3 _ _ _ _ (rd_L5 x6_2 x10_3) from ge270_0)
                         clear hv270_0 ge270_0
                         clear hcc270 hce270
                         have HR270_0 := Aside0.mk hi270_0
                         have HC270_0 := Aside0.mk hl270_0
                         clear hi270_0 hl270_0
                         replace p270 := eq_true p270
                         replace q270 := eq_true q270
                         have ea_ := Option.some.inj (hx268_0.symm.trans hx270_0)
                         injection ea_ with ea_ en_ ec_
                         subst ea_
                         subst ec_
                         clear en_
                         have p271 : 0 ≤ (x11_4 : Int) := of_decide_eq_true (by first | (with_reducible assumption) | assumption)
                         have q271 : x11_4 < ((rd_L5 x6_2 x10_3).length : Int) := of_decide_eq_true (by first | (with_reducible assumption) | assumption)
                         obtain ⟨ad271, e271, hx271_0⟩ := Kd.at_int (by repeat (first | (with_reducible exact HR270_0.out) | (with_reducible refine Kd.C_alloc ?_ _) | (with_reducible refine Kd.C_drewN ?_ _) | (with_reducible refine Kd.C_drew ?_) | exact HR270_0.out)) x11_4 p271 q271
                         cases e271
                         replace p271 := eq_true p271
                         replace q271 := eq_true q271
                         go_wp2
                         repeat (go_quiet (fail); try go_wp2)
                         go_ret
                         exact ⟨by first | rfl | (simp [errW_none, errW_some] <;> rfl) | (simp [*, errW_none, errW_some] <;> rfl), by repeat (first | (with_reducible first | exact HB.out | apply below_alloc | apply pw_below_drewN | apply below_drew1 | refine below_set ?_ GE246.out) | exact HB.out)⟩
                      ·rw [if_neg c95] at H
                       as_aux_lemma =>
                        have c95b0 : decide (2 ≤ (rd (rd_L5 x6_2 x10_3) x11_4)) = false := decide_eq_false c95
                        clear c95
                        have H' := Aside0.mk H
                        clear H
                        obtain ⟨Ao99, co99, eo99⟩ := Kd.S_slice HO_6.out
                        subst eo99
                        have p268 : 0 ≤ (x10_3 : Int) := of_decide_eq_true (by first | (with_reducible assumption) | assumption)
                        have q268 : x10_3 < (x6_2.length : Int) := of_decide_eq_true (by first | (with_reducible assumption) | assumption)
                        obtain ⟨ad268, A268_0, c268_0, e268, hx268_0, hl268_0, hi268_0⟩ := at_L5 (Kd.S_reads' HO_6.out).2.2 x10_3 p268 q268
                        cases e268
                        obtain ⟨ce268, hce268, hMe268, hcc268⟩ := Kd.S_get HO_6.out [] x10_3 p268 (by first | exact q268 | exact of_decide_eq_true (by first | (with_reducible assumption) | assumption) | (have e_ := (Kd.S_reads' HO_6.out).1; omega))
                        obtain ⟨ve268_0, rfl, ge268_0⟩ := hMe268
                        have hv268_0 := hcc268 0 _ rfl
                        rw [Nat.add_zero, show ((Kd.slice 3 (Kd.int .i64))).sz = 1 from rfl, Nat.mul_one] at hv268_0
                        replace hv268_0 := Option.some.inj (hv268_0.symm.trans hx268_0)
                        rw [hv268_0] at ge268_0
                        have HL268_0 := Aside0.mk (show Kd.R (Kd.int .i64) 3 _ _ _ _ (rd_L5 x6_2 x10_3) from ge268_0)
                        clear hv268_0 ge268_0
                        clear hcc268 hce268
                        have HR268_0 := Aside0.mk hi268_0
                        have HC268_0 := Aside0.mk hl268_0
                        clear hi268_0 hl268_0
                        replace p268 := eq_true p268
                        replace q268 := eq_true q268
                        have p269 : 0 ≤ (x11_4 : Int) := of_decide_eq_true (by first | (with_reducible assumption) | assumption)
                        have q269 : x11_4 < ((rd_L5 x6_2 x10_3).length : Int) := of_decide_eq_true (by first | (with_reducible assumption) | assumption)
                        obtain ⟨ad269, e269, hx269_0⟩ := Kd.at_int (by repeat (first | (with_reducible exact HR268_0.out) | (with_reducible refine Kd.C_alloc ?_ _) | (with_reducible refine Kd.C_drewN ?_ _) | (with_reducible refine Kd.C_drew ?_) | exact HR268_0.out)) x11_4 p269 q269
                        cases e269
                        replace p269 := eq_true p269
                        replace q269 := eq_true q269
                        go_wp2
                        repeat (go_quiet (fail); try go_wp2)
                        go_roundg k5
                        case measure => have := HJ4.out; have := HK2.out; have := HK3.out; have := HK4.out; have := HK5.out; omega
                        case rel => exact ⟨(wrap64 (x11_4 + 1)), (by first | rfl | (simp; done) | (simp [*]; done)), H', ⟨by have := HJ4.out; have := HK2.out; have := HK3.out; have := HK4.out; have := HK5.out; omega⟩, ⟨by (with_reducible repeat (first | apply Kd.S_alloc | apply Kd.S_drewN | apply Kd.S_drew)); exact HO_6.out⟩, ⟨by (with_reducible repeat (first | refine blk_drewN ?_ _ | refine blk_drew ?_ | refine blk_alloc ?_ _)); exact BK246.out⟩, ⟨by repeat (first | (with_reducible first | exact HB.out | apply below_alloc | apply pw_below_drewN | apply below_drew1 | refine below_set ?_ GE246.out) | exact HB.out)⟩⟩
                     ·rw [if_neg c94] at H
                      exact absurd H (by simp)
                    ·rw [if_neg c93] at H
                     exact absurd H (by simp)
                   ·rw [if_neg c92] at H
                    exact absurd H (by simp)
                  ·rw [if_neg c91] at H
                   exact absurd H (by simp)
             ·rw [if_neg c32] at H
              have c32b0 : decide (x11_4 < (l0_0.length : Int)) = false := decide_eq_false c32
              clear c32
              have H' := Aside0.mk H
              clear H
              go_wp2
              repeat (go_quiet (fail); try go_wp2)
              go_roundg k4
              case measure => have := HJ4.out; have := HK2.out; have := HK3.out; have := HK4.out; omega
              case rel => exact ⟨(wrap64 (x10_3 + 1)), (by first | rfl | (simp; done) | (simp [*]; done)), H', ⟨by have := HJ4.out; have := HK2.out; have := HK3.out; have := HK4.out; omega⟩, ⟨by (with_reducible repeat (first | apply Kd.S_alloc | apply Kd.S_drewN | apply Kd.S_drew)); exact HO_6.out⟩, ⟨by (with_reducible repeat (first | refine blk_drewN ?_ _ | refine blk_drew ?_ | refine blk_alloc ?_ _)); exact BK246.out⟩, ⟨by repeat (first | (with_reducible first | exact HB.out | apply below_alloc | apply pw_below_drewN | apply below_drew1 | refine below_set ?_ GE246.out) | exact HB.out)⟩⟩
          ·rw [if_neg c31] at H
           have c31b0 : decide (x10_3 < (l0_0.length : Int)) = false := decide_eq_false c31
           clear c31
           obtain rfl := Option.some.inj H
           go_wp2
           repeat (go_quiet (fail); try go_wp2)
           go_ret
           exact ⟨by first | rfl | (simp [errW_none, errW_some] <;> rfl) | (simp [*, errW_none, errW_some] <;> rfl), by repeat (first | (with_reducible first | exact HB.out | apply below_alloc | apply pw_below_drewN | apply below_drew1 | refine below_set ?_ GE246.out) | exact HB.out)⟩
 ·replace c4 := Bool.eq_false_iff.mpr c4
  as_aux_lemma =>
   subst c4
   have H1 : (some false) = some r := by rw [if_neg (show ¬ (false = true) by decide)] at H; exact H
   clear H
   have H := H1
   clear H1
   obtain rfl := Option.some.inj H
   go_enter Try.func5, Try.ntmps5
   go_wp2_with (first | ((with_reducible refine gate_dst (N := 2) rfl ?_); (try (refine gate_guard (by rfl) ?_; dsimp only)); refine box_event ?hg (N := 2) ?hd (cs := #[.slice A0_0 l0_0.length c0_0, .slice A0_1 l0_1.length c0_1]) (t := 25) ?hr ?_; (case hd => rfl); (case hg => rfl); (case hr => first | (go_simp; done) | (go_simp; rfl)); intro gb246 hg w100 hbox hb; have n0_ := Aside0.mk (below_step (by repeat (first | (with_reducible first | exact HB.out | apply below_alloc | apply pw_below_drewN | apply below_drew1) | exact HB.out)) hb); have n1_ := Aside0.mk (hbox); have n2_ := Aside0.mk ((by rw [hg]; exact (below_size (by repeat (first | (with_reducible first | exact HB.out | apply below_alloc | apply pw_below_drewN | apply below_drew1) | exact HB.out))) : w.heap.size ≤ gb246)); have n3_ := Aside0.mk ((by rw [hg]; exact (below_size (by repeat (first | (with_reducible first | exact HB.out | apply below_alloc | apply pw_below_drewN | apply below_drew1) | exact HB.out))) : w.heap.size ≤ gb246)); clear HB; have HB := n0_; have BK246 := n1_; have GW246 := n2_; have GE246 := n3_; clear n0_ n1_ n2_ n3_; clear hb hbox hg) | (go_at_call 10; (with_reducible refine (stillagelaw07_awake.calls k  false _ A3.out).mono ?_); rintro e w101 ⟨rfl, hb⟩; have n0_ := Aside0.mk (blk_below (g := gb246) (o := .cells #[.slice A0_0 l0_0.length c0_0, .slice A0_1 l0_1.length c0_1] 25 (0, 0)) (by (with_reducible repeat (first | refine blk_drewN ?_ _ | refine blk_drew ?_ | refine blk_alloc ?_ _)); exact BK246.out) hb); have n1_ := Aside0.mk (below_step (by repeat (first | (with_reducible first | exact HB.out | apply below_alloc | apply pw_below_drewN | apply below_drew1 | refine below_set ?_ GE246.out) | exact HB.out)) hb); clear BK246; clear HB; have BK246 := n0_; have HB := n1_; clear n0_ n1_; (try clear hb); (try clear hb2); (try clear hk); (try clear hi)))
   repeat (go_quiet (first | ((with_reducible refine gate_dst (N := 2) rfl ?_); (try (refine gate_guard (by rfl) ?_; dsimp only)); refine box_event ?hg (N := 2) ?hd (cs := #[.slice A0_0 l0_0.length c0_0, .slice A0_1 l0_1.length c0_1]) (t := 25) ?hr ?_; (case hd => rfl); (case hg => rfl); (case hr => first | (go_simp; done) | (go_simp; rfl)); intro gb246 hg w100 hbox hb; have n0_ := Aside0.mk (below_step (by repeat (first | (with_reducible first | exact HB.out | apply below_alloc | apply pw_below_drewN | apply below_drew1) | exact HB.out)) hb); have n1_ := Aside0.mk (hbox); have n2_ := Aside0.mk ((by rw [hg]; exact (below_size (by repeat (first | (with_reducible first | exact HB.out | apply below_alloc | apply pw_below_drewN | apply below_drew1) | exact HB.out))) : w.heap.size ≤ gb246)); have n3_ := Aside0.mk ((by rw [hg]; exact (below_size (by repeat (first | (with_reducible first | exact HB.out | apply below_alloc | apply pw_below_drewN | apply below_drew1) | exact HB.out))) : w.heap.size ≤ gb246)); clear HB; have HB := n0_; have BK246 := n1_; have GW246 := n2_; have GE246 := n3_; clear n0_ n1_ n2_ n3_; clear hb hbox hg) | (go_at_call 10; (with_reducible refine (stillagelaw07_awake.calls k  false _ A3.out).mono ?_); rintro e w101 ⟨rfl, hb⟩; have n0_ := Aside0.mk (blk_below (g := gb246) (o := .cells #[.slice A0_0 l0_0.length c0_0, .slice A0_1 l0_1.length c0_1] 25 (0, 0)) (by (with_reducible repeat (first | refine blk_drewN ?_ _ | refine blk_drew ?_ | refine blk_alloc ?_ _)); exact BK246.out) hb); have n1_ := Aside0.mk (below_step (by repeat (first | (with_reducible first | exact HB.out | apply below_alloc | apply pw_below_drewN | apply below_drew1 | refine below_set ?_ GE246.out) | exact HB.out)) hb); clear BK246; clear HB; have BK246 := n0_; have HB := n1_; clear n0_ n1_; (try clear hb); (try clear hb2); (try clear hk); (try clear hi))); try go_wp2_with (first | ((with_reducible refine gate_dst (N := 2) rfl ?_); (try (refine gate_guard (by rfl) ?_; dsimp only)); refine box_event ?hg (N := 2) ?hd (cs := #[.slice A0_0 l0_0.length c0_0, .slice A0_1 l0_1.length c0_1]) (t := 25) ?hr ?_; (case hd => rfl); (case hg => rfl); (case hr => first | (go_simp; done) | (go_simp; rfl)); intro gb246 hg w100 hbox hb; have n0_ := Aside0.mk (below_step (by repeat (first | (with_reducible first | exact HB.out | apply below_alloc | apply pw_below_drewN | apply below_drew1) | exact HB.out)) hb); have n1_ := Aside0.mk (hbox); have n2_ := Aside0.mk ((by rw [hg]; exact (below_size (by repeat (first | (with_reducible first | exact HB.out | apply below_alloc | apply pw_below_drewN | apply below_drew1) | exact HB.out))) : w.heap.size ≤ gb246)); have n3_ := Aside0.mk ((by rw [hg]; exact (below_size (by repeat (first | (with_reducible first | exact HB.out | apply below_alloc | apply pw_below_drewN | apply below_drew1) | exact HB.out))) : w.heap.size ≤ gb246)); clear HB; have HB := n0_; have BK246 := n1_; have GW246 := n2_; have GE246 := n3_; clear n0_ n1_ n2_ n3_; clear hb hbox hg) | (go_at_call 10; (with_reducible refine (stillagelaw07_awake.calls k  false _ A3.out).mono ?_); rintro e w101 ⟨rfl, hb⟩; have n0_ := Aside0.mk (blk_below (g := gb246) (o := .cells #[.slice A0_0 l0_0.length c0_0, .slice A0_1 l0_1.length c0_1] 25 (0, 0)) (by (with_reducible repeat (first | refine blk_drewN ?_ _ | refine blk_drew ?_ | refine blk_alloc ?_ _)); exact BK246.out) hb); have n1_ := Aside0.mk (below_step (by repeat (first | (with_reducible first | exact HB.out | apply below_alloc | apply pw_below_drewN | apply below_drew1 | refine below_set ?_ GE246.out) | exact HB.out)) hb); clear BK246; clear HB; have BK246 := n0_; have HB := n1_; clear n0_ n1_; (try clear hb); (try clear hb2); (try clear hk); (try clear hi))))
   go_ret
   exact ⟨by first | rfl | (simp [errW_none, errW_some] <;> rfl) | (simp [*, errW_none, errW_some] <;> rfl), by repeat (first | (with_reducible first | exact HB.out | apply below_alloc | apply pw_below_drewN | apply below_drew1 | refine below_set ?_ GE246.out) | exact HB.out)⟩

end Go.Proofs.Ytkfoicfbmhalbaa.PReachSums
