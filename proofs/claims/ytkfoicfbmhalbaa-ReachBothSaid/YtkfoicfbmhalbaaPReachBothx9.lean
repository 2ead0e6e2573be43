-- Written by a program of this session (wip/oprint): after the pattern of the kit's print, which does not take this law. -- trimmed
import Derived.Test.YtkfoicfbmhalbaaPReachBothx0
import Derived.Test.YtkfoicfbmhalbaaPReachBothx5
import Derived.Test.YtkfoicfbmhalbaaPReachBothx6
import Derived.Test.YtkfoicfbmhalbaaPReachBothx8
namespace Go.Proofs.Ytkfoicfbmhalbaa.PReachBoth
open Go.RowKit Go.Proofs.YtkfoicfbmhalbaaW.PrintWords Go.Proofs.YtkfoicfbmhalbaaW.PrintLast Go.Proofs.YtkfoicfbmhalbaaW.PrintMore
attribute [local go_sem] max2_int min2_int max_two min_two max_three min_three max_four min_four   -- for this text's walks alone
set_option linter.unusedVariables false
set_option linter.unusedSimpArgs false

/-! ### stillagelaw07_ReachBoth: function 7 -/
mutual
def stillagelaw07_ReachBoth.j0 : Nat → List Int → Bool → List (S43) → List (S27) → Option (Bool)
 | 0, _, _, _, _ => none
 | k + 1, x1, x25, x255000, x255001 => if x25 = true then (some true) else (stillagelaw07_ReachBoth.l0 k x1 (x255000.length : Int) 0 x255000 x255001)
def stillagelaw07_ReachBoth.l0 : Nat → List Int → Int → Int → List (S43) → List (S27) → Option (Bool)
 | 0, _, _, _, _, _ => none
 | k + 1, x1, x5, x6, x255000, x255001 => if x6 < x5 then ((reach_From.f k x255000 x255001 x1 x6).bind fun bt257 => (if bt257.2 = 0 then (if (bt257.1.length : Int) = x5 then (if 0 ≤ x6 then (if x6 < (bt257.1.length : Int) then (stillagelaw07_ReachBoth.j2 k x1 x5 x6 bt257.1 ((rd bt257.1 x6) != 0) x255000 x255001) else (none)) else (none)) else (stillagelaw07_ReachBoth.j2 k x1 x5 x6 bt257.1 true x255000 x255001)) else (stillagelaw07_ReachBoth.j2 k x1 x5 x6 bt257.1 true x255000 x255001))) else (some true)
def stillagelaw07_ReachBoth.j2 : Nat → List Int → Int → Int → List Int → Bool → List (S43) → List (S27) → Option (Bool)
 | 0, _, _, _, _, _, _, _ => none
 | k + 1, x1, x5, x6, x7, x55, x255000, x255001 => if x55 = true then (some false) else (stillagelaw07_ReachBoth.l1 k x1 x5 x6 x7 0 x255000 x255001)
def stillagelaw07_ReachBoth.l1 : Nat → List Int → Int → Int → List Int → Int → List (S43) → List (S27) → Option (Bool)
 | 0, _, _, _, _, _, _, _ => none
 | k + 1, x1, x5, x6, x7, x9, x255000, x255001 => if x9 < x5 then ((reach_To.f k x255000 x255001 x1 x9).bind fun bt262 => (if bt262.2 = 0 then (if (bt262.1.length : Int) = x5 then (if 0 ≤ x6 then (if x6 < (bt262.1.length : Int) then (if 0 ≤ x9 then (if x9 < (x7.length : Int) then (if (rd bt262.1 x6) = (rd x7 x9) then (stillagelaw07_ReachBoth.l1 k x1 x5 x6 x7 (wrap64 (x9 + 1)) x255000 x255001) else (some false)) else (none)) else (none)) else (none)) else (none)) else (some false)) else (some false))) else (stillagelaw07_ReachBoth.l2 k x1 x5 x6 x7 x255001 (x255001.length : Int) 0 x255000 x255001)
def stillagelaw07_ReachBoth.l2 : Nat → List Int → Int → Int → List Int → List (S27) → Int → Int → List (S43) → List (S27) → Option (Bool)
 | 0, _, _, _, _, _, _, _, _, _ => none
 | k + 1, x1, x5, x6, x7, x88, x89, x90, x255000, x255001 => if x90 < x89 then (if 0 ≤ x90 then (if x90 < (x88.length : Int) then ((stillageref07_Open.f k x1 (wrap64 (x90 + 1))).bind fun t270 => (if t270 = true then (if 0 ≤ ((rd_T27 x88 x90).f0) then (if ((rd_T27 x88 x90).f0) < (x7.length : Int) then (if (rd x7 ((rd_T27 x88 x90).f0)) ≥ 0 then (if ((rd_T27 x88 x90).f0) = x6 then (if 0 ≤ ((rd_T27 x88 x90).f1) then (if ((rd_T27 x88 x90).f1) < (x7.length : Int) then (if (rd x7 ((rd_T27 x88 x90).f1)) < 0 then (some false) else (if (rd x7 ((rd_T27 x88 x90).f1)) > (wrap64 ((rd x7 ((rd_T27 x88 x90).f0)) + 1)) then (some false) else (stillagelaw07_ReachBoth.l2 k x1 x5 x6 x7 x88 x89 (wrap64 (x90 + 1)) x255000 x255001))) else (none)) else (none)) else (if ((rd_T27 x88 x90).f0) < (x255000.length : Int) then (if ((rd_T43 x255000 ((rd_T27 x88 x90).f0)).f1) = 1 then (if 0 ≤ ((rd_T27 x88 x90).f1) then (if ((rd_T27 x88 x90).f1) < (x7.length : Int) then (if (rd x7 ((rd_T27 x88 x90).f1)) < 0 then (some false) else (if (rd x7 ((rd_T27 x88 x90).f1)) > (wrap64 ((rd x7 ((rd_T27 x88 x90).f0)) + 1)) then (some false) else (stillagelaw07_ReachBoth.l2 k x1 x5 x6 x7 x88 x89 (wrap64 (x90 + 1)) x255000 x255001))) else (none)) else (none)) else (stillagelaw07_ReachBoth.l2 k x1 x5 x6 x7 x88 x89 (wrap64 (x90 + 1)) x255000 x255001)) else (none))) else (stillagelaw07_ReachBoth.l2 k x1 x5 x6 x7 x88 x89 (wrap64 (x90 + 1)) x255000 x255001)) else (none)) else (none)) else (stillagelaw07_ReachBoth.l2 k x1 x5 x6 x7 x88 x89 (wrap64 (x90 + 1)) x255000 x255001))) else (none)) else (none)) else (stillagelaw07_ReachBoth.l0 k x1 x5 (wrap64 (x6 + 1)) x255000 x255001)
end
def stillagelaw07_ReachBoth.f (k : Nat) (l0_0 : List (S43)) (l0_1 : List (S27)) (l1 : List Int) : Option (Bool) := (stillagelaw07_awake.f k).bind fun t255 => (if t255 = true then ((stillagelaw07_Fits.f k l0_0 l0_1 l1).bind fun t256 => (if t256 = true then (stillagelaw07_ReachBoth.j0 k l1 (decide ((l0_0.length : Int) > 25)) l0_0 l0_1) else (stillagelaw07_ReachBoth.j0 k l1 true l0_0 l0_1))) else (some false))
theorem stillagelaw07_ReachBoth.mono_l : ∀ k, (∀ y0 y1 y2 y3, LeO (stillagelaw07_ReachBoth.j0 k y0 y1 y2 y3) (stillagelaw07_ReachBoth.j0 (k + 1) y0 y1 y2 y3)) ∧ (∀ y0 y1 y2 y3 y4, LeO (stillagelaw07_ReachBoth.l0 k y0 y1 y2 y3 y4) (stillagelaw07_ReachBoth.l0 (k + 1) y0 y1 y2 y3 y4)) ∧ (∀ y0 y1 y2 y3 y4 y5 y6, LeO (stillagelaw07_ReachBoth.j2 k y0 y1 y2 y3 y4 y5 y6) (stillagelaw07_ReachBoth.j2 (k + 1) y0 y1 y2 y3 y4 y5 y6)) ∧ (∀ y0 y1 y2 y3 y4 y5 y6, LeO (stillagelaw07_ReachBoth.l1 k y0 y1 y2 y3 y4 y5 y6) (stillagelaw07_ReachBoth.l1 (k + 1) y0 y1 y2 y3 y4 y5 y6)) ∧ (∀ y0 y1 y2 y3 y4 y5 y6 y7 y8, LeO (stillagelaw07_ReachBoth.l2 k y0 y1 y2 y3 y4 y5 y6 y7 y8) (stillagelaw07_ReachBoth.l2 (k + 1) y0 y1 y2 y3 y4 y5 y6 y7 y8))
 | 0 => ⟨fun _ _ _ _ r h => by simp [stillagelaw07_ReachBoth.j0] at h, fun _ _ _ _ _ r h => by simp [stillagelaw07_ReachBoth.l0] at h, fun _ _ _ _ _ _ _ r h => by simp [stillagelaw07_ReachBoth.j2] at h, fun _ _ _ _ _ _ _ r h => by simp [stillagelaw07_ReachBoth.l1] at h, fun _ _ _ _ _ _ _ _ _ r h => by simp [stillagelaw07_ReachBoth.l2] at h⟩
 | k + 1 => by
  obtain ⟨ih0, ih1, ih2, ih3, ih4⟩ := stillagelaw07_ReachBoth.mono_l k
  refine ⟨?_, ?_, ?_, ?_, ?_⟩
  ·intro y0 y1 y2 y3
   unfold stillagelaw07_ReachBoth.j0
   repeat' first
   | (with_reducible exact ih0 _ _ _ _)
   | (with_reducible exact ih1 _ _ _ _ _)
   | (with_reducible exact ih2 _ _ _ _ _ _ _)
   | (with_reducible exact ih3 _ _ _ _ _ _ _)
   | (with_reducible exact ih4 _ _ _ _ _ _ _ _ _)
   | (with_reducible exact reach_From.mono _ _ _ _ _)
   | (with_reducible exact reach_To.mono _ _ _ _ _)
   | (with_reducible exact stillagelaw07_Fits.mono _ _ _ _)
   | (with_reducible exact stillagelaw07_awake.mono _)
   | (with_reducible exact stillageref07_Open.mono _ _ _)
   | (with_reducible exact LeO.refl _)
   | (with_reducible exact LeO.none _)
   | (with_reducible refine LeO.ite ?_ ?_)
   | (with_reducible refine LeO.bind ?_ (fun _ => ?_))
   | exact ih0 _ _ _ _
   | exact ih1 _ _ _ _ _
   | exact ih2 _ _ _ _ _ _ _
   | exact ih3 _ _ _ _ _ _ _
   | exact ih4 _ _ _ _ _ _ _ _ _
   | exact reach_From.mono _ _ _ _ _
   | exact reach_To.mono _ _ _ _ _
   | exact stillagelaw07_Fits.mono _ _ _ _
   | exact stillagelaw07_awake.mono _
   | exact stillageref07_Open.mono _ _ _
   | exact LeO.none _
   | refine LeO.ite ?_ ?_
   | refine LeO.bind ?_ (fun _ => ?_)
  ·intro y0 y1 y2 y3 y4
   unfold stillagelaw07_ReachBoth.l0
   repeat' first
   | (with_reducible exact ih0 _ _ _ _)
   | (with_reducible exact ih1 _ _ _ _ _)
   | (with_reducible exact ih2 _ _ _ _ _ _ _)
   | (with_reducible exact ih3 _ _ _ _ _ _ _)
   | (with_reducible exact ih4 _ _ _ _ _ _ _ _ _)
   | (with_reducible exact reach_From.mono _ _ _ _ _)
   | (with_reducible exact reach_To.mono _ _ _ _ _)
   | (with_reducible exact stillagelaw07_Fits.mono _ _ _ _)
   | (with_reducible exact stillagelaw07_awake.mono _)
   | (with_reducible exact stillageref07_Open.mono _ _ _)
   | (with_reducible exact LeO.refl _)
   | (with_reducible exact LeO.none _)
   | (with_reducible refine LeO.ite ?_ ?_)
   | (with_reducible refine LeO.bind ?_ (fun _ => ?_))
   | exact ih0 _ _ _ _
   | exact ih1 _ _ _ _ _
   | exact ih2 _ _ _ _ _ _ _
   | exact ih3 _ _ _ _ _ _ _
   | exact ih4 _ _ _ _ _ _ _ _ _
   | exact reach_From.mono _ _ _ _ _
   | exact reach_To.mono _ _ _ _ _
   | exact stillagelaw07_Fits.mono _ _ _ _
   | exact stillagelaw07_awake.mono _
   | exact stillageref07_Open.mono _ _ _
   | exact LeO.none _
   | refine LeO.ite ?_ ?_
   | refine LeO.bind ?_ (fun _ => ?_)
  ·intro y0 y1 y2 y3 y4 y5 y6
   unfold stillagelaw07_ReachBoth.j2
   repeat' first
   | (with_reducible exact ih0 _ _ _ _)
   | (with_reducible exact ih1 _ _ _ _ _)
   | (with_reducible exact ih2 _ _ _ _ _ _ _)
   | (with_reducible exact ih3 _ _ _ _ _ _ _)
   | (with_reducible exact ih4 _ _ _ _ _ _ _ _ _)
   | (with_reducible exact reach_From.mono _ _ _ _ _)
   | (with_reducible exact reach_To.mono _ _ _ _ _)
   | (with_reducible exact stillagelaw07_Fits.mono _ _ _ _)
   | (with_reducible exact stillagelaw07_awake.mono _)
   | (with_reducible exact stillageref07_Open.mono _ _ _)
   | (with_reducible exact LeO.refl _)
   | (with_reducible exact LeO.none _)
   | (with_reducible refine LeO.ite ?_ ?_)
   | (with_reducible refine LeO.bind ?_ (fun _ => ?_))
   | exact ih0 _ _ _ _
   | exact ih1 _ _ _ _ _
   | exact ih2 _ _ _ _ _ _ _
   | exact ih3 _ _ _ _ _ _ _
   | exact ih4 _ _ _ _ _ _ _ _ _
   | exact reach_From.mono _ _ _ _ _
   | exact reach_To.mono _ _ _ _ _
   | exact stillagelaw07_Fits.mono _ _ _ _
   | exact stillagelaw07_awake.mono _
   | exact stillageref07_Open.mono _ _ _
   | exact LeO.none _
   | refine LeO.ite ?_ ?_
   | refine LeO.bind ?_ (fun _ => ?_)
  ·intro y0 y1 y2 y3 y4 y5 y6
   unfold stillagelaw07_ReachBoth.l1
   repeat' first
   | (with_reducible exact ih0 _ _ _ _)
   | (with_reducible exact ih1 _ _ _ _ _)
   | (with_reducible exact ih2 _ _ _ _ _ _ _)
   | (with_reducible exact ih3 _ _ _ _ _ _ _)
   | (with_reducible exact ih4 _ _ _ _ _ _ _ _ _)
   | (with_reducible exact reach_From.mono _ _ _ _ _)
   | (with_reducible exact reach_To.mono _ _ _ _ _)
   | (with_reducible exact stillagelaw07_Fits.mono _ _ _ _)
   | (with_reducible exact stillagelaw07_awake.mono _)
   | (with_reducible exact stillageref07_Open.mono _ _ _)
   | (with_reducible exact LeO.refl _)
   | (with_reducible exact LeO.none _)
   | (with_reducible refine LeO.ite ?_ ?_)
   | (with_reducible refine LeO.bind ?_ (fun _ => ?_))
   | exact ih0 _ _ _ _
   | exact ih1 _ _ _ _ _
   | exact ih2 _ _ _ _ _ _ _
   | exact ih3 _ _ _ _ _ _ _
   | exact ih4 _ _ _ _ _ _ _ _ _
   | exact reach_From.mono _ _ _ _ _
   | exact reach_To.mono _ _ _ _ _
   | exact stillagelaw07_Fits.mono _ _ _ _
   | exact stillagelaw07_awake.mono _
   | exact stillageref07_Open.mono _ _ _
   | exact LeO.none _
   | refine LeO.ite ?_ ?_
   | refine LeO.bind ?_ (fun _ => ?_)
  ·intro y0 y1 y2 y3 y4 y5 y6 y7 y8
   unfold stillagelaw07_ReachBoth.l2
   repeat' first
   | (with_reducible exact ih0 _ _ _ _)
   | (with_reducible exact ih1 _ _ _ _ _)
   | (with_reducible exact ih2 _ _ _ _ _ _ _)
   | (with_reducible exact ih3 _ _ _ _ _ _ _)
   | (with_reducible exact ih4 _ _ _ _ _ _ _ _ _)
   | (with_reducible exact reach_From.mono _ _ _ _ _)
   | (with_reducible exact reach_To.mono _ _ _ _ _)
   | (with_reducible exact stillagelaw07_Fits.mono _ _ _ _)
   | (with_reducible exact stillagelaw07_awake.mono _)
   | (with_reducible exact stillageref07_Open.mono _ _ _)
   | (with_reducible exact LeO.refl _)
   | (with_reducible exact LeO.none _)
   | (with_reducible refine LeO.ite ?_ ?_)
   | (with_reducible refine LeO.bind ?_ (fun _ => ?_))
   | exact ih0 _ _ _ _
   | exact ih1 _ _ _ _ _
   | exact ih2 _ _ _ _ _ _ _
   | exact ih3 _ _ _ _ _ _ _
   | exact ih4 _ _ _ _ _ _ _ _ _
   | exact reach_From.mono _ _ _ _ _
   | exact reach_To.mono _ _ _ _ _
   | exact stillagelaw07_Fits.mono _ _ _ _
   | exact stillagelaw07_awake.mono _
   | exact stillageref07_Open.mono _ _ _
   | exact LeO.none _
   | refine LeO.ite ?_ ?_
   | refine LeO.bind ?_ (fun _ => ?_)
theorem stillagelaw07_ReachBoth.mono : ∀ a0 a1 a2 k, LeO (stillagelaw07_ReachBoth.f k a0 a1 a2) (stillagelaw07_ReachBoth.f (k + 1) a0 a1 a2) := by
 intro a0 a1 a2 k
 obtain ⟨ih0, ih1, ih2, ih3, ih4⟩ := stillagelaw07_ReachBoth.mono_l k
 unfold stillagelaw07_ReachBoth.f
 repeat' first
   | (with_reducible exact ih0 _ _ _ _)
   | (with_reducible exact ih1 _ _ _ _ _)
   | (with_reducible exact ih2 _ _ _ _ _ _ _)
   | (with_reducible exact ih3 _ _ _ _ _ _ _)
   | (with_reducible exact ih4 _ _ _ _ _ _ _ _ _)
   | (with_reducible exact reach_From.mono _ _ _ _ _)
   | (with_reducible exact reach_To.mono _ _ _ _ _)
   | (with_reducible exact stillagelaw07_Fits.mono _ _ _ _)
   | (with_reducible exact stillagelaw07_awake.mono _)
   | (with_reducible exact stillageref07_Open.mono _ _ _)
   | (with_reducible exact LeO.refl _)
   | (with_reducible exact LeO.none _)
   | (with_reducible refine LeO.ite ?_ ?_)
   | (with_reducible refine LeO.bind ?_ (fun _ => ?_))
   | exact ih0 _ _ _ _
   | exact ih1 _ _ _ _ _
   | exact ih2 _ _ _ _ _ _ _
   | exact ih3 _ _ _ _ _ _ _
   | exact ih4 _ _ _ _ _ _ _ _ _
   | exact reach_From.mono _ _ _ _ _
   | exact reach_To.mono _ _ _ _ _
   | exact stillagelaw07_Fits.mono _ _ _ _
   | exact stillagelaw07_awake.mono _
   | exact stillageref07_Open.mono _ _ _
   | exact LeO.none _
   | refine LeO.ite ?_ ?_
   | refine LeO.bind ?_ (fun _ => ?_)
def stillagelaw07_ReachBoth.T16 : Bool × List (List Nat × List Nat) := (true, [([], []), ([0], [0]), ([1], [1]), ([2], [2]), ([3, 2], [2, 3]), ([2], [2]), ([4, 5, 2], [2, 4, 5]), ([2, 6], [2, 6]), ([7, 2], [7]), ([8], [8]), ([8], [8]), ([9, 10, 8], [8, 9, 10]), ([11, 8], [8, 11]), ([8], [8]), ([8], [8]), ([13, 14, 8], [8, 13, 14]), ([15, 8], [8, 15]), ([12, 16, 8], [8, 12, 16]), ([8, 17], [8, 17])])
def stillagelaw07_ReachBoth.B16 : List Nat := [0, 1, 3, 7, 15, 7, 63, 127, 255, 511, 511, 2047, 4095, 511, 511, 25087, 57855, 131071, 262143]
theorem stillagelaw07_ReachBoth.tab16 : rtab .any (opsOf Try.f7 16) = stillagelaw07_ReachBoth.T16 := by kernel_rfl
theorem stillagelaw07_ReachBoth.bits16 : waitsOk stillagelaw07_ReachBoth.T16.2 stillagelaw07_ReachBoth.B16 = true := by kernel_rfl
def stillagelaw07_ReachBoth.T21 : Bool × List (List Nat × List Nat) := (true, [([], []), ([], []), ([1], [1]), ([0, 2], [0, 2]), ([3, 3], [3]), ([4], [4]), ([4], [4]), ([6, 4], [4, 6]), ([5, 7, 4], [4, 5, 7]), ([8, 4], [4, 8]), ([9, 4], [4, 9]), ([4, 10], [4, 10]), ([11, 4], [11]), ([12], [12]), ([13, 12], [12, 13]), ([12], [12]), ([14, 15, 12], [12, 14, 15]), ([16, 12, 12], [12, 16]), ([17], [17]), ([18, 17], [17, 18]), ([17], [17]), ([20, 17], [17, 20]), ([19, 21, 17], [17, 19, 21]), ([22, 17], [17, 22]), ([23, 17], [17, 23]), ([24, 17], [17, 24]), ([17, 25, 12], [12, 17, 25]), ([12, 26], [12, 26]), ([27, 17], [27]), ([28], [28]), ([28], [28]), ([30, 28], [28, 30]), ([29, 31, 28], [28, 29, 31]), ([32, 28], [28, 32]), ([33, 28], [28, 33]), ([34, 28, 28], [28, 34]), ([35], [35]), ([35], [35]), ([37, 35], [35, 37]), ([36, 38, 35], [35, 36, 38]), ([39, 35], [35, 39]), ([35], [35]), ([35], [35]), ([42, 35], [35, 42]), ([41, 43, 35], [35, 41, 43]), ([44, 35], [35, 44]), ([45, 35], [35, 45]), ([40, 46, 35], [35, 40, 46]), ([35, 47, 28], [28, 35, 47]), ([28, 48], [28, 48])])
def stillagelaw07_ReachBoth.B21 : List Nat := [0, 0, 2, 7, 15, 31, 31, 95, 255, 511, 1023, 2047, 4095, 8191, 16383, 8191, 65535, 131071, 262143, 524287, 262143, 1310719, 4194303, 8388607, 16777215, 33554431, 67108863, 134217727, 268435455, 536870911, 536870911, 1610612735, 4294967295, 8589934591, 17179869183, 34359738367, 68719476735, 68719476735, 206158430207, 549755813887, 1099511627775, 68719476735, 68719476735, 4466765987839, 15461882265599, 33054068310015, 68238440398847, 140737488355327, 281474976710655, 562949953421311]
theorem stillagelaw07_ReachBoth.tab21 : rtab .any (opsOf Try.f7 21) = stillagelaw07_ReachBoth.T21 := by kernel_rfl
theorem stillagelaw07_ReachBoth.bits21 : waitsOk stillagelaw07_ReachBoth.T21.2 stillagelaw07_ReachBoth.B21 = true := by kernel_rfl

@[reducible] def bq0 : Array Bool := #[false, false, false, false, false, false, false, false, false, false, false, false, false, false, false, false, false, false, false]
@[reducible] def bq1 : Array Bool := #[true, false, false, false, false, false, false, false, false, false, false, false, false, false, false, false, false, false, false]
@[reducible] def bq2 : Array Bool := #[true, true, false, false, false, false, false, false, false, false, false, false, false, false, false, false, false, false, false]
@[reducible] def bq3 : Array Bool := #[true, true, true, false, false, false, false, false, false, false, false, false, false, false, false, false, false, false, false]
@[reducible] def bq4 : Array Bool := #[true, true, true, true, false, false, false, false, false, false, false, false, false, false, false, false, false, false, false]
@[reducible] def bq5 : Array Bool := #[true, true, true, true, true, false, false, false, false, false, false, false, false, false, false, false, false, false, false]
@[reducible] def bq6 : Array Bool := #[true, true, true, true, true, true, false, false, false, false, false, false, false, false, false, false, false, false, false]
@[reducible] def bq7 : Array Bool := #[true, true, true, true, true, true, true, false, false, false, false, false, false, false, false, false, false, false, false]
@[reducible] def bq8 : Array Bool := #[true, true, true, true, true, true, true, true, false, false, false, false, false, false, false, false, false, false, false]
@[reducible] def bq9 : Array Bool := #[true, true, true, true, true, true, true, true, true, false, false, false, false, false, false, false, false, false, false]
@[reducible] def bq10 : Array Bool := #[true, true, true, true, true, true, true, true, true, true, false, false, false, false, false, false, false, false, false]
@[reducible] def bq11 : Array Bool := #[true, true, true, true, true, true, true, true, true, true, true, false, false, false, false, false, false, false, false]
@[reducible] def bq12 : Array Bool := #[true, true, true, true, true, true, true, true, true, true, true, true, false, false, false, false, false, false, false]
@[reducible] def bq13 : Array Bool := #[true, true, true, true, true, true, true, true, true, true, true, true, true, false, false, false, false, false, false]
@[reducible] def bq14 : Array Bool := #[true, true, true, true, true, true, true, true, true, true, true, true, true, true, false, false, false, false, false]
@[reducible] def bq15 : Array Bool := #[true, true, true, true, true, true, true, true, true, true, true, true, true, true, true, false, false, false, false]
@[reducible] def bq16 : Array Bool := #[true, true, true, true, true, true, true, true, true, true, true, true, true, true, true, true, false, false, false]
@[reducible] def bq17 : Array Bool := #[true, true, true, true, true, true, true, true, true, true, true, true, true, true, true, true, true, false, false]
@[reducible] def bq18 : Array Bool := #[true, true, true, true, true, true, true, true, true, true, true, true, true, true, true, true, true, true, false]
@[reducible] def bq19 : Array Bool := #[true, true, true, true, true, true, true, true, true, true, true, true, true, true, true, true, true, true, true]
@[reducible] def bq20 : Array Bool := #[true, true, true, true, true, true, true, true, true, true, true, true, false, true, false, false, false, false, false]
@[reducible] def bq21 : Array Bool := #[true, true, true, true, true, true, true, true, true, true, true, true, false, true, true, false, false, false, false]
@[reducible] def bq22 : Array Bool := #[true, true, true, true, true, true, true, true, true, true, true, true, false, true, true, true, false, false, false]
@[reducible] def bq23 : Array Bool := #[false, false, false, false, false, false, false, false, false, false, false, false, false, false, false, false, false, false, false, false, false, false, false, false, false, false, false, false, false, false, false, false, false, false, false, false, false, false, false, false, false, false, false, false, false, false, false, false, false, false]
@[reducible] def bq24 : Array Bool := #[true, false, false, false, false, false, false, false, false, false, false, false, false, false, false, false, false, false, false, false, false, false, false, false, false, false, false, false, false, false, false, false, false, false, false, false, false, false, false, false, false, false, false, false, false, false, false, false, false, false]
@[reducible] def bq25 : Array Bool := #[true, true, false, false, false, false, false, false, false, false, false, false, false, false, false, false, false, false, false, false, false, false, false, false, false, false, false, false, false, false, false, false, false, false, false, false, false, false, false, false, false, false, false, false, false, false, false, false, false, false]
@[reducible] def bq26 : Array Bool := #[true, true, true, false, false, false, false, false, false, false, false, false, false, false, false, false, false, false, false, false, false, false, false, false, false, false, false, false, false, false, false, false, false, false, false, false, false, false, false, false, false, false, false, false, false, false, false, false, false, false]
@[reducible] def bq27 : Array Bool := #[true, true, true, true, false, false, false, false, false, false, false, false, false, false, false, false, false, false, false, false, false, false, false, false, false, false, false, false, false, false, false, false, false, false, false, false, false, false, false, false, false, false, false, false, false, false, false, false, false, false]
@[reducible] def bq28 : Array Bool := #[true, true, true, true, true, false, false, false, false, false, false, false, false, false, false, false, false, false, false, false, false, false, false, false, false, false, false, false, false, false, false, false, false, false, false, false, false, false, false, false, false, false, false, false, false, false, false, false, false, false]
@[reducible] def bq29 : Array Bool := #[true, true, true, true, true, true, false, false, false, false, false, false, false, false, false, false, false, false, false, false, false, false, false, false, false, false, false, false, false, false, false, false, false, false, false, false, false, false, false, false, false, false, false, false, false, false, false, false, false, false]
@[reducible] def bq30 : Array Bool := #[true, true, true, true, true, true, true, false, false, false, false, false, false, false, false, false, false, false, false, false, false, false, false, false, false, false, false, false, false, false, false, false, false, false, false, false, false, false, false, false, false, false, false, false, false, false, false, false, false, false]
@[reducible] def bq31 : Array Bool := #[true, true, true, true, true, true, true, true, false, false, false, false, false, false, false, false, false, false, false, false, false, false, false, false, false, false, false, false, false, false, false, false, false, false, false, false, false, false, false, false, false, false, false, false, false, false, false, false, false, false]
@[reducible] def bq32 : Array Bool := #[true, true, true, true, true, true, true, true, true, false, false, false, false, false, false, false, false, false, false, false, false, false, false, false, false, false, false, false, false, false, false, false, false, false, false, false, false, false, false, false, false, false, false, false, false, false, false, false, false, false]
@[reducible] def bq33 : Array Bool := #[true, true, true, true, true, true, true, true, true, true, false, false, false, false, false, false, false, false, false, false, false, false, false, false, false, false, false, false, false, false, false, false, false, false, false, false, false, false, false, false, false, false, false, false, false, false, false, false, false, false]
@[reducible] def bq34 : Array Bool := #[true, true, true, true, true, true, true, true, true, true, true, false, false, false, false, false, false, false, false, false, false, false, false, false, false, false, false, false, false, false, false, false, false, false, false, false, false, false, false, false, false, false, false, false, false, false, false, false, false, false]
@[reducible] def bq35 : Array Bool := #[true, true, true, true, true, true, true, true, true, true, true, true, false, false, false, false, false, false, false, false, false, false, false, false, false, false, false, false, false, false, false, false, false, false, false, false, false, false, false, false, false, false, false, false, false, false, false, false, false, false]
@[reducible] def bq36 : Array Bool := #[true, true, true, true, true, true, true, true, true, true, true, true, true, false, false, false, false, false, false, false, false, false, false, false, false, false, false, false, false, false, false, false, false, false, false, false, false, false, false, false, false, false, false, false, false, false, false, false, false, false]
@[reducible] def bq37 : Array Bool := #[true, true, true, true, true, true, true, true, true, true, true, true, true, true, false, false, false, false, false, false, false, false, false, false, false, false, false, false, false, false, false, false, false, false, false, false, false, false, false, false, false, false, false, false, false, false, false, false, false, false]
@[reducible] def bq38 : Array Bool := #[true, true, true, true, true, true, true, true, true, true, true, true, true, true, true, false, false, false, false, false, false, false, false, false, false, false, false, false, false, false, false, false, false, false, false, false, false, false, false, false, false, false, false, false, false, false, false, false, false, false]
@[reducible] def bq39 : Array Bool := #[true, true, true, true, true, true, true, true, true, true, true, true, true, true, true, true, false, false, false, false, false, false, false, false, false, false, false, false, false, false, false, false, false, false, false, false, false, false, false, false, false, false, false, false, false, false, false, false, false, false]
@[reducible] def bq40 : Array Bool := #[true, true, true, true, true, true, true, true, true, true, true, true, true, true, true, true, true, false, false, false, false, false, false, false, false, false, false, false, false, false, false, false, false, false, false, false, false, false, false, false, false, false, false, false, false, false, false, false, false, false]
@[reducible] def bq41 : Array Bool := #[true, true, true, true, true, true, true, true, true, true, true, true, true, true, true, true, true, true, false, false, false, false, false, false, false, false, false, false, false, false, false, false, false, false, false, false, false, false, false, false, false, false, false, false, false, false, false, false, false, false]
@[reducible] def bq42 : Array Bool := #[true, true, true, true, true, true, true, true, true, true, true, true, true, true, true, true, true, true, true, false, false, false, false, false, false, false, false, false, false, false, false, false, false, false, false, false, false, false, false, false, false, false, false, false, false, false, false, false, false, false]
@[reducible] def bq43 : Array Bool := #[true, true, true, true, true, true, true, true, true, true, true, true, true, true, true, true, true, true, true, true, false, false, false, false, false, false, false, false, false, false, false, false, false, false, false, false, false, false, false, false, false, false, false, false, false, false, false, false, false, false]
@[reducible] def bq44 : Array Bool := #[true, true, true, true, true, true, true, true, true, true, true, true, true, true, true, true, true, true, true, true, true, false, false, false, false, false, false, false, false, false, false, false, false, false, false, false, false, false, false, false, false, false, false, false, false, false, false, false, false, false]
@[reducible] def bq45 : Array Bool := #[true, true, true, true, true, true, true, true, true, true, true, true, true, true, true, true, true, true, true, true, true, true, false, false, false, false, false, false, false, false, false, false, false, false, false, false, false, false, false, false, false, false, false, false, false, false, false, false, false, false]
@[reducible] def bq46 : Array Bool := #[true, true, true, true, true, true, true, true, true, true, true, true, true, true, true, true, true, true, true, true, true, true, true, false, false, false, false, false, false, false, false, false, false, false, false, false, false, false, false, false, false, false, false, false, false, false, false, false, false, false]
@[reducible] def bq47 : Array Bool := #[true, true, true, true, true, true, true, true, true, true, true, true, true, true, true, true, true, true, true, true, true, true, true, true, false, false, false, false, false, false, false, false, false, false, false, false, false, false, false, false, false, false, false, false, false, false, false, false, false, false]
@[reducible] def bq48 : Array Bool := #[true, true, true, true, true, true, true, true, true, true, true, true, true, true, true, true, true, true, true, true, true, true, true, true, true, false, false, false, false, false, false, false, false, false, false, false, false, false, false, false, false, false, false, false, false, false, false, false, false, false]
@[reducible] def bq49 : Array Bool := #[true, true, true, true, true, true, true, true, true, true, true, true, true, true, true, true, true, true, true, true, true, true, true, true, true, true, false, false, false, false, false, false, false, false, false, false, false, false, false, false, false, false, false, false, false, false, false, false, false, false]
@[reducible] def bq50 : Array Bool := #[true, true, true, true, true, true, true, true, true, true, true, true, true, true, true, true, true, true, true, true, true, true, true, true, true, true, true, false, false, false, false, false, false, false, false, false, false, false, false, false, false, false, false, false, false, false, false, false, false, false]
@[reducible] def bq51 : Array Bool := #[true, true, true, true, true, true, true, true, true, true, true, true, true, true, true, true, true, true, true, true, true, true, true, true, true, true, true, true, false, false, false, false, false, false, false, false, false, false, false, false, false, false, false, false, false, false, false, false, false, false]
@[reducible] def bq52 : Array Bool := #[true, true, true, true, true, true, true, true, true, true, true, true, true, true, true, true, true, true, true, true, true, true, true, true, true, true, true, true, true, false, false, false, false, false, false, false, false, false, false, false, false, false, false, false, false, false, false, false, false, false]
@[reducible] def bq53 : Array Bool := #[true, true, true, true, true, true, true, true, true, true, true, true, true, true, true, true, true, true, true, true, true, true, true, true, true, true, true, true, true, true, false, false, false, false, false, false, false, false, false, false, false, false, false, false, false, false, false, false, false, false]
@[reducible] def bq54 : Array Bool := #[true, true, true, true, true, true, true, true, true, true, true, true, true, true, true, true, true, true, true, true, true, true, true, true, true, true, true, true, true, true, true, false, false, false, false, false, false, false, false, false, false, false, false, false, false, false, false, false, false, false]
@[reducible] def bq55 : Array Bool := #[true, true, true, true, true, true, true, true, true, true, true, true, true, true, true, true, true, true, true, true, true, true, true, true, true, true, true, true, true, true, true, true, false, false, false, false, false, false, false, false, false, false, false, false, false, false, false, false, false, false]
@[reducible] def bq56 : Array Bool := #[true, true, true, true, true, true, true, true, true, true, true, true, true, true, true, true, true, true, true, true, true, true, true, true, true, true, true, true, true, true, true, true, true, false, false, false, false, false, false, false, false, false, false, false, false, false, false, false, false, false]
@[reducible] def bq57 : Array Bool := #[true, true, true, true, true, true, true, true, true, true, true, true, true, true, true, true, true, true, true, true, true, true, true, true, true, true, true, true, true, true, true, true, true, true, false, false, false, false, false, false, false, false, false, false, false, false, false, false, false, false]
@[reducible] def bq58 : Array Bool := #[true, true, true, true, true, true, true, true, true, true, true, true, true, true, true, true, true, true, true, true, true, true, true, true, true, true, true, true, true, true, true, true, true, true, true, false, false, false, false, false, false, false, false, false, false, false, false, false, false, false]
@[reducible] def bq59 : Array Bool := #[true, true, true, true, true, true, true, true, true, true, true, true, true, true, true, true, true, true, true, true, true, true, true, true, true, true, true, true, true, true, true, true, true, true, true, true, false, false, false, false, false, false, false, false, false, false, false, false, false, false]
@[reducible] def bq60 : Array Bool := #[true, true, true, true, true, true, true, true, true, true, true, true, true, true, true, true, true, true, true, true, true, true, true, true, true, true, true, true, true, true, true, true, true, true, true, true, true, false, false, false, false, false, false, false, false, false, false, false, false, false]
@[reducible] def bq61 : Array Bool := #[true, true, true, true, true, true, true, true, true, true, true, true, true, true, true, true, true, true, true, true, true, true, true, true, true, true, true, true, true, true, true, true, true, true, true, true, true, true, false, false, false, false, false, false, false, false, false, false, false, false]
@[reducible] def bq62 : Array Bool := #[true, true, true, true, true, true, true, true, true, true, true, true, true, true, true, true, true, true, true, true, true, true, true, true, true, true, true, true, true, true, true, true, true, true, true, true, true, true, true, false, false, false, false, false, false, false, false, false, false, false]
@[reducible] def bq63 : Array Bool := #[true, true, true, true, true, true, true, true, true, true, true, true, true, true, true, true, true, true, true, true, true, true, true, true, true, true, true, true, true, true, true, true, true, true, true, true, true, true, true, true, false, false, false, false, false, false, false, false, false, false]
@[reducible] def bq64 : Array Bool := #[true, true, true, true, true, true, true, true, true, true, true, true, true, true, true, true, true, true, true, true, true, true, true, true, true, true, true, true, true, true, true, true, true, true, true, true, true, true, true, true, true, false, false, false, false, false, false, false, false, false]
@[reducible] def bq65 : Array Bool := #[true, true, true, true, true, true, true, true, true, true, true, true, true, true, true, true, true, true, true, true, true, true, true, true, true, true, true, true, true, true, true, true, true, true, true, true, true, true, true, true, true, true, false, false, false, false, false, false, false, false]
@[reducible] def bq66 : Array Bool := #[true, true, true, true, true, true, true, true, true, true, true, true, true, true, true, true, true, true, true, true, true, true, true, true, true, true, true, true, true, true, true, true, true, true, true, true, true, true, true, true, true, true, true, false, false, false, false, false, false, false]
@[reducible] def bq67 : Array Bool := #[true, true, true, true, true, true, true, true, true, true, true, true, true, true, true, true, true, true, true, true, true, true, true, true, true, true, true, true, true, true, true, true, true, true, true, true, true, true, true, true, true, true, true, true, false, false, false, false, false, false]
@[reducible] def bq68 : Array Bool := #[true, true, true, true, true, true, true, true, true, true, true, true, true, true, true, true, true, true, true, true, true, true, true, true, true, true, true, true, true, true, true, true, true, true, true, true, true, true, true, true, true, true, true, true, true, false, false, false, false, false]
@[reducible] def bq69 : Array Bool := #[true, true, true, true, true, true, true, true, true, true, true, true, true, true, true, true, true, true, true, true, true, true, true, true, true, true, true, true, true, true, true, true, true, true, true, true, true, true, true, true, true, true, true, true, true, true, false, false, false, false]
@[reducible] def bq70 : Array Bool := #[true, true, true, true, true, true, true, true, true, true, true, true, true, true, true, true, true, true, true, true, true, true, true, true, true, true, true, true, true, true, true, true, true, true, true, true, true, true, true, true, true, true, true, true, true, true, true, false, false, false]
@[reducible] def bq71 : Array Bool := #[true, true, true, true, true, true, true, true, true, true, true, true, true, true, true, true, true, true, true, true, true, true, true, true, true, true, true, true, true, true, true, true, true, true, true, true, true, true, true, true, true, true, true, true, true, true, true, true, false, false]
@[reducible] def bq72 : Array Bool := #[true, true, true, true, true, true, true, true, true, true, true, true, true, true, true, true, true, true, true, true, true, true, true, true, true, true, true, true, true, true, true, true, true, true, true, true, true, true, true, true, true, true, true, true, true, true, true, true, true, false]
@[reducible] def bq73 : Array Bool := #[true, true, true, true, true, true, true, true, true, true, true, true, true, true, true, true, true, true, true, true, true, true, true, true, true, true, true, true, true, true, true, true, true, true, true, true, true, true, true, true, true, true, true, true, true, true, true, true, true, true]
@[reducible] def bq74 : Array Bool := #[true, true, true, true, true, true, true, true, true, true, true, true, true, true, false, true, false, false, false, false, false, false, false, false, false, false, false, false, false, false, false, false, false, false, false, false, false, false, false, false, false, false, false, false, false, false, false, false, false, false]
@[reducible] def bq75 : Array Bool := #[true, true, true, true, true, true, true, true, true, true, true, true, true, true, true, true, true, true, true, true, true, true, true, true, true, true, true, true, true, true, true, true, true, true, true, true, true, true, false, false, false, true, false, false, false, false, false, false, false, false]
@[reducible] def bq76 : Array Bool := #[true, true, true, true, true, true, true, true, true, true, true, true, true, true, true, true, true, true, true, true, true, true, true, true, true, true, true, true, true, true, true, true, true, true, true, true, true, true, false, false, false, true, true, false, false, false, false, false, false, false]
@[reducible] def bq77 : Array Bool := #[true, true, true, true, true, true, true, true, true, true, true, true, true, true, true, true, true, true, true, true, true, true, true, true, true, true, true, true, true, true, true, true, true, true, true, true, true, true, true, false, false, true, true, false, false, false, false, false, false, false]
@[reducible] def bq78 : Array Bool := #[true, true, true, true, true, true, true, true, true, true, true, true, true, true, true, true, true, true, true, true, true, true, true, true, true, true, true, true, true, true, true, true, true, true, true, true, true, true, true, true, false, true, true, false, false, false, false, false, false, false]
@[reducible] def bq79 : Array Bool := #[true, true, true, true, true, true, true, true, true, true, true, true, true, true, true, true, true, true, true, false, true, false, false, false, false, false, false, false, false, false, false, false, false, false, false, false, false, false, false, false, false, false, false, false, false, false, false, false, false, false]
theorem sa {α : Type} (l : List α) (i : Nat) (a : α) : l.toArray.setIfInBounds i a = (l.set i a).toArray := List.setIfInBounds_toArray l i a
theorem sz {α : Type} (a b : α) (l : List α) : (a :: l).set 0 b = b :: l := rfl
theorem ss {α : Type} (a b : α) (l : List α) (n : Nat) : (a :: l).set (n + 1) b = a :: l.set n b := rfl
theorem pp_ {P : Program} {ops : Array Oper} {Q : Exit → Act → World → Prop} {md : Region.Mode} {S : World → Prop} {ds : List Nat} {T : Bool × List (List Nat × List Nat)} (i : Nat) (N : Tmp) {oi : Oper} {v : Value} {fuel : Nat} {l : Array Bool} {a : Act} {w : World} (l' : Array Bool) (hT : Aside0 (rtab md ops = T)) (hi : ops[i]? = some oi) (hN : oi.dst = some N) 
    (hy : ∀ w, Sem.run P (execOp a.eval oi) w = .ok (.value v) w) {a' : Act} (ha : a.put (some N) v = a') (h : wpAnyLast P md ops Q S ds fuel l' a' w)
    (hc : anyT T l.toList l'.toList i = true := by kernel_rfl) (hQ : ∀ c a w, Q (.panic c) (a.put oi.dst v) w → Q (.panic c) a w := by exact fun _ _ _ h => h) (hw : Region.wanted oi (yielded ops a.tmps) = true := by rfl) : wpAnyLast P md ops Q S ds (fuel + 1) l a w :=
  pure_ (i := i) (N := some N) l' hi hN (any_of hT.out hc) hQ (Or.inl ⟨hw, hy⟩) ha h
theorem pu_ {P : Program} {ops : Array Oper} {Q : Exit → Act → World → Prop} {md : Region.Mode} {S : World → Prop} {ds : List Nat} {T : Bool × List (List Nat × List Nat)} (i : Nat) (N : Tmp) {oi : Oper} {fuel : Nat} {l : Array Bool} {a : Act} {w : World} (l' : Array Bool) (hT : Aside0 (rtab md ops = T)) (hi : ops[i]? = some oi) (hN : oi.dst = some N) 
    {a' : Act} (ha : a.put (some N) undef = a') (h : wpAnyLast P md ops Q S ds fuel l' a' w)
    (hc : anyT T l.toList l'.toList i = true := by kernel_rfl) (hQ : ∀ c a w, Q (.panic c) (a.put oi.dst undef) w → Q (.panic c) a w := by exact fun _ _ _ h => h) (hw : Region.wanted oi (yielded ops a.tmps) = false := by rfl) : wpAnyLast P md ops Q S ds (fuel + 1) l a w :=
  pure_ (i := i) (N := some N) l' hi hN (any_of hT.out hc) hQ (Or.inr ⟨hw, rfl⟩) ha h

end Go.Proofs.Ytkfoicfbmhalbaa.PReachBoth
