-- Written by a program of this session (wip/oprint): after the pattern of the kit's print, which does not take this law. -- trimmed
import Derived.Test.YtkfoicfbmhalbaaPReachMasksx0
import Derived.Test.YtkfoicfbmhalbaaPReachMasksx5
import Derived.Test.YtkfoicfbmhalbaaPReachMasksx6
import Derived.Test.YtkfoicfbmhalbaaPReachMasksx8
namespace Go.Proofs.Ytkfoicfbmhalbaa.PReachMasks
open Go.RowKit Go.Proofs.YtkfoicfbmhalbaaW.PrintWords Go.Proofs.YtkfoicfbmhalbaaW.PrintLast Go.Proofs.YtkfoicfbmhalbaaW.PrintMore
attribute [local go_sem] max2_int min2_int max_two min_two max_three min_three max_four min_four   -- for this text's walks alone
set_option linter.unusedVariables false
set_option linter.unusedSimpArgs false

/-! ### stillagelaw07_ReachMasks: function 9 -/
def stillagelaw07_ReachMasks.l0 : Nat → List Int → Int → List Int → Int → List (S43) → List (S27) → Option (Bool)
 | 0, _, _, _, _, _, _ => none
 | k + 1, x1, x2, x7, x8, x266000, x266001 => if x8 ≥ 0 then (if 0 ≤ x8 then (if x8 < (x1.length : Int) then ((some (([0, rd x1 x8, (-1), rd x1 x8, wrap64 ((x266001.length : Int) + 1), 4611686018427387904] : List Int) : List Int)).bind fun y270 => (if x7.length + y270.length < 17592186044416 then (stillagelaw07_ReachMasks.l0 k x1 x2 (x7 ++ y270) (wrap64 (x8 - 1)) x266000 x266001) else (none))) else (none)) else (none)) else ((reach_From.f k x266000 x266001 x1 x2).bind fun bt276 => ((reach_From.f k x266000 x266001 x7 x2).bind fun bt280 => ((reach_To.f k x266000 x266001 x1 x2).bind fun bt284 => ((reach_To.f k x266000 x266001 x7 x2).bind fun bt288 => (if bt276.2 = 0 then (if bt280.2 = 0 then (if bt284.2 = 0 then (if bt288.2 = 0 then ((stillageref01_Ints.f k bt276.1 bt280.1).bind fun t292 => (if t292 = true then ((stillageref01_Ints.f k bt284.1 bt288.1).bind fun t293 => (if t293 = true then ((reach_Whole.f k x266000 x266001 x1).bind fun t294 => ((reach_Whole.f k x266000 x266001 x7).bind fun t295 => (some (t294 == t295)))) else (some false))) else (some false))) else (some false)) else (some false)) else (some false)) else (some false))))))
def stillagelaw07_ReachMasks.f (k : Nat) (l0_0 : List (S43)) (l0_1 : List (S27)) (l1 : List Int) (a2 : Int) : Option (Bool) := (stillagelaw07_awake.f k).bind fun t266 => (if t266 = true then ((stillagelaw07_Fits.f k l0_0 l0_1 l1).bind fun t267 => (if t267 = true then (if (IntKind.u64.wrap ((l0_0.length : Int))) = 0 then (none) else (stillagelaw07_ReachMasks.l0 k l1 (wrap64 (Int.tmod (IntKind.u64.wrap (a2)) (IntKind.u64.wrap ((l0_0.length : Int))))) ([] : List Int) (wrap64 ((l1.length : Int) - 1)) l0_0 l0_1)) else (some true))) else (some false))
theorem stillagelaw07_ReachMasks.mono_l : ∀ k, (∀ y0 y1 y2 y3 y4 y5, LeO (stillagelaw07_ReachMasks.l0 k y0 y1 y2 y3 y4 y5) (stillagelaw07_ReachMasks.l0 (k + 1) y0 y1 y2 y3 y4 y5))
 | 0 => fun _ _ _ _ _ _ r h => by simp [stillagelaw07_ReachMasks.l0] at h
 | k + 1 => by
  have ih0 := stillagelaw07_ReachMasks.mono_l k
  ·intro y0 y1 y2 y3 y4 y5
   unfold stillagelaw07_ReachMasks.l0
   repeat' first
   | (with_reducible exact ih0 _ _ _ _ _ _)
   | (with_reducible exact reach_From.mono _ _ _ _ _)
   | (with_reducible exact reach_To.mono _ _ _ _ _)
   | (with_reducible exact reach_Whole.mono _ _ _ _)
   | (with_reducible exact stillagelaw07_Fits.mono _ _ _ _)
   | (with_reducible exact stillagelaw07_awake.mono _)
   | (with_reducible exact stillageref01_Ints.mono _ _ _)
   | (with_reducible exact LeO.refl _)
   | (with_reducible exact LeO.none _)
   | (with_reducible refine LeO.ite ?_ ?_)
   | (with_reducible refine LeO.bind ?_ (fun _ => ?_))
   | exact ih0 _ _ _ _ _ _
   | exact reach_From.mono _ _ _ _ _
   | exact reach_To.mono _ _ _ _ _
   | exact reach_Whole.mono _ _ _ _
   | exact stillagelaw07_Fits.mono _ _ _ _
   | exact stillagelaw07_awake.mono _
   | exact stillageref01_Ints.mono _ _ _
   | exact LeO.none _
   | refine LeO.ite ?_ ?_
   | refine LeO.bind ?_ (fun _ => ?_)
theorem stillagelaw07_ReachMasks.mono : ∀ a0 a1 a2 a3 k, LeO (stillagelaw07_ReachMasks.f k a0 a1 a2 a3) (stillagelaw07_ReachMasks.f (k + 1) a0 a1 a2 a3) := by
 intro a0 a1 a2 a3 k
 have ih0 := stillagelaw07_ReachMasks.mono_l k
 unfold stillagelaw07_ReachMasks.f
 repeat' first
   | (with_reducible exact ih0 _ _ _ _ _ _)
   | (with_reducible exact reach_From.mono _ _ _ _ _)
   | (with_reducible exact reach_To.mono _ _ _ _ _)
   | (with_reducible exact reach_Whole.mono _ _ _ _)
   | (with_reducible exact stillagelaw07_Fits.mono _ _ _ _)
   | (with_reducible exact stillagelaw07_awake.mono _)
   | (with_reducible exact stillageref01_Ints.mono _ _ _)
   | (with_reducible exact LeO.refl _)
   | (with_reducible exact LeO.none _)
   | (with_reducible refine LeO.ite ?_ ?_)
   | (with_reducible refine LeO.bind ?_ (fun _ => ?_))
   | exact ih0 _ _ _ _ _ _
   | exact reach_From.mono _ _ _ _ _
   | exact reach_To.mono _ _ _ _ _
   | exact reach_Whole.mono _ _ _ _
   | exact stillagelaw07_Fits.mono _ _ _ _
   | exact stillagelaw07_awake.mono _
   | exact stillageref01_Ints.mono _ _ _
   | exact LeO.none _
   | refine LeO.ite ?_ ?_
   | refine LeO.bind ?_ (fun _ => ?_)
def stillagelaw07_ReachMasks.T10 : Bool × List (List Nat × List Nat) := (true, [([], []), ([], []), ([], []), ([1, 2], [1, 2]), ([3], [3]), ([], []), ([], []), ([5, 6], [5, 6]), ([7], [7]), ([], []), ([9], [9]), ([10], [10]), ([11], [11]), ([4, 8, 12], [4, 8, 12]), ([0, 13], [0, 13]), ([14, 14, 0, 1, 2, 3, 4, 5, 6, 7, 8, 9, 10, 11, 12, 13, 14], [0, 14])])
def stillagelaw07_ReachMasks.B10 : List Nat := [0, 0, 0, 6, 14, 0, 0, 96, 224, 0, 512, 1536, 3584, 8190, 16383, 32767]
theorem stillagelaw07_ReachMasks.tab10 : rtab .any (opsOf Try.f9 10) = stillagelaw07_ReachMasks.T10 := by kernel_rfl
theorem stillagelaw07_ReachMasks.bits10 : waitsOk stillagelaw07_ReachMasks.T10.2 stillagelaw07_ReachMasks.B10 = true := by kernel_rfl
def stillagelaw07_ReachMasks.T15 : Bool × List (List Nat × List Nat) := (true, [([], []), ([0], [0]), ([1], [1]), ([2], [2]), ([3, 2], [2, 3]), ([2, 4], [2, 4]), ([5, 2], [5]), ([6], [6]), ([7, 6], [6, 7]), ([6, 8], [6, 8]), ([9, 6], [9]), ([10], [10]), ([11, 10], [10, 11]), ([10, 12], [10, 12]), ([13, 10], [13]), ([14], [14]), ([14], [14]), ([15, 16, 14, 14], [14, 15, 16]), ([14, 17], [14, 17]), ([18, 17], [18]), ([19], [19]), ([19], [19]), ([20, 21, 19, 19], [19, 20, 21]), ([19, 22], [19, 22]), ([23, 22], [23]), ([24], [24]), ([24], [24]), ([25, 26, 24, 24], [24, 25, 26]), ([24], [24]), ([24], [24]), ([28, 29, 27, 24], [24, 28, 29]), ([27, 30, 24], [24, 27, 30]), ([24, 31], [24, 31]), ([32, 30, 0, 1, 2, 3, 4, 5, 6, 7, 8, 9, 10, 11, 12, 13, 14, 15, 16, 17, 18, 19, 20, 21, 22, 23, 24, 25, 26, 27, 28, 29, 30, 31, 32], [32])])
def stillagelaw07_ReachMasks.B15 : List Nat := [0, 1, 3, 7, 15, 31, 63, 127, 255, 511, 1023, 2047, 4095, 8191, 16383, 32767, 32767, 131071, 262143, 524287, 1048575, 1048575, 4194303, 8388607, 16777215, 33554431, 33554431, 134217727, 33554431, 33554431, 1073741823, 2147483647, 4294967295, 8589934591]
theorem stillagelaw07_ReachMasks.tab15 : rtab .any (opsOf Try.f9 15) = stillagelaw07_ReachMasks.T15 := by kernel_rfl
theorem stillagelaw07_ReachMasks.bits15 : waitsOk stillagelaw07_ReachMasks.T15.2 stillagelaw07_ReachMasks.B15 = true := by kernel_rfl

end Go.Proofs.Ytkfoicfbmhalbaa.PReachMasks
