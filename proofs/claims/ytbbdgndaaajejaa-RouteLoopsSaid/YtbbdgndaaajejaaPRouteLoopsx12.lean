-- Written by a program of this session (wip/oprint): after the pattern of the kit's print, which does not take this law. -- trimmed
import Derived.Test.YtbbdgndaaajejaaPRouteLoopsx0
import Derived.Test.YtbbdgndaaajejaaPRouteLoopsx4
import Derived.Test.YtbbdgndaaajejaaPRouteLoopsx8
import Derived.Test.YtbbdgndaaajejaaPRouteLoopsx9
import Derived.Test.YtbbdgndaaajejaaPRouteLoopsx11
namespace Go.Proofs.Ytbbdgndaaajejaa.PRouteLoops
open Go.RowKit Go.Proofs.YtbbdgndaaajejaaW.PrintWords Go.Proofs.YtbbdgndaaajejaaW.PrintLast Go.Proofs.YtbbdgndaaajejaaW.PrintMore
attribute [local go_sem] max2_int min2_int max_two min_two max_three min_three max_four min_four   -- for this text's walks alone
set_option linter.unusedVariables false
set_option linter.unusedSimpArgs false

/-! ### stillagelaw08_RouteLoops: function 8 -/
mutual
def stillagelaw08_RouteLoops.j0 : Nat → List Int → Bool → List (S47) → List (S38) → Option (Bool)
 | 0, _, _, _, _ => none
 | k + 1, x1, x29, x331000, x331001 => if x29 = true then (some true) else (stillagelaw08_RouteLoops.l0 k x1 (x331000.length : Int) 0 x331000 x331001)
def stillagelaw08_RouteLoops.l0 : Nat → List Int → Int → Int → List (S47) → List (S38) → Option (Bool)
 | 0, _, _, _, _, _ => none
 | k + 1, x1, x32, x33, x331000, x331001 => if x33 < x32 then ((reach_To.f k x331000 x331001 x1 x33).bind fun bt333 => ((route_Loop.f k x331000 x331001 x1 x33).bind fun bt337 => (if bt333.2 = 0 then (stillagelaw08_RouteLoops.j2 k x1 x33 bt333.1 bt337.1 bt337.2 x32 x33 ((bt333.1.length : Int) != (x331000.length : Int)) x331000 x331001) else (stillagelaw08_RouteLoops.j2 k x1 x33 bt333.1 bt337.1 bt337.2 x32 x33 true x331000 x331001)))) else (some true)
def stillagelaw08_RouteLoops.j2 : Nat → List Int → Int → List Int → List Int → Int → Int → Int → Bool → List (S47) → List (S38) → Option (Bool)
 | 0, _, _, _, _, _, _, _, _, _, _ => none
 | k + 1, x1, x5, x6, x8, x9, x32, x33, x59, x331000, x331001 => if x59 = true then (some false) else (stillagelaw08_RouteLoops.l1 k x1 x5 x6 x8 x9 (-1) x32 x33 x331001 (x331001.length : Int) 0 x331000 x331001)
def stillagelaw08_RouteLoops.l1 : Nat → List Int → Int → List Int → List Int → Int → Int → Int → Int → List (S38) → Int → Int → List (S47) → List (S38) → Option (Bool)
 | 0, _, _, _, _, _, _, _, _, _, _, _, _, _ => none
 | k + 1, x1, x5, x6, x8, x9, x10, x32, x33, x61, x62, x63, x331000, x331001 => if x63 < x62 then (if 0 ≤ x63 then (if x63 < (x61.length : Int) then (stillagelaw08_RouteLoops.l2 k x1 x5 x6 x8 x9 x10 x63 true x32 x33 x61 x62 x63 x1 (x1.length : Int) 0 x331000 x331001 ((rd_T38 x61 x63).f0) ((rd_T38 x61 x63).f1)) else (none)) else (none)) else (if ((x9 == 0) != (decide (x10 ≥ 0))) = true then (stillagelaw08_RouteLoops.j5 k x1 x5 x8 x32 x33 true x331000 x331001) else (if x9 = 0 then (stillagelaw08_RouteLoops.j5 k x1 x5 x8 x32 x33 ((x8.length : Int) != x10) x331000 x331001) else (if x9 = 80 then (if (x8.length : Int) = 0 then (stillagelaw08_RouteLoops.j5 k x1 x5 x8 x32 x33 false x331000 x331001) else (stillagelaw08_RouteLoops.j5 k x1 x5 x8 x32 x33 true x331000 x331001)) else (stillagelaw08_RouteLoops.j5 k x1 x5 x8 x32 x33 true x331000 x331001))))
def stillagelaw08_RouteLoops.l2 : Nat → List Int → Int → List Int → List Int → Int → Int → Int → Bool → Int → Int → List (S38) → Int → Int → List Int → Int → Int → List (S47) → List (S38) → Int → Int → Option (Bool)
 | 0, _, _, _, _, _, _, _, _, _, _, _, _, _, _, _, _, _, _, _, _ => none
 | k + 1, x1, x5, x6, x8, x9, x10, x11, x13, x32, x33, x61, x62, x63, x68, x69, x70, x331000, x331001, x343000, x343001 => if x70 < x69 then (if 0 ≤ x70 then (if x70 < (x68.length : Int) then (if x13 = true then (stillagelaw08_RouteLoops.l2 k x1 x5 x6 x8 x9 x10 x11 ((rd x68 x70) != (wrap64 (x11 + 1))) x32 x33 x61 x62 x63 x68 x69 (wrap64 (x70 + 1)) x331000 x331001 x343000 x343001) else (stillagelaw08_RouteLoops.l2 k x1 x5 x6 x8 x9 x10 x11 false x32 x33 x61 x62 x63 x68 x69 (wrap64 (x70 + 1)) x331000 x331001 x343000 x343001)) else (none)) else (none)) else (if x13 = true then (if x343000 = x5 then (if 0 ≤ x343001 then (if x343001 < (x331000.length : Int) then (if ((rd_T47 x331000 x343001).f1) = 1 then (if x343001 < (x6.length : Int) then (if (rd x6 x343001) ≥ 0 then (if x10 < 0 then (stillagelaw08_RouteLoops.l1 k x1 x5 x6 x8 x9 (wrap64 ((rd x6 x343001) + 1)) x32 x33 x61 x62 (wrap64 (x63 + 1)) x331000 x331001) else (if (wrap64 ((rd x6 x343001) + 1)) < x10 then (stillagelaw08_RouteLoops.l1 k x1 x5 x6 x8 x9 (wrap64 ((rd x6 x343001) + 1)) x32 x33 x61 x62 (wrap64 (x63 + 1)) x331000 x331001) else (stillagelaw08_RouteLoops.l1 k x1 x5 x6 x8 x9 x10 x32 x33 x61 x62 (wrap64 (x63 + 1)) x331000 x331001))) else (stillagelaw08_RouteLoops.l1 k x1 x5 x6 x8 x9 x10 x32 x33 x61 x62 (wrap64 (x63 + 1)) x331000 x331001)) else (none)) else (stillagelaw08_RouteLoops.l1 k x1 x5 x6 x8 x9 x10 x32 x33 x61 x62 (wrap64 (x63 + 1)) x331000 x331001)) else (none)) else (none)) else (stillagelaw08_RouteLoops.l1 k x1 x5 x6 x8 x9 x10 x32 x33 x61 x62 (wrap64 (x63 + 1)) x331000 x331001)) else (stillagelaw08_RouteLoops.l1 k x1 x5 x6 x8 x9 x10 x32 x33 x61 x62 (wrap64 (x63 + 1)) x331000 x331001))
def stillagelaw08_RouteLoops.j5 : Nat → List Int → Int → List Int → Int → Int → Bool → List (S47) → List (S38) → Option (Bool)
 | 0, _, _, _, _, _, _, _, _ => none
 | k + 1, x1, x5, x8, x32, x33, x155, x331000, x331001 => if x155 = true then (some false) else ((route_Walk.f k x331000 x331001 x5 x8).bind fun bt349 => (if bt349.2 = 0 then (if bt349.1 = x5 then (stillagelaw08_RouteLoops.l0 k x1 x32 (wrap64 (x33 + 1)) x331000 x331001) else (some false)) else (some false)))
end
def stillagelaw08_RouteLoops.f (k : Nat) (l0_0 : List (S47)) (l0_1 : List (S38)) (l1 : List Int) : Option (Bool) := (stillagelaw08_awake.f k).bind fun t331 => (if t331 = true then ((stillagelaw07_Fits.f k l0_0 l0_1 l1).bind fun t332 => (if t332 = true then (stillagelaw08_RouteLoops.j0 k l1 (decide ((l0_0.length : Int) > 25)) l0_0 l0_1) else (stillagelaw08_RouteLoops.j0 k l1 true l0_0 l0_1))) else (some false))
theorem stillagelaw08_RouteLoops.mono_l : ∀ k, (∀ y0 y1 y2 y3, LeO (stillagelaw08_RouteLoops.j0 k y0 y1 y2 y3) (stillagelaw08_RouteLoops.j0 (k + 1) y0 y1 y2 y3)) ∧ (∀ y0 y1 y2 y3 y4, LeO (stillagelaw08_RouteLoops.l0 k y0 y1 y2 y3 y4) (stillagelaw08_RouteLoops.l0 (k + 1) y0 y1 y2 y3 y4)) ∧ (∀ y0 y1 y2 y3 y4 y5 y6 y7 y8 y9, LeO (stillagelaw08_RouteLoops.j2 k y0 y1 y2 y3 y4 y5 y6 y7 y8 y9) (stillagelaw08_RouteLoops.j2 (k + 1) y0 y1 y2 y3 y4 y5 y6 y7 y8 y9)) ∧ (∀ y0 y1 y2 y3 y4 y5 y6 y7 y8 y9 y10 y11 y12, LeO (stillagelaw08_RouteLoops.l1 k y0 y1 y2 y3 y4 y5 y6 y7 y8 y9 y10 y11 y12) (stillagelaw08_RouteLoops.l1 (k + 1) y0 y1 y2 y3 y4 y5 y6 y7 y8 y9 y10 y11 y12)) ∧ (∀ y0 y1 y2 y3 y4 y5 y6 y7 y8 y9 y10 y11 y12 y13 y14 y15 y16 y17 y18 y19, LeO (stillagelaw08_RouteLoops.l2 k y0 y1 y2 y3 y4 y5 y6 y7 y8 y9 y10 y11 y12 y13 y14 y15 y16 y17 y18 y19) (stillagelaw08_RouteLoops.l2 (k + 1) y0 y1 y2 y3 y4 y5 y6 y7 y8 y9 y10 y11 y12 y13 y14 y15 y16 y17 y18 y19)) ∧ (∀ y0 y1 y2 y3 y4 y5 y6 y7, LeO (stillagelaw08_RouteLoops.j5 k y0 y1 y2 y3 y4 y5 y6 y7) (stillagelaw08_RouteLoops.j5 (k + 1) y0 y1 y2 y3 y4 y5 y6 y7))
 | 0 => ⟨fun _ _ _ _ r h => by simp [stillagelaw08_RouteLoops.j0] at h, fun _ _ _ _ _ r h => by simp [stillagelaw08_RouteLoops.l0] at h, fun _ _ _ _ _ _ _ _ _ _ r h => by simp [stillagelaw08_RouteLoops.j2] at h, fun _ _ _ _ _ _ _ _ _ _ _ _ _ r h => by simp [stillagelaw08_RouteLoops.l1] at h, fun _ _ _ _ _ _ _ _ _ _ _ _ _ _ _ _ _ _ _ _ r h => by simp [stillagelaw08_RouteLoops.l2] at h, fun _ _ _ _ _ _ _ _ r h => by simp [stillagelaw08_RouteLoops.j5] at h⟩
 | k + 1 => by
  obtain ⟨ih0, ih1, ih2, ih3, ih4, ih5⟩ := stillagelaw08_RouteLoops.mono_l k
  refine ⟨?_, ?_, ?_, ?_, ?_, ?_⟩
  ·intro y0 y1 y2 y3
   unfold stillagelaw08_RouteLoops.j0
   repeat' first
   | (with_reducible exact ih0 _ _ _ _)
   | (with_reducible exact ih1 _ _ _ _ _)
   | (with_reducible exact ih2 _ _ _ _ _ _ _ _ _ _)
   | (with_reducible exact ih3 _ _ _ _ _ _ _ _ _ _ _ _ _)
   | (with_reducible exact ih4 _ _ _ _ _ _ _ _ _ _ _ _ _ _ _ _ _ _ _ _)
   | (with_reducible exact ih5 _ _ _ _ _ _ _ _)
   | (with_reducible exact reach_To.mono _ _ _ _ _)
   | (with_reducible exact route_Loop.mono _ _ _ _ _)
   | (with_reducible exact route_Walk.mono _ _ _ _ _)
   | (with_reducible exact stillagelaw07_Fits.mono _ _ _ _)
   | (with_reducible exact stillagelaw08_awake.mono _)
   | (with_reducible exact LeO.refl _)
   | (with_reducible exact LeO.none _)
   | (with_reducible refine LeO.ite ?_ ?_)
   | (with_reducible refine LeO.bind ?_ (fun _ => ?_))
   | exact ih0 _ _ _ _
   | exact ih1 _ _ _ _ _
   | exact ih2 _ _ _ _ _ _ _ _ _ _
   | exact ih3 _ _ _ _ _ _ _ _ _ _ _ _ _
   | exact ih4 _ _ _ _ _ _ _ _ _ _ _ _ _ _ _ _ _ _ _ _
   | exact ih5 _ _ _ _ _ _ _ _
   | exact reach_To.mono _ _ _ _ _
   | exact route_Loop.mono _ _ _ _ _
   | exact route_Walk.mono _ _ _ _ _
   | exact stillagelaw07_Fits.mono _ _ _ _
   | exact stillagelaw08_awake.mono _
   | exact LeO.none _
   | refine LeO.ite ?_ ?_
   | refine LeO.bind ?_ (fun _ => ?_)
  ·intro y0 y1 y2 y3 y4
   unfold stillagelaw08_RouteLoops.l0
   repeat' first
   | (with_reducible exact ih0 _ _ _ _)
   | (with_reducible exact ih1 _ _ _ _ _)
   | (with_reducible exact ih2 _ _ _ _ _ _ _ _ _ _)
   | (with_reducible exact ih3 _ _ _ _ _ _ _ _ _ _ _ _ _)
   | (with_reducible exact ih4 _ _ _ _ _ _ _ _ _ _ _ _ _ _ _ _ _ _ _ _)
   | (with_reducible exact ih5 _ _ _ _ _ _ _ _)
   | (with_reducible exact reach_To.mono _ _ _ _ _)
   | (with_reducible exact route_Loop.mono _ _ _ _ _)
   | (with_reducible exact route_Walk.mono _ _ _ _ _)
   | (with_reducible exact stillagelaw07_Fits.mono _ _ _ _)
   | (with_reducible exact stillagelaw08_awake.mono _)
   | (with_reducible exact LeO.refl _)
   | (with_reducible exact LeO.none _)
   | (with_reducible refine LeO.ite ?_ ?_)
   | (with_reducible refine LeO.bind ?_ (fun _ => ?_))
   | exact ih0 _ _ _ _
   | exact ih1 _ _ _ _ _
   | exact ih2 _ _ _ _ _ _ _ _ _ _
   | exact ih3 _ _ _ _ _ _ _ _ _ _ _ _ _
   | exact ih4 _ _ _ _ _ _ _ _ _ _ _ _ _ _ _ _ _ _ _ _
   | exact ih5 _ _ _ _ _ _ _ _
   | exact reach_To.mono _ _ _ _ _
   | exact route_Loop.mono _ _ _ _ _
   | exact route_Walk.mono _ _ _ _ _
   | exact stillagelaw07_Fits.mono _ _ _ _
   | exact stillagelaw08_awake.mono _
   | exact LeO.none _
   | refine LeO.ite ?_ ?_
   | refine LeO.bind ?_ (fun _ => ?_)
  ·intro y0 y1 y2 y3 y4 y5 y6 y7 y8 y9
   unfold stillagelaw08_RouteLoops.j2
   repeat' first
   | (with_reducible exact ih0 _ _ _ _)
   | (with_reducible exact ih1 _ _ _ _ _)
   | (with_reducible exact ih2 _ _ _ _ _ _ _ _ _ _)
   | (with_reducible exact ih3 _ _ _ _ _ _ _ _ _ _ _ _ _)
   | (with_reducible exact ih4 _ _ _ _ _ _ _ _ _ _ _ _ _ _ _ _ _ _ _ _)
   | (with_reducible exact ih5 _ _ _ _ _ _ _ _)
   | (with_reducible exact reach_To.mono _ _ _ _ _)
   | (with_reducible exact route_Loop.mono _ _ _ _ _)
   | (with_reducible exact route_Walk.mono _ _ _ _ _)
   | (with_reducible exact stillagelaw07_Fits.mono _ _ _ _)
   | (with_reducible exact stillagelaw08_awake.mono _)
   | (with_reducible exact LeO.refl _)
   | (with_reducible exact LeO.none _)
   | (with_reducible refine LeO.ite ?_ ?_)
   | (with_reducible refine LeO.bind ?_ (fun _ => ?_))
   | exact ih0 _ _ _ _
   | exact ih1 _ _ _ _ _
   | exact ih2 _ _ _ _ _ _ _ _ _ _
   | exact ih3 _ _ _ _ _ _ _ _ _ _ _ _ _
   | exact ih4 _ _ _ _ _ _ _ _ _ _ _ _ _ _ _ _ _ _ _ _
   | exact ih5 _ _ _ _ _ _ _ _
   | exact reach_To.mono _ _ _ _ _
   | exact route_Loop.mono _ _ _ _ _
   | exact route_Walk.mono _ _ _ _ _
   | exact stillagelaw07_Fits.mono _ _ _ _
   | exact stillagelaw08_awake.mono _
   | exact LeO.none _
   | refine LeO.ite ?_ ?_
   | refine LeO.bind ?_ (fun _ => ?_)
  ·intro y0 y1 y2 y3 y4 y5 y6 y7 y8 y9 y10 y11 y12
   unfold stillagelaw08_RouteLoops.l1
   repeat' first
   | (with_reducible exact ih0 _ _ _ _)
   | (with_reducible exact ih1 _ _ _ _ _)
   | (with_reducible exact ih2 _ _ _ _ _ _ _ _ _ _)
   | (with_reducible exact ih3 _ _ _ _ _ _ _ _ _ _ _ _ _)
   | (with_reducible exact ih4 _ _ _ _ _ _ _ _ _ _ _ _ _ _ _ _ _ _ _ _)
   | (with_reducible exact ih5 _ _ _ _ _ _ _ _)
   | (with_reducible exact reach_To.mono _ _ _ _ _)
   | (with_reducible exact route_Loop.mono _ _ _ _ _)
   | (with_reducible exact route_Walk.mono _ _ _ _ _)
   | (with_reducible exact stillagelaw07_Fits.mono _ _ _ _)
   | (with_reducible exact stillagelaw08_awake.mono _)
   | (with_reducible exact LeO.refl _)
   | (with_reducible exact LeO.none _)
   | (with_reducible refine LeO.ite ?_ ?_)
   | (with_reducible refine LeO.bind ?_ (fun _ => ?_))
   | exact ih0 _ _ _ _
   | exact ih1 _ _ _ _ _
   | exact ih2 _ _ _ _ _ _ _ _ _ _
   | exact ih3 _ _ _ _ _ _ _ _ _ _ _ _ _
   | exact ih4 _ _ _ _ _ _ _ _ _ _ _ _ _ _ _ _ _ _ _ _
   | exact ih5 _ _ _ _ _ _ _ _
   | exact reach_To.mono _ _ _ _ _
   | exact route_Loop.mono _ _ _ _ _
   | exact route_Walk.mono _ _ _ _ _
   | exact stillagelaw07_Fits.mono _ _ _ _
   | exact stillagelaw08_awake.mono _
   | exact LeO.none _
   | refine LeO.ite ?_ ?_
   | refine LeO.bind ?_ (fun _ => ?_)
  ·intro y0 y1 y2 y3 y4 y5 y6 y7 y8 y9 y10 y11 y12 y13 y14 y15 y16 y17 y18 y19
   unfold stillagelaw08_RouteLoops.l2
   repeat' first
   | (with_reducible exact ih0 _ _ _ _)
   | (with_reducible exact ih1 _ _ _ _ _)
   | (with_reducible exact ih2 _ _ _ _ _ _ _ _ _ _)
   | (with_reducible exact ih3 _ _ _ _ _ _ _ _ _ _ _ _ _)
   | (with_reducible exact ih4 _ _ _ _ _ _ _ _ _ _ _ _ _ _ _ _ _ _ _ _)
   | (with_reducible exact ih5 _ _ _ _ _ _ _ _)
   | (with_reducible exact reach_To.mono _ _ _ _ _)
   | (with_reducible exact route_Loop.mono _ _ _ _ _)
   | (with_reducible exact route_Walk.mono _ _ _ _ _)
   | (with_reducible exact stillagelaw07_Fits.mono _ _ _ _)
   | (with_reducible exact stillagelaw08_awake.mono _)
   | (with_reducible exact LeO.refl _)
   | (with_reducible exact LeO.none _)
   | (with_reducible refine LeO.ite ?_ ?_)
   | (with_reducible refine LeO.bind ?_ (fun _ => ?_))
   | exact ih0 _ _ _ _
   | exact ih1 _ _ _ _ _
   | exact ih2 _ _ _ _ _ _ _ _ _ _
   | exact ih3 _ _ _ _ _ _ _ _ _ _ _ _ _
   | exact ih4 _ _ _ _ _ _ _ _ _ _ _ _ _ _ _ _ _ _ _ _
   | exact ih5 _ _ _ _ _ _ _ _
   | exact reach_To.mono _ _ _ _ _
   | exact route_Loop.mono _ _ _ _ _
   | exact route_Walk.mono _ _ _ _ _
   | exact stillagelaw07_Fits.mono _ _ _ _
   | exact stillagelaw08_awake.mono _
   | exact LeO.none _
   | refine LeO.ite ?_ ?_
   | refine LeO.bind ?_ (fun _ => ?_)
  ·intro y0 y1 y2 y3 y4 y5 y6 y7
   unfold stillagelaw08_RouteLoops.j5
   repeat' first
   | (with_reducible exact ih0 _ _ _ _)
   | (with_reducible exact ih1 _ _ _ _ _)
   | (with_reducible exact ih2 _ _ _ _ _ _ _ _ _ _)
   | (with_reducible exact ih3 _ _ _ _ _ _ _ _ _ _ _ _ _)
   | (with_reducible exact ih4 _ _ _ _ _ _ _ _ _ _ _ _ _ _ _ _ _ _ _ _)
   | (with_reducible exact ih5 _ _ _ _ _ _ _ _)
   | (with_reducible exact reach_To.mono _ _ _ _ _)
   | (with_reducible exact route_Loop.mono _ _ _ _ _)
   | (with_reducible exact route_Walk.mono _ _ _ _ _)
   | (with_reducible exact stillagelaw07_Fits.mono _ _ _ _)
   | (with_reducible exact stillagelaw08_awake.mono _)
   | (with_reducible exact LeO.refl _)
   | (with_reducible exact LeO.none _)
   | (with_reducible refine LeO.ite ?_ ?_)
   | (with_reducible refine LeO.bind ?_ (fun _ => ?_))
   | exact ih0 _ _ _ _
   | exact ih1 _ _ _ _ _
   | exact ih2 _ _ _ _ _ _ _ _ _ _
   | exact ih3 _ _ _ _ _ _ _ _ _ _ _ _ _
   | exact ih4 _ _ _ _ _ _ _ _ _ _ _ _ _ _ _ _ _ _ _ _
   | exact ih5 _ _ _ _ _ _ _ _
   | exact reach_To.mono _ _ _ _ _
   | exact route_Loop.mono _ _ _ _ _
   | exact route_Walk.mono _ _ _ _ _
   | exact stillagelaw07_Fits.mono _ _ _ _
   | exact stillagelaw08_awake.mono _
   | exact LeO.none _
   | refine LeO.ite ?_ ?_
   | refine LeO.bind ?_ (fun _ => ?_)
theorem stillagelaw08_RouteLoops.mono : ∀ a0 a1 a2 k, LeO (stillagelaw08_RouteLoops.f k a0 a1 a2) (stillagelaw08_RouteLoops.f (k + 1) a0 a1 a2) := by
 intro a0 a1 a2 k
 obtain ⟨ih0, ih1, ih2, ih3, ih4, ih5⟩ := stillagelaw08_RouteLoops.mono_l k
 unfold stillagelaw08_RouteLoops.f
 repeat' first
   | (with_reducible exact ih0 _ _ _ _)
   | (with_reducible exact ih1 _ _ _ _ _)
   | (with_reducible exact ih2 _ _ _ _ _ _ _ _ _ _)
   | (with_reducible exact ih3 _ _ _ _ _ _ _ _ _ _ _ _ _)
   | (with_reducible exact ih4 _ _ _ _ _ _ _ _ _ _ _ _ _ _ _ _ _ _ _ _)
   | (with_reducible exact ih5 _ _ _ _ _ _ _ _)
   | (with_reducible exact reach_To.mono _ _ _ _ _)
   | (with_reducible exact route_Loop.mono _ _ _ _ _)
   | (with_reducible exact route_Walk.mono _ _ _ _ _)
   | (with_reducible exact stillagelaw07_Fits.mono _ _ _ _)
   | (with_reducible exact stillagelaw08_awake.mono _)
   | (with_reducible exact LeO.refl _)
   | (with_reducible exact LeO.none _)
   | (with_reducible refine LeO.ite ?_ ?_)
   | (with_reducible refine LeO.bind ?_ (fun _ => ?_))
   | exact ih0 _ _ _ _
   | exact ih1 _ _ _ _ _
   | exact ih2 _ _ _ _ _ _ _ _ _ _
   | exact ih3 _ _ _ _ _ _ _ _ _ _ _ _ _
   | exact ih4 _ _ _ _ _ _ _ _ _ _ _ _ _ _ _ _ _ _ _ _
   | exact ih5 _ _ _ _ _ _ _ _
   | exact reach_To.mono _ _ _ _ _
   | exact route_Loop.mono _ _ _ _ _
   | exact route_Walk.mono _ _ _ _ _
   | exact stillagelaw07_Fits.mono _ _ _ _
   | exact stillagelaw08_awake.mono _
   | exact LeO.none _
   | refine LeO.ite ?_ ?_
   | refine LeO.bind ?_ (fun _ => ?_)
set_option maxHeartbeats 8000000 in
set_option maxRecDepth 100000 in
theorem stillagelaw08_RouteLoops.calls (k : Nat) (A0_0 : Option Addr) (c0_0 : Nat) (l0_0 : List (S47)) (A0_1 : Option Addr) (c0_1 : Nat) (l0_1 : List (S38)) (A1 : Option Addr) (c1 : Nat) (l1 : List Int) (r : Bool) (w : World) (hr0_0 : Kd.C k47 w A0_0 l0_0.length l0_0) (hc0_0 : l0_0.length ≤ c0_0) (hr0_1 : Kd.C k38 w A0_1 l0_1.length l0_1) (hc0_1 : l0_1.length ≤ c0_1) (hr1 : Kd.C (Kd.int .i64) w A1 l1.length l1) (hc1 : l1.length ≤ c1) (h : stillagelaw08_RouteLoops.f k l0_0 l0_1 l1 = some r) :
  Calls Try.prog 8 #[.agg #[.slice A0_0 l0_0.length c0_0, .slice A0_1 l0_1.length c0_1], .slice A1 l1.length c1] w fun e w' => e = .returned (.bool r) ∧ Below w.heap.size w w' := by
 have hu25 := Try.underlying25
 have hu38 := Try.underlying38
 have HR0_0 := Aside0.mk hr0_0
 have HC0_0 := Aside0.mk hc0_0
 clear hr0_0 hc0_0
 have HR0_1 := Aside0.mk hr0_1
 have HC0_1 := Aside0.mk hc0_1
 clear hr0_1 hc0_1
 have HR1 := Aside0.mk hr1
 have HC1 := Aside0.mk hc1
 clear hr1 hc1
 have HB := Aside0.mk (Below.refl w.heap.size w)
 have H : ((stillagelaw08_awake.f k).bind fun t331 => (if t331 = true then ((stillagelaw07_Fits.f k l0_0 l0_1 l1).bind fun t332 => (if t332 = true then (stillagelaw08_RouteLoops.j0 k l1 (decide ((l0_0.length : Int) > 25)) l0_0 l0_1) else (stillagelaw08_RouteLoops.j0 k l1 true l0_0 l0_1))) else (some false))) = some r := h
 clear h
 replace H := Option.bind_eq_some_iff.mp H; obtain ⟨t331, A30, H⟩ := H
 replace H : (if t331 = true then ((stillagelaw07_Fits.f k l0_0 l0_1 l1).bind fun t332 => (if t332 = true then (stillagelaw08_RouteLoops.j0 k l1 (decide ((l0_0.length : Int) > 25)) l0_0 l0_1) else (stillagelaw08_RouteLoops.j0 k l1 true l0_0 l0_1))) else (some false)) = some r := H
 have A3 := Aside0.mk A30
 clear A30
 by_cases c4 : t331 = true
 rotate_left
 ·replace c4 := Bool.eq_false_iff.mpr c4
  subst c4
  have H1 : (some false) = some r := by rw [if_neg (show ¬ (false = true) by decide)] at H; exact H
  clear H; have H := H1; clear H1
  obtain rfl := Option.some.inj H
  go_enter Try.func8, Try.ntmps8
  go_wp2_with (first | ((with_reducible refine gate_dst (N := 2) rfl ?_); (try (refine gate_guard (by rfl) ?_; dsimp only)); refine box_event ?hg (N := 2) ?hd (cs := #[.slice A0_0 l0_0.length c0_0, .slice A0_1 l0_1.length c0_1]) (t := 25) ?hr ?_; (case hd => rfl); (case hg => rfl); (case hr => first | (go_simp; done) | (go_simp; rfl)); intro gb330 hg w91 hbox hb; have BK330 := Aside0.mk (hbox); have GW330 := Aside0.mk ((by rw [hg]; exact (below_size (by repeat (first | (with_reducible first | exact HB.out | apply below_alloc | apply pw_below_drewN | apply below_drew1) | exact HB.out))) : w.heap.size ≤ gb330)); have GE330 := Aside0.mk ((by rw [hg]; exact (below_size (by repeat (first | (with_reducible first | exact HB.out | apply below_alloc | apply pw_below_drewN | apply below_drew1) | exact HB.out))) : w.heap.size ≤ gb330)); replace HB := Aside0.mk (below_step (by repeat (first | (with_reducible first | exact HB.out | apply below_alloc | apply pw_below_drewN | apply below_drew1) | exact HB.out)) hb); clear hb hbox hg) | ((with_reducible refine gate_callee (f := 10) rfl ?_); refine goesL_ (some 18) rfl rfl Try.func10 (by kernel_rfl) rfl #[] rfl (by (try simp only [List.map_toArray, List.map_cons, List.map_nil]); first | done | rfl | (simp only [List.length_drop, List.length_take]; rfl)) ?_; (with_reducible refine (stillagelaw08_awake.calls k  false _ A3.out).mono ?_); rintro e w92 ⟨rfl, hb⟩; refine ⟨_, rfl, ?_⟩; replace BK330 := Aside0.mk (blk_below (g := gb330) (o := .cells #[.slice A0_0 l0_0.length c0_0, .slice A0_1 l0_1.length c0_1] 25 (0, 0)) (by (with_reducible repeat (first | refine blk_drewN ?_ _ | refine blk_drew ?_ | refine blk_alloc ?_ _)); exact BK330.out) hb); replace HB := Aside0.mk (below_step (by repeat (first | (with_reducible first | exact HB.out | apply below_alloc | apply pw_below_drewN | apply below_drew1 | refine below_set ?_ GE330.out) | exact HB.out)) hb); (try clear hb)))
  go_ret
  exact ⟨by first | rfl | (simp [errW_none, errW_some] <;> rfl) | (simp [*, errW_none, errW_some] <;> rfl), by repeat (first | (with_reducible first | exact HB.out | apply below_alloc | apply pw_below_drewN | apply below_drew1 | refine below_set ?_ GE330.out) | exact HB.out)⟩

 subst c4
 have H1 : ((stillagelaw07_Fits.f k l0_0 l0_1 l1).bind fun t332 => (if t332 = true then (stillagelaw08_RouteLoops.j0 k l1 (decide ((l0_0.length : Int) > 25)) l0_0 l0_1) else (stillagelaw08_RouteLoops.j0 k l1 true l0_0 l0_1))) = some r := by rw [if_pos rfl] at H; exact H
 clear H; have H := H1; clear H1
 have HC5 := Aside0.mk H
 clear H
 go_enter Try.func8, Try.ntmps8
 go_upto_region 3 with (first | ((with_reducible refine gate_dst (N := 2) rfl ?_); (try (refine gate_guard (by rfl) ?_; dsimp only)); refine box_event ?hg (N := 2) ?hd (cs := #[.slice A0_0 l0_0.length c0_0, .slice A0_1 l0_1.length c0_1]) (t := 25) ?hr ?_; (case hd => rfl); (case hg => rfl); (case hr => first | (go_simp; done) | (go_simp; rfl)); intro gb330 hg w6 hbox hb; have BK330 := Aside0.mk (hbox); have GW330 := Aside0.mk ((by rw [hg]; exact (below_size (by repeat (first | (with_reducible first | exact HB.out | apply below_alloc | apply pw_below_drewN | apply below_drew1) | exact HB.out))) : w.heap.size ≤ gb330)); have GE330 := Aside0.mk ((by rw [hg]; exact (below_size (by repeat (first | (with_reducible first | exact HB.out | apply below_alloc | apply pw_below_drewN | apply below_drew1) | exact HB.out))) : w.heap.size ≤ gb330)); replace HB := Aside0.mk (below_step (by repeat (first | (with_reducible first | exact HB.out | apply below_alloc | apply pw_below_drewN | apply below_drew1) | exact HB.out)) hb); clear hb hbox hg) | ((with_reducible refine gate_callee (f := 10) rfl ?_); refine goesL_ (some 18) rfl rfl Try.func10 (by kernel_rfl) rfl #[] rfl (by (try simp only [List.map_toArray, List.map_cons, List.map_nil]); first | done | rfl | (simp only [List.length_drop, List.length_take]; rfl)) ?_; (with_reducible refine (stillagelaw08_awake.calls k  true _ A3.out).mono ?_); rintro e w7 ⟨rfl, hb⟩; refine ⟨_, rfl, ?_⟩; replace BK330 := Aside0.mk (blk_below (g := gb330) (o := .cells #[.slice A0_0 l0_0.length c0_0, .slice A0_1 l0_1.length c0_1] 25 (0, 0)) (by (with_reducible repeat (first | refine blk_drewN ?_ _ | refine blk_drew ?_ | refine blk_alloc ?_ _)); exact BK330.out) hb); replace HB := Aside0.mk (below_step (by repeat (first | (with_reducible first | exact HB.out | apply below_alloc | apply pw_below_drewN | apply below_drew1 | refine below_set ?_ GE330.out) | exact HB.out)) hb); (try clear hb)))
 (try simp only [Act.put, List.setIfInBounds_toArray, List.set_cons_zero, List.set_cons_succ])
 go_cut [29] (fun v29 wc => ∃ (kq : Nat) (x29_4 : Bool), v29 = .bool x29_4 ∧ Aside0 (stillagelaw08_RouteLoops.j0 kq l1 x29_4 l0_0 l0_1 = some r) ∧ Aside0 (kq ≤ k) ∧ Aside0 (wc.heap[gb330]? = some (.cells #[(.slice A0_0 l0_0.length c0_0), (.slice A0_1 l0_1.length c0_1)] 25 (0, 0))) ∧ Aside0 (Below w.heap.size w wc))
 case first =>
  have H := HC5.out
  clear HC5
  replace H := Option.bind_eq_some_iff.mp H; obtain ⟨t332, A80, H⟩ := H
  replace H : (if t332 = true then (stillagelaw08_RouteLoops.j0 k l1 (decide ((l0_0.length : Int) > 25)) l0_0 l0_1) else (stillagelaw08_RouteLoops.j0 k l1 true l0_0 l0_1)) = some r := H
  have A8 := Aside0.mk A80
  clear A80
  by_cases c9 : t332 = true
  rotate_left
  ·replace c9 := Bool.eq_false_iff.mpr c9
   subst c9
   have H1 : (stillagelaw08_RouteLoops.j0 k l1 true l0_0 l0_1) = some r := by rw [if_neg (show ¬ (false = true) by decide)] at H; exact H
   clear H; have H := H1; clear H1
   have H' := Aside0.mk H; clear H
   have hcz13_0 : w7.cell? ⟨gb330, 0, none⟩ = some (.slice A0_0 l0_0.length c0_0) := (blk_cell BK330.out 0).trans rfl
   have hcz13_1 : w7.cell? ⟨gb330, 1, none⟩ = some (.slice A0_1 l0_1.length c0_1) := (blk_cell BK330.out 1).trans rfl
   have hfz13_0 := blk_frozen BK330.out 0
   have hfz13_1 := blk_frozen BK330.out 1
   go_wp2_with (first | ((with_reducible refine gate_callee (f := 23) rfl ?_); refine goesL_ (some 22) rfl rfl Try.func23 (by kernel_rfl) rfl #[.agg #[.slice A0_0 l0_0.length c0_0, .slice A0_1 l0_1.length c0_1], .slice A1 l1.length c1] rfl (by (try simp only [List.map_toArray, List.map_cons, List.map_nil]); first | done | rfl | (simp only [List.length_drop, List.length_take]; rfl)) ?_; (with_reducible refine (stillagelaw07_Fits.calls k _ _ l0_0 _ _ l0_1 _ _ l1 false _ ?side1 ?side2 ?side3 ?side4 ?side5 ?side6 A8.out).mono ?_); (case side1 => repeat (first | exact (Kd.C_below HR0_0.out HB.out) | (with_reducible refine Kd.C_alloc ?_ _) | (with_reducible refine Kd.C_drewN ?_ _) | (with_reducible refine Kd.C_drew ?_))); (case side2 => exact HC0_0.out); (case side3 => repeat (first | exact (Kd.C_below HR0_1.out HB.out) | (with_reducible refine Kd.C_alloc ?_ _) | (with_reducible refine Kd.C_drewN ?_ _) | (with_reducible refine Kd.C_drew ?_))); (case side4 => exact HC0_1.out); (case side5 => repeat (first | exact (Kd.C_below HR1.out HB.out) | (with_reducible refine Kd.C_alloc ?_ _) | (with_reducible refine Kd.C_drewN ?_ _) | (with_reducible refine Kd.C_drew ?_))); (case side6 => exact HC1.out); rintro e w14 ⟨rfl, hb⟩; refine ⟨_, rfl, ?_⟩; replace BK330 := Aside0.mk (blk_below (g := gb330) (o := .cells #[.slice A0_0 l0_0.length c0_0, .slice A0_1 l0_1.length c0_1] 25 (0, 0)) (by (with_reducible repeat (first | refine blk_drewN ?_ _ | refine blk_drew ?_ | refine blk_alloc ?_ _)); exact BK330.out) hb); replace HB := Aside0.mk (below_step (by repeat (first | (with_reducible first | exact HB.out | apply below_alloc | apply pw_below_drewN | apply below_drew1 | refine below_set ?_ GE330.out) | exact HB.out)) hb); (try clear hb)))
   go_meet
   case rel => exact ⟨_, (true), (by first | rfl | (simp; done) | (simp [*]; done)), H', ⟨by first | omega | exact Nat.le_refl _⟩, ⟨by (with_reducible repeat (first | refine blk_drewN ?_ _ | refine blk_drew ?_ | refine blk_alloc ?_ _)); exact BK330.out⟩, ⟨by repeat (first | (with_reducible first | exact HB.out | apply below_alloc | apply pw_below_drewN | apply below_drew1 | refine below_set ?_ GE330.out) | exact HB.out)⟩⟩
  subst c9
  have H1 : (stillagelaw08_RouteLoops.j0 k l1 (decide ((l0_0.length : Int) > 25)) l0_0 l0_1) = some r := by rw [if_pos rfl] at H; exact H
  clear H; have H := H1; clear H1
  have H' := Aside0.mk H; clear H
  have hcz10_0 : w7.cell? ⟨gb330, 0, none⟩ = some (.slice A0_0 l0_0.length c0_0) := (blk_cell BK330.out 0).trans rfl
  have hcz10_1 : w7.cell? ⟨gb330, 1, none⟩ = some (.slice A0_1 l0_1.length c0_1) := (blk_cell BK330.out 1).trans rfl
  have hfz10_0 := blk_frozen BK330.out 0
  have hfz10_1 := blk_frozen BK330.out 1
  go_wp2_with (first | ((with_reducible refine gate_callee (f := 23) rfl ?_); refine goesL_ (some 22) rfl rfl Try.func23 (by kernel_rfl) rfl #[.agg #[.slice A0_0 l0_0.length c0_0, .slice A0_1 l0_1.length c0_1], .slice A1 l1.length c1] rfl (by (try simp only [List.map_toArray, List.map_cons, List.map_nil]); first | done | rfl | (simp only [List.length_drop, List.length_take]; rfl)) ?_; (with_reducible refine (stillagelaw07_Fits.calls k _ _ l0_0 _ _ l0_1 _ _ l1 true _ ?side1 ?side2 ?side3 ?side4 ?side5 ?side6 A8.out).mono ?_); (case side1 => repeat (first | exact (Kd.C_below HR0_0.out HB.out) | (with_reducible refine Kd.C_alloc ?_ _) | (with_reducible refine Kd.C_drewN ?_ _) | (with_reducible refine Kd.C_drew ?_))); (case side2 => exact HC0_0.out); (case side3 => repeat (first | exact (Kd.C_below HR0_1.out HB.out) | (with_reducible refine Kd.C_alloc ?_ _) | (with_reducible refine Kd.C_drewN ?_ _) | (with_reducible refine Kd.C_drew ?_))); (case side4 => exact HC0_1.out); (case side5 => repeat (first | exact (Kd.C_below HR1.out HB.out) | (with_reducible refine Kd.C_alloc ?_ _) | (with_reducible refine Kd.C_drewN ?_ _) | (with_reducible refine Kd.C_drew ?_))); (case side6 => exact HC1.out); rintro e w11 ⟨rfl, hb⟩; refine ⟨_, rfl, ?_⟩; replace BK330 := Aside0.mk (blk_below (g := gb330) (o := .cells #[.slice A0_0 l0_0.length c0_0, .slice A0_1 l0_1.length c0_1] 25 (0, 0)) (by (with_reducible repeat (first | refine blk_drewN ?_ _ | refine blk_drew ?_ | refine blk_alloc ?_ _)); exact BK330.out) hb); replace HB := Aside0.mk (below_step (by repeat (first | (with_reducible first | exact HB.out | apply below_alloc | apply pw_below_drewN | apply below_drew1 | refine below_set ?_ GE330.out) | exact HB.out)) hb); (try clear hb); have hcz12_0 : w11.cell? ⟨gb330, 0, none⟩ = some (.slice A0_0 l0_0.length c0_0) := (blk_cell BK330.out 0).trans rfl; have hcz12_1 : w11.cell? ⟨gb330, 1, none⟩ = some (.slice A0_1 l0_1.length c0_1) := (blk_cell BK330.out 1).trans rfl; have hfz12_0 := blk_frozen BK330.out 0; have hfz12_1 := blk_frozen BK330.out 1))
  go_meet
  case rel => exact ⟨_, (decide ((l0_0.length : Int) > 25)), (by first | rfl | (simp; done) | (simp [*]; done)), H', ⟨by first | omega | exact Nat.le_refl _⟩, ⟨by (with_reducible repeat (first | refine blk_drewN ?_ _ | refine blk_drew ?_ | refine blk_alloc ?_ _)); exact BK330.out⟩, ⟨by repeat (first | (with_reducible first | exact HB.out | apply below_alloc | apply pw_below_drewN | apply below_drew1 | refine below_set ?_ GE330.out) | exact HB.out)⟩⟩
 case rest =>
  clear HC5
  obtain ⟨kq, x29_4, rfl, HA, HJ4, BK330, HB⟩ := hcut
  cases kq with
  | zero => exact absurd HA.out (by simp [stillagelaw08_RouteLoops.j0])
  | succ kj4 =>
   have H := HA.out
   clear HA
   simp only [stillagelaw08_RouteLoops.j0] at H
   by_cases c15 : x29_4 = true
   ·subst c15
    have H1 : (some true) = some r := by rw [if_pos rfl] at H; exact H
    clear H; have H := H1; clear H1
    obtain rfl := Option.some.inj H
    go_wp2
    go_ret
    exact ⟨by first | rfl | (simp [errW_none, errW_some] <;> rfl) | (simp [*, errW_none, errW_some] <;> rfl), by repeat (first | (with_reducible first | exact HB.out | apply below_alloc | apply pw_below_drewN | apply below_drew1 | refine below_set ?_ GE330.out) | exact HB.out)⟩
   replace c15 := Bool.eq_false_iff.mpr c15
   subst c15
   have H1 : (stillagelaw08_RouteLoops.l0 kj4 l1 (l0_0.length : Int) 0 l0_0 l0_1) = some r := by rw [if_neg (show ¬ (false = true) by decide)] at H; exact H
   clear H; have H := H1; clear H1
   have H' := Aside0.mk H; clear H
   have hcz16_0 : wc.cell? ⟨gb330, 0, none⟩ = some (.slice A0_0 l0_0.length c0_0) := (blk_cell BK330.out 0).trans rfl
   have hcz16_1 : wc.cell? ⟨gb330, 1, none⟩ = some (.slice A0_1 l0_1.length c0_1) := (blk_cell BK330.out 1).trans rfl
   have hfz16_0 := blk_frozen BK330.out 0
   have hfz16_1 := blk_frozen BK330.out 1
   go_wp2
   go_loopg [33] kj4 (fun kq v33 w' => ∃ (x33_2 : Int), v33 = .int .i64 x33_2 ∧ Aside0 (stillagelaw08_RouteLoops.l0 kq l1 (l0_0.length : Int) x33_2 l0_0 l0_1 = some r) ∧ Aside0 (kq ≤ kj4) ∧ Aside0 (w'.heap[gb330]? = some (.cells #[(.slice A0_0 l0_0.length c0_0), (.slice A0_1 l0_1.length c0_1)] 25 (0, 0))) ∧ Aside0 (Below w.heap.size w w'))
   case atStart => exact ⟨(0), (by first | rfl | (simp; done) | (simp [*]; done)), H', ⟨Nat.le_refl _⟩, ⟨by (with_reducible repeat (first | refine blk_drewN ?_ _ | refine blk_drew ?_ | refine blk_alloc ?_ _)); exact BK330.out⟩, ⟨by repeat (first | (with_reducible first | exact HB.out | apply below_alloc | apply pw_below_drewN | apply below_drew1 | refine below_set ?_ GE330.out) | exact HB.out)⟩⟩
   case round =>
    clear H'
    obtain ⟨x33_2, rfl, HA, HK2, BK330, HB⟩ := hrel
    cases gk with
    | zero => exact absurd HA.out (by simp [stillagelaw08_RouteLoops.l0])
    | succ k2 =>
     have H := HA.out
     clear HA
     simp only [stillagelaw08_RouteLoops.l0] at H
     by_cases c17 : x33_2 < (l0_0.length : Int)
     rotate_left
     ·rw [if_neg c17] at H
      have c17b0 : decide (x33_2 < (l0_0.length : Int)) = false := decide_eq_false c17
      clear c17
      obtain rfl := Option.some.inj H
      go_wp2
      go_ret
      exact ⟨by first | rfl | (simp [errW_none, errW_some] <;> rfl) | (simp [*, errW_none, errW_some] <;> rfl), by repeat (first | (with_reducible first | exact HB.out | apply below_alloc | apply pw_below_drewN | apply below_drew1 | refine below_set ?_ GE330.out) | exact HB.out)⟩
     rw [if_pos c17] at H
     have c17b0 : decide (x33_2 < (l0_0.length : Int)) = true := decide_eq_true c17
     clear c17
     replace H := Option.bind_eq_some_iff.mp H; obtain ⟨⟨t333, t336⟩, A180, H⟩ := H
     replace H : ((route_Loop.f k2 l0_0 l0_1 l1 x33_2).bind fun bt337 => (if t336 = 0 then (stillagelaw08_RouteLoops.j2 k2 l1 x33_2 t333 bt337.1 bt337.2 (l0_0.length : Int) x33_2 ((t333.length : Int) != (l0_0.length : Int)) l0_0 l0_1) else (stillagelaw08_RouteLoops.j2 k2 l1 x33_2 t333 bt337.1 bt337.2 (l0_0.length : Int) x33_2 true l0_0 l0_1))) = some r := H
     have A18 := Aside0.mk A180
     clear A180
     replace H := Option.bind_eq_some_iff.mp H; obtain ⟨⟨t337, t340⟩, A190, H⟩ := H
     replace H : (if t336 = 0 then (stillagelaw08_RouteLoops.j2 k2 l1 x33_2 t333 t337 t340 (l0_0.length : Int) x33_2 ((t333.length : Int) != (l0_0.length : Int)) l0_0 l0_1) else (stillagelaw08_RouteLoops.j2 k2 l1 x33_2 t333 t337 t340 (l0_0.length : Int) x33_2 true l0_0 l0_1)) = some r := H
     have A19 := Aside0.mk A190
     clear A190
     have HC20 := Aside0.mk H
     clear H
     have hcz21_0 : wr.cell? ⟨gb330, 0, none⟩ = some (.slice A0_0 l0_0.length c0_0) := (blk_cell BK330.out 0).trans rfl
     have hcz21_1 : wr.cell? ⟨gb330, 1, none⟩ = some (.slice A0_1 l0_1.length c0_1) := (blk_cell BK330.out 1).trans rfl
     have hfz21_0 := blk_frozen BK330.out 0
     have hfz21_1 := blk_frozen BK330.out 1
     go_upto_region 10 with (first | ((with_reducible refine gate_callee (f := 28) rfl ?_); refine goesL_ (some 40) rfl rfl Try.func28 (by kernel_rfl) rfl #[.agg #[.slice A0_0 l0_0.length c0_0, .slice A0_1 l0_1.length c0_1], .slice A1 l1.length c1, .int .i64 x33_2] rfl (by (try simp only [List.map_toArray, List.map_cons, List.map_nil]); first | done | rfl | (simp only [List.length_drop, List.length_take]; rfl)) ?_; (with_reducible refine (reach_To.calls k2 _ _ l0_0 _ _ l0_1 _ _ l1 x33_2 t333 t336 _ ?side1 ?side2 ?side3 ?side4 ?side5 ?side6 A18.out).mono ?_); (case side1 => repeat (first | exact (Kd.C_below HR0_0.out HB.out) | (with_reducible refine Kd.C_alloc ?_ _) | (with_reducible refine Kd.C_drewN ?_ _) | (with_reducible refine Kd.C_drew ?_))); (case side2 => exact HC0_0.out); (case side3 => repeat (first | exact (Kd.C_below HR0_1.out HB.out) | (with_reducible refine Kd.C_alloc ?_ _) | (with_reducible refine Kd.C_drewN ?_ _) | (with_reducible refine Kd.C_drew ?_))); (case side4 => exact HC0_1.out); (case side5 => repeat (first | exact (Kd.C_below HR1.out HB.out) | (with_reducible refine Kd.C_alloc ?_ _) | (with_reducible refine Kd.C_drewN ?_ _) | (with_reducible refine Kd.C_drew ?_))); (case side6 => exact HC1.out); rintro e w22 ⟨v334, rfl, ho0, hb⟩; refine ⟨_, rfl, ?_⟩; have HO335 := Aside0.mk (Kd.R_lower ho0 (below_size (by repeat (first | (with_reducible first | exact HB.out | apply below_alloc | apply pw_below_drewN | apply below_drew1 | refine below_set ?_ GE330.out) | exact HB.out)))); replace BK330 := Aside0.mk (blk_below (g := gb330) (o := .cells #[.slice A0_0 l0_0.length c0_0, .slice A0_1 l0_1.length c0_1] 25 (0, 0)) (by (with_reducible repeat (first | refine blk_drewN ?_ _ | refine blk_drew ?_ | refine blk_alloc ?_ _)); exact BK330.out) hb); replace HB := Aside0.mk (below_step (by repeat (first | (with_reducible first | exact HB.out | apply below_alloc | apply pw_below_drewN | apply below_drew1 | refine below_set ?_ GE330.out) | exact HB.out)) hb); (try clear hb); (try clear ho0); have hcz23_0 : w22.cell? ⟨gb330, 0, none⟩ = some (.slice A0_0 l0_0.length c0_0) := (blk_cell BK330.out 0).trans rfl; have hcz23_1 : w22.cell? ⟨gb330, 1, none⟩ = some (.slice A0_1 l0_1.length c0_1) := (blk_cell BK330.out 1).trans rfl; have hfz23_0 := blk_frozen BK330.out 0; have hfz23_1 := blk_frozen BK330.out 1) | ((with_reducible refine gate_callee (f := 20) rfl ?_); refine goesL_ (some 47) rfl rfl Try.func20 (by kernel_rfl) rfl #[.agg #[.slice A0_0 l0_0.length c0_0, .slice A0_1 l0_1.length c0_1], .slice A1 l1.length c1, .int .i64 x33_2] rfl (by (try simp only [List.map_toArray, List.map_cons, List.map_nil]); first | done | rfl | (simp only [List.length_drop, List.length_take]; rfl)) ?_; (with_reducible refine (route_Loop.calls k2 _ _ l0_0 _ _ l0_1 _ _ l1 x33_2 t337 t340 _ ?side1 ?side2 ?side3 ?side4 ?side5 ?side6 A19.out).mono ?_); (case side1 => repeat (first | exact (Kd.C_below HR0_0.out HB.out) | (with_reducible refine Kd.C_alloc ?_ _) | (with_reducible refine Kd.C_drewN ?_ _) | (with_reducible refine Kd.C_drew ?_))); (case side2 => exact HC0_0.out); (case side3 => repeat (first | exact (Kd.C_below HR0_1.out HB.out) | (with_reducible refine Kd.C_alloc ?_ _) | (with_reducible refine Kd.C_drewN ?_ _) | (with_reducible refine Kd.C_drew ?_))); (case side4 => exact HC0_1.out); (case side5 => repeat (first | exact (Kd.C_below HR1.out HB.out) | (with_reducible refine Kd.C_alloc ?_ _) | (with_reducible refine Kd.C_drewN ?_ _) | (with_reducible refine Kd.C_drew ?_))); (case side6 => exact HC1.out); rintro e w24 ⟨v338, rfl, ho0, hb⟩; refine ⟨_, rfl, ?_⟩; have HO339 := Aside0.mk (Kd.R_lower (Kd.R_new' ho0 (Kd.R_lt (by (with_reducible repeat (first | apply Kd.R_alloc | apply Kd.R_drewN | apply Kd.R_drew)); exact HO335.out))) (below_size (by repeat (first | (with_reducible first | exact HB.out | apply below_alloc | apply pw_below_drewN | apply below_drew1 | refine below_set ?_ GE330.out) | exact HB.out)))); replace HO335 := Aside0.mk (Kd.R_elder' (by (with_reducible repeat (first | apply Kd.R_alloc | apply Kd.R_drewN | apply Kd.R_drew)); exact HO335.out) (Kd.R_base ho0) hb); replace BK330 := Aside0.mk (blk_below (g := gb330) (o := .cells #[.slice A0_0 l0_0.length c0_0, .slice A0_1 l0_1.length c0_1] 25 (0, 0)) (by (with_reducible repeat (first | refine blk_drewN ?_ _ | refine blk_drew ?_ | refine blk_alloc ?_ _)); exact BK330.out) hb); replace HB := Aside0.mk (below_step (by repeat (first | (with_reducible first | exact HB.out | apply below_alloc | apply pw_below_drewN | apply below_drew1 | refine below_set ?_ GE330.out) | exact HB.out)) hb); (try clear hb); (try clear ho0)))
     (try simp only [Act.put, List.setIfInBounds_toArray, List.set_cons_zero, List.set_cons_succ])
     go_cut [59] (fun v59 wc => ∃ (kq : Nat) (x59_19 : Bool), v59 = .bool x59_19 ∧ Aside0 (stillagelaw08_RouteLoops.j2 kq l1 x33_2 t333 t337 t340 (l0_0.length : Int) x33_2 x59_19 l0_0 l0_1 = some r) ∧ Aside0 (kq ≤ k2) ∧ Aside0 (Kd.R (Kd.int .i64) 3 wc w.heap.size (fun k_ => some k_ ≠ (v338 : Value).ownBlock) v334 t333) ∧ Aside0 (Kd.R (Kd.int .i64) 3 wc w.heap.size (fun k_ => some k_ ≠ (v334 : Value).ownBlock) v338 t337) ∧ Aside0 (wc.heap[gb330]? = some (.cells #[(.slice A0_0 l0_0.length c0_0), (.slice A0_1 l0_1.length c0_1)] 25 (0, 0))) ∧ Aside0 (Below w.heap.size w wc))
     case first =>
      have H := HC20.out
      clear HC20
      by_cases c25 : t336 = 0
      rotate_left
      ·rw [if_neg c25] at H
       have c25b0 : (t336 == 0) = false := beq_eq_false_iff_ne.mpr c25
       have c25b1 : (t336 != 0) = true := bne_iff_ne.mpr c25
       (first | rw [c25b0] | (simp only [i64_w, i32_w]; rw [c25b0]) | skip)
       have H' := Aside0.mk H; clear H
       go_wp2
       go_meet
       case rel => exact ⟨_, (true), (by first | rfl | (simp; done) | (simp [*]; done)), H', ⟨by have := HJ4.out; have := HK2.out; first | omega | exact Nat.le_refl _⟩, ⟨by (with_reducible repeat (first | apply Kd.R_alloc | apply Kd.R_drewN | apply Kd.R_drew)); exact Kd.R_mono HO335.out (fun _ hk => hk.2)⟩, ⟨by (with_reducible repeat (first | apply Kd.R_alloc | apply Kd.R_drewN | apply Kd.R_drew)); exact Kd.R_mono HO339.out (fun _ hk => hk.2)⟩, ⟨by (with_reducible repeat (first | refine blk_drewN ?_ _ | refine blk_drew ?_ | refine blk_alloc ?_ _)); exact BK330.out⟩, ⟨by repeat (first | (with_reducible first | exact HB.out | apply below_alloc | apply pw_below_drewN | apply below_drew1 | refine below_set ?_ GE330.out) | exact HB.out)⟩⟩
      rw [if_pos c25] at H
      have c25b0 : (t336 == 0) = true := beq_iff_eq.mpr c25
      have c25b1 : (t336 != 0) = false := bne_eq_false_iff_eq.mpr c25
      clear c25
      (first | rw [c25b0] | (simp only [i64_w, i32_w]; rw [c25b0]) | skip)
      have H' := Aside0.mk H; clear H
      obtain ⟨Ao26, co26, eo26⟩ := Kd.R_slice HO335.out
      subst eo26
      have hcz27_0 : w24.cell? ⟨gb330, 0, none⟩ = some (.slice A0_0 l0_0.length c0_0) := (blk_cell BK330.out 0).trans rfl
      have hcz27_1 : w24.cell? ⟨gb330, 1, none⟩ = some (.slice A0_1 l0_1.length c0_1) := (blk_cell BK330.out 1).trans rfl
      have hfz27_0 := blk_frozen BK330.out 0
      have hfz27_1 := blk_frozen BK330.out 1
      go_wp2
      go_meet
      case rel => exact ⟨_, (((t333.length : Int) != (l0_0.length : Int))), (by first | rfl | (simp; done) | (simp [*]; done)), H', ⟨by have := HJ4.out; have := HK2.out; first | omega | exact Nat.le_refl _⟩, ⟨by (with_reducible repeat (first | apply Kd.R_alloc | apply Kd.R_drewN | apply Kd.R_drew)); exact Kd.R_mono HO335.out (fun _ hk => hk.2)⟩, ⟨by (with_reducible repeat (first | apply Kd.R_alloc | apply Kd.R_drewN | apply Kd.R_drew)); exact Kd.R_mono HO339.out (fun _ hk => hk.2)⟩, ⟨by (with_reducible repeat (first | refine blk_drewN ?_ _ | refine blk_drew ?_ | refine blk_alloc ?_ _)); exact BK330.out⟩, ⟨by repeat (first | (with_reducible first | exact HB.out | apply below_alloc | apply pw_below_drewN | apply below_drew1 | refine below_set ?_ GE330.out) | exact HB.out)⟩⟩
     case rest =>
      clear HC20
      obtain ⟨kq, x59_19, rfl, HA, HJ19, HO_6, HO_8, BK330, HB⟩ := hcut
      cases kq with
      | zero => exact absurd HA.out (by simp [stillagelaw08_RouteLoops.j2])
      | succ kj19 =>
       have H := HA.out
       clear HA
       simp only [stillagelaw08_RouteLoops.j2] at H
       by_cases c28 : x59_19 = true
       ·subst c28
        have H1 : (some false) = some r := by rw [if_pos rfl] at H; exact H
        clear H; have H := H1; clear H1
        obtain rfl := Option.some.inj H
        go_wp2
        go_ret
        exact ⟨by first | rfl | (simp [errW_none, errW_some] <;> rfl) | (simp [*, errW_none, errW_some] <;> rfl), by repeat (first | (with_reducible first | exact HB.out | apply below_alloc | apply pw_below_drewN | apply below_drew1 | refine below_set ?_ GE330.out) | exact HB.out)⟩
       replace c28 := Bool.eq_false_iff.mpr c28
       subst c28
       have H1 : (stillagelaw08_RouteLoops.l1 kj19 l1 x33_2 t333 t337 t340 (-1) (l0_0.length : Int) x33_2 l0_1 (l0_1.length : Int) 0 l0_0 l0_1) = some r := by rw [if_neg (show ¬ (false = true) by decide)] at H; exact H
       clear H; have H := H1; clear H1
       have H' := Aside0.mk H; clear H
       have hcz29_0 : wc.cell? ⟨gb330, 0, none⟩ = some (.slice A0_0 l0_0.length c0_0) := (blk_cell BK330.out 0).trans rfl
       have hcz29_1 : wc.cell? ⟨gb330, 1, none⟩ = some (.slice A0_1 l0_1.length c0_1) := (blk_cell BK330.out 1).trans rfl
       have hfz29_0 := blk_frozen BK330.out 0
       have hfz29_1 := blk_frozen BK330.out 1
       go_wp2
       go_loopg [10, 63] kj19 (fun kq v10 v63 w' => ∃ (x10_4 : Int) (x63_4 : Int), v10 = .int .i64 x10_4 ∧ v63 = .int .i64 x63_4 ∧ Aside0 (stillagelaw08_RouteLoops.l1 kq l1 x33_2 t333 t337 t340 x10_4 (l0_0.length : Int) x33_2 l0_1 (l0_1.length : Int) x63_4 l0_0 l0_1 = some r) ∧ Aside0 (kq ≤ kj19) ∧ Aside0 (Kd.R (Kd.int .i64) 3 w' w.heap.size (fun k_ => some k_ ≠ (v338 : Value).ownBlock) v334 t333) ∧ Aside0 (Kd.R (Kd.int .i64) 3 w' w.heap.size (fun k_ => some k_ ≠ (v334 : Value).ownBlock) v338 t337) ∧ Aside0 (w'.heap[gb330]? = some (.cells #[(.slice A0_0 l0_0.length c0_0), (.slice A0_1 l0_1.length c0_1)] 25 (0, 0))) ∧ Aside0 (Below w.heap.size w w'))
       case atStart => exact ⟨((-1)), (0), (by first | rfl | (simp; done) | (simp [*]; done)), (by first | rfl | (simp; done) | (simp [*]; done)), H', ⟨Nat.le_refl _⟩, ⟨by (with_reducible repeat (first | apply Kd.R_alloc | apply Kd.R_drewN | apply Kd.R_drew)); exact HO_6.out⟩, ⟨by (with_reducible repeat (first | apply Kd.R_alloc | apply Kd.R_drewN | apply Kd.R_drew)); exact HO_8.out⟩, ⟨by (with_reducible repeat (first | refine blk_drewN ?_ _ | refine blk_drew ?_ | refine blk_alloc ?_ _)); exact BK330.out⟩, ⟨by repeat (first | (with_reducible first | exact HB.out | apply below_alloc | apply pw_below_drewN | apply below_drew1 | refine below_set ?_ GE330.out) | exact HB.out)⟩⟩
       case round =>
        clear H'
        obtain ⟨x10_4, x63_4, rfl, rfl, HA, HK4, HO_6, HO_8, BK330, HB⟩ := hrel
        cases gk with
        | zero => exact absurd HA.out (by simp [stillagelaw08_RouteLoops.l1])
        | succ k4 =>
         have H := HA.out
         clear HA
         simp only [stillagelaw08_RouteLoops.l1] at H
         by_cases c30 : x63_4 < (l0_1.length : Int)
         rotate_left
         ·rw [if_neg c30] at H
          have c30b0 : decide (x63_4 < (l0_1.length : Int)) = false := decide_eq_false c30
          clear c30
          have HC70 := Aside0.mk H
          clear H
          go_upto_region 25 with (fail)
          go_cut [155] (fun v155 wc => ∃ (kq : Nat) (x155_69 : Bool), v155 = .bool x155_69 ∧ Aside0 (stillagelaw08_RouteLoops.j5 kq l1 x33_2 t337 (l0_0.length : Int) x33_2 x155_69 l0_0 l0_1 = some r) ∧ Aside0 (kq ≤ k4) ∧ Aside0 (Kd.R (Kd.int .i64) 3 wc w.heap.size (fun _ => True) v338 t337) ∧ Aside0 (wc.heap[gb330]? = some (.cells #[(.slice A0_0 l0_0.length c0_0), (.slice A0_1 l0_1.length c0_1)] 25 (0, 0))) ∧ Aside0 (Below w.heap.size w wc))
          case first =>
           have H := HC70.out
           clear HC70
           by_cases c71 : ((t340 == 0) != (decide (x10_4 ≥ 0))) = true
           ·rw [if_pos c71] at H
            have c71b0 : ((t340 == 0) != (decide (x10_4 ≥ 0))) = true := c71
            (try (have c71b1 : decide ((t340 == 0) = (decide (x10_4 ≥ 0))) = false := by simpa using c71))
            (try (have c71b2 : ((t340 == 0) == (decide (x10_4 ≥ 0))) = false := by simpa using c71))
            (try (have c71b3 : ¬ ((t340 == 0) = (decide (x10_4 ≥ 0))) := by simpa using c71))
            clear c71
            (first | rw [c71b0] | (simp only [i64_w, i32_w]; rw [c71b0]) | skip)
            have H' := Aside0.mk H; clear H
            go_wp2
            go_meet
            case rel => exact ⟨_, (true), (by first | rfl | (simp; done) | (simp [*]; done)), H', ⟨by have := HJ4.out; have := HK2.out; have := HJ19.out; have := HK4.out; first | omega | exact Nat.le_refl _⟩, ⟨by (with_reducible repeat (first | apply Kd.R_alloc | apply Kd.R_drewN | apply Kd.R_drew)); exact Kd.R_mono HO_8.out (fun _ hk => trivial)⟩, ⟨by (with_reducible repeat (first | refine blk_drewN ?_ _ | refine blk_drew ?_ | refine blk_alloc ?_ _)); exact BK330.out⟩, ⟨by repeat (first | (with_reducible first | exact HB.out | apply below_alloc | apply pw_below_drewN | apply below_drew1 | refine below_set ?_ GE330.out) | exact HB.out)⟩⟩
           rw [if_neg c71] at H
           have c71b0 : ((t340 == 0) != (decide (x10_4 ≥ 0))) = false := by simpa using c71
           (try (have c71b1 : decide ((t340 == 0) = (decide (x10_4 ≥ 0))) = true := by simpa using c71))
           (try (have c71b2 : ((t340 == 0) == (decide (x10_4 ≥ 0))) = true := by simpa using c71))
           clear c71
           (first | rw [c71b0] | (simp only [i64_w, i32_w]; rw [c71b0]) | skip)
           by_cases c72 : t340 = 0
           ·rw [if_pos c72] at H
            have c72b0 : (t340 == 0) = true := beq_iff_eq.mpr c72
            have c72b1 : (t340 != 0) = false := bne_eq_false_iff_eq.mpr c72
            have c72x : decide (x10_4 ≥ 0) = true := by have h_ := c71b0; rw [c72b0] at h_; simpa using h_
            have c72y : decide (0 ≤ x10_4) = true := c72x
            clear c72
            have H' := Aside0.mk H; clear H
            obtain ⟨Ao73, co73, eo73⟩ := Kd.R_slice HO_8.out
            subst eo73
            go_wp2
            go_meet
            case rel => exact ⟨_, (((t337.length : Int) != x10_4)), (by first | rfl | (simp; done) | (simp [*]; done)), H', ⟨by have := HJ4.out; have := HK2.out; have := HJ19.out; have := HK4.out; first | omega | exact Nat.le_refl _⟩, ⟨by (with_reducible repeat (first | apply Kd.R_alloc | apply Kd.R_drewN | apply Kd.R_drew)); exact Kd.R_mono HO_8.out (fun _ hk => trivial)⟩, ⟨by (with_reducible repeat (first | refine blk_drewN ?_ _ | refine blk_drew ?_ | refine blk_alloc ?_ _)); exact BK330.out⟩, ⟨by repeat (first | (with_reducible first | exact HB.out | apply below_alloc | apply pw_below_drewN | apply below_drew1 | refine below_set ?_ GE330.out) | exact HB.out)⟩⟩
           rw [if_neg c72] at H
           have c72b0 : (t340 == 0) = false := beq_eq_false_iff_ne.mpr c72
           have c72b1 : (t340 != 0) = true := bne_iff_ne.mpr c72
           have c72x : decide (x10_4 ≥ 0) = false := by have h_ := c71b0; rw [c72b0] at h_; simpa using h_
           have c72y : decide (0 ≤ x10_4) = false := c72x
           by_cases c74 : t340 = 80
           rotate_left
           ·rw [if_neg c74] at H
            have c74b0 : (t340 == 80) = false := beq_eq_false_iff_ne.mpr c74
            have c74b1 : (t340 != 80) = true := bne_iff_ne.mpr c74
            have H' := Aside0.mk H; clear H
            go_wp2
            go_meet
            case rel => exact ⟨_, (true), (by first | rfl | (simp; done) | (simp [*]; done)), H', ⟨by have := HJ4.out; have := HK2.out; have := HJ19.out; have := HK4.out; first | omega | exact Nat.le_refl _⟩, ⟨by (with_reducible repeat (first | apply Kd.R_alloc | apply Kd.R_drewN | apply Kd.R_drew)); exact Kd.R_mono HO_8.out (fun _ hk => trivial)⟩, ⟨by (with_reducible repeat (first | refine blk_drewN ?_ _ | refine blk_drew ?_ | refine blk_alloc ?_ _)); exact BK330.out⟩, ⟨by repeat (first | (with_reducible first | exact HB.out | apply below_alloc | apply pw_below_drewN | apply below_drew1 | refine below_set ?_ GE330.out) | exact HB.out)⟩⟩
           rw [if_pos c74] at H
           have c74b0 : (t340 == 80) = true := beq_iff_eq.mpr c74
           have c74b1 : (t340 != 80) = false := bne_eq_false_iff_eq.mpr c74
           clear c74
           by_cases c75 : (t337.length : Int) = 0
           ·rw [if_pos c75] at H
            have c75b0 : ((t337.length : Int) == 0) = true := beq_iff_eq.mpr c75
            have c75b1 : ((t337.length : Int) != 0) = false := bne_eq_false_iff_eq.mpr c75
            clear c75
            have H' := Aside0.mk H; clear H
            obtain ⟨Ao76, co76, eo76⟩ := Kd.R_slice HO_8.out
            subst eo76
            go_wp2
            go_meet
            case rel => exact ⟨_, (false), (by first | rfl | (simp; done) | (simp [*]; done)), H', ⟨by have := HJ4.out; have := HK2.out; have := HJ19.out; have := HK4.out; first | omega | exact Nat.le_refl _⟩, ⟨by (with_reducible repeat (first | apply Kd.R_alloc | apply Kd.R_drewN | apply Kd.R_drew)); exact Kd.R_mono HO_8.out (fun _ hk => trivial)⟩, ⟨by (with_reducible repeat (first | refine blk_drewN ?_ _ | refine blk_drew ?_ | refine blk_alloc ?_ _)); exact BK330.out⟩, ⟨by repeat (first | (with_reducible first | exact HB.out | apply below_alloc | apply pw_below_drewN | apply below_drew1 | refine below_set ?_ GE330.out) | exact HB.out)⟩⟩
           rw [if_neg c75] at H
           have c75b0 : ((t337.length : Int) == 0) = false := beq_eq_false_iff_ne.mpr c75
           have c75b1 : ((t337.length : Int) != 0) = true := bne_iff_ne.mpr c75
           have c75b2 : ¬ (t337 = []) := fun h_ => c75 (by rw [h_]; rfl)
           have H' := Aside0.mk H; clear H
           obtain ⟨Ao77, co77, eo77⟩ := Kd.R_slice HO_8.out
           subst eo77
           go_wp2
           go_meet
           case rel => exact ⟨_, (true), (by first | rfl | (simp; done) | (simp [*]; done)), H', ⟨by have := HJ4.out; have := HK2.out; have := HJ19.out; have := HK4.out; first | omega | exact Nat.le_refl _⟩, ⟨by (with_reducible repeat (first | apply Kd.R_alloc | apply Kd.R_drewN | apply Kd.R_drew)); exact Kd.R_mono HO_8.out (fun _ hk => trivial)⟩, ⟨by (with_reducible repeat (first | refine blk_drewN ?_ _ | refine blk_drew ?_ | refine blk_alloc ?_ _)); exact BK330.out⟩, ⟨by repeat (first | (with_reducible first | exact HB.out | apply below_alloc | apply pw_below_drewN | apply below_drew1 | refine below_set ?_ GE330.out) | exact HB.out)⟩⟩
          case rest =>
           clear HC70
           obtain ⟨kq, x155_69, rfl, HA, HJ69, HO_8, BK330, HB⟩ := hcut
           cases kq with
           | zero => exact absurd HA.out (by simp [stillagelaw08_RouteLoops.j5])
           | succ kj69 =>
            have H := HA.out
            clear HA
            simp only [stillagelaw08_RouteLoops.j5] at H
            by_cases c78 : x155_69 = true
            ·subst c78
             have H1 : (some false) = some r := by rw [if_pos rfl] at H; exact H
             clear H; have H := H1; clear H1
             obtain rfl := Option.some.inj H
             go_wp2
             go_ret
             exact ⟨by first | rfl | (simp [errW_none, errW_some] <;> rfl) | (simp [*, errW_none, errW_some] <;> rfl), by repeat (first | (with_reducible first | exact HB.out | apply below_alloc | apply pw_below_drewN | apply below_drew1 | refine below_set ?_ GE330.out) | exact HB.out)⟩
            replace c78 := Bool.eq_false_iff.mpr c78
            subst c78
            have H1 : ((route_Walk.f kj69 l0_0 l0_1 x33_2 t337).bind fun bt349 => (if bt349.2 = 0 then (if bt349.1 = x33_2 then (stillagelaw08_RouteLoops.l0 kj69 l1 (l0_0.length : Int) (wrap64 (x33_2 + 1)) l0_0 l0_1) else (some false)) else (some false))) = some r := by rw [if_neg (show ¬ (false = true) by decide)] at H; exact H
            clear H; have H := H1; clear H1
            replace H := Option.bind_eq_some_iff.mp H; obtain ⟨⟨t349, t350⟩, A790, H⟩ := H
            replace H : (if t350 = 0 then (if t349 = x33_2 then (stillagelaw08_RouteLoops.l0 kj69 l1 (l0_0.length : Int) (wrap64 (x33_2 + 1)) l0_0 l0_1) else (some false)) else (some false)) = some r := H
            have A79 := Aside0.mk A790
            clear A790
            by_cases c80 : t350 = 0
            rotate_left
            ·rw [if_neg c80] at H
             have c80b0 : (t350 == 0) = false := beq_eq_false_iff_ne.mpr c80
             have c80b1 : (t350 != 0) = true := bne_iff_ne.mpr c80
             obtain rfl := Option.some.inj H
             have hcz88_0 : wc.cell? ⟨gb330, 0, none⟩ = some (.slice A0_0 l0_0.length c0_0) := (blk_cell BK330.out 0).trans rfl
             have hcz88_1 : wc.cell? ⟨gb330, 1, none⟩ = some (.slice A0_1 l0_1.length c0_1) := (blk_cell BK330.out 1).trans rfl
             have hfz88_0 := blk_frozen BK330.out 0
             have hfz88_1 := blk_frozen BK330.out 1
             obtain ⟨Ao89, co89, eo89⟩ := Kd.R_slice HO_8.out
             subst eo89
             go_wp2_with (first | ((with_reducible refine gate_callee (f := 26) rfl ?_); refine goesL_ (some 160) rfl rfl Try.func26 (by kernel_rfl) rfl #[.agg #[.slice A0_0 l0_0.length c0_0, .slice A0_1 l0_1.length c0_1], .int .i64 x33_2, .slice Ao89 t337.length co89] rfl (by (try simp only [List.map_toArray, List.map_cons, List.map_nil]); first | done | rfl | (simp only [List.length_drop, List.length_take]; rfl)) ?_; (with_reducible refine (route_Walk.calls kj69 _ _ l0_0 _ _ l0_1 x33_2 _ _ t337 t349 t350 _ ?side1 ?side2 ?side3 ?side4 ?side5 ?side6 A79.out).mono ?_); (case side1 => repeat (first | exact (Kd.C_below HR0_0.out HB.out) | (with_reducible refine Kd.C_alloc ?_ _) | (with_reducible refine Kd.C_drewN ?_ _) | (with_reducible refine Kd.C_drew ?_))); (case side2 => exact HC0_0.out); (case side3 => repeat (first | exact (Kd.C_below HR0_1.out HB.out) | (with_reducible refine Kd.C_alloc ?_ _) | (with_reducible refine Kd.C_drewN ?_ _) | (with_reducible refine Kd.C_drew ?_))); (case side4 => exact HC0_1.out); (case side5 => repeat (first | exact (Kd.R_reads' HO_8.out).2.2 | (with_reducible refine Kd.C_alloc ?_ _) | (with_reducible refine Kd.C_drewN ?_ _) | (with_reducible refine Kd.C_drew ?_))); (case side6 => exact (Kd.R_reads' HO_8.out).2.1); rintro e w90 ⟨rfl, hb⟩; refine ⟨_, rfl, ?_⟩; replace HO_8 := Aside0.mk (Kd.R_below (by (with_reducible repeat (first | apply Kd.R_alloc | apply Kd.R_drewN | apply Kd.R_drew)); exact HO_8.out) hb); replace BK330 := Aside0.mk (blk_below (g := gb330) (o := .cells #[.slice A0_0 l0_0.length c0_0, .slice A0_1 l0_1.length c0_1] 25 (0, 0)) (by (with_reducible repeat (first | refine blk_drewN ?_ _ | refine blk_drew ?_ | refine blk_alloc ?_ _)); exact BK330.out) hb); replace HB := Aside0.mk (below_step (by repeat (first | (with_reducible first | exact HB.out | apply below_alloc | apply pw_below_drewN | apply below_drew1 | refine below_set ?_ GE330.out) | exact HB.out)) hb); (try clear hb)))
             go_ret
             exact ⟨by first | rfl | (simp [errW_none, errW_some] <;> rfl) | (simp [*, errW_none, errW_some] <;> rfl), by repeat (first | (with_reducible first | exact HB.out | apply below_alloc | apply pw_below_drewN | apply below_drew1 | refine below_set ?_ GE330.out) | exact HB.out)⟩
            rw [if_pos c80] at H
            have c80b0 : (t350 == 0) = true := beq_iff_eq.mpr c80
            have c80b1 : (t350 != 0) = false := bne_eq_false_iff_eq.mpr c80
            clear c80
            by_cases c81 : t349 = x33_2
            rotate_left
            ·rw [if_neg c81] at H
             have c81b0 : (t349 == x33_2) = false := beq_eq_false_iff_ne.mpr c81
             have c81b1 : (t349 != x33_2) = true := bne_iff_ne.mpr c81
             obtain rfl := Option.some.inj H
             have hcz85_0 : wc.cell? ⟨gb330, 0, none⟩ = some (.slice A0_0 l0_0.length c0_0) := (blk_cell BK330.out 0).trans rfl
             have hcz85_1 : wc.cell? ⟨gb330, 1, none⟩ = some (.slice A0_1 l0_1.length c0_1) := (blk_cell BK330.out 1).trans rfl
             have hfz85_0 := blk_frozen BK330.out 0
             have hfz85_1 := blk_frozen BK330.out 1
             obtain ⟨Ao86, co86, eo86⟩ := Kd.R_slice HO_8.out
             subst eo86
             go_wp2_with (first | ((with_reducible refine gate_callee (f := 26) rfl ?_); refine goesL_ (some 160) rfl rfl Try.func26 (by kernel_rfl) rfl #[.agg #[.slice A0_0 l0_0.length c0_0, .slice A0_1 l0_1.length c0_1], .int .i64 x33_2, .slice Ao86 t337.length co86] rfl (by (try simp only [List.map_toArray, List.map_cons, List.map_nil]); first | done | rfl | (simp only [List.length_drop, List.length_take]; rfl)) ?_; (with_reducible refine (route_Walk.calls kj69 _ _ l0_0 _ _ l0_1 x33_2 _ _ t337 t349 t350 _ ?side1 ?side2 ?side3 ?side4 ?side5 ?side6 A79.out).mono ?_); (case side1 => repeat (first | exact (Kd.C_below HR0_0.out HB.out) | (with_reducible refine Kd.C_alloc ?_ _) | (with_reducible refine Kd.C_drewN ?_ _) | (with_reducible refine Kd.C_drew ?_))); (case side2 => exact HC0_0.out); (case side3 => repeat (first | exact (Kd.C_below HR0_1.out HB.out) | (with_reducible refine Kd.C_alloc ?_ _) | (with_reducible refine Kd.C_drewN ?_ _) | (with_reducible refine Kd.C_drew ?_))); (case side4 => exact HC0_1.out); (case side5 => repeat (first | exact (Kd.R_reads' HO_8.out).2.2 | (with_reducible refine Kd.C_alloc ?_ _) | (with_reducible refine Kd.C_drewN ?_ _) | (with_reducible refine Kd.C_drew ?_))); (case side6 => exact (Kd.R_reads' HO_8.out).2.1); rintro e w87 ⟨rfl, hb⟩; refine ⟨_, rfl, ?_⟩; replace HO_8 := Aside0.mk (Kd.R_below (by (with_reducible repeat (first | apply Kd.R_alloc | apply Kd.R_drewN | apply Kd.R_drew)); exact HO_8.out) hb); replace BK330 := Aside0.mk (blk_below (g := gb330) (o := .cells #[.slice A0_0 l0_0.length c0_0, .slice A0_1 l0_1.length c0_1] 25 (0, 0)) (by (with_reducible repeat (first | refine blk_drewN ?_ _ | refine blk_drew ?_ | refine blk_alloc ?_ _)); exact BK330.out) hb); replace HB := Aside0.mk (below_step (by repeat (first | (with_reducible first | exact HB.out | apply below_alloc | apply pw_below_drewN | apply below_drew1 | refine below_set ?_ GE330.out) | exact HB.out)) hb); (try clear hb)))
             go_ret
             exact ⟨by first | rfl | (simp [errW_none, errW_some] <;> rfl) | (simp [*, errW_none, errW_some] <;> rfl), by repeat (first | (with_reducible first | exact HB.out | apply below_alloc | apply pw_below_drewN | apply below_drew1 | refine below_set ?_ GE330.out) | exact HB.out)⟩
            rw [if_pos c81] at H
            have c81b0 : (t349 == x33_2) = true := beq_iff_eq.mpr c81
            have c81b1 : (t349 != x33_2) = false := bne_eq_false_iff_eq.mpr c81
            clear c81
            have H' := Aside0.mk H; clear H
            have hcz82_0 : wc.cell? ⟨gb330, 0, none⟩ = some (.slice A0_0 l0_0.length c0_0) := (blk_cell BK330.out 0).trans rfl
            have hcz82_1 : wc.cell? ⟨gb330, 1, none⟩ = some (.slice A0_1 l0_1.length c0_1) := (blk_cell BK330.out 1).trans rfl
            have hfz82_0 := blk_frozen BK330.out 0
            have hfz82_1 := blk_frozen BK330.out 1
            obtain ⟨Ao83, co83, eo83⟩ := Kd.R_slice HO_8.out
            subst eo83
            go_wp2_with (first | ((with_reducible refine gate_callee (f := 26) rfl ?_); refine goesL_ (some 160) rfl rfl Try.func26 (by kernel_rfl) rfl #[.agg #[.slice A0_0 l0_0.length c0_0, .slice A0_1 l0_1.length c0_1], .int .i64 x33_2, .slice Ao83 t337.length co83] rfl (by (try simp only [List.map_toArray, List.map_cons, List.map_nil]); first | done | rfl | (simp only [List.length_drop, List.length_take]; rfl)) ?_; (with_reducible refine (route_Walk.calls kj69 _ _ l0_0 _ _ l0_1 x33_2 _ _ t337 t349 t350 _ ?side1 ?side2 ?side3 ?side4 ?side5 ?side6 A79.out).mono ?_); (case side1 => repeat (first | exact (Kd.C_below HR0_0.out HB.out) | (with_reducible refine Kd.C_alloc ?_ _) | (with_reducible refine Kd.C_drewN ?_ _) | (with_reducible refine Kd.C_drew ?_))); (case side2 => exact HC0_0.out); (case side3 => repeat (first | exact (Kd.C_below HR0_1.out HB.out) | (with_reducible refine Kd.C_alloc ?_ _) | (with_reducible refine Kd.C_drewN ?_ _) | (with_reducible refine Kd.C_drew ?_))); (case side4 => exact HC0_1.out); (case side5 => repeat (first | exact (Kd.R_reads' HO_8.out).2.2 | (with_reducible refine Kd.C_alloc ?_ _) | (with_reducible refine Kd.C_drewN ?_ _) | (with_reducible refine Kd.C_drew ?_))); (case side6 => exact (Kd.R_reads' HO_8.out).2.1); rintro e w84 ⟨rfl, hb⟩; refine ⟨_, rfl, ?_⟩; replace HO_8 := Aside0.mk (Kd.R_below (by (with_reducible repeat (first | apply Kd.R_alloc | apply Kd.R_drewN | apply Kd.R_drew)); exact HO_8.out) hb); replace BK330 := Aside0.mk (blk_below (g := gb330) (o := .cells #[.slice A0_0 l0_0.length c0_0, .slice A0_1 l0_1.length c0_1] 25 (0, 0)) (by (with_reducible repeat (first | refine blk_drewN ?_ _ | refine blk_drew ?_ | refine blk_alloc ?_ _)); exact BK330.out) hb); replace HB := Aside0.mk (below_step (by repeat (first | (with_reducible first | exact HB.out | apply below_alloc | apply pw_below_drewN | apply below_drew1 | refine below_set ?_ GE330.out) | exact HB.out)) hb); (try clear hb)))
            go_roundg kj69
            case measure => have := HJ4.out; have := HK2.out; have := HJ19.out; have := HK4.out; have := HJ69.out; omega
            case rel => exact ⟨(wrap64 (x33_2 + 1)), (by first | rfl | (simp; done) | (simp [*]; done)), H', ⟨by have := HJ4.out; have := HK2.out; have := HJ19.out; have := HK4.out; have := HJ69.out; omega⟩, ⟨by (with_reducible repeat (first | refine blk_drewN ?_ _ | refine blk_drew ?_ | refine blk_alloc ?_ _)); exact BK330.out⟩, ⟨by repeat (first | (with_reducible first | exact HB.out | apply below_alloc | apply pw_below_drewN | apply below_drew1 | refine below_set ?_ GE330.out) | exact HB.out)⟩⟩
         rw [if_pos c30] at H
         have c30b0 : decide (x63_4 < (l0_1.length : Int)) = true := decide_eq_true c30
         clear c30
         by_cases c31 : 0 ≤ x63_4
         rotate_left; ·rw [if_neg c31] at H; exact absurd H (by simp)
         rw [if_pos c31] at H
         have c31b0 : decide (0 ≤ x63_4) = true := decide_eq_true c31
         clear c31
         by_cases c32 : x63_4 < (l0_1.length : Int)
         rotate_left; ·rw [if_neg c32] at H; exact absurd H (by simp)
         rw [if_pos c32] at H
         have c32b0 : decide (x63_4 < (l0_1.length : Int)) = true := decide_eq_true c32
         clear c32
         have H' := Aside0.mk H; clear H
         have p341 : 0 ≤ (x63_4 : Int) := of_decide_eq_true (by first | (with_reducible assumption) | assumption)
         have q341 : x63_4 < (l0_1.length : Int) := of_decide_eq_true (by first | (with_reducible assumption) | assumption)
         obtain ⟨ad341, e341, hx341_0, hx341_1⟩ := at_T38 HR0_1.out x63_4 p341 q341
         cases e341
         replace hx341_0 := (HB.out.cell (World.block_lt_of_cell? w _ hx341_0)).trans hx341_0
         replace hx341_1 := (HB.out.cell (World.block_lt_of_cell? w _ hx341_1)).trans hx341_1
         replace p341 := eq_true p341
         replace q341 := eq_true q341
         go_wp2_with (first | ((with_reducible refine gate_dst (N := 12) rfl ?_); (try (refine gate_guard (by rfl) ?_; dsimp only)); refine box_event ?hg (N := 12) ?hd (cs := #[.int .i64 0, .int .i64 0]) (t := 38) ?hr ?_; (case hd => rfl); (case hg => rfl); (case hr => first | (go_simp; done) | (go_simp; rfl)); intro gb342 hg w33 hbox hb; replace HO_6 := Aside0.mk (Kd.R_below (by (with_reducible repeat (first | apply Kd.R_alloc | apply Kd.R_drewN | apply Kd.R_drew)); exact HO_6.out) hb); replace HO_8 := Aside0.mk (Kd.R_below (by (with_reducible repeat (first | apply Kd.R_alloc | apply Kd.R_drewN | apply Kd.R_drew)); exact HO_8.out) hb); have BK342 := Aside0.mk (hbox); have GW342 := Aside0.mk ((by rw [hg]; exact (below_size (by repeat (first | (with_reducible first | exact HB.out | apply below_alloc | apply pw_below_drewN | apply below_drew1 | refine below_set ?_ GE330.out) | exact HB.out))) : w.heap.size ≤ gb342)); have GE342 := Aside0.mk ((by rw [hg]; exact (below_size (by repeat (first | (with_reducible first | exact HB.out | apply below_alloc | apply pw_below_drewN | apply below_drew1 | refine below_set ?_ GE330.out) | exact HB.out))) : w.heap.size ≤ gb342)); replace HB := Aside0.mk (below_step (by repeat (first | (with_reducible first | exact HB.out | apply below_alloc | apply pw_below_drewN | apply below_drew1 | refine below_set ?_ GE330.out) | exact HB.out)) hb); have NB330_342 := Aside0.mk ((by rw [hg]; exact Nat.ne_of_lt (blk_lt (g := gb330) (o := .cells #[.slice A0_0 l0_0.length c0_0, .slice (some ad341) l0_1.length c0_1] 25 (0, 0)) (by (with_reducible repeat (first | refine blk_drewN ?_ _ | refine blk_drew ?_ | refine blk_alloc ?_ _)); exact BK330.out)) : gb330 ≠ gb342)); have NB342_330 := Aside0.mk ((by rw [hg]; exact Nat.ne_of_gt (blk_lt (g := gb330) (o := .cells #[.slice A0_0 l0_0.length c0_0, .slice (some ad341) l0_1.length c0_1] 25 (0, 0)) (by (with_reducible repeat (first | refine blk_drewN ?_ _ | refine blk_drew ?_ | refine blk_alloc ?_ _)); exact BK330.out)) : gb342 ≠ gb330)); replace BK330 := Aside0.mk (blk_below (g := gb330) (o := .cells #[.slice A0_0 l0_0.length c0_0, .slice (some ad341) l0_1.length c0_1] 25 (0, 0)) (by (with_reducible repeat (first | refine blk_drewN ?_ _ | refine blk_drew ?_ | refine blk_alloc ?_ _)); exact BK330.out) hb); clear hb hbox hg; have hnb34 := NB342_330.out; have hnc34 := NB330_342.out; have hcz35_0 : w33.cell? ⟨gb342, 0, none⟩ = some (.int .i64 0) := (blk_cell BK342.out 0).trans rfl; have hcz35_1 : w33.cell? ⟨gb342, 1, none⟩ = some (.int .i64 0) := (blk_cell BK342.out 1).trans rfl; have hfz35_0 := blk_frozen BK342.out 0; have hfz35_1 := blk_frozen BK342.out 1))
         go_loopg [13, 70] k4 (fun kq v13 v70 w' => ∃ (x13_5 : Bool) (x70_5 : Int), v13 = .bool x13_5 ∧ v70 = .int .i64 x70_5 ∧ Aside0 (stillagelaw08_RouteLoops.l2 kq l1 x33_2 t333 t337 t340 x10_4 x63_4 x13_5 (l0_0.length : Int) x33_2 l0_1 (l0_1.length : Int) x63_4 l1 (l1.length : Int) x70_5 l0_0 l0_1 ((rd_T38 l0_1 x63_4).f0) ((rd_T38 l0_1 x63_4).f1) = some r) ∧ Aside0 (kq ≤ k4) ∧ Aside0 (Kd.R (Kd.int .i64) 3 w' w.heap.size (fun k_ => some k_ ≠ (v338 : Value).ownBlock) v334 t333) ∧ Aside0 (Kd.R (Kd.int .i64) 3 w' w.heap.size (fun k_ => some k_ ≠ (v334 : Value).ownBlock) v338 t337) ∧ Aside0 (w'.heap[gb330]? = some (.cells #[(.slice A0_0 l0_0.length c0_0), (.slice (some ad341) l0_1.length c0_1)] 25 (0, 0))) ∧ Aside0 (w'.heap[gb342]? = some (.cells #[.int .i64 ((rd_T38 l0_1 x63_4).f0), .int .i64 ((rd_T38 l0_1 x63_4).f1)] 38 (0, 0))) ∧ Aside0 (Below w.heap.size w w'))
         case atStart => exact ⟨(true), (0), (by first | rfl | (simp; done) | (simp [*]; done)), (by first | rfl | (simp; done) | (simp [*]; done)), H', ⟨Nat.le_refl _⟩, ⟨by (with_reducible repeat (first | apply Kd.R_alloc | apply Kd.R_drewN | apply Kd.R_drew)); exact Kd.R_mono (Kd.R_far (p := ⟨gb342, 1, none⟩) (Kd.R_far (p := ⟨gb342, 0, none⟩) (Kd.R_types HO_6.out BK342.out (by decide)) (fun _ hk => hk.2) (.int .i64 ((rd_T38 l0_1 x63_4).f0))) (fun _ hk => hk.2) (.int .i64 ((rd_T38 l0_1 x63_4).f1))) (fun _ hk => hk.1)⟩, ⟨by (with_reducible repeat (first | apply Kd.R_alloc | apply Kd.R_drewN | apply Kd.R_drew)); exact Kd.R_mono (Kd.R_far (p := ⟨gb342, 1, none⟩) (Kd.R_far (p := ⟨gb342, 0, none⟩) (Kd.R_types HO_8.out BK342.out (by decide)) (fun _ hk => hk.2) (.int .i64 ((rd_T38 l0_1 x63_4).f0))) (fun _ hk => hk.2) (.int .i64 ((rd_T38 l0_1 x63_4).f1))) (fun _ hk => hk.1)⟩, ⟨by (with_reducible repeat (first | refine blk_drewN ?_ _ | refine blk_drew ?_ | refine blk_alloc ?_ _)); refine blk_far ?_ NB330_342.out _; (with_reducible repeat (first | refine blk_drewN ?_ _ | refine blk_drew ?_ | refine blk_alloc ?_ _)); refine blk_far ?_ NB330_342.out _; (with_reducible repeat (first | refine blk_drewN ?_ _ | refine blk_drew ?_ | refine blk_alloc ?_ _)); exact BK330.out⟩, ⟨by (with_reducible repeat (first | refine blk_drewN ?_ _ | refine blk_drew ?_ | refine blk_alloc ?_ _)); refine blk_put (cs := #[.int .i64 ((rd_T38 l0_1 x63_4).f0), .int .i64 0]) ?_ 1 _ rfl; (with_reducible repeat (first | refine blk_drewN ?_ _ | refine blk_drew ?_ | refine blk_alloc ?_ _)); refine blk_put (cs := #[.int .i64 0, .int .i64 0]) ?_ 0 _ rfl; (with_reducible repeat (first | refine blk_drewN ?_ _ | refine blk_drew ?_ | refine blk_alloc ?_ _)); exact BK342.out⟩, ⟨by repeat (first | (with_reducible first | exact HB.out | apply below_alloc | apply pw_below_drewN | apply below_drew1 | refine below_set ?_ GE330.out | refine below_set ?_ GE342.out) | exact HB.out)⟩⟩
         case round =>
          clear H'
          obtain ⟨x13_5, x70_5, rfl, rfl, HA, HK5, HO_6, HO_8, BK330, BK342, HB⟩ := hrel
          cases gk with
          | zero => exact absurd HA.out (by simp [stillagelaw08_RouteLoops.l2])
          | succ k5 =>
           have H := HA.out
           clear HA
           simp only [stillagelaw08_RouteLoops.l2] at H
           by_cases c36 : x70_5 < (l1.length : Int)
           ·rw [if_pos c36] at H
            have c36b0 : decide (x70_5 < (l1.length : Int)) = true := decide_eq_true c36
            clear c36
            by_cases c37 : 0 ≤ x70_5
            rotate_left; ·rw [if_neg c37] at H; exact absurd H (by simp)
            rw [if_pos c37] at H
            have c37b0 : decide (0 ≤ x70_5) = true := decide_eq_true c37
            clear c37
            by_cases c38 : x70_5 < (l1.length : Int)
            rotate_left; ·rw [if_neg c38] at H; exact absurd H (by simp)
            rw [if_pos c38] at H
            have c38b0 : decide (x70_5 < (l1.length : Int)) = true := decide_eq_true c38
            clear c38
            by_cases c39 : x13_5 = true
            ·subst c39
             have H1 : (stillagelaw08_RouteLoops.l2 k5 l1 x33_2 t333 t337 t340 x10_4 x63_4 ((rd l1 x70_5) != (wrap64 (x63_4 + 1))) (l0_0.length : Int) x33_2 l0_1 (l0_1.length : Int) x63_4 l1 (l1.length : Int) (wrap64 (x70_5 + 1)) l0_0 l0_1 ((rd_T38 l0_1 x63_4).f0) ((rd_T38 l0_1 x63_4).f1)) = some r := by rw [if_pos rfl] at H; exact H
             clear H; have H := H1; clear H1
             have H' := Aside0.mk H; clear H
             have p343 : 0 ≤ (x70_5 : Int) := of_decide_eq_true (by first | (with_reducible assumption) | assumption)
             have q343 : x70_5 < (l1.length : Int) := of_decide_eq_true (by first | (with_reducible assumption) | assumption)
             obtain ⟨ad343, e343, hx343_0⟩ := Kd.at_int HR1.out x70_5 p343 q343
             cases e343
             replace hx343_0 := (HB.out.cell (World.block_lt_of_cell? w _ hx343_0)).trans hx343_0
             replace p343 := eq_true p343
             replace q343 := eq_true q343
             go_wp2
             go_roundg k5
             case measure => have := HJ4.out; have := HK2.out; have := HJ19.out; have := HK4.out; have := HK5.out; omega
             case rel => exact ⟨(((rd l1 x70_5) != (wrap64 (x63_4 + 1)))), (wrap64 (x70_5 + 1)), (by first | rfl | (simp; done) | (simp [*]; done)), (by first | rfl | (simp; done) | (simp [*]; done)), H', ⟨by have := HJ4.out; have := HK2.out; have := HJ19.out; have := HK4.out; have := HK5.out; omega⟩, ⟨by (with_reducible repeat (first | apply Kd.R_alloc | apply Kd.R_drewN | apply Kd.R_drew)); exact HO_6.out⟩, ⟨by (with_reducible repeat (first | apply Kd.R_alloc | apply Kd.R_drewN | apply Kd.R_drew)); exact HO_8.out⟩, ⟨by (with_reducible repeat (first | refine blk_drewN ?_ _ | refine blk_drew ?_ | refine blk_alloc ?_ _)); exact BK330.out⟩, ⟨by (with_reducible repeat (first | refine blk_drewN ?_ _ | refine blk_drew ?_ | refine blk_alloc ?_ _)); exact BK342.out⟩, ⟨by repeat (first | (with_reducible first | exact HB.out | apply below_alloc | apply pw_below_drewN | apply below_drew1 | refine below_set ?_ GE330.out | refine below_set ?_ GE342.out) | exact HB.out)⟩⟩
            replace c39 := Bool.eq_false_iff.mpr c39
            subst c39
            have H1 : (stillagelaw08_RouteLoops.l2 k5 l1 x33_2 t333 t337 t340 x10_4 x63_4 false (l0_0.length : Int) x33_2 l0_1 (l0_1.length : Int) x63_4 l1 (l1.length : Int) (wrap64 (x70_5 + 1)) l0_0 l0_1 ((rd_T38 l0_1 x63_4).f0) ((rd_T38 l0_1 x63_4).f1)) = some r := by rw [if_neg (show ¬ (false = true) by decide)] at H; exact H
            clear H; have H := H1; clear H1
            have H' := Aside0.mk H; clear H
            have p343 : 0 ≤ (x70_5 : Int) := of_decide_eq_true (by first | (with_reducible assumption) | assumption)
            have q343 : x70_5 < (l1.length : Int) := of_decide_eq_true (by first | (with_reducible assumption) | assumption)
            obtain ⟨ad343, e343, hx343_0⟩ := Kd.at_int HR1.out x70_5 p343 q343
            cases e343
            replace hx343_0 := (HB.out.cell (World.block_lt_of_cell? w _ hx343_0)).trans hx343_0
            replace p343 := eq_true p343
            replace q343 := eq_true q343
            go_wp2
            go_roundg k5
            case measure => have := HJ4.out; have := HK2.out; have := HJ19.out; have := HK4.out; have := HK5.out; omega
            case rel => exact ⟨(false), (wrap64 (x70_5 + 1)), (by first | rfl | (simp; done) | (simp [*]; done)), (by first | rfl | (simp; done) | (simp [*]; done)), H', ⟨by have := HJ4.out; have := HK2.out; have := HJ19.out; have := HK4.out; have := HK5.out; omega⟩, ⟨by (with_reducible repeat (first | apply Kd.R_alloc | apply Kd.R_drewN | apply Kd.R_drew)); exact HO_6.out⟩, ⟨by (with_reducible repeat (first | apply Kd.R_alloc | apply Kd.R_drewN | apply Kd.R_drew)); exact HO_8.out⟩, ⟨by (with_reducible repeat (first | refine blk_drewN ?_ _ | refine blk_drew ?_ | refine blk_alloc ?_ _)); exact BK330.out⟩, ⟨by (with_reducible repeat (first | refine blk_drewN ?_ _ | refine blk_drew ?_ | refine blk_alloc ?_ _)); exact BK342.out⟩, ⟨by repeat (first | (with_reducible first | exact HB.out | apply below_alloc | apply pw_below_drewN | apply below_drew1 | refine below_set ?_ GE330.out | refine below_set ?_ GE342.out) | exact HB.out)⟩⟩
           rw [if_neg c36] at H
           have c36b0 : decide (x70_5 < (l1.length : Int)) = false := decide_eq_false c36
           clear c36
           by_cases c40 : x13_5 = true
           rotate_left
           ·replace c40 := Bool.eq_false_iff.mpr c40
            subst c40
            have H1 : (stillagelaw08_RouteLoops.l1 k5 l1 x33_2 t333 t337 t340 x10_4 (l0_0.length : Int) x33_2 l0_1 (l0_1.length : Int) (wrap64 (x63_4 + 1)) l0_0 l0_1) = some r := by rw [if_neg (show ¬ (false = true) by decide)] at H; exact H
            clear H; have H := H1; clear H1
            have H' := Aside0.mk H; clear H
            go_wp2
            go_roundg k5
            case measure => have := HJ4.out; have := HK2.out; have := HJ19.out; have := HK4.out; have := HK5.out; omega
            case rel => exact ⟨(x10_4), (wrap64 (x63_4 + 1)), (by first | rfl | (simp; done) | (simp [*]; done)), (by first | rfl | (simp; done) | (simp [*]; done)), H', ⟨by have := HJ4.out; have := HK2.out; have := HJ19.out; have := HK4.out; have := HK5.out; omega⟩, ⟨by (with_reducible repeat (first | apply Kd.R_alloc | apply Kd.R_drewN | apply Kd.R_drew)); exact HO_6.out⟩, ⟨by (with_reducible repeat (first | apply Kd.R_alloc | apply Kd.R_drewN | apply Kd.R_drew)); exact HO_8.out⟩, ⟨by (with_reducible repeat (first | refine blk_drewN ?_ _ | refine blk_drew ?_ | refine blk_alloc ?_ _)); exact BK330.out⟩, ⟨by repeat (first | (with_reducible first | exact HB.out | apply below_alloc | apply pw_below_drewN | apply below_drew1 | refine below_set ?_ GE330.out | refine below_set ?_ GE342.out) | exact HB.out)⟩⟩
           subst c40
           have H1 : (if ((rd_T38 l0_1 x63_4).f0) = x33_2 then (if 0 ≤ ((rd_T38 l0_1 x63_4).f1) then (if ((rd_T38 l0_1 x63_4).f1) < (l0_0.length : Int) then (if ((rd_T47 l0_0 ((rd_T38 l0_1 x63_4).f1)).f1) = 1 then (if ((rd_T38 l0_1 x63_4).f1) < (t333.length : Int) then (if (rd t333 ((rd_T38 l0_1 x63_4).f1)) ≥ 0 then (if x10_4 < 0 then (stillagelaw08_RouteLoops.l1 k5 l1 x33_2 t333 t337 t340 (wrap64 ((rd t333 ((rd_T38 l0_1 x63_4).f1)) + 1)) (l0_0.length : Int) x33_2 l0_1 (l0_1.length : Int) (wrap64 (x63_4 + 1)) l0_0 l0_1) else (if (wrap64 ((rd t333 ((rd_T38 l0_1 x63_4).f1)) + 1)) < x10_4 then (stillagelaw08_RouteLoops.l1 k5 l1 x33_2 t333 t337 t340 (wrap64 ((rd t333 ((rd_T38 l0_1 x63_4).f1)) + 1)) (l0_0.length : Int) x33_2 l0_1 (l0_1.length : Int) (wrap64 (x63_4 + 1)) l0_0 l0_1) else (stillagelaw08_RouteLoops.l1 k5 l1 x33_2 t333 t337 t340 x10_4 (l0_0.length : Int) x33_2 l0_1 (l0_1.length : Int) (wrap64 (x63_4 + 1)) l0_0 l0_1))) else (stillagelaw08_RouteLoops.l1 k5 l1 x33_2 t333 t337 t340 x10_4 (l0_0.length : Int) x33_2 l0_1 (l0_1.length : Int) (wrap64 (x63_4 + 1)) l0_0 l0_1)) else (none)) else (stillagelaw08_RouteLoops.l1 k5 l1 x33_2 t333 t337 t340 x10_4 (l0_0.length : Int) x33_2 l0_1 (l0_1.length : Int) (wrap64 (x63_4 + 1)) l0_0 l0_1)) else (none)) else (none)) else (stillagelaw08_RouteLoops.l1 k5 l1 x33_2 t333 t337 t340 x10_4 (l0_0.length : Int) x33_2 l0_1 (l0_1.length : Int) (wrap64 (x63_4 + 1)) l0_0 l0_1)) = some r := by rw [if_pos rfl] at H; exact H
           clear H; have H := H1; clear H1
           by_cases c41 : ((rd_T38 l0_1 x63_4).f0) = x33_2
           rotate_left
           ·rw [if_neg c41] at H
            have c41b0 : (((rd_T38 l0_1 x63_4).f0) == x33_2) = false := beq_eq_false_iff_ne.mpr c41
            have c41b1 : (((rd_T38 l0_1 x63_4).f0) != x33_2) = true := bne_iff_ne.mpr c41
            have H' := Aside0.mk H; clear H
            have hnb68 := NB342_330.out
            have hnc68 := NB330_342.out
            have hcz69_0 : wr.cell? ⟨gb342, 0, none⟩ = some (.int .i64 ((rd_T38 l0_1 x63_4).f0)) := (blk_cell BK342.out 0).trans rfl
            have hcz69_1 : wr.cell? ⟨gb342, 1, none⟩ = some (.int .i64 ((rd_T38 l0_1 x63_4).f1)) := (blk_cell BK342.out 1).trans rfl
            have hfz69_0 := blk_frozen BK342.out 0
            have hfz69_1 := blk_frozen BK342.out 1
            go_wp2
            go_roundg k5
            case measure => have := HJ4.out; have := HK2.out; have := HJ19.out; have := HK4.out; have := HK5.out; omega
            case rel => exact ⟨(x10_4), (wrap64 (x63_4 + 1)), (by first | rfl | (simp; done) | (simp [*]; done)), (by first | rfl | (simp; done) | (simp [*]; done)), H', ⟨by have := HJ4.out; have := HK2.out; have := HJ19.out; have := HK4.out; have := HK5.out; omega⟩, ⟨by (with_reducible repeat (first | apply Kd.R_alloc | apply Kd.R_drewN | apply Kd.R_drew)); exact HO_6.out⟩, ⟨by (with_reducible repeat (first | apply Kd.R_alloc | apply Kd.R_drewN | apply Kd.R_drew)); exact HO_8.out⟩, ⟨by (with_reducible repeat (first | refine blk_drewN ?_ _ | refine blk_drew ?_ | refine blk_alloc ?_ _)); exact BK330.out⟩, ⟨by repeat (first | (with_reducible first | exact HB.out | apply below_alloc | apply pw_below_drewN | apply below_drew1 | refine below_set ?_ GE330.out | refine below_set ?_ GE342.out) | exact HB.out)⟩⟩
           rw [if_pos c41] at H
           have c41b0 : (((rd_T38 l0_1 x63_4).f0) == x33_2) = true := beq_iff_eq.mpr c41
           have c41b1 : (((rd_T38 l0_1 x63_4).f0) != x33_2) = false := bne_eq_false_iff_eq.mpr c41
           clear c41
           by_cases c42 : 0 ≤ ((rd_T38 l0_1 x63_4).f1)
           rotate_left; ·rw [if_neg c42] at H; exact absurd H (by simp)
           rw [if_pos c42] at H
           have c42b0 : decide (0 ≤ ((rd_T38 l0_1 x63_4).f1)) = true := decide_eq_true c42
           clear c42
           by_cases c43 : ((rd_T38 l0_1 x63_4).f1) < (l0_0.length : Int)
           rotate_left; ·rw [if_neg c43] at H; exact absurd H (by simp)
           rw [if_pos c43] at H
           have c43b0 : decide (((rd_T38 l0_1 x63_4).f1) < (l0_0.length : Int)) = true := decide_eq_true c43
           clear c43
           by_cases c44 : ((rd_T47 l0_0 ((rd_T38 l0_1 x63_4).f1)).f1) = 1
           rotate_left
           ·rw [if_neg c44] at H
            have c44b0 : (((rd_T47 l0_0 ((rd_T38 l0_1 x63_4).f1)).f1) == 1) = false := beq_eq_false_iff_ne.mpr c44
            have c44b1 : (((rd_T47 l0_0 ((rd_T38 l0_1 x63_4).f1)).f1) != 1) = true := bne_iff_ne.mpr c44
            have H' := Aside0.mk H; clear H
            have hnb65 := NB342_330.out
            have hnc65 := NB330_342.out
            have hcz66_0 : wr.cell? ⟨gb342, 0, none⟩ = some (.int .i64 ((rd_T38 l0_1 x63_4).f0)) := (blk_cell BK342.out 0).trans rfl
            have hcz66_1 : wr.cell? ⟨gb342, 1, none⟩ = some (.int .i64 ((rd_T38 l0_1 x63_4).f1)) := (blk_cell BK342.out 1).trans rfl
            have hfz66_0 := blk_frozen BK342.out 0
            have hfz66_1 := blk_frozen BK342.out 1
            have hcz67_0 : wr.cell? ⟨gb330, 0, none⟩ = some (.slice A0_0 l0_0.length c0_0) := (blk_cell BK330.out 0).trans rfl
            have hcz67_1 : wr.cell? ⟨gb330, 1, none⟩ = some (.slice (some ad341) l0_1.length c0_1) := (blk_cell BK330.out 1).trans rfl
            have hfz67_0 := blk_frozen BK330.out 0
            have hfz67_1 := blk_frozen BK330.out 1
            have p344 : 0 ≤ (((rd_T38 l0_1 x63_4).f1) : Int) := of_decide_eq_true (by first | (with_reducible assumption) | assumption)
            have q344 : ((rd_T38 l0_1 x63_4).f1) < (l0_0.length : Int) := of_decide_eq_true (by first | (with_reducible assumption) | assumption)
            obtain ⟨ad344, e344, hx344_0, hx344_1, hx344_2⟩ := at_T47 HR0_0.out ((rd_T38 l0_1 x63_4).f1) p344 q344
            cases e344
            replace hx344_0 := (HB.out.cell (World.block_lt_of_cell? w _ hx344_0)).trans hx344_0
            replace hx344_1 := (HB.out.cell (World.block_lt_of_cell? w _ hx344_1)).trans hx344_1
            replace hx344_2 := (HB.out.cell (World.block_lt_of_cell? w _ hx344_2)).trans hx344_2
            replace p344 := eq_true p344
            replace q344 := eq_true q344
            go_wp2
            go_roundg k5
            case measure => have := HJ4.out; have := HK2.out; have := HJ19.out; have := HK4.out; have := HK5.out; omega
            case rel => exact ⟨(x10_4), (wrap64 (x63_4 + 1)), (by first | rfl | (simp; done) | (simp [*]; done)), (by first | rfl | (simp; done) | (simp [*]; done)), H', ⟨by have := HJ4.out; have := HK2.out; have := HJ19.out; have := HK4.out; have := HK5.out; omega⟩, ⟨by (with_reducible repeat (first | apply Kd.R_alloc | apply Kd.R_drewN | apply Kd.R_drew)); exact HO_6.out⟩, ⟨by (with_reducible repeat (first | apply Kd.R_alloc | apply Kd.R_drewN | apply Kd.R_drew)); exact HO_8.out⟩, ⟨by (with_reducible repeat (first | refine blk_drewN ?_ _ | refine blk_drew ?_ | refine blk_alloc ?_ _)); exact BK330.out⟩, ⟨by repeat (first | (with_reducible first | exact HB.out | apply below_alloc | apply pw_below_drewN | apply below_drew1 | refine below_set ?_ GE330.out | refine below_set ?_ GE342.out) | exact HB.out)⟩⟩
           rw [if_pos c44] at H
           have c44b0 : (((rd_T47 l0_0 ((rd_T38 l0_1 x63_4).f1)).f1) == 1) = true := beq_iff_eq.mpr c44
           have c44b1 : (((rd_T47 l0_0 ((rd_T38 l0_1 x63_4).f1)).f1) != 1) = false := bne_eq_false_iff_eq.mpr c44
           clear c44
           by_cases c45 : ((rd_T38 l0_1 x63_4).f1) < (t333.length : Int)
           rotate_left; ·rw [if_neg c45] at H; exact absurd H (by simp)
           rw [if_pos c45] at H
           have c45b0 : decide (((rd_T38 l0_1 x63_4).f1) < (t333.length : Int)) = true := decide_eq_true c45
           clear c45
           by_cases c46 : (rd t333 ((rd_T38 l0_1 x63_4).f1)) ≥ 0
           rotate_left
           ·rw [if_neg c46] at H
            have c46b0 : decide (0 ≤ (rd t333 ((rd_T38 l0_1 x63_4).f1))) = false := decide_eq_false c46
            clear c46
            have H' := Aside0.mk H; clear H
            have hnb61 := NB342_330.out
            have hnc61 := NB330_342.out
            have hcz62_0 : wr.cell? ⟨gb342, 0, none⟩ = some (.int .i64 ((rd_T38 l0_1 x63_4).f0)) := (blk_cell BK342.out 0).trans rfl
            have hcz62_1 : wr.cell? ⟨gb342, 1, none⟩ = some (.int .i64 ((rd_T38 l0_1 x63_4).f1)) := (blk_cell BK342.out 1).trans rfl
            have hfz62_0 := blk_frozen BK342.out 0
            have hfz62_1 := blk_frozen BK342.out 1
            have hcz63_0 : wr.cell? ⟨gb330, 0, none⟩ = some (.slice A0_0 l0_0.length c0_0) := (blk_cell BK330.out 0).trans rfl
            have hcz63_1 : wr.cell? ⟨gb330, 1, none⟩ = some (.slice (some ad341) l0_1.length c0_1) := (blk_cell BK330.out 1).trans rfl
            have hfz63_0 := blk_frozen BK330.out 0
            have hfz63_1 := blk_frozen BK330.out 1
            have p344 : 0 ≤ (((rd_T38 l0_1 x63_4).f1) : Int) := of_decide_eq_true (by first | (with_reducible assumption) | assumption)
            have q344 : ((rd_T38 l0_1 x63_4).f1) < (l0_0.length : Int) := of_decide_eq_true (by first | (with_reducible assumption) | assumption)
            obtain ⟨ad344, e344, hx344_0, hx344_1, hx344_2⟩ := at_T47 HR0_0.out ((rd_T38 l0_1 x63_4).f1) p344 q344
            cases e344
            replace hx344_0 := (HB.out.cell (World.block_lt_of_cell? w _ hx344_0)).trans hx344_0
            replace hx344_1 := (HB.out.cell (World.block_lt_of_cell? w _ hx344_1)).trans hx344_1
            replace hx344_2 := (HB.out.cell (World.block_lt_of_cell? w _ hx344_2)).trans hx344_2
            replace p344 := eq_true p344
            replace q344 := eq_true q344
            obtain ⟨Ao64, co64, eo64⟩ := Kd.R_slice HO_6.out
            subst eo64
            have p345 : 0 ≤ (((rd_T38 l0_1 x63_4).f1) : Int) := of_decide_eq_true (by first | (with_reducible assumption) | assumption)
            have q345 : ((rd_T38 l0_1 x63_4).f1) < (t333.length : Int) := of_decide_eq_true (by first | (with_reducible assumption) | assumption)
            obtain ⟨ad345, e345, hx345_0⟩ := Kd.at_int (Kd.R_reads' HO_6.out).2.2 ((rd_T38 l0_1 x63_4).f1) p345 q345
            cases e345
            replace p345 := eq_true p345
            replace q345 := eq_true q345
            go_wp2
            go_roundg k5
            case measure => have := HJ4.out; have := HK2.out; have := HJ19.out; have := HK4.out; have := HK5.out; omega
            case rel => exact ⟨(x10_4), (wrap64 (x63_4 + 1)), (by first | rfl | (simp; done) | (simp [*]; done)), (by first | rfl | (simp; done) | (simp [*]; done)), H', ⟨by have := HJ4.out; have := HK2.out; have := HJ19.out; have := HK4.out; have := HK5.out; omega⟩, ⟨by (with_reducible repeat (first | apply Kd.R_alloc | apply Kd.R_drewN | apply Kd.R_drew)); exact HO_6.out⟩, ⟨by (with_reducible repeat (first | apply Kd.R_alloc | apply Kd.R_drewN | apply Kd.R_drew)); exact HO_8.out⟩, ⟨by (with_reducible repeat (first | refine blk_drewN ?_ _ | refine blk_drew ?_ | refine blk_alloc ?_ _)); exact BK330.out⟩, ⟨by repeat (first | (with_reducible first | exact HB.out | apply below_alloc | apply pw_below_drewN | apply below_drew1 | refine below_set ?_ GE330.out | refine below_set ?_ GE342.out) | exact HB.out)⟩⟩
           rw [if_pos c46] at H
           have c46b0 : decide (0 ≤ (rd t333 ((rd_T38 l0_1 x63_4).f1))) = true := decide_eq_true c46
           clear c46
           by_cases c47 : x10_4 < 0
           ·rw [if_pos c47] at H
            have c47b0 : decide (x10_4 < 0) = true := decide_eq_true c47
            clear c47
            have H' := Aside0.mk H; clear H
            have hnb48 := NB342_330.out
            have hnc48 := NB330_342.out
            have hcz49_0 : wr.cell? ⟨gb342, 0, none⟩ = some (.int .i64 ((rd_T38 l0_1 x63_4).f0)) := (blk_cell BK342.out 0).trans rfl
            have hcz49_1 : wr.cell? ⟨gb342, 1, none⟩ = some (.int .i64 ((rd_T38 l0_1 x63_4).f1)) := (blk_cell BK342.out 1).trans rfl
            have hfz49_0 := blk_frozen BK342.out 0
            have hfz49_1 := blk_frozen BK342.out 1
            have hcz50_0 : wr.cell? ⟨gb330, 0, none⟩ = some (.slice A0_0 l0_0.length c0_0) := (blk_cell BK330.out 0).trans rfl
            have hcz50_1 : wr.cell? ⟨gb330, 1, none⟩ = some (.slice (some ad341) l0_1.length c0_1) := (blk_cell BK330.out 1).trans rfl
            have hfz50_0 := blk_frozen BK330.out 0
            have hfz50_1 := blk_frozen BK330.out 1
            have p344 : 0 ≤ (((rd_T38 l0_1 x63_4).f1) : Int) := of_decide_eq_true (by first | (with_reducible assumption) | assumption)
            have q344 : ((rd_T38 l0_1 x63_4).f1) < (l0_0.length : Int) := of_decide_eq_true (by first | (with_reducible assumption) | assumption)
            obtain ⟨ad344, e344, hx344_0, hx344_1, hx344_2⟩ := at_T47 HR0_0.out ((rd_T38 l0_1 x63_4).f1) p344 q344
            cases e344
            replace hx344_0 := (HB.out.cell (World.block_lt_of_cell? w _ hx344_0)).trans hx344_0
            replace hx344_1 := (HB.out.cell (World.block_lt_of_cell? w _ hx344_1)).trans hx344_1
            replace hx344_2 := (HB.out.cell (World.block_lt_of_cell? w _ hx344_2)).trans hx344_2
            replace p344 := eq_true p344
            replace q344 := eq_true q344
            obtain ⟨Ao51, co51, eo51⟩ := Kd.R_slice HO_6.out
            subst eo51
            have p345 : 0 ≤ (((rd_T38 l0_1 x63_4).f1) : Int) := of_decide_eq_true (by first | (with_reducible assumption) | assumption)
            have q345 : ((rd_T38 l0_1 x63_4).f1) < (t333.length : Int) := of_decide_eq_true (by first | (with_reducible assumption) | assumption)
            obtain ⟨ad345, e345, hx345_0⟩ := Kd.at_int (Kd.R_reads' HO_6.out).2.2 ((rd_T38 l0_1 x63_4).f1) p345 q345
            cases e345
            replace p345 := eq_true p345
            replace q345 := eq_true q345
            have p346 : 0 ≤ (((rd_T38 l0_1 x63_4).f1) : Int) := of_decide_eq_true (by first | (with_reducible assumption) | assumption)
            have q346 : ((rd_T38 l0_1 x63_4).f1) < (t333.length : Int) := of_decide_eq_true (by first | (with_reducible assumption) | assumption)
            obtain ⟨ad346, e346, hx346_0⟩ := Kd.at_int (Kd.R_reads' HO_6.out).2.2 ((rd_T38 l0_1 x63_4).f1) p346 q346
            obtain rfl : ad345 = ad346 := (by injection e346)
            replace p346 := eq_true p346
            replace q346 := eq_true q346
            go_wp2
            go_roundg k5
            case measure => have := HJ4.out; have := HK2.out; have := HJ19.out; have := HK4.out; have := HK5.out; omega
            case rel => exact ⟨(wrap64 ((rd t333 ((rd_T38 l0_1 x63_4).f1)) + 1)), (wrap64 (x63_4 + 1)), (by first | rfl | (simp; done) | (simp [*]; done)), (by first | rfl | (simp; done) | (simp [*]; done)), H', ⟨by have := HJ4.out; have := HK2.out; have := HJ19.out; have := HK4.out; have := HK5.out; omega⟩, ⟨by (with_reducible repeat (first | apply Kd.R_alloc | apply Kd.R_drewN | apply Kd.R_drew)); exact HO_6.out⟩, ⟨by (with_reducible repeat (first | apply Kd.R_alloc | apply Kd.R_drewN | apply Kd.R_drew)); exact HO_8.out⟩, ⟨by (with_reducible repeat (first | refine blk_drewN ?_ _ | refine blk_drew ?_ | refine blk_alloc ?_ _)); exact BK330.out⟩, ⟨by repeat (first | (with_reducible first | exact HB.out | apply below_alloc | apply pw_below_drewN | apply below_drew1 | refine below_set ?_ GE330.out | refine below_set ?_ GE342.out) | exact HB.out)⟩⟩
           rw [if_neg c47] at H
           have c47b0 : decide (x10_4 < 0) = false := decide_eq_false c47
           clear c47
           by_cases c52 : (wrap64 ((rd t333 ((rd_T38 l0_1 x63_4).f1)) + 1)) < x10_4
           rotate_left
           ·rw [if_neg c52] at H
            have c52b0 : decide ((wrap64 ((rd t333 ((rd_T38 l0_1 x63_4).f1)) + 1)) < x10_4) = false := decide_eq_false c52
            clear c52
            have H' := Aside0.mk H; clear H
            have hnb57 := NB342_330.out
            have hnc57 := NB330_342.out
            have hcz58_0 : wr.cell? ⟨gb342, 0, none⟩ = some (.int .i64 ((rd_T38 l0_1 x63_4).f0)) := (blk_cell BK342.out 0).trans rfl
            have hcz58_1 : wr.cell? ⟨gb342, 1, none⟩ = some (.int .i64 ((rd_T38 l0_1 x63_4).f1)) := (blk_cell BK342.out 1).trans rfl
            have hfz58_0 := blk_frozen BK342.out 0
            have hfz58_1 := blk_frozen BK342.out 1
            have hcz59_0 : wr.cell? ⟨gb330, 0, none⟩ = some (.slice A0_0 l0_0.length c0_0) := (blk_cell BK330.out 0).trans rfl
            have hcz59_1 : wr.cell? ⟨gb330, 1, none⟩ = some (.slice (some ad341) l0_1.length c0_1) := (blk_cell BK330.out 1).trans rfl
            have hfz59_0 := blk_frozen BK330.out 0
            have hfz59_1 := blk_frozen BK330.out 1
            have p344 : 0 ≤ (((rd_T38 l0_1 x63_4).f1) : Int) := of_decide_eq_true (by first | (with_reducible assumption) | assumption)
            have q344 : ((rd_T38 l0_1 x63_4).f1) < (l0_0.length : Int) := of_decide_eq_true (by first | (with_reducible assumption) | assumption)
            obtain ⟨ad344, e344, hx344_0, hx344_1, hx344_2⟩ := at_T47 HR0_0.out ((rd_T38 l0_1 x63_4).f1) p344 q344
            cases e344
            replace hx344_0 := (HB.out.cell (World.block_lt_of_cell? w _ hx344_0)).trans hx344_0
            replace hx344_1 := (HB.out.cell (World.block_lt_of_cell? w _ hx344_1)).trans hx344_1
            replace hx344_2 := (HB.out.cell (World.block_lt_of_cell? w _ hx344_2)).trans hx344_2
            replace p344 := eq_true p344
            replace q344 := eq_true q344
            obtain ⟨Ao60, co60, eo60⟩ := Kd.R_slice HO_6.out
            subst eo60
            have p345 : 0 ≤ (((rd_T38 l0_1 x63_4).f1) : Int) := of_decide_eq_true (by first | (with_reducible assumption) | assumption)
            have q345 : ((rd_T38 l0_1 x63_4).f1) < (t333.length : Int) := of_decide_eq_true (by first | (with_reducible assumption) | assumption)
            obtain ⟨ad345, e345, hx345_0⟩ := Kd.at_int (Kd.R_reads' HO_6.out).2.2 ((rd_T38 l0_1 x63_4).f1) p345 q345
            cases e345
            replace p345 := eq_true p345
            replace q345 := eq_true q345
            have p347 : 0 ≤ (((rd_T38 l0_1 x63_4).f1) : Int) := of_decide_eq_true (by first | (with_reducible assumption) | assumption)
            have q347 : ((rd_T38 l0_1 x63_4).f1) < (t333.length : Int) := of_decide_eq_true (by first | (with_reducible assumption) | assumption)
            obtain ⟨ad347, e347, hx347_0⟩ := Kd.at_int (Kd.R_reads' HO_6.out).2.2 ((rd_T38 l0_1 x63_4).f1) p347 q347
            obtain rfl : ad345 = ad347 := (by injection e347)
            replace p347 := eq_true p347
            replace q347 := eq_true q347
            go_wp2
            go_roundg k5
            case measure => have := HJ4.out; have := HK2.out; have := HJ19.out; have := HK4.out; have := HK5.out; omega
            case rel => exact ⟨(x10_4), (wrap64 (x63_4 + 1)), (by first | rfl | (simp; done) | (simp [*]; done)), (by first | rfl | (simp; done) | (simp [*]; done)), H', ⟨by have := HJ4.out; have := HK2.out; have := HJ19.out; have := HK4.out; have := HK5.out; omega⟩, ⟨by (with_reducible repeat (first | apply Kd.R_alloc | apply Kd.R_drewN | apply Kd.R_drew)); exact HO_6.out⟩, ⟨by (with_reducible repeat (first | apply Kd.R_alloc | apply Kd.R_drewN | apply Kd.R_drew)); exact HO_8.out⟩, ⟨by (with_reducible repeat (first | refine blk_drewN ?_ _ | refine blk_drew ?_ | refine blk_alloc ?_ _)); exact BK330.out⟩, ⟨by repeat (first | (with_reducible first | exact HB.out | apply below_alloc | apply pw_below_drewN | apply below_drew1 | refine below_set ?_ GE330.out | refine below_set ?_ GE342.out) | exact HB.out)⟩⟩
           rw [if_pos c52] at H
           have c52b0 : decide ((wrap64 ((rd t333 ((rd_T38 l0_1 x63_4).f1)) + 1)) < x10_4) = true := decide_eq_true c52
           clear c52
           have H' := Aside0.mk H; clear H
           have hnb53 := NB342_330.out
           have hnc53 := NB330_342.out
           have hcz54_0 : wr.cell? ⟨gb342, 0, none⟩ = some (.int .i64 ((rd_T38 l0_1 x63_4).f0)) := (blk_cell BK342.out 0).trans rfl
           have hcz54_1 : wr.cell? ⟨gb342, 1, none⟩ = some (.int .i64 ((rd_T38 l0_1 x63_4).f1)) := (blk_cell BK342.out 1).trans rfl
           have hfz54_0 := blk_frozen BK342.out 0
           have hfz54_1 := blk_frozen BK342.out 1
           have hcz55_0 : wr.cell? ⟨gb330, 0, none⟩ = some (.slice A0_0 l0_0.length c0_0) := (blk_cell BK330.out 0).trans rfl
           have hcz55_1 : wr.cell? ⟨gb330, 1, none⟩ = some (.slice (some ad341) l0_1.length c0_1) := (blk_cell BK330.out 1).trans rfl
           have hfz55_0 := blk_frozen BK330.out 0
           have hfz55_1 := blk_frozen BK330.out 1
           have p344 : 0 ≤ (((rd_T38 l0_1 x63_4).f1) : Int) := of_decide_eq_true (by first | (with_reducible assumption) | assumption)
           have q344 : ((rd_T38 l0_1 x63_4).f1) < (l0_0.length : Int) := of_decide_eq_true (by first | (with_reducible assumption) | assumption)
           obtain ⟨ad344, e344, hx344_0, hx344_1, hx344_2⟩ := at_T47 HR0_0.out ((rd_T38 l0_1 x63_4).f1) p344 q344
           cases e344
           replace hx344_0 := (HB.out.cell (World.block_lt_of_cell? w _ hx344_0)).trans hx344_0
           replace hx344_1 := (HB.out.cell (World.block_lt_of_cell? w _ hx344_1)).trans hx344_1
           replace hx344_2 := (HB.out.cell (World.block_lt_of_cell? w _ hx344_2)).trans hx344_2
           replace p344 := eq_true p344
           replace q344 := eq_true q344
           obtain ⟨Ao56, co56, eo56⟩ := Kd.R_slice HO_6.out
           subst eo56
           have p345 : 0 ≤ (((rd_T38 l0_1 x63_4).f1) : Int) := of_decide_eq_true (by first | (with_reducible assumption) | assumption)
           have q345 : ((rd_T38 l0_1 x63_4).f1) < (t333.length : Int) := of_decide_eq_true (by first | (with_reducible assumption) | assumption)
           obtain ⟨ad345, e345, hx345_0⟩ := Kd.at_int (Kd.R_reads' HO_6.out).2.2 ((rd_T38 l0_1 x63_4).f1) p345 q345
           cases e345
           replace p345 := eq_true p345
           replace q345 := eq_true q345
           have p347 : 0 ≤ (((rd_T38 l0_1 x63_4).f1) : Int) := of_decide_eq_true (by first | (with_reducible assumption) | assumption)
           have q347 : ((rd_T38 l0_1 x63_4).f1) < (t333.length : Int) := of_decide_eq_true (by first | (with_reducible assumption) | assumption)
           obtain ⟨ad347, e347, hx347_0⟩ := Kd.at_int (Kd.R_reads' HO_6.out).2.2 ((rd_T38 l0_1 x63_4).f1) p347 q347
           obtain rfl : ad345 = ad347 := (by injection e347)
           replace p347 := eq_true p347
           replace q347 := eq_true q347
           have p348 : 0 ≤ (((rd_T38 l0_1 x63_4).f1) : Int) := of_decide_eq_true (by first | (with_reducible assumption) | assumption)
           have q348 : ((rd_T38 l0_1 x63_4).f1) < (t333.length : Int) := of_decide_eq_true (by first | (with_reducible assumption) | assumption)
           obtain ⟨ad348, e348, hx348_0⟩ := Kd.at_int (Kd.R_reads' HO_6.out).2.2 ((rd_T38 l0_1 x63_4).f1) p348 q348
           obtain rfl : ad345 = ad348 := (by injection e348)
           replace p348 := eq_true p348
           replace q348 := eq_true q348
           go_wp2
           go_roundg k5
           case measure => have := HJ4.out; have := HK2.out; have := HJ19.out; have := HK4.out; have := HK5.out; omega
           case rel => exact ⟨(wrap64 ((rd t333 ((rd_T38 l0_1 x63_4).f1)) + 1)), (wrap64 (x63_4 + 1)), (by first | rfl | (simp; done) | (simp [*]; done)), (by first | rfl | (simp; done) | (simp [*]; done)), H', ⟨by have := HJ4.out; have := HK2.out; have := HJ19.out; have := HK4.out; have := HK5.out; omega⟩, ⟨by (with_reducible repeat (first | apply Kd.R_alloc | apply Kd.R_drewN | apply Kd.R_drew)); exact HO_6.out⟩, ⟨by (with_reducible repeat (first | apply Kd.R_alloc | apply Kd.R_drewN | apply Kd.R_drew)); exact HO_8.out⟩, ⟨by (with_reducible repeat (first | refine blk_drewN ?_ _ | refine blk_drew ?_ | refine blk_alloc ?_ _)); exact BK330.out⟩, ⟨by repeat (first | (with_reducible first | exact HB.out | apply below_alloc | apply pw_below_drewN | apply below_drew1 | refine below_set ?_ GE330.out | refine below_set ?_ GE342.out) | exact HB.out)⟩⟩
end Go.Proofs.Ytbbdgndaaajejaa.PRouteLoops
