-- Written by a program of this session (wip/oprint): after the pattern of the kit's print, which does not take this law. -- trimmed
import Derived.Test.YtbbdgndaaajejaaPRouteFollowsx0
import Derived.Test.YtbbdgndaaajejaaPRouteFollowsx6
import Derived.Test.YtbbdgndaaajejaaPRouteFollowsx9
import Derived.Test.YtbbdgndaaajejaaPRouteFollowsx11
namespace Go.Proofs.Ytbbdgndaaajejaa.PRouteFollows
open Go.RowKit Go.Proofs.YtbbdgndaaajejaaW.PrintWords Go.Proofs.YtbbdgndaaajejaaW.PrintLast Go.Proofs.YtbbdgndaaajejaaW.PrintMore
attribute [local go_sem] max2_int min2_int max_two min_two max_three min_three max_four min_four   -- for this text's walks alone
set_option linter.unusedVariables false
set_option linter.unusedSimpArgs false

/-! ### stillagelaw08_RouteFollows: function 6 -/
mutual
def stillagelaw08_RouteFollows.j0 : Nat → List Int → Int → Bool → List (S47) → List (S38) → Option (Bool)
 | 0, _, _, _, _, _ => none
 | k + 1, x1, x2, x29, x331000, x331001 => if x29 = true then (some true) else ((route_Table.f k x331000 x331001 x1 x2).bind fun bt334 => (if bt334.2 = 0 then (stillagelaw08_RouteFollows.j1 k x1 x2 bt334.1 ((bt334.1.length : Int) != (x331000.length : Int)) x331000 x331001) else (stillagelaw08_RouteFollows.j1 k x1 x2 bt334.1 true x331000 x331001)))
def stillagelaw08_RouteFollows.j1 : Nat → List Int → Int → List Int → Bool → List (S47) → List (S38) → Option (Bool)
 | 0, _, _, _, _, _, _ => none
 | k + 1, x1, x2, x7, x46, x331000, x331001 => if x46 = true then (some false) else (stillagelaw08_RouteFollows.l0 k x1 x2 x7 (x331000.length : Int) 0 x331000 x331001)
def stillagelaw08_RouteFollows.l0 : Nat → List Int → Int → List Int → Int → Int → List (S47) → List (S38) → Option (Bool)
 | 0, _, _, _, _, _, _, _ => none
 | k + 1, x1, x2, x7, x49, x50, x331000, x331001 => if x50 < x49 then ((reach_From.f k x331000 x331001 x1 x50).bind fun bt339 => ((route_Path.f k x331000 x331001 x1 x50 x2).bind fun bt343 => (if bt339.2 = 0 then (if (bt339.1.length : Int) = (x7.length : Int) then (if 0 ≤ x2 then (if x2 < (bt339.1.length : Int) then (if ((bt343.2 == 0) != (decide ((rd bt339.1 x2) ≥ 0))) = true then (stillagelaw08_RouteFollows.j3 k x1 x2 x7 x50 bt343.1 bt343.2 x49 x50 true x331000 x331001) else (stillagelaw08_RouteFollows.j3 k x1 x2 x7 x50 bt343.1 bt343.2 x49 x50 ((bt343.1.length : Int) != (mx (rd bt339.1 x2) 0)) x331000 x331001)) else (none)) else (none)) else (stillagelaw08_RouteFollows.j3 k x1 x2 x7 x50 bt343.1 bt343.2 x49 x50 true x331000 x331001)) else (stillagelaw08_RouteFollows.j3 k x1 x2 x7 x50 bt343.1 bt343.2 x49 x50 true x331000 x331001)))) else (if 0 ≤ x2 then (if x2 < (x7.length : Int) then (some ((rd x7 x2) == 0)) else (none)) else (none))
def stillagelaw08_RouteFollows.j3 : Nat → List Int → Int → List Int → Int → List Int → Int → Int → Int → Bool → List (S47) → List (S38) → Option (Bool)
 | 0, _, _, _, _, _, _, _, _, _, _, _ => none
 | k + 1, x1, x2, x7, x9, x12, x13, x49, x50, x96, x331000, x331001 => if x96 = true then (some false) else (stillagelaw08_RouteFollows.l1 k x1 x2 x7 x12 x13 x9 0 x49 x50 x331000 x331001)
def stillagelaw08_RouteFollows.l1 : Nat → List Int → Int → List Int → List Int → Int → Int → Int → Int → Int → List (S47) → List (S38) → Option (Bool)
 | 0, _, _, _, _, _, _, _, _, _, _, _ => none
 | k + 1, x1, x2, x7, x12, x13, x14, x15, x49, x50, x331000, x331001 => if x15 < (x12.length : Int) then (if 0 ≤ x14 then (if x14 < (x7.length : Int) then (if 0 ≤ x15 then (if (rd x7 x14) = (rd x12 x15) then (if (rd x7 x14) < 1 then (stillagelaw08_RouteFollows.j5 k x1 x2 x7 x12 x13 x15 (rd x7 x14) x49 x50 true x331000 x331001) else (if (rd x7 x14) > (x331001.length : Int) then (stillagelaw08_RouteFollows.j5 k x1 x2 x7 x12 x13 x15 (rd x7 x14) x49 x50 true x331000 x331001) else (if 0 ≤ (wrap64 ((rd x7 x14) - 1)) then (if (wrap64 ((rd x7 x14) - 1)) < (x331001.length : Int) then (stillagelaw08_RouteFollows.j5 k x1 x2 x7 x12 x13 x15 (rd x7 x14) x49 x50 (((rd_T38 x331001 (wrap64 ((rd x7 x14) - 1))).f0) != x14) x331000 x331001) else (none)) else (none)))) else (stillagelaw08_RouteFollows.j5 k x1 x2 x7 x12 x13 x15 (rd x7 x14) x49 x50 true x331000 x331001)) else (none)) else (none)) else (none)) else (if x13 = 0 then (if x14 = x2 then (stillagelaw08_RouteFollows.l0 k x1 x2 x7 x49 (wrap64 (x50 + 1)) x331000 x331001) else (some false)) else (stillagelaw08_RouteFollows.l0 k x1 x2 x7 x49 (wrap64 (x50 + 1)) x331000 x331001))
def stillagelaw08_RouteFollows.j5 : Nat → List Int → Int → List Int → List Int → Int → Int → Int → Int → Int → Bool → List (S47) → List (S38) → Option (Bool)
 | 0, _, _, _, _, _, _, _, _, _, _, _, _ => none
 | k + 1, x1, x2, x7, x12, x13, x15, x16, x49, x50, x135, x331000, x331001 => if x135 = true then (some false) else (stillagelaw08_RouteFollows.l2 k x1 x2 x7 x12 x13 x15 x16 x49 x50 x1 (x1.length : Int) 0 x331000 x331001)
def stillagelaw08_RouteFollows.l2 : Nat → List Int → Int → List Int → List Int → Int → Int → Int → Int → Int → List Int → Int → Int → List (S47) → List (S38) → Option (Bool)
 | 0, _, _, _, _, _, _, _, _, _, _, _, _, _, _ => none
 | k + 1, x1, x2, x7, x12, x13, x15, x16, x49, x50, x136, x137, x138, x331000, x331001 => if x138 < x137 then (if 0 ≤ x138 then (if x138 < (x136.length : Int) then (if (rd x136 x138) = x16 then (some false) else (stillagelaw08_RouteFollows.l2 k x1 x2 x7 x12 x13 x15 x16 x49 x50 x136 x137 (wrap64 (x138 + 1)) x331000 x331001)) else (none)) else (none)) else (if 0 ≤ (wrap64 (x16 - 1)) then (if (wrap64 (x16 - 1)) < (x331001.length : Int) then (if ((rd_T38 x331001 (wrap64 (x16 - 1))).f1) = x2 then (stillagelaw08_RouteFollows.l1 k x1 x2 x7 x12 x13 ((rd_T38 x331001 (wrap64 (x16 - 1))).f1) (wrap64 (x15 + 1)) x49 x50 x331000 x331001) else (if 0 ≤ ((rd_T38 x331001 (wrap64 (x16 - 1))).f1) then (if ((rd_T38 x331001 (wrap64 (x16 - 1))).f1) < (x331000.length : Int) then (if ((rd_T47 x331000 ((rd_T38 x331001 (wrap64 (x16 - 1))).f1)).f1) = 1 then (stillagelaw08_RouteFollows.l1 k x1 x2 x7 x12 x13 ((rd_T38 x331001 (wrap64 (x16 - 1))).f1) (wrap64 (x15 + 1)) x49 x50 x331000 x331001) else (some false)) else (none)) else (none))) else (none)) else (none))
end
def stillagelaw08_RouteFollows.f (k : Nat) (l0_0 : List (S47)) (l0_1 : List (S38)) (l1 : List Int) (a2 : Int) : Option (Bool) := (stillagelaw08_awake.f k).bind fun t331 => (if t331 = true then ((stillagelaw07_Fits.f k l0_0 l0_1 l1).bind fun t332 => (if t332 = true then ((stillagelaw08_outside.f l0_0 l0_1 a2).bind fun t333 => (stillagelaw08_RouteFollows.j0 k l1 a2 t333 l0_0 l0_1)) else (stillagelaw08_RouteFollows.j0 k l1 a2 true l0_0 l0_1))) else (some false))
theorem stillagelaw08_RouteFollows.mono_l : ∀ k, (∀ y0 y1 y2 y3 y4, LeO (stillagelaw08_RouteFollows.j0 k y0 y1 y2 y3 y4) (stillagelaw08_RouteFollows.j0 (k + 1) y0 y1 y2 y3 y4)) ∧ (∀ y0 y1 y2 y3 y4 y5, LeO (stillagelaw08_RouteFollows.j1 k y0 y1 y2 y3 y4 y5) (stillagelaw08_RouteFollows.j1 (k + 1) y0 y1 y2 y3 y4 y5)) ∧ (∀ y0 y1 y2 y3 y4 y5 y6, LeO (stillagelaw08_RouteFollows.l0 k y0 y1 y2 y3 y4 y5 y6) (stillagelaw08_RouteFollows.l0 (k + 1) y0 y1 y2 y3 y4 y5 y6)) ∧ (∀ y0 y1 y2 y3 y4 y5 y6 y7 y8 y9 y10, LeO (stillagelaw08_RouteFollows.j3 k y0 y1 y2 y3 y4 y5 y6 y7 y8 y9 y10) (stillagelaw08_RouteFollows.j3 (k + 1) y0 y1 y2 y3 y4 y5 y6 y7 y8 y9 y10)) ∧ (∀ y0 y1 y2 y3 y4 y5 y6 y7 y8 y9 y10, LeO (stillagelaw08_RouteFollows.l1 k y0 y1 y2 y3 y4 y5 y6 y7 y8 y9 y10) (stillagelaw08_RouteFollows.l1 (k + 1) y0 y1 y2 y3 y4 y5 y6 y7 y8 y9 y10)) ∧ (∀ y0 y1 y2 y3 y4 y5 y6 y7 y8 y9 y10 y11, LeO (stillagelaw08_RouteFollows.j5 k y0 y1 y2 y3 y4 y5 y6 y7 y8 y9 y10 y11) (stillagelaw08_RouteFollows.j5 (k + 1) y0 y1 y2 y3 y4 y5 y6 y7 y8 y9 y10 y11)) ∧ (∀ y0 y1 y2 y3 y4 y5 y6 y7 y8 y9 y10 y11 y12 y13, LeO (stillagelaw08_RouteFollows.l2 k y0 y1 y2 y3 y4 y5 y6 y7 y8 y9 y10 y11 y12 y13) (stillagelaw08_RouteFollows.l2 (k + 1) y0 y1 y2 y3 y4 y5 y6 y7 y8 y9 y10 y11 y12 y13))
 | 0 => ⟨fun _ _ _ _ _ r h => by simp [stillagelaw08_RouteFollows.j0] at h, fun _ _ _ _ _ _ r h => by simp [stillagelaw08_RouteFollows.j1] at h, fun _ _ _ _ _ _ _ r h => by simp [stillagelaw08_RouteFollows.l0] at h, fun _ _ _ _ _ _ _ _ _ _ _ r h => by simp [stillagelaw08_RouteFollows.j3] at h, fun _ _ _ _ _ _ _ _ _ _ _ r h => by simp [stillagelaw08_RouteFollows.l1] at h, fun _ _ _ _ _ _ _ _ _ _ _ _ r h => by simp [stillagelaw08_RouteFollows.j5] at h, fun _ _ _ _ _ _ _ _ _ _ _ _ _ _ r h => by simp [stillagelaw08_RouteFollows.l2] at h⟩
 | k + 1 => by
  obtain ⟨ih0, ih1, ih2, ih3, ih4, ih5, ih6⟩ := stillagelaw08_RouteFollows.mono_l k
  refine ⟨?_, ?_, ?_, ?_, ?_, ?_, ?_⟩
  ·intro y0 y1 y2 y3 y4
   unfold stillagelaw08_RouteFollows.j0
   repeat' first
   | (with_reducible exact ih0 _ _ _ _ _)
   | (with_reducible exact ih1 _ _ _ _ _ _)
   | (with_reducible exact ih2 _ _ _ _ _ _ _)
   | (with_reducible exact ih3 _ _ _ _ _ _ _ _ _ _ _)
   | (with_reducible exact ih4 _ _ _ _ _ _ _ _ _ _ _)
   | (with_reducible exact ih5 _ _ _ _ _ _ _ _ _ _ _ _)
   | (with_reducible exact ih6 _ _ _ _ _ _ _ _ _ _ _ _ _ _)
   | (with_reducible exact reach_From.mono _ _ _ _ _)
   | (with_reducible exact route_Path.mono _ _ _ _ _ _)
   | (with_reducible exact route_Table.mono _ _ _ _ _)
   | (with_reducible exact stillagelaw07_Fits.mono _ _ _ _)
   | (with_reducible exact stillagelaw08_awake.mono _)
   | (with_reducible exact LeO.refl _)
   | (with_reducible exact LeO.none _)
   | (with_reducible refine LeO.ite ?_ ?_)
   | (with_reducible refine LeO.bind ?_ (fun _ => ?_))
   | exact ih0 _ _ _ _ _
   | exact ih1 _ _ _ _ _ _
   | exact ih2 _ _ _ _ _ _ _
   | exact ih3 _ _ _ _ _ _ _ _ _ _ _
   | exact ih4 _ _ _ _ _ _ _ _ _ _ _
   | exact ih5 _ _ _ _ _ _ _ _ _ _ _ _
   | exact ih6 _ _ _ _ _ _ _ _ _ _ _ _ _ _
   | exact reach_From.mono _ _ _ _ _
   | exact route_Path.mono _ _ _ _ _ _
   | exact route_Table.mono _ _ _ _ _
   | exact stillagelaw07_Fits.mono _ _ _ _
   | exact stillagelaw08_awake.mono _
   | exact LeO.none _
   | refine LeO.ite ?_ ?_
   | refine LeO.bind ?_ (fun _ => ?_)
  ·intro y0 y1 y2 y3 y4 y5
   unfold stillagelaw08_RouteFollows.j1
   repeat' first
   | (with_reducible exact ih0 _ _ _ _ _)
   | (with_reducible exact ih1 _ _ _ _ _ _)
   | (with_reducible exact ih2 _ _ _ _ _ _ _)
   | (with_reducible exact ih3 _ _ _ _ _ _ _ _ _ _ _)
   | (with_reducible exact ih4 _ _ _ _ _ _ _ _ _ _ _)
   | (with_reducible exact ih5 _ _ _ _ _ _ _ _ _ _ _ _)
   | (with_reducible exact ih6 _ _ _ _ _ _ _ _ _ _ _ _ _ _)
   | (with_reducible exact reach_From.mono _ _ _ _ _)
   | (with_reducible exact route_Path.mono _ _ _ _ _ _)
   | (with_reducible exact route_Table.mono _ _ _ _ _)
   | (with_reducible exact stillagelaw07_Fits.mono _ _ _ _)
   | (with_reducible exact stillagelaw08_awake.mono _)
   | (with_reducible exact LeO.refl _)
   | (with_reducible exact LeO.none _)
   | (with_reducible refine LeO.ite ?_ ?_)
   | (with_reducible refine LeO.bind ?_ (fun _ => ?_))
   | exact ih0 _ _ _ _ _
   | exact ih1 _ _ _ _ _ _
   | exact ih2 _ _ _ _ _ _ _
   | exact ih3 _ _ _ _ _ _ _ _ _ _ _
   | exact ih4 _ _ _ _ _ _ _ _ _ _ _
   | exact ih5 _ _ _ _ _ _ _ _ _ _ _ _
   | exact ih6 _ _ _ _ _ _ _ _ _ _ _ _ _ _
   | exact reach_From.mono _ _ _ _ _
   | exact route_Path.mono _ _ _ _ _ _
   | exact route_Table.mono _ _ _ _ _
   | exact stillagelaw07_Fits.mono _ _ _ _
   | exact stillagelaw08_awake.mono _
   | exact LeO.none _
   | refine LeO.ite ?_ ?_
   | refine LeO.bind ?_ (fun _ => ?_)
  ·intro y0 y1 y2 y3 y4 y5 y6
   unfold stillagelaw08_RouteFollows.l0
   repeat' first
   | (with_reducible exact ih0 _ _ _ _ _)
   | (with_reducible exact ih1 _ _ _ _ _ _)
   | (with_reducible exact ih2 _ _ _ _ _ _ _)
   | (with_reducible exact ih3 _ _ _ _ _ _ _ _ _ _ _)
   | (with_reducible exact ih4 _ _ _ _ _ _ _ _ _ _ _)
   | (with_reducible exact ih5 _ _ _ _ _ _ _ _ _ _ _ _)
   | (with_reducible exact ih6 _ _ _ _ _ _ _ _ _ _ _ _ _ _)
   | (with_reducible exact reach_From.mono _ _ _ _ _)
   | (with_reducible exact route_Path.mono _ _ _ _ _ _)
   | (with_reducible exact route_Table.mono _ _ _ _ _)
   | (with_reducible exact stillagelaw07_Fits.mono _ _ _ _)
   | (with_reducible exact stillagelaw08_awake.mono _)
   | (with_reducible exact LeO.refl _)
   | (with_reducible exact LeO.none _)
   | (with_reducible refine LeO.ite ?_ ?_)
   | (with_reducible refine LeO.bind ?_ (fun _ => ?_))
   | exact ih0 _ _ _ _ _
   | exact ih1 _ _ _ _ _ _
   | exact ih2 _ _ _ _ _ _ _
   | exact ih3 _ _ _ _ _ _ _ _ _ _ _
   | exact ih4 _ _ _ _ _ _ _ _ _ _ _
   | exact ih5 _ _ _ _ _ _ _ _ _ _ _ _
   | exact ih6 _ _ _ _ _ _ _ _ _ _ _ _ _ _
   | exact reach_From.mono _ _ _ _ _
   | exact route_Path.mono _ _ _ _ _ _
   | exact route_Table.mono _ _ _ _ _
   | exact stillagelaw07_Fits.mono _ _ _ _
   | exact stillagelaw08_awake.mono _
   | exact LeO.none _
   | refine LeO.ite ?_ ?_
   | refine LeO.bind ?_ (fun _ => ?_)
  ·intro y0 y1 y2 y3 y4 y5 y6 y7 y8 y9 y10
   unfold stillagelaw08_RouteFollows.j3
   repeat' first
   | (with_reducible exact ih0 _ _ _ _ _)
   | (with_reducible exact ih1 _ _ _ _ _ _)
   | (with_reducible exact ih2 _ _ _ _ _ _ _)
   | (with_reducible exact ih3 _ _ _ _ _ _ _ _ _ _ _)
   | (with_reducible exact ih4 _ _ _ _ _ _ _ _ _ _ _)
   | (with_reducible exact ih5 _ _ _ _ _ _ _ _ _ _ _ _)
   | (with_reducible exact ih6 _ _ _ _ _ _ _ _ _ _ _ _ _ _)
   | (with_reducible exact reach_From.mono _ _ _ _ _)
   | (with_reducible exact route_Path.mono _ _ _ _ _ _)
   | (with_reducible exact route_Table.mono _ _ _ _ _)
   | (with_reducible exact stillagelaw07_Fits.mono _ _ _ _)
   | (with_reducible exact stillagelaw08_awake.mono _)
   | (with_reducible exact LeO.refl _)
   | (with_reducible exact LeO.none _)
   | (with_reducible refine LeO.ite ?_ ?_)
   | (with_reducible refine LeO.bind ?_ (fun _ => ?_))
   | exact ih0 _ _ _ _ _
   | exact ih1 _ _ _ _ _ _
   | exact ih2 _ _ _ _ _ _ _
   | exact ih3 _ _ _ _ _ _ _ _ _ _ _
   | exact ih4 _ _ _ _ _ _ _ _ _ _ _
   | exact ih5 _ _ _ _ _ _ _ _ _ _ _ _
   | exact ih6 _ _ _ _ _ _ _ _ _ _ _ _ _ _
   | exact reach_From.mono _ _ _ _ _
   | exact route_Path.mono _ _ _ _ _ _
   | exact route_Table.mono _ _ _ _ _
   | exact stillagelaw07_Fits.mono _ _ _ _
   | exact stillagelaw08_awake.mono _
   | exact LeO.none _
   | refine LeO.ite ?_ ?_
   | refine LeO.bind ?_ (fun _ => ?_)
  ·intro y0 y1 y2 y3 y4 y5 y6 y7 y8 y9 y10
   unfold stillagelaw08_RouteFollows.l1
   repeat' first
   | (with_reducible exact ih0 _ _ _ _ _)
   | (with_reducible exact ih1 _ _ _ _ _ _)
   | (with_reducible exact ih2 _ _ _ _ _ _ _)
   | (with_reducible exact ih3 _ _ _ _ _ _ _ _ _ _ _)
   | (with_reducible exact ih4 _ _ _ _ _ _ _ _ _ _ _)
   | (with_reducible exact ih5 _ _ _ _ _ _ _ _ _ _ _ _)
   | (with_reducible exact ih6 _ _ _ _ _ _ _ _ _ _ _ _ _ _)
   | (with_reducible exact reach_From.mono _ _ _ _ _)
   | (with_reducible exact route_Path.mono _ _ _ _ _ _)
   | (with_reducible exact route_Table.mono _ _ _ _ _)
   | (with_reducible exact stillagelaw07_Fits.mono _ _ _ _)
   | (with_reducible exact stillagelaw08_awake.mono _)
   | (with_reducible exact LeO.refl _)
   | (with_reducible exact LeO.none _)
   | (with_reducible refine LeO.ite ?_ ?_)
   | (with_reducible refine LeO.bind ?_ (fun _ => ?_))
   | exact ih0 _ _ _ _ _
   | exact ih1 _ _ _ _ _ _
   | exact ih2 _ _ _ _ _ _ _
   | exact ih3 _ _ _ _ _ _ _ _ _ _ _
   | exact ih4 _ _ _ _ _ _ _ _ _ _ _
   | exact ih5 _ _ _ _ _ _ _ _ _ _ _ _
   | exact ih6 _ _ _ _ _ _ _ _ _ _ _ _ _ _
   | exact reach_From.mono _ _ _ _ _
   | exact route_Path.mono _ _ _ _ _ _
   | exact route_Table.mono _ _ _ _ _
   | exact stillagelaw07_Fits.mono _ _ _ _
   | exact stillagelaw08_awake.mono _
   | exact LeO.none _
   | refine LeO.ite ?_ ?_
   | refine LeO.bind ?_ (fun _ => ?_)
  ·intro y0 y1 y2 y3 y4 y5 y6 y7 y8 y9 y10 y11
   unfold stillagelaw08_RouteFollows.j5
   repeat' first
   | (with_reducible exact ih0 _ _ _ _ _)
   | (with_reducible exact ih1 _ _ _ _ _ _)
   | (with_reducible exact ih2 _ _ _ _ _ _ _)
   | (with_reducible exact ih3 _ _ _ _ _ _ _ _ _ _ _)
   | (with_reducible exact ih4 _ _ _ _ _ _ _ _ _ _ _)
   | (with_reducible exact ih5 _ _ _ _ _ _ _ _ _ _ _ _)
   | (with_reducible exact ih6 _ _ _ _ _ _ _ _ _ _ _ _ _ _)
   | (with_reducible exact reach_From.mono _ _ _ _ _)
   | (with_reducible exact route_Path.mono _ _ _ _ _ _)
   | (with_reducible exact route_Table.mono _ _ _ _ _)
   | (with_reducible exact stillagelaw07_Fits.mono _ _ _ _)
   | (with_reducible exact stillagelaw08_awake.mono _)
   | (with_reducible exact LeO.refl _)
   | (with_reducible exact LeO.none _)
   | (with_reducible refine LeO.ite ?_ ?_)
   | (with_reducible refine LeO.bind ?_ (fun _ => ?_))
   | exact ih0 _ _ _ _ _
   | exact ih1 _ _ _ _ _ _
   | exact ih2 _ _ _ _ _ _ _
   | exact ih3 _ _ _ _ _ _ _ _ _ _ _
   | exact ih4 _ _ _ _ _ _ _ _ _ _ _
   | exact ih5 _ _ _ _ _ _ _ _ _ _ _ _
   | exact ih6 _ _ _ _ _ _ _ _ _ _ _ _ _ _
   | exact reach_From.mono _ _ _ _ _
   | exact route_Path.mono _ _ _ _ _ _
   | exact route_Table.mono _ _ _ _ _
   | exact stillagelaw07_Fits.mono _ _ _ _
   | exact stillagelaw08_awake.mono _
   | exact LeO.none _
   | refine LeO.ite ?_ ?_
   | refine LeO.bind ?_ (fun _ => ?_)
  ·intro y0 y1 y2 y3 y4 y5 y6 y7 y8 y9 y10 y11 y12 y13
   unfold stillagelaw08_RouteFollows.l2
   repeat' first
   | (with_reducible exact ih0 _ _ _ _ _)
   | (with_reducible exact ih1 _ _ _ _ _ _)
   | (with_reducible exact ih2 _ _ _ _ _ _ _)
   | (with_reducible exact ih3 _ _ _ _ _ _ _ _ _ _ _)
   | (with_reducible exact ih4 _ _ _ _ _ _ _ _ _ _ _)
   | (with_reducible exact ih5 _ _ _ _ _ _ _ _ _ _ _ _)
   | (with_reducible exact ih6 _ _ _ _ _ _ _ _ _ _ _ _ _ _)
   | (with_reducible exact reach_From.mono _ _ _ _ _)
   | (with_reducible exact route_Path.mono _ _ _ _ _ _)
   | (with_reducible exact route_Table.mono _ _ _ _ _)
   | (with_reducible exact stillagelaw07_Fits.mono _ _ _ _)
   | (with_reducible exact stillagelaw08_awake.mono _)
   | (with_reducible exact LeO.refl _)
   | (with_reducible exact LeO.none _)
   | (with_reducible refine LeO.ite ?_ ?_)
   | (with_reducible refine LeO.bind ?_ (fun _ => ?_))
   | exact ih0 _ _ _ _ _
   | exact ih1 _ _ _ _ _ _
   | exact ih2 _ _ _ _ _ _ _
   | exact ih3 _ _ _ _ _ _ _ _ _ _ _
   | exact ih4 _ _ _ _ _ _ _ _ _ _ _
   | exact ih5 _ _ _ _ _ _ _ _ _ _ _ _
   | exact ih6 _ _ _ _ _ _ _ _ _ _ _ _ _ _
   | exact reach_From.mono _ _ _ _ _
   | exact route_Path.mono _ _ _ _ _ _
   | exact route_Table.mono _ _ _ _ _
   | exact stillagelaw07_Fits.mono _ _ _ _
   | exact stillagelaw08_awake.mono _
   | exact LeO.none _
   | refine LeO.ite ?_ ?_
   | refine LeO.bind ?_ (fun _ => ?_)
theorem stillagelaw08_RouteFollows.mono : ∀ a0 a1 a2 a3 k, LeO (stillagelaw08_RouteFollows.f k a0 a1 a2 a3) (stillagelaw08_RouteFollows.f (k + 1) a0 a1 a2 a3) := by
 intro a0 a1 a2 a3 k
 obtain ⟨ih0, ih1, ih2, ih3, ih4, ih5, ih6⟩ := stillagelaw08_RouteFollows.mono_l k
 unfold stillagelaw08_RouteFollows.f
 repeat' first
   | (with_reducible exact ih0 _ _ _ _ _)
   | (with_reducible exact ih1 _ _ _ _ _ _)
   | (with_reducible exact ih2 _ _ _ _ _ _ _)
   | (with_reducible exact ih3 _ _ _ _ _ _ _ _ _ _ _)
   | (with_reducible exact ih4 _ _ _ _ _ _ _ _ _ _ _)
   | (with_reducible exact ih5 _ _ _ _ _ _ _ _ _ _ _ _)
   | (with_reducible exact ih6 _ _ _ _ _ _ _ _ _ _ _ _ _ _)
   | (with_reducible exact reach_From.mono _ _ _ _ _)
   | (with_reducible exact route_Path.mono _ _ _ _ _ _)
   | (with_reducible exact route_Table.mono _ _ _ _ _)
   | (with_reducible exact stillagelaw07_Fits.mono _ _ _ _)
   | (with_reducible exact stillagelaw08_awake.mono _)
   | (with_reducible exact LeO.refl _)
   | (with_reducible exact LeO.none _)
   | (with_reducible refine LeO.ite ?_ ?_)
   | (with_reducible refine LeO.bind ?_ (fun _ => ?_))
   | exact ih0 _ _ _ _ _
   | exact ih1 _ _ _ _ _ _
   | exact ih2 _ _ _ _ _ _ _
   | exact ih3 _ _ _ _ _ _ _ _ _ _ _
   | exact ih4 _ _ _ _ _ _ _ _ _ _ _
   | exact ih5 _ _ _ _ _ _ _ _ _ _ _ _
   | exact ih6 _ _ _ _ _ _ _ _ _ _ _ _ _ _
   | exact reach_From.mono _ _ _ _ _
   | exact route_Path.mono _ _ _ _ _ _
   | exact route_Table.mono _ _ _ _ _
   | exact stillagelaw07_Fits.mono _ _ _ _
   | exact stillagelaw08_awake.mono _
   | exact LeO.none _
   | refine LeO.ite ?_ ?_
   | refine LeO.bind ?_ (fun _ => ?_)
set_option maxHeartbeats 8000000 in
set_option maxRecDepth 100000 in
theorem stillagelaw08_RouteFollows.calls (k : Nat) (A0_0 : Option Addr) (c0_0 : Nat) (l0_0 : List (S47)) (A0_1 : Option Addr) (c0_1 : Nat) (l0_1 : List (S38)) (A1 : Option Addr) (c1 : Nat) (l1 : List Int) (a2 : Int) (r : Bool) (w : World) (hr0_0 : Kd.C k47 w A0_0 l0_0.length l0_0) (hc0_0 : l0_0.length ≤ c0_0) (hr0_1 : Kd.C k38 w A0_1 l0_1.length l0_1) (hc0_1 : l0_1.length ≤ c0_1) (hr1 : Kd.C (Kd.int .i64) w A1 l1.length l1) (hc1 : l1.length ≤ c1) (h : stillagelaw08_RouteFollows.f k l0_0 l0_1 l1 a2 = some r) :
  Calls Try.prog 6 #[.agg #[.slice A0_0 l0_0.length c0_0, .slice A0_1 l0_1.length c0_1], .slice A1 l1.length c1, .int .i64 a2] w fun e w' => e = .returned (.bool r) ∧ Below w.heap.size w w' := by
 have hu25 := Try.underlying25
 have HR0_0 := Aside0.mk hr0_0
 have HC0_0 := Aside0.mk hc0_0
 clear hr0_0 hc0_0
 have HR0_1 := Aside0.mk hr0_1
 have HC0_1 := Aside0.mk hc0_1
 clear hr0_1 hc0_1
 have HR1 := Aside0.mk hr1
 have HC1 := Aside0.mk hc1
 clear hr1 hc1
 have HB := Aside0.mk (Below.refl w.heap.size w)
 have H : ((stillagelaw08_awake.f k).bind fun t331 => (if t331 = true then ((stillagelaw07_Fits.f k l0_0 l0_1 l1).bind fun t332 => (if t332 = true then ((stillagelaw08_outside.f l0_0 l0_1 a2).bind fun t333 => (stillagelaw08_RouteFollows.j0 k l1 a2 t333 l0_0 l0_1)) else (stillagelaw08_RouteFollows.j0 k l1 a2 true l0_0 l0_1))) else (some false))) = some r := h
 clear h
 replace H := Option.bind_eq_some_iff.mp H; obtain ⟨t331, A40, H⟩ := H
 replace H : (if t331 = true then ((stillagelaw07_Fits.f k l0_0 l0_1 l1).bind fun t332 => (if t332 = true then ((stillagelaw08_outside.f l0_0 l0_1 a2).bind fun t333 => (stillagelaw08_RouteFollows.j0 k l1 a2 t333 l0_0 l0_1)) else (stillagelaw08_RouteFollows.j0 k l1 a2 true l0_0 l0_1))) else (some false)) = some r := H
 have A4 := Aside0.mk A40
 clear A40
 by_cases c5 : t331 = true
 rotate_left
 ·replace c5 := Bool.eq_false_iff.mpr c5
  subst c5
  have H1 : (some false) = some r := by rw [if_neg (show ¬ (false = true) by decide)] at H; exact H
  clear H; have H := H1; clear H1
  obtain rfl := Option.some.inj H
  go_enter Try.func6, Try.ntmps6
  go_wp2_with (first | ((with_reducible refine gate_dst (N := 3) rfl ?_); (try (refine gate_guard (by rfl) ?_; dsimp only)); refine box_event ?hg (N := 3) ?hd (cs := #[.slice A0_0 l0_0.length c0_0, .slice A0_1 l0_1.length c0_1]) (t := 25) ?hr ?_; (case hd => rfl); (case hg => rfl); (case hr => first | (go_simp; done) | (go_simp; rfl)); intro gb330 hg w88 hbox hb; have BK330 := Aside0.mk (hbox); have GW330 := Aside0.mk ((by rw [hg]; exact (below_size (by repeat (first | (with_reducible first | exact HB.out | apply below_alloc | apply pw_below_drewN | apply below_drew1) | exact HB.out))) : w.heap.size ≤ gb330)); have GE330 := Aside0.mk ((by rw [hg]; exact (below_size (by repeat (first | (with_reducible first | exact HB.out | apply below_alloc | apply pw_below_drewN | apply below_drew1) | exact HB.out))) : w.heap.size ≤ gb330)); replace HB := Aside0.mk (below_step (by repeat (first | (with_reducible first | exact HB.out | apply below_alloc | apply pw_below_drewN | apply below_drew1) | exact HB.out)) hb); clear hb hbox hg) | ((with_reducible refine gate_callee (f := 10) rfl ?_); refine goesL_ (some 19) rfl rfl Try.func10 (by kernel_rfl) rfl #[] rfl (by (try simp only [List.map_toArray, List.map_cons, List.map_nil]); first | done | rfl | (simp only [List.length_drop, List.length_take]; rfl)) ?_; (with_reducible refine (stillagelaw08_awake.calls k  false _ A4.out).mono ?_); rintro e w89 ⟨rfl, hb⟩; refine ⟨_, rfl, ?_⟩; replace BK330 := Aside0.mk (blk_below (g := gb330) (o := .cells #[.slice A0_0 l0_0.length c0_0, .slice A0_1 l0_1.length c0_1] 25 (0, 0)) (by (with_reducible repeat (first | refine blk_drewN ?_ _ | refine blk_drew ?_ | refine blk_alloc ?_ _)); exact BK330.out) hb); replace HB := Aside0.mk (below_step (by repeat (first | (with_reducible first | exact HB.out | apply below_alloc | apply pw_below_drewN | apply below_drew1 | refine below_set ?_ GE330.out) | exact HB.out)) hb); (try clear hb)))
  go_ret
  exact ⟨by first | rfl | (simp [errW_none, errW_some] <;> rfl) | (simp [*, errW_none, errW_some] <;> rfl), by repeat (first | (with_reducible first | exact HB.out | apply below_alloc | apply pw_below_drewN | apply below_drew1 | refine below_set ?_ GE330.out) | exact HB.out)⟩

 subst c5
 have H1 : ((stillagelaw07_Fits.f k l0_0 l0_1 l1).bind fun t332 => (if t332 = true then ((stillagelaw08_outside.f l0_0 l0_1 a2).bind fun t333 => (stillagelaw08_RouteFollows.j0 k l1 a2 t333 l0_0 l0_1)) else (stillagelaw08_RouteFollows.j0 k l1 a2 true l0_0 l0_1))) = some r := by rw [if_pos rfl] at H; exact H
 clear H; have H := H1; clear H1
 have HC6 := Aside0.mk H
 clear H
 go_enter Try.func6, Try.ntmps6
 go_upto_region 3 with (first | ((with_reducible refine gate_dst (N := 3) rfl ?_); (try (refine gate_guard (by rfl) ?_; dsimp only)); refine box_event ?hg (N := 3) ?hd (cs := #[.slice A0_0 l0_0.length c0_0, .slice A0_1 l0_1.length c0_1]) (t := 25) ?hr ?_; (case hd => rfl); (case hg => rfl); (case hr => first | (go_simp; done) | (go_simp; rfl)); intro gb330 hg w7 hbox hb; have BK330 := Aside0.mk (hbox); have GW330 := Aside0.mk ((by rw [hg]; exact (below_size (by repeat (first | (with_reducible first | exact HB.out | apply below_alloc | apply pw_below_drewN | apply below_drew1) | exact HB.out))) : w.heap.size ≤ gb330)); have GE330 := Aside0.mk ((by rw [hg]; exact (below_size (by repeat (first | (with_reducible first | exact HB.out | apply below_alloc | apply pw_below_drewN | apply below_drew1) | exact HB.out))) : w.heap.size ≤ gb330)); replace HB := Aside0.mk (below_step (by repeat (first | (with_reducible first | exact HB.out | apply below_alloc | apply pw_below_drewN | apply below_drew1) | exact HB.out)) hb); clear hb hbox hg) | ((with_reducible refine gate_callee (f := 10) rfl ?_); refine goesL_ (some 19) rfl rfl Try.func10 (by kernel_rfl) rfl #[] rfl (by (try simp only [List.map_toArray, List.map_cons, List.map_nil]); first | done | rfl | (simp only [List.length_drop, List.length_take]; rfl)) ?_; (with_reducible refine (stillagelaw08_awake.calls k  true _ A4.out).mono ?_); rintro e w8 ⟨rfl, hb⟩; refine ⟨_, rfl, ?_⟩; replace BK330 := Aside0.mk (blk_below (g := gb330) (o := .cells #[.slice A0_0 l0_0.length c0_0, .slice A0_1 l0_1.length c0_1] 25 (0, 0)) (by (with_reducible repeat (first | refine blk_drewN ?_ _ | refine blk_drew ?_ | refine blk_alloc ?_ _)); exact BK330.out) hb); replace HB := Aside0.mk (below_step (by repeat (first | (with_reducible first | exact HB.out | apply below_alloc | apply pw_below_drewN | apply below_drew1 | refine below_set ?_ GE330.out) | exact HB.out)) hb); (try clear hb)))
 (try simp only [Act.put, List.setIfInBounds_toArray, List.set_cons_zero, List.set_cons_succ])
 go_cut [29] (fun v29 wc => ∃ (kq : Nat) (x29_5 : Bool), v29 = .bool x29_5 ∧ Aside0 (stillagelaw08_RouteFollows.j0 kq l1 a2 x29_5 l0_0 l0_1 = some r) ∧ Aside0 (kq ≤ k) ∧ Aside0 (wc.heap[gb330]? = some (.cells #[(.slice A0_0 l0_0.length c0_0), (.slice A0_1 l0_1.length c0_1)] 25 (0, 0))) ∧ Aside0 (Below w.heap.size w wc))
 case first =>
  have H := HC6.out
  clear HC6
  replace H := Option.bind_eq_some_iff.mp H; obtain ⟨t332, A90, H⟩ := H
  replace H : (if t332 = true then ((stillagelaw08_outside.f l0_0 l0_1 a2).bind fun t333 => (stillagelaw08_RouteFollows.j0 k l1 a2 t333 l0_0 l0_1)) else (stillagelaw08_RouteFollows.j0 k l1 a2 true l0_0 l0_1)) = some r := H
  have A9 := Aside0.mk A90
  clear A90
  by_cases c10 : t332 = true
  rotate_left
  ·replace c10 := Bool.eq_false_iff.mpr c10
   subst c10
   have H1 : (stillagelaw08_RouteFollows.j0 k l1 a2 true l0_0 l0_1) = some r := by rw [if_neg (show ¬ (false = true) by decide)] at H; exact H
   clear H; have H := H1; clear H1
   have H' := Aside0.mk H; clear H
   have hcz16_0 : w8.cell? ⟨gb330, 0, none⟩ = some (.slice A0_0 l0_0.length c0_0) := (blk_cell BK330.out 0).trans rfl
   have hcz16_1 : w8.cell? ⟨gb330, 1, none⟩ = some (.slice A0_1 l0_1.length c0_1) := (blk_cell BK330.out 1).trans rfl
   have hfz16_0 := blk_frozen BK330.out 0
   have hfz16_1 := blk_frozen BK330.out 1
   go_wp2_with (first | ((with_reducible refine gate_callee (f := 23) rfl ?_); refine goesL_ (some 23) rfl rfl Try.func23 (by kernel_rfl) rfl #[.agg #[.slice A0_0 l0_0.length c0_0, .slice A0_1 l0_1.length c0_1], .slice A1 l1.length c1] rfl (by (try simp only [List.map_toArray, List.map_cons, List.map_nil]); first | done | rfl | (simp only [List.length_drop, List.length_take]; rfl)) ?_; (with_reducible refine (stillagelaw07_Fits.calls k _ _ l0_0 _ _ l0_1 _ _ l1 false _ ?side1 ?side2 ?side3 ?side4 ?side5 ?side6 A9.out).mono ?_); (case side1 => repeat (first | exact (Kd.C_below HR0_0.out HB.out) | (with_reducible refine Kd.C_alloc ?_ _) | (with_reducible refine Kd.C_drewN ?_ _) | (with_reducible refine Kd.C_drew ?_))); (case side2 => exact HC0_0.out); (case side3 => repeat (first | exact (Kd.C_below HR0_1.out HB.out) | (with_reducible refine Kd.C_alloc ?_ _) | (with_reducible refine Kd.C_drewN ?_ _) | (with_reducible refine Kd.C_drew ?_))); (case side4 => exact HC0_1.out); (case side5 => repeat (first | exact (Kd.C_below HR1.out HB.out) | (with_reducible refine Kd.C_alloc ?_ _) | (with_reducible refine Kd.C_drewN ?_ _) | (with_reducible refine Kd.C_drew ?_))); (case side6 => exact HC1.out); rintro e w17 ⟨rfl, hb⟩; refine ⟨_, rfl, ?_⟩; replace BK330 := Aside0.mk (blk_below (g := gb330) (o := .cells #[.slice A0_0 l0_0.length c0_0, .slice A0_1 l0_1.length c0_1] 25 (0, 0)) (by (with_reducible repeat (first | refine blk_drewN ?_ _ | refine blk_drew ?_ | refine blk_alloc ?_ _)); exact BK330.out) hb); replace HB := Aside0.mk (below_step (by repeat (first | (with_reducible first | exact HB.out | apply below_alloc | apply pw_below_drewN | apply below_drew1 | refine below_set ?_ GE330.out) | exact HB.out)) hb); (try clear hb)))
   go_meet
   case rel => exact ⟨_, (true), (by first | rfl | (simp; done) | (simp [*]; done)), H', ⟨by first | omega | exact Nat.le_refl _⟩, ⟨by (with_reducible repeat (first | refine blk_drewN ?_ _ | refine blk_drew ?_ | refine blk_alloc ?_ _)); exact BK330.out⟩, ⟨by repeat (first | (with_reducible first | exact HB.out | apply below_alloc | apply pw_below_drewN | apply below_drew1 | refine below_set ?_ GE330.out) | exact HB.out)⟩⟩
  subst c10
  have H1 : ((stillagelaw08_outside.f l0_0 l0_1 a2).bind fun t333 => (stillagelaw08_RouteFollows.j0 k l1 a2 t333 l0_0 l0_1)) = some r := by rw [if_pos rfl] at H; exact H
  clear H; have H := H1; clear H1
  replace H := Option.bind_eq_some_iff.mp H; obtain ⟨t333, A110, H⟩ := H
  replace H : (stillagelaw08_RouteFollows.j0 k l1 a2 t333 l0_0 l0_1) = some r := H
  have A11 := Aside0.mk A110
  clear A110
  have H' := Aside0.mk H; clear H
  have hcz12_0 : w8.cell? ⟨gb330, 0, none⟩ = some (.slice A0_0 l0_0.length c0_0) := (blk_cell BK330.out 0).trans rfl
  have hcz12_1 : w8.cell? ⟨gb330, 1, none⟩ = some (.slice A0_1 l0_1.length c0_1) := (blk_cell BK330.out 1).trans rfl
  have hfz12_0 := blk_frozen BK330.out 0
  have hfz12_1 := blk_frozen BK330.out 1
  go_wp2_with (first | ((with_reducible refine gate_callee (f := 23) rfl ?_); refine goesL_ (some 23) rfl rfl Try.func23 (by kernel_rfl) rfl #[.agg #[.slice A0_0 l0_0.length c0_0, .slice A0_1 l0_1.length c0_1], .slice A1 l1.length c1] rfl (by (try simp only [List.map_toArray, List.map_cons, List.map_nil]); first | done | rfl | (simp only [List.length_drop, List.length_take]; rfl)) ?_; (with_reducible refine (stillagelaw07_Fits.calls k _ _ l0_0 _ _ l0_1 _ _ l1 true _ ?side1 ?side2 ?side3 ?side4 ?side5 ?side6 A9.out).mono ?_); (case side1 => repeat (first | exact (Kd.C_below HR0_0.out HB.out) | (with_reducible refine Kd.C_alloc ?_ _) | (with_reducible refine Kd.C_drewN ?_ _) | (with_reducible refine Kd.C_drew ?_))); (case side2 => exact HC0_0.out); (case side3 => repeat (first | exact (Kd.C_below HR0_1.out HB.out) | (with_reducible refine Kd.C_alloc ?_ _) | (with_reducible refine Kd.C_drewN ?_ _) | (with_reducible refine Kd.C_drew ?_))); (case side4 => exact HC0_1.out); (case side5 => repeat (first | exact (Kd.C_below HR1.out HB.out) | (with_reducible refine Kd.C_alloc ?_ _) | (with_reducible refine Kd.C_drewN ?_ _) | (with_reducible refine Kd.C_drew ?_))); (case side6 => exact HC1.out); rintro e w13 ⟨rfl, hb⟩; refine ⟨_, rfl, ?_⟩; replace BK330 := Aside0.mk (blk_below (g := gb330) (o := .cells #[.slice A0_0 l0_0.length c0_0, .slice A0_1 l0_1.length c0_1] 25 (0, 0)) (by (with_reducible repeat (first | refine blk_drewN ?_ _ | refine blk_drew ?_ | refine blk_alloc ?_ _)); exact BK330.out) hb); replace HB := Aside0.mk (below_step (by repeat (first | (with_reducible first | exact HB.out | apply below_alloc | apply pw_below_drewN | apply below_drew1 | refine below_set ?_ GE330.out) | exact HB.out)) hb); (try clear hb); have hcz14_0 : w13.cell? ⟨gb330, 0, none⟩ = some (.slice A0_0 l0_0.length c0_0) := (blk_cell BK330.out 0).trans rfl; have hcz14_1 : w13.cell? ⟨gb330, 1, none⟩ = some (.slice A0_1 l0_1.length c0_1) := (blk_cell BK330.out 1).trans rfl; have hfz14_0 := blk_frozen BK330.out 0; have hfz14_1 := blk_frozen BK330.out 1) | (go_at_call 14; (with_reducible refine (stillagelaw08_outside.calls _ _ l0_0 _ _ l0_1 a2 t333 _ ?side1 ?side2 ?side3 ?side4 A11.out).mono ?_); (case side1 => repeat (first | exact (Kd.C_below HR0_0.out HB.out) | (with_reducible refine Kd.C_alloc ?_ _) | (with_reducible refine Kd.C_drewN ?_ _) | (with_reducible refine Kd.C_drew ?_))); (case side2 => exact HC0_0.out); (case side3 => repeat (first | exact (Kd.C_below HR0_1.out HB.out) | (with_reducible refine Kd.C_alloc ?_ _) | (with_reducible refine Kd.C_drewN ?_ _) | (with_reducible refine Kd.C_drew ?_))); (case side4 => exact HC0_1.out); rintro e w15 ⟨rfl, hb⟩; replace BK330 := Aside0.mk (blk_below (g := gb330) (o := .cells #[.slice A0_0 l0_0.length c0_0, .slice A0_1 l0_1.length c0_1] 25 (0, 0)) (by (with_reducible repeat (first | refine blk_drewN ?_ _ | refine blk_drew ?_ | refine blk_alloc ?_ _)); exact BK330.out) hb); replace HB := Aside0.mk (below_step (by repeat (first | (with_reducible first | exact HB.out | apply below_alloc | apply pw_below_drewN | apply below_drew1 | refine below_set ?_ GE330.out) | exact HB.out)) hb); (try clear hb)))
  go_meet
  case rel => exact ⟨_, (t333), (by first | rfl | (simp; done) | (simp [*]; done)), H', ⟨by first | omega | exact Nat.le_refl _⟩, ⟨by (with_reducible repeat (first | refine blk_drewN ?_ _ | refine blk_drew ?_ | refine blk_alloc ?_ _)); exact BK330.out⟩, ⟨by repeat (first | (with_reducible first | exact HB.out | apply below_alloc | apply pw_below_drewN | apply below_drew1 | refine below_set ?_ GE330.out) | exact HB.out)⟩⟩
 case rest =>
  clear HC6
  obtain ⟨kq, x29_5, rfl, HA, HJ5, BK330, HB⟩ := hcut
  cases kq with
  | zero => exact absurd HA.out (by simp [stillagelaw08_RouteFollows.j0])
  | succ kj5 =>
   have H := HA.out
   clear HA
   simp only [stillagelaw08_RouteFollows.j0] at H
   by_cases c18 : x29_5 = true
   ·subst c18
    have H1 : (some true) = some r := by rw [if_pos rfl] at H; exact H
    clear H; have H := H1; clear H1
    obtain rfl := Option.some.inj H
    go_wp2
    go_ret
    exact ⟨by first | rfl | (simp [errW_none, errW_some] <;> rfl) | (simp [*, errW_none, errW_some] <;> rfl), by repeat (first | (with_reducible first | exact HB.out | apply below_alloc | apply pw_below_drewN | apply below_drew1 | refine below_set ?_ GE330.out) | exact HB.out)⟩
   replace c18 := Bool.eq_false_iff.mpr c18
   subst c18
   have H1 : ((route_Table.f kj5 l0_0 l0_1 l1 a2).bind fun bt334 => (if bt334.2 = 0 then (stillagelaw08_RouteFollows.j1 kj5 l1 a2 bt334.1 ((bt334.1.length : Int) != (l0_0.length : Int)) l0_0 l0_1) else (stillagelaw08_RouteFollows.j1 kj5 l1 a2 bt334.1 true l0_0 l0_1))) = some r := by rw [if_neg (show ¬ (false = true) by decide)] at H; exact H
   clear H; have H := H1; clear H1
   replace H := Option.bind_eq_some_iff.mp H; obtain ⟨⟨t334, t337⟩, A190, H⟩ := H
   replace H : (if t337 = 0 then (stillagelaw08_RouteFollows.j1 kj5 l1 a2 t334 ((t334.length : Int) != (l0_0.length : Int)) l0_0 l0_1) else (stillagelaw08_RouteFollows.j1 kj5 l1 a2 t334 true l0_0 l0_1)) = some r := H
   have A19 := Aside0.mk A190
   clear A190
   have HC20 := Aside0.mk H
   clear H
   have hcz21_0 : wc.cell? ⟨gb330, 0, none⟩ = some (.slice A0_0 l0_0.length c0_0) := (blk_cell BK330.out 0).trans rfl
   have hcz21_1 : wc.cell? ⟨gb330, 1, none⟩ = some (.slice A0_1 l0_1.length c0_1) := (blk_cell BK330.out 1).trans rfl
   have hfz21_0 := blk_frozen BK330.out 0
   have hfz21_1 := blk_frozen BK330.out 1
   go_upto_region 6 with (first | ((with_reducible refine gate_callee (f := 13) rfl ?_); refine goesL_ (some 34) rfl rfl Try.func13 (by kernel_rfl) rfl #[.agg #[.slice A0_0 l0_0.length c0_0, .slice A0_1 l0_1.length c0_1], .slice A1 l1.length c1, .int .i64 a2] rfl (by (try simp only [List.map_toArray, List.map_cons, List.map_nil]); first | done | rfl | (simp only [List.length_drop, List.length_take]; rfl)) ?_; (with_reducible refine (route_Table.calls kj5 _ _ l0_0 _ _ l0_1 _ _ l1 a2 t334 t337 _ ?side1 ?side2 ?side3 ?side4 ?side5 ?side6 A19.out).mono ?_); (case side1 => repeat (first | exact (Kd.C_below HR0_0.out HB.out) | (with_reducible refine Kd.C_alloc ?_ _) | (with_reducible refine Kd.C_drewN ?_ _) | (with_reducible refine Kd.C_drew ?_))); (case side2 => exact HC0_0.out); (case side3 => repeat (first | exact (Kd.C_below HR0_1.out HB.out) | (with_reducible refine Kd.C_alloc ?_ _) | (with_reducible refine Kd.C_drewN ?_ _) | (with_reducible refine Kd.C_drew ?_))); (case side4 => exact HC0_1.out); (case side5 => repeat (first | exact (Kd.C_below HR1.out HB.out) | (with_reducible refine Kd.C_alloc ?_ _) | (with_reducible refine Kd.C_drewN ?_ _) | (with_reducible refine Kd.C_drew ?_))); (case side6 => exact HC1.out); rintro e w22 ⟨v335, rfl, ho0, hb⟩; refine ⟨_, rfl, ?_⟩; have HO336 := Aside0.mk (Kd.R_lower ho0 (below_size (by repeat (first | (with_reducible first | exact HB.out | apply below_alloc | apply pw_below_drewN | apply below_drew1 | refine below_set ?_ GE330.out) | exact HB.out)))); replace BK330 := Aside0.mk (blk_below (g := gb330) (o := .cells #[.slice A0_0 l0_0.length c0_0, .slice A0_1 l0_1.length c0_1] 25 (0, 0)) (by (with_reducible repeat (first | refine blk_drewN ?_ _ | refine blk_drew ?_ | refine blk_alloc ?_ _)); exact BK330.out) hb); replace HB := Aside0.mk (below_step (by repeat (first | (with_reducible first | exact HB.out | apply below_alloc | apply pw_below_drewN | apply below_drew1 | refine below_set ?_ GE330.out) | exact HB.out)) hb); (try clear hb); (try clear ho0)))
   (try simp only [Act.put, List.setIfInBounds_toArray, List.set_cons_zero, List.set_cons_succ])
   go_cut [46] (fun v46 wc => ∃ (kq : Nat) (x46_19 : Bool), v46 = .bool x46_19 ∧ Aside0 (stillagelaw08_RouteFollows.j1 kq l1 a2 t334 x46_19 l0_0 l0_1 = some r) ∧ Aside0 (kq ≤ kj5) ∧ Aside0 (Kd.R (Kd.int .i64) 3 wc w.heap.size (fun _ => True) v335 t334) ∧ Aside0 (wc.heap[gb330]? = some (.cells #[(.slice A0_0 l0_0.length c0_0), (.slice A0_1 l0_1.length c0_1)] 25 (0, 0))) ∧ Aside0 (Below w.heap.size w wc))
   case first =>
    have H := HC20.out
    clear HC20
    by_cases c23 : t337 = 0
    rotate_left
    ·rw [if_neg c23] at H
     have c23b0 : (t337 == 0) = false := beq_eq_false_iff_ne.mpr c23
     have c23b1 : (t337 != 0) = true := bne_iff_ne.mpr c23
     (first | rw [c23b0] | (simp only [i64_w, i32_w]; rw [c23b0]) | skip)
     have H' := Aside0.mk H; clear H
     go_wp2
     go_meet
     case rel => exact ⟨_, (true), (by first | rfl | (simp; done) | (simp [*]; done)), H', ⟨by have := HJ5.out; first | omega | exact Nat.le_refl _⟩, ⟨by (with_reducible repeat (first | apply Kd.R_alloc | apply Kd.R_drewN | apply Kd.R_drew)); exact HO336.out⟩, ⟨by (with_reducible repeat (first | refine blk_drewN ?_ _ | refine blk_drew ?_ | refine blk_alloc ?_ _)); exact BK330.out⟩, ⟨by repeat (first | (with_reducible first | exact HB.out | apply below_alloc | apply pw_below_drewN | apply below_drew1 | refine below_set ?_ GE330.out) | exact HB.out)⟩⟩
    rw [if_pos c23] at H
    have c23b0 : (t337 == 0) = true := beq_iff_eq.mpr c23
    have c23b1 : (t337 != 0) = false := bne_eq_false_iff_eq.mpr c23
    clear c23
    (first | rw [c23b0] | (simp only [i64_w, i32_w]; rw [c23b0]) | skip)
    have H' := Aside0.mk H; clear H
    obtain ⟨Ao24, co24, eo24⟩ := Kd.R_slice HO336.out
    subst eo24
    have hcz25_0 : w22.cell? ⟨gb330, 0, none⟩ = some (.slice A0_0 l0_0.length c0_0) := (blk_cell BK330.out 0).trans rfl
    have hcz25_1 : w22.cell? ⟨gb330, 1, none⟩ = some (.slice A0_1 l0_1.length c0_1) := (blk_cell BK330.out 1).trans rfl
    have hfz25_0 := blk_frozen BK330.out 0
    have hfz25_1 := blk_frozen BK330.out 1
    go_wp2
    go_meet
    case rel => exact ⟨_, (((t334.length : Int) != (l0_0.length : Int))), (by first | rfl | (simp; done) | (simp [*]; done)), H', ⟨by have := HJ5.out; first | omega | exact Nat.le_refl _⟩, ⟨by (with_reducible repeat (first | apply Kd.R_alloc | apply Kd.R_drewN | apply Kd.R_drew)); exact HO336.out⟩, ⟨by (with_reducible repeat (first | refine blk_drewN ?_ _ | refine blk_drew ?_ | refine blk_alloc ?_ _)); exact BK330.out⟩, ⟨by repeat (first | (with_reducible first | exact HB.out | apply below_alloc | apply pw_below_drewN | apply below_drew1 | refine below_set ?_ GE330.out) | exact HB.out)⟩⟩
   case rest =>
    clear HC20
    obtain ⟨kq, x46_19, rfl, HA, HJ19, HO_7, BK330, HB⟩ := hcut
    cases kq with
    | zero => exact absurd HA.out (by simp [stillagelaw08_RouteFollows.j1])
    | succ kj19 =>
     have H := HA.out
     clear HA
     simp only [stillagelaw08_RouteFollows.j1] at H
     by_cases c26 : x46_19 = true
     ·subst c26
      have H1 : (some false) = some r := by rw [if_pos rfl] at H; exact H
      clear H; have H := H1; clear H1
      obtain rfl := Option.some.inj H
      go_wp2
      go_ret
      exact ⟨by first | rfl | (simp [errW_none, errW_some] <;> rfl) | (simp [*, errW_none, errW_some] <;> rfl), by repeat (first | (with_reducible first | exact HB.out | apply below_alloc | apply pw_below_drewN | apply below_drew1 | refine below_set ?_ GE330.out) | exact HB.out)⟩
     replace c26 := Bool.eq_false_iff.mpr c26
     subst c26
     have H1 : (stillagelaw08_RouteFollows.l0 kj19 l1 a2 t334 (l0_0.length : Int) 0 l0_0 l0_1) = some r := by rw [if_neg (show ¬ (false = true) by decide)] at H; exact H
     clear H; have H := H1; clear H1
     have H' := Aside0.mk H; clear H
     have hcz27_0 : wc.cell? ⟨gb330, 0, none⟩ = some (.slice A0_0 l0_0.length c0_0) := (blk_cell BK330.out 0).trans rfl
     have hcz27_1 : wc.cell? ⟨gb330, 1, none⟩ = some (.slice A0_1 l0_1.length c0_1) := (blk_cell BK330.out 1).trans rfl
     have hfz27_0 := blk_frozen BK330.out 0
     have hfz27_1 := blk_frozen BK330.out 1
     go_wp2
     go_loopg [50] kj19 (fun kq v50 w' => ∃ (x50_3 : Int), v50 = .int .i64 x50_3 ∧ Aside0 (stillagelaw08_RouteFollows.l0 kq l1 a2 t334 (l0_0.length : Int) x50_3 l0_0 l0_1 = some r) ∧ Aside0 (kq ≤ kj19) ∧ Aside0 (Kd.R (Kd.int .i64) 3 w' w.heap.size (fun _ => True) v335 t334) ∧ Aside0 (w'.heap[gb330]? = some (.cells #[(.slice A0_0 l0_0.length c0_0), (.slice A0_1 l0_1.length c0_1)] 25 (0, 0))) ∧ Aside0 (Below w.heap.size w w'))
     case atStart => exact ⟨(0), (by first | rfl | (simp; done) | (simp [*]; done)), H', ⟨Nat.le_refl _⟩, ⟨by (with_reducible repeat (first | apply Kd.R_alloc | apply Kd.R_drewN | apply Kd.R_drew)); exact HO_7.out⟩, ⟨by (with_reducible repeat (first | refine blk_drewN ?_ _ | refine blk_drew ?_ | refine blk_alloc ?_ _)); exact BK330.out⟩, ⟨by repeat (first | (with_reducible first | exact HB.out | apply below_alloc | apply pw_below_drewN | apply below_drew1 | refine below_set ?_ GE330.out) | exact HB.out)⟩⟩
     case round =>
      clear H'
      obtain ⟨x50_3, rfl, HA, HK3, HO_7, BK330, HB⟩ := hrel
      cases gk with
      | zero => exact absurd HA.out (by simp [stillagelaw08_RouteFollows.l0])
      | succ k3 =>
       have H := HA.out
       clear HA
       simp only [stillagelaw08_RouteFollows.l0] at H
       by_cases c28 : x50_3 < (l0_0.length : Int)
       rotate_left
       ·rw [if_neg c28] at H
        have c28b0 : decide (x50_3 < (l0_0.length : Int)) = false := decide_eq_false c28
        clear c28
        by_cases c85 : 0 ≤ a2
        rotate_left; ·rw [if_neg c85] at H; exact absurd H (by simp)
        rw [if_pos c85] at H
        have c85b0 : decide (0 ≤ a2) = true := decide_eq_true c85
        clear c85
        by_cases c86 : a2 < (t334.length : Int)
        rotate_left; ·rw [if_neg c86] at H; exact absurd H (by simp)
        rw [if_pos c86] at H
        have c86b0 : decide (a2 < (t334.length : Int)) = true := decide_eq_true c86
        clear c86
        obtain rfl := Option.some.inj H
        obtain ⟨Ao87, co87, eo87⟩ := Kd.R_slice HO_7.out
        subst eo87
        have p338 : 0 ≤ (a2 : Int) := of_decide_eq_true (by first | (with_reducible assumption) | assumption)
        have q338 : a2 < (t334.length : Int) := of_decide_eq_true (by first | (with_reducible assumption) | assumption)
        obtain ⟨ad338, e338, hx338_0⟩ := Kd.at_int (Kd.R_reads' HO_7.out).2.2 a2 p338 q338
        cases e338
        replace p338 := eq_true p338
        replace q338 := eq_true q338
        go_wp2
        go_ret
        exact ⟨by first | rfl | (simp [errW_none, errW_some] <;> rfl) | (simp [*, errW_none, errW_some] <;> rfl), by repeat (first | (with_reducible first | exact HB.out | apply below_alloc | apply pw_below_drewN | apply below_drew1 | refine below_set ?_ GE330.out) | exact HB.out)⟩
       rw [if_pos c28] at H
       have c28b0 : decide (x50_3 < (l0_0.length : Int)) = true := decide_eq_true c28
       clear c28
       replace H := Option.bind_eq_some_iff.mp H; obtain ⟨⟨t339, t342⟩, A290, H⟩ := H
       replace H : ((route_Path.f k3 l0_0 l0_1 l1 x50_3 a2).bind fun bt343 => (if t342 = 0 then (if (t339.length : Int) = (t334.length : Int) then (if 0 ≤ a2 then (if a2 < (t339.length : Int) then (if ((bt343.2 == 0) != (decide ((rd t339 a2) ≥ 0))) = true then (stillagelaw08_RouteFollows.j3 k3 l1 a2 t334 x50_3 bt343.1 bt343.2 (l0_0.length : Int) x50_3 true l0_0 l0_1) else (stillagelaw08_RouteFollows.j3 k3 l1 a2 t334 x50_3 bt343.1 bt343.2 (l0_0.length : Int) x50_3 ((bt343.1.length : Int) != (mx (rd t339 a2) 0)) l0_0 l0_1)) else (none)) else (none)) else (stillagelaw08_RouteFollows.j3 k3 l1 a2 t334 x50_3 bt343.1 bt343.2 (l0_0.length : Int) x50_3 true l0_0 l0_1)) else (stillagelaw08_RouteFollows.j3 k3 l1 a2 t334 x50_3 bt343.1 bt343.2 (l0_0.length : Int) x50_3 true l0_0 l0_1))) = some r := H
       have A29 := Aside0.mk A290
       clear A290
       replace H := Option.bind_eq_some_iff.mp H; obtain ⟨⟨t343, t346⟩, A300, H⟩ := H
       replace H : (if t342 = 0 then (if (t339.length : Int) = (t334.length : Int) then (if 0 ≤ a2 then (if a2 < (t339.length : Int) then (if ((t346 == 0) != (decide ((rd t339 a2) ≥ 0))) = true then (stillagelaw08_RouteFollows.j3 k3 l1 a2 t334 x50_3 t343 t346 (l0_0.length : Int) x50_3 true l0_0 l0_1) else (stillagelaw08_RouteFollows.j3 k3 l1 a2 t334 x50_3 t343 t346 (l0_0.length : Int) x50_3 ((t343.length : Int) != (mx (rd t339 a2) 0)) l0_0 l0_1)) else (none)) else (none)) else (stillagelaw08_RouteFollows.j3 k3 l1 a2 t334 x50_3 t343 t346 (l0_0.length : Int) x50_3 true l0_0 l0_1)) else (stillagelaw08_RouteFollows.j3 k3 l1 a2 t334 x50_3 t343 t346 (l0_0.length : Int) x50_3 true l0_0 l0_1)) = some r := H
       have A30 := Aside0.mk A300
       clear A300
       have HC31 := Aside0.mk H
       clear H
       have hcz32_0 : wr.cell? ⟨gb330, 0, none⟩ = some (.slice A0_0 l0_0.length c0_0) := (blk_cell BK330.out 0).trans rfl
       have hcz32_1 : wr.cell? ⟨gb330, 1, none⟩ = some (.slice A0_1 l0_1.length c0_1) := (blk_cell BK330.out 1).trans rfl
       have hfz32_0 := blk_frozen BK330.out 0
       have hfz32_1 := blk_frozen BK330.out 1
       go_upto_region 13 with (first | ((with_reducible refine gate_callee (f := 24) rfl ?_); refine goesL_ (some 57) rfl rfl Try.func24 (by kernel_rfl) rfl #[.agg #[.slice A0_0 l0_0.length c0_0, .slice A0_1 l0_1.length c0_1], .slice A1 l1.length c1, .int .i64 x50_3] rfl (by (try simp only [List.map_toArray, List.map_cons, List.map_nil]); first | done | rfl | (simp only [List.length_drop, List.length_take]; rfl)) ?_; (with_reducible refine (reach_From.calls k3 _ _ l0_0 _ _ l0_1 _ _ l1 x50_3 t339 t342 _ ?side1 ?side2 ?side3 ?side4 ?side5 ?side6 A29.out).mono ?_); (case side1 => repeat (first | exact (Kd.C_below HR0_0.out HB.out) | (with_reducible refine Kd.C_alloc ?_ _) | (with_reducible refine Kd.C_drewN ?_ _) | (with_reducible refine Kd.C_drew ?_))); (case side2 => exact HC0_0.out); (case side3 => repeat (first | exact (Kd.C_below HR0_1.out HB.out) | (with_reducible refine Kd.C_alloc ?_ _) | (with_reducible refine Kd.C_drewN ?_ _) | (with_reducible refine Kd.C_drew ?_))); (case side4 => exact HC0_1.out); (case side5 => repeat (first | exact (Kd.C_below HR1.out HB.out) | (with_reducible refine Kd.C_alloc ?_ _) | (with_reducible refine Kd.C_drewN ?_ _) | (with_reducible refine Kd.C_drew ?_))); (case side6 => exact HC1.out); rintro e w33 ⟨v340, rfl, ho0, hb⟩; refine ⟨_, rfl, ?_⟩; have HO341 := Aside0.mk (Kd.R_lower (Kd.R_new' ho0 (Kd.R_lt (by (with_reducible repeat (first | apply Kd.R_alloc | apply Kd.R_drewN | apply Kd.R_drew)); exact HO_7.out))) (below_size (by repeat (first | (with_reducible first | exact HB.out | apply below_alloc | apply pw_below_drewN | apply below_drew1 | refine below_set ?_ GE330.out) | exact HB.out)))); replace HO_7 := Aside0.mk (Kd.R_elder' (by (with_reducible repeat (first | apply Kd.R_alloc | apply Kd.R_drewN | apply Kd.R_drew)); exact HO_7.out) (Kd.R_base ho0) hb); replace BK330 := Aside0.mk (blk_below (g := gb330) (o := .cells #[.slice A0_0 l0_0.length c0_0, .slice A0_1 l0_1.length c0_1] 25 (0, 0)) (by (with_reducible repeat (first | refine blk_drewN ?_ _ | refine blk_drew ?_ | refine blk_alloc ?_ _)); exact BK330.out) hb); replace HB := Aside0.mk (below_step (by repeat (first | (with_reducible first | exact HB.out | apply below_alloc | apply pw_below_drewN | apply below_drew1 | refine below_set ?_ GE330.out) | exact HB.out)) hb); (try clear hb); (try clear ho0); have hcz34_0 : w33.cell? ⟨gb330, 0, none⟩ = some (.slice A0_0 l0_0.length c0_0) := (blk_cell BK330.out 0).trans rfl; have hcz34_1 : w33.cell? ⟨gb330, 1, none⟩ = some (.slice A0_1 l0_1.length c0_1) := (blk_cell BK330.out 1).trans rfl; have hfz34_0 := blk_frozen BK330.out 0; have hfz34_1 := blk_frozen BK330.out 1) | ((with_reducible refine gate_callee (f := 18) rfl ?_); refine goesL_ (some 65) rfl rfl Try.func18 (by kernel_rfl) rfl #[.agg #[.slice A0_0 l0_0.length c0_0, .slice A0_1 l0_1.length c0_1], .slice A1 l1.length c1, .int .i64 x50_3, .int .i64 a2] rfl (by (try simp only [List.map_toArray, List.map_cons, List.map_nil]); first | done | rfl | (simp only [List.length_drop, List.length_take]; rfl)) ?_; (with_reducible refine (route_Path.calls k3 _ _ l0_0 _ _ l0_1 _ _ l1 x50_3 a2 t343 t346 _ ?side1 ?side2 ?side3 ?side4 ?side5 ?side6 A30.out).mono ?_); (case side1 => repeat (first | exact (Kd.C_below HR0_0.out HB.out) | (with_reducible refine Kd.C_alloc ?_ _) | (with_reducible refine Kd.C_drewN ?_ _) | (with_reducible refine Kd.C_drew ?_))); (case side2 => exact HC0_0.out); (case side3 => repeat (first | exact (Kd.C_below HR0_1.out HB.out) | (with_reducible refine Kd.C_alloc ?_ _) | (with_reducible refine Kd.C_drewN ?_ _) | (with_reducible refine Kd.C_drew ?_))); (case side4 => exact HC0_1.out); (case side5 => repeat (first | exact (Kd.C_below HR1.out HB.out) | (with_reducible refine Kd.C_alloc ?_ _) | (with_reducible refine Kd.C_drewN ?_ _) | (with_reducible refine Kd.C_drew ?_))); (case side6 => exact HC1.out); rintro e w35 ⟨v344, rfl, ho0, hb⟩; refine ⟨_, rfl, ?_⟩; have HO345 := Aside0.mk (Kd.R_lower (Kd.R_new' (Kd.R_new' ho0 (Kd.R_lt (by (with_reducible repeat (first | apply Kd.R_alloc | apply Kd.R_drewN | apply Kd.R_drew)); exact HO_7.out))) (Kd.R_lt (by (with_reducible repeat (first | apply Kd.R_alloc | apply Kd.R_drewN | apply Kd.R_drew)); exact HO341.out))) (below_size (by repeat (first | (with_reducible first | exact HB.out | apply below_alloc | apply pw_below_drewN | apply below_drew1 | refine below_set ?_ GE330.out) | exact HB.out)))); replace HO_7 := Aside0.mk (Kd.R_elder' (by (with_reducible repeat (first | apply Kd.R_alloc | apply Kd.R_drewN | apply Kd.R_drew)); exact HO_7.out) (Kd.R_base ho0) hb); replace HO341 := Aside0.mk (Kd.R_elder' (by (with_reducible repeat (first | apply Kd.R_alloc | apply Kd.R_drewN | apply Kd.R_drew)); exact HO341.out) (Kd.R_base ho0) hb); replace BK330 := Aside0.mk (blk_below (g := gb330) (o := .cells #[.slice A0_0 l0_0.length c0_0, .slice A0_1 l0_1.length c0_1] 25 (0, 0)) (by (with_reducible repeat (first | refine blk_drewN ?_ _ | refine blk_drew ?_ | refine blk_alloc ?_ _)); exact BK330.out) hb); replace HB := Aside0.mk (below_step (by repeat (first | (with_reducible first | exact HB.out | apply below_alloc | apply pw_below_drewN | apply below_drew1 | refine below_set ?_ GE330.out) | exact HB.out)) hb); (try clear hb); (try clear ho0)))
       (try simp only [Act.put, List.setIfInBounds_toArray, List.set_cons_zero, List.set_cons_succ])
       go_cut [96] (fun v96 wc => ∃ (kq : Nat) (x96_30 : Bool), v96 = .bool x96_30 ∧ Aside0 (stillagelaw08_RouteFollows.j3 kq l1 a2 t334 x50_3 t343 t346 (l0_0.length : Int) x50_3 x96_30 l0_0 l0_1 = some r) ∧ Aside0 (kq ≤ k3) ∧ Aside0 (Kd.R (Kd.int .i64) 3 wc w.heap.size (fun k_ => some k_ ≠ (v344 : Value).ownBlock) v335 t334) ∧ Aside0 (Kd.R (Kd.int .i64) 3 wc w.heap.size (fun k_ => some k_ ≠ (v335 : Value).ownBlock) v344 t343) ∧ Aside0 (wc.heap[gb330]? = some (.cells #[(.slice A0_0 l0_0.length c0_0), (.slice A0_1 l0_1.length c0_1)] 25 (0, 0))) ∧ Aside0 (Below w.heap.size w wc))
       case first =>
        have H := HC31.out
        clear HC31
        by_cases c36 : t342 = 0
        rotate_left
        ·rw [if_neg c36] at H
         have c36b0 : (t342 == 0) = false := beq_eq_false_iff_ne.mpr c36
         have c36b1 : (t342 != 0) = true := bne_iff_ne.mpr c36
         (first | rw [c36b0] | (simp only [i64_w, i32_w]; rw [c36b0]) | skip)
         have H' := Aside0.mk H; clear H
         go_wp2
         go_meet
         case rel => exact ⟨_, (true), (by first | rfl | (simp; done) | (simp [*]; done)), H', ⟨by have := HJ5.out; have := HJ19.out; have := HK3.out; first | omega | exact Nat.le_refl _⟩, ⟨by (with_reducible repeat (first | apply Kd.R_alloc | apply Kd.R_drewN | apply Kd.R_drew)); exact Kd.R_mono HO_7.out (fun _ hk => hk.2)⟩, ⟨by (with_reducible repeat (first | apply Kd.R_alloc | apply Kd.R_drewN | apply Kd.R_drew)); exact Kd.R_mono HO345.out (fun _ hk => hk.1.2)⟩, ⟨by (with_reducible repeat (first | refine blk_drewN ?_ _ | refine blk_drew ?_ | refine blk_alloc ?_ _)); exact BK330.out⟩, ⟨by repeat (first | (with_reducible first | exact HB.out | apply below_alloc | apply pw_below_drewN | apply below_drew1 | refine below_set ?_ GE330.out) | exact HB.out)⟩⟩
        rw [if_pos c36] at H
        have c36b0 : (t342 == 0) = true := beq_iff_eq.mpr c36
        have c36b1 : (t342 != 0) = false := bne_eq_false_iff_eq.mpr c36
        clear c36
        (first | rw [c36b0] | (simp only [i64_w, i32_w]; rw [c36b0]) | skip)
        by_cases c37 : (t339.length : Int) = (t334.length : Int)
        rotate_left
        ·rw [if_neg c37] at H
         have c37b0 : ((t339.length : Int) == (t334.length : Int)) = false := beq_eq_false_iff_ne.mpr c37
         have c37b1 : ((t339.length : Int) != (t334.length : Int)) = true := bne_iff_ne.mpr c37
         have c37b2 : (t339.length == t334.length) = false := by first | simpa using c37 | (simp at c37 ⊢; omega)
         have H' := Aside0.mk H; clear H
         obtain ⟨Ao47, co47, eo47⟩ := Kd.R_slice HO341.out
         subst eo47
         obtain ⟨Ao48, co48, eo48⟩ := Kd.R_slice HO_7.out
         subst eo48
         go_wp2
         go_meet
         case rel => exact ⟨_, (true), (by first | rfl | (simp; done) | (simp [*]; done)), H', ⟨by have := HJ5.out; have := HJ19.out; have := HK3.out; first | omega | exact Nat.le_refl _⟩, ⟨by (with_reducible repeat (first | apply Kd.R_alloc | apply Kd.R_drewN | apply Kd.R_drew)); exact Kd.R_mono HO_7.out (fun _ hk => hk.2)⟩, ⟨by (with_reducible repeat (first | apply Kd.R_alloc | apply Kd.R_drewN | apply Kd.R_drew)); exact Kd.R_mono HO345.out (fun _ hk => hk.1.2)⟩, ⟨by (with_reducible repeat (first | refine blk_drewN ?_ _ | refine blk_drew ?_ | refine blk_alloc ?_ _)); exact BK330.out⟩, ⟨by repeat (first | (with_reducible first | exact HB.out | apply below_alloc | apply pw_below_drewN | apply below_drew1 | refine below_set ?_ GE330.out) | exact HB.out)⟩⟩
        rw [if_pos c37] at H
        have c37b0 : ((t339.length : Int) == (t334.length : Int)) = true := beq_iff_eq.mpr c37
        have c37b1 : ((t339.length : Int) != (t334.length : Int)) = false := bne_eq_false_iff_eq.mpr c37
        have c37b2 : (t339.length == t334.length) = true := by first | simpa using c37 | (simp at c37 ⊢; omega)
        clear c37
        by_cases c38 : 0 ≤ a2
        rotate_left; ·rw [if_neg c38] at H; exact absurd H (by simp)
        rw [if_pos c38] at H
        have c38b0 : decide (0 ≤ a2) = true := decide_eq_true c38
        clear c38
        by_cases c39 : a2 < (t339.length : Int)
        rotate_left; ·rw [if_neg c39] at H; exact absurd H (by simp)
        rw [if_pos c39] at H
        have c39b0 : decide (a2 < (t339.length : Int)) = true := decide_eq_true c39
        clear c39
        by_cases c40 : ((t346 == 0) != (decide ((rd t339 a2) ≥ 0))) = true
        ·rw [if_pos c40] at H
         have c40b0 : ((t346 == 0) != (decide ((rd t339 a2) ≥ 0))) = true := c40
         (try (have c40b1 : decide ((t346 == 0) = (decide ((rd t339 a2) ≥ 0))) = false := by simpa using c40))
         (try (have c40b2 : ((t346 == 0) == (decide ((rd t339 a2) ≥ 0))) = false := by simpa using c40))
         (try (have c40b3 : ¬ ((t346 == 0) = (decide ((rd t339 a2) ≥ 0))) := by simpa using c40))
         clear c40
         have H' := Aside0.mk H; clear H
         obtain ⟨Ao41, co41, eo41⟩ := Kd.R_slice HO341.out
         subst eo41
         obtain ⟨Ao42, co42, eo42⟩ := Kd.R_slice HO_7.out
         subst eo42
         have p347 : 0 ≤ (a2 : Int) := of_decide_eq_true (by first | (with_reducible assumption) | assumption)
         have q347 : a2 < (t339.length : Int) := of_decide_eq_true (by first | (with_reducible assumption) | assumption)
         obtain ⟨ad347, e347, hx347_0⟩ := Kd.at_int (Kd.R_reads' HO341.out).2.2 a2 p347 q347
         cases e347
         replace p347 := eq_true p347
         replace q347 := eq_true q347
         go_wp2
         go_meet
         case rel => exact ⟨_, (true), (by first | rfl | (simp; done) | (simp [*]; done)), H', ⟨by have := HJ5.out; have := HJ19.out; have := HK3.out; first | omega | exact Nat.le_refl _⟩, ⟨by (with_reducible repeat (first | apply Kd.R_alloc | apply Kd.R_drewN | apply Kd.R_drew)); exact Kd.R_mono HO_7.out (fun _ hk => hk.2)⟩, ⟨by (with_reducible repeat (first | apply Kd.R_alloc | apply Kd.R_drewN | apply Kd.R_drew)); exact Kd.R_mono HO345.out (fun _ hk => hk.1.2)⟩, ⟨by (with_reducible repeat (first | refine blk_drewN ?_ _ | refine blk_drew ?_ | refine blk_alloc ?_ _)); exact BK330.out⟩, ⟨by repeat (first | (with_reducible first | exact HB.out | apply below_alloc | apply pw_below_drewN | apply below_drew1 | refine below_set ?_ GE330.out) | exact HB.out)⟩⟩
        rw [if_neg c40] at H
        have c40b0 : ((t346 == 0) != (decide ((rd t339 a2) ≥ 0))) = false := by simpa using c40
        (try (have c40b1 : decide ((t346 == 0) = (decide ((rd t339 a2) ≥ 0))) = true := by simpa using c40))
        (try (have c40b2 : ((t346 == 0) == (decide ((rd t339 a2) ≥ 0))) = true := by simpa using c40))
        clear c40
        obtain ⟨ji43, hji43⟩ : ∃ j_ : Int, (mx (rd t339 a2) 0) = j_ := ⟨_, rfl⟩
        replace H : (stillagelaw08_RouteFollows.j3 k3 l1 a2 t334 x50_3 t343 t346 (l0_0.length : Int) x50_3 ((t343.length : Int) != (ji43)) l0_0 l0_1) = some r := by first | (rw [hji43] at H; exact H) | (simp only [hji43] at H ⊢; exact H)
        have hji43_ : (if (rd t339 a2) < 0 then 0 else (rd t339 a2)) = ji43 := hji43
        have H' := Aside0.mk H; clear H
        obtain ⟨Ao44, co44, eo44⟩ := Kd.R_slice HO341.out
        subst eo44
        obtain ⟨Ao45, co45, eo45⟩ := Kd.R_slice HO_7.out
        subst eo45
        have p347 : 0 ≤ (a2 : Int) := of_decide_eq_true (by first | (with_reducible assumption) | assumption)
        have q347 : a2 < (t339.length : Int) := of_decide_eq_true (by first | (with_reducible assumption) | assumption)
        obtain ⟨ad347, e347, hx347_0⟩ := Kd.at_int (Kd.R_reads' HO341.out).2.2 a2 p347 q347
        cases e347
        replace p347 := eq_true p347
        replace q347 := eq_true q347
        obtain ⟨Ao46, co46, eo46⟩ := Kd.R_slice HO345.out
        subst eo46
        have p348 : 0 ≤ (a2 : Int) := of_decide_eq_true (by first | (with_reducible assumption) | assumption)
        have q348 : a2 < (t339.length : Int) := of_decide_eq_true (by first | (with_reducible assumption) | assumption)
        obtain ⟨ad348, e348, hx348_0⟩ := Kd.at_int (Kd.R_reads' HO341.out).2.2 a2 p348 q348
        obtain rfl : ad347 = ad348 := (by injection e348)
        replace p348 := eq_true p348
        replace q348 := eq_true q348
        go_wp2
        go_meet
        case rel => exact ⟨_, (((t343.length : Int) != (ji43))), (by first | rfl | (simp; done) | (simp only [← hji43] <;> (first | rfl | simp)) | (simp [*]; done)), H', ⟨by have := HJ5.out; have := HJ19.out; have := HK3.out; first | omega | exact Nat.le_refl _⟩, ⟨by (with_reducible repeat (first | apply Kd.R_alloc | apply Kd.R_drewN | apply Kd.R_drew)); exact Kd.R_mono HO_7.out (fun _ hk => hk.2)⟩, ⟨by (with_reducible repeat (first | apply Kd.R_alloc | apply Kd.R_drewN | apply Kd.R_drew)); exact Kd.R_mono HO345.out (fun _ hk => hk.1.2)⟩, ⟨by (with_reducible repeat (first | refine blk_drewN ?_ _ | refine blk_drew ?_ | refine blk_alloc ?_ _)); exact BK330.out⟩, ⟨by repeat (first | (with_reducible first | exact HB.out | apply below_alloc | apply pw_below_drewN | apply below_drew1 | refine below_set ?_ GE330.out) | exact HB.out)⟩⟩
       case rest =>
        clear HC31
        obtain ⟨kq, x96_30, rfl, HA, HJ30, HO_7, HO_12, BK330, HB⟩ := hcut
        cases kq with
        | zero => exact absurd HA.out (by simp [stillagelaw08_RouteFollows.j3])
        | succ kj30 =>
         have H := HA.out
         clear HA
         simp only [stillagelaw08_RouteFollows.j3] at H
         by_cases c49 : x96_30 = true
         ·subst c49
          have H1 : (some false) = some r := by rw [if_pos rfl] at H; exact H
          clear H; have H := H1; clear H1
          obtain rfl := Option.some.inj H
          go_wp2
          go_ret
          exact ⟨by first | rfl | (simp [errW_none, errW_some] <;> rfl) | (simp [*, errW_none, errW_some] <;> rfl), by repeat (first | (with_reducible first | exact HB.out | apply below_alloc | apply pw_below_drewN | apply below_drew1 | refine below_set ?_ GE330.out) | exact HB.out)⟩
         replace c49 := Bool.eq_false_iff.mpr c49
         subst c49
         have H1 : (stillagelaw08_RouteFollows.l1 kj30 l1 a2 t334 t343 t346 x50_3 0 (l0_0.length : Int) x50_3 l0_0 l0_1) = some r := by rw [if_neg (show ¬ (false = true) by decide)] at H; exact H
         clear H; have H := H1; clear H1
         have H' := Aside0.mk H; clear H
         go_wp2
         go_loopg [14, 15] kj30 (fun kq v14 v15 w' => ∃ (x14_5 : Int) (x15_5 : Int), v14 = .int .i64 x14_5 ∧ v15 = .int .i64 x15_5 ∧ Aside0 (stillagelaw08_RouteFollows.l1 kq l1 a2 t334 t343 t346 x14_5 x15_5 (l0_0.length : Int) x50_3 l0_0 l0_1 = some r) ∧ Aside0 (kq ≤ kj30) ∧ Aside0 (Kd.R (Kd.int .i64) 3 w' w.heap.size (fun k_ => some k_ ≠ (v344 : Value).ownBlock) v335 t334) ∧ Aside0 (Kd.R (Kd.int .i64) 3 w' w.heap.size (fun k_ => some k_ ≠ (v335 : Value).ownBlock) v344 t343) ∧ Aside0 (w'.heap[gb330]? = some (.cells #[(.slice A0_0 l0_0.length c0_0), (.slice A0_1 l0_1.length c0_1)] 25 (0, 0))) ∧ Aside0 (Below w.heap.size w w'))
         case atStart => exact ⟨(x50_3), (0), (by first | rfl | (simp; done) | (simp [*]; done)), (by first | rfl | (simp; done) | (simp [*]; done)), H', ⟨Nat.le_refl _⟩, ⟨by (with_reducible repeat (first | apply Kd.R_alloc | apply Kd.R_drewN | apply Kd.R_drew)); exact HO_7.out⟩, ⟨by (with_reducible repeat (first | apply Kd.R_alloc | apply Kd.R_drewN | apply Kd.R_drew)); exact HO_12.out⟩, ⟨by (with_reducible repeat (first | refine blk_drewN ?_ _ | refine blk_drew ?_ | refine blk_alloc ?_ _)); exact BK330.out⟩, ⟨by repeat (first | (with_reducible first | exact HB.out | apply below_alloc | apply pw_below_drewN | apply below_drew1 | refine below_set ?_ GE330.out) | exact HB.out)⟩⟩
         case round =>
          clear H'
          obtain ⟨x14_5, x15_5, rfl, rfl, HA, HK5, HO_7, HO_12, BK330, HB⟩ := hrel
          cases gk with
          | zero => exact absurd HA.out (by simp [stillagelaw08_RouteFollows.l1])
          | succ k5 =>
           have H := HA.out
           clear HA
           simp only [stillagelaw08_RouteFollows.l1] at H
           by_cases c50 : x15_5 < (t343.length : Int)
           rotate_left
           ·rw [if_neg c50] at H
            have c50b0 : decide (x15_5 < (t343.length : Int)) = false := decide_eq_false c50
            clear c50
            by_cases c80 : t346 = 0
            rotate_left
            ·rw [if_neg c80] at H
             have c80b0 : (t346 == 0) = false := beq_eq_false_iff_ne.mpr c80
             have c80b1 : (t346 != 0) = true := bne_iff_ne.mpr c80
             have H' := Aside0.mk H; clear H
             obtain ⟨Ao84, co84, eo84⟩ := Kd.R_slice HO_12.out
             subst eo84
             go_wp2
             go_roundg k5
             case measure => have := HJ5.out; have := HJ19.out; have := HK3.out; have := HJ30.out; have := HK5.out; omega
             case rel => exact ⟨(wrap64 (x50_3 + 1)), (by first | rfl | (simp; done) | (simp [*]; done)), H', ⟨by have := HJ5.out; have := HJ19.out; have := HK3.out; have := HJ30.out; have := HK5.out; omega⟩, ⟨by (with_reducible repeat (first | apply Kd.R_alloc | apply Kd.R_drewN | apply Kd.R_drew)); exact Kd.R_mono HO_7.out (fun _ hk => trivial)⟩, ⟨by (with_reducible repeat (first | refine blk_drewN ?_ _ | refine blk_drew ?_ | refine blk_alloc ?_ _)); exact BK330.out⟩, ⟨by repeat (first | (with_reducible first | exact HB.out | apply below_alloc | apply pw_below_drewN | apply below_drew1 | refine below_set ?_ GE330.out) | exact HB.out)⟩⟩
            rw [if_pos c80] at H
            have c80b0 : (t346 == 0) = true := beq_iff_eq.mpr c80
            have c80b1 : (t346 != 0) = false := bne_eq_false_iff_eq.mpr c80
            clear c80
            by_cases c81 : x14_5 = a2
            rotate_left
            ·rw [if_neg c81] at H
             have c81b0 : (x14_5 == a2) = false := beq_eq_false_iff_ne.mpr c81
             have c81b1 : (x14_5 != a2) = true := bne_iff_ne.mpr c81
             obtain rfl := Option.some.inj H
             obtain ⟨Ao83, co83, eo83⟩ := Kd.R_slice HO_12.out
             subst eo83
             go_wp2
             go_ret
             exact ⟨by first | rfl | (simp [errW_none, errW_some] <;> rfl) | (simp [*, errW_none, errW_some] <;> rfl), by repeat (first | (with_reducible first | exact HB.out | apply below_alloc | apply pw_below_drewN | apply below_drew1 | refine below_set ?_ GE330.out) | exact HB.out)⟩
            rw [if_pos c81] at H
            have c81b0 : (x14_5 == a2) = true := beq_iff_eq.mpr c81
            have c81b1 : (x14_5 != a2) = false := bne_eq_false_iff_eq.mpr c81
            clear c81
            have H' := Aside0.mk H; clear H
            obtain ⟨Ao82, co82, eo82⟩ := Kd.R_slice HO_12.out
            subst eo82
            go_wp2
            go_roundg k5
            case measure => have := HJ5.out; have := HJ19.out; have := HK3.out; have := HJ30.out; have := HK5.out; omega
            case rel => exact ⟨(wrap64 (x50_3 + 1)), (by first | rfl | (simp; done) | (simp [*]; done)), H', ⟨by have := HJ5.out; have := HJ19.out; have := HK3.out; have := HJ30.out; have := HK5.out; omega⟩, ⟨by (with_reducible repeat (first | apply Kd.R_alloc | apply Kd.R_drewN | apply Kd.R_drew)); exact Kd.R_mono HO_7.out (fun _ hk => trivial)⟩, ⟨by (with_reducible repeat (first | refine blk_drewN ?_ _ | refine blk_drew ?_ | refine blk_alloc ?_ _)); exact BK330.out⟩, ⟨by repeat (first | (with_reducible first | exact HB.out | apply below_alloc | apply pw_below_drewN | apply below_drew1 | refine below_set ?_ GE330.out) | exact HB.out)⟩⟩
           rw [if_pos c50] at H
           have c50b0 : decide (x15_5 < (t343.length : Int)) = true := decide_eq_true c50
           clear c50
           by_cases c51 : 0 ≤ x14_5
           rotate_left; ·rw [if_neg c51] at H; exact absurd H (by simp)
           rw [if_pos c51] at H
           have c51b0 : decide (0 ≤ x14_5) = true := decide_eq_true c51
           clear c51
           by_cases c52 : x14_5 < (t334.length : Int)
           rotate_left; ·rw [if_neg c52] at H; exact absurd H (by simp)
           rw [if_pos c52] at H
           have c52b0 : decide (x14_5 < (t334.length : Int)) = true := decide_eq_true c52
           clear c52
           have HC53 := Aside0.mk H
           clear H
           obtain ⟨Ao54, co54, eo54⟩ := Kd.R_slice HO_12.out
           subst eo54
           obtain ⟨Ao55, co55, eo55⟩ := Kd.R_slice HO_7.out
           subst eo55
           have p349 : 0 ≤ (x14_5 : Int) := of_decide_eq_true (by first | (with_reducible assumption) | assumption)
           have q349 : x14_5 < (t334.length : Int) := of_decide_eq_true (by first | (with_reducible assumption) | assumption)
           obtain ⟨ad349, e349, hx349_0⟩ := Kd.at_int (Kd.R_reads' HO_7.out).2.2 x14_5 p349 q349
           cases e349
           replace p349 := eq_true p349
           replace q349 := eq_true q349
           go_upto_region 20 with (fail)
           go_cut [135] (fun v135 wc => ∃ (kq : Nat) (x135_52 : Bool), v135 = .bool x135_52 ∧ Aside0 (stillagelaw08_RouteFollows.j5 kq l1 a2 t334 t343 t346 x15_5 (rd t334 x14_5) (l0_0.length : Int) x50_3 x135_52 l0_0 l0_1 = some r) ∧ Aside0 (kq ≤ k5) ∧ Aside0 (Kd.R (Kd.int .i64) 3 wc w.heap.size (fun k_ => some k_ ≠ ((.slice Ao54 t343.length co54) : Value).ownBlock) (.slice (some ad349) t334.length co55) t334) ∧ Aside0 (Kd.R (Kd.int .i64) 3 wc w.heap.size (fun k_ => some k_ ≠ ((.slice (some ad349) t334.length co55) : Value).ownBlock) (.slice Ao54 t343.length co54) t343) ∧ Aside0 (wc.heap[gb330]? = some (.cells #[(.slice A0_0 l0_0.length c0_0), (.slice A0_1 l0_1.length c0_1)] 25 (0, 0))) ∧ Aside0 (Below w.heap.size w wc))
           case first =>
            have H := HC53.out
            clear HC53
            by_cases c56 : 0 ≤ x15_5
            rotate_left; ·rw [if_neg c56] at H; exact absurd H (by simp)
            rw [if_pos c56] at H
            have c56b0 : decide (0 ≤ x15_5) = true := decide_eq_true c56
            clear c56
            (first | rw [c56b0] | (simp only [i64_w, i32_w]; rw [c56b0]) | skip)
            by_cases c57 : (rd t334 x14_5) = (rd t343 x15_5)
            rotate_left
            ·rw [if_neg c57] at H
             have c57b0 : ((rd t334 x14_5) == (rd t343 x15_5)) = false := beq_eq_false_iff_ne.mpr c57
             have c57b1 : ((rd t334 x14_5) != (rd t343 x15_5)) = true := bne_iff_ne.mpr c57
             have H' := Aside0.mk H; clear H
             have p350 : 0 ≤ (x15_5 : Int) := of_decide_eq_true (by first | (with_reducible assumption) | assumption)
             have q350 : x15_5 < (t343.length : Int) := of_decide_eq_true (by first | (with_reducible assumption) | assumption)
             obtain ⟨ad350, e350, hx350_0⟩ := Kd.at_int (Kd.R_reads' HO_12.out).2.2 x15_5 p350 q350
             cases e350
             replace p350 := eq_true p350
             replace q350 := eq_true q350
             go_wp2
             go_meet
             case rel => exact ⟨_, (true), (by first | rfl | (simp; done) | (simp [*]; done)), H', ⟨by have := HJ5.out; have := HJ19.out; have := HK3.out; have := HJ30.out; have := HK5.out; first | omega | exact Nat.le_refl _⟩, ⟨by (with_reducible repeat (first | apply Kd.R_alloc | apply Kd.R_drewN | apply Kd.R_drew)); exact HO_7.out⟩, ⟨by (with_reducible repeat (first | apply Kd.R_alloc | apply Kd.R_drewN | apply Kd.R_drew)); exact HO_12.out⟩, ⟨by (with_reducible repeat (first | refine blk_drewN ?_ _ | refine blk_drew ?_ | refine blk_alloc ?_ _)); exact BK330.out⟩, ⟨by repeat (first | (with_reducible first | exact HB.out | apply below_alloc | apply pw_below_drewN | apply below_drew1 | refine below_set ?_ GE330.out) | exact HB.out)⟩⟩
            rw [if_pos c57] at H
            have c57b0 : ((rd t334 x14_5) == (rd t343 x15_5)) = true := beq_iff_eq.mpr c57
            have c57b1 : ((rd t334 x14_5) != (rd t343 x15_5)) = false := bne_eq_false_iff_eq.mpr c57
            clear c57
            by_cases c58 : (rd t334 x14_5) < 1
            ·rw [if_pos c58] at H
             have c58b0 : decide ((rd t334 x14_5) < 1) = true := decide_eq_true c58
             clear c58
             have H' := Aside0.mk H; clear H
             have p350 : 0 ≤ (x15_5 : Int) := of_decide_eq_true (by first | (with_reducible assumption) | assumption)
             have q350 : x15_5 < (t343.length : Int) := of_decide_eq_true (by first | (with_reducible assumption) | assumption)
             obtain ⟨ad350, e350, hx350_0⟩ := Kd.at_int (Kd.R_reads' HO_12.out).2.2 x15_5 p350 q350
             cases e350
             replace p350 := eq_true p350
             replace q350 := eq_true q350
             go_wp2
             go_meet
             case rel => exact ⟨_, (true), (by first | rfl | (simp; done) | (simp [*]; done)), H', ⟨by have := HJ5.out; have := HJ19.out; have := HK3.out; have := HJ30.out; have := HK5.out; first | omega | exact Nat.le_refl _⟩, ⟨by (with_reducible repeat (first | apply Kd.R_alloc | apply Kd.R_drewN | apply Kd.R_drew)); exact HO_7.out⟩, ⟨by (with_reducible repeat (first | apply Kd.R_alloc | apply Kd.R_drewN | apply Kd.R_drew)); exact HO_12.out⟩, ⟨by (with_reducible repeat (first | refine blk_drewN ?_ _ | refine blk_drew ?_ | refine blk_alloc ?_ _)); exact BK330.out⟩, ⟨by repeat (first | (with_reducible first | exact HB.out | apply below_alloc | apply pw_below_drewN | apply below_drew1 | refine below_set ?_ GE330.out) | exact HB.out)⟩⟩
            rw [if_neg c58] at H
            have c58b0 : decide ((rd t334 x14_5) < 1) = false := decide_eq_false c58
            clear c58
            by_cases c59 : (rd t334 x14_5) > (l0_1.length : Int)
            ·rw [if_pos c59] at H
             have c59b0 : decide ((l0_1.length : Int) < (rd t334 x14_5)) = true := decide_eq_true c59
             clear c59
             have H' := Aside0.mk H; clear H
             have p350 : 0 ≤ (x15_5 : Int) := of_decide_eq_true (by first | (with_reducible assumption) | assumption)
             have q350 : x15_5 < (t343.length : Int) := of_decide_eq_true (by first | (with_reducible assumption) | assumption)
             obtain ⟨ad350, e350, hx350_0⟩ := Kd.at_int (Kd.R_reads' HO_12.out).2.2 x15_5 p350 q350
             cases e350
             replace p350 := eq_true p350
             replace q350 := eq_true q350
             have hcz60_0 : wr.cell? ⟨gb330, 0, none⟩ = some (.slice A0_0 l0_0.length c0_0) := (blk_cell BK330.out 0).trans rfl
             have hcz60_1 : wr.cell? ⟨gb330, 1, none⟩ = some (.slice A0_1 l0_1.length c0_1) := (blk_cell BK330.out 1).trans rfl
             have hfz60_0 := blk_frozen BK330.out 0
             have hfz60_1 := blk_frozen BK330.out 1
             go_wp2
             go_meet
             case rel => exact ⟨_, (true), (by first | rfl | (simp; done) | (simp [*]; done)), H', ⟨by have := HJ5.out; have := HJ19.out; have := HK3.out; have := HJ30.out; have := HK5.out; first | omega | exact Nat.le_refl _⟩, ⟨by (with_reducible repeat (first | apply Kd.R_alloc | apply Kd.R_drewN | apply Kd.R_drew)); exact HO_7.out⟩, ⟨by (with_reducible repeat (first | apply Kd.R_alloc | apply Kd.R_drewN | apply Kd.R_drew)); exact HO_12.out⟩, ⟨by (with_reducible repeat (first | refine blk_drewN ?_ _ | refine blk_drew ?_ | refine blk_alloc ?_ _)); exact BK330.out⟩, ⟨by repeat (first | (with_reducible first | exact HB.out | apply below_alloc | apply pw_below_drewN | apply below_drew1 | refine below_set ?_ GE330.out) | exact HB.out)⟩⟩
            rw [if_neg c59] at H
            have c59b0 : decide ((l0_1.length : Int) < (rd t334 x14_5)) = false := decide_eq_false c59
            clear c59
            obtain ⟨ji61, hji61⟩ : ∃ j_ : Int, (wrap64 ((rd t334 x14_5) - 1)) = j_ := ⟨_, rfl⟩
            replace H : (if 0 ≤ (ji61) then (if (ji61) < (l0_1.length : Int) then (stillagelaw08_RouteFollows.j5 k5 l1 a2 t334 t343 t346 x15_5 (rd t334 x14_5) (l0_0.length : Int) x50_3 (((rd_T38 l0_1 (ji61)).f0) != x14_5) l0_0 l0_1) else (none)) else (none)) = some r := by first | (rw [hji61] at H; exact H) | (simp only [hji61] at H ⊢; exact H)
            have hji61w : (IntKind.i64.wrap ((rd t334 x14_5) - 1)) = ji61 := (i64_w _).trans hji61
            by_cases c62 : 0 ≤ (ji61)
            rotate_left; ·rw [if_neg c62] at H; exact absurd H (by simp)
            rw [if_pos c62] at H
            have c62b0 : decide (0 ≤ (ji61)) = true := decide_eq_true c62
            clear c62
            by_cases c63 : (ji61) < (l0_1.length : Int)
            rotate_left; ·rw [if_neg c63] at H; exact absurd H (by simp)
            rw [if_pos c63] at H
            have c63b0 : decide ((ji61) < (l0_1.length : Int)) = true := decide_eq_true c63
            clear c63
            have H' := Aside0.mk H; clear H
            have p350 : 0 ≤ (x15_5 : Int) := of_decide_eq_true (by first | (with_reducible assumption) | assumption)
            have q350 : x15_5 < (t343.length : Int) := of_decide_eq_true (by first | (with_reducible assumption) | assumption)
            obtain ⟨ad350, e350, hx350_0⟩ := Kd.at_int (Kd.R_reads' HO_12.out).2.2 x15_5 p350 q350
            cases e350
            replace p350 := eq_true p350
            replace q350 := eq_true q350
            have hcz64_0 : wr.cell? ⟨gb330, 0, none⟩ = some (.slice A0_0 l0_0.length c0_0) := (blk_cell BK330.out 0).trans rfl
            have hcz64_1 : wr.cell? ⟨gb330, 1, none⟩ = some (.slice A0_1 l0_1.length c0_1) := (blk_cell BK330.out 1).trans rfl
            have hfz64_0 := blk_frozen BK330.out 0
            have hfz64_1 := blk_frozen BK330.out 1
            have p351 : 0 ≤ ((ji61) : Int) := of_decide_eq_true (by first | (with_reducible assumption) | assumption)
            have q351 : (ji61) < (l0_1.length : Int) := of_decide_eq_true (by first | (with_reducible assumption) | assumption)
            obtain ⟨ad351, e351, hx351_0, hx351_1⟩ := at_T38 HR0_1.out (ji61) p351 q351
            cases e351
            replace hx351_0 := (HB.out.cell (World.block_lt_of_cell? w _ hx351_0)).trans hx351_0
            replace hx351_1 := (HB.out.cell (World.block_lt_of_cell? w _ hx351_1)).trans hx351_1
            replace p351 := eq_true p351
            replace q351 := eq_true q351
            go_wp2
            go_meet
            case rel => exact ⟨_, ((((rd_T38 l0_1 (ji61)).f0) != x14_5)), (by first | rfl | (simp; done) | (simp only [← hji61] <;> (first | rfl | simp)) | (simp [*]; done)), H', ⟨by have := HJ5.out; have := HJ19.out; have := HK3.out; have := HJ30.out; have := HK5.out; first | omega | exact Nat.le_refl _⟩, ⟨by (with_reducible repeat (first | apply Kd.R_alloc | apply Kd.R_drewN | apply Kd.R_drew)); exact HO_7.out⟩, ⟨by (with_reducible repeat (first | apply Kd.R_alloc | apply Kd.R_drewN | apply Kd.R_drew)); exact HO_12.out⟩, ⟨by (with_reducible repeat (first | refine blk_drewN ?_ _ | refine blk_drew ?_ | refine blk_alloc ?_ _)); exact BK330.out⟩, ⟨by repeat (first | (with_reducible first | exact HB.out | apply below_alloc | apply pw_below_drewN | apply below_drew1 | refine below_set ?_ GE330.out) | exact HB.out)⟩⟩
           case rest =>
            clear HC53
            obtain ⟨kq, x135_52, rfl, HA, HJ52, HO_7, HO_12, BK330, HB⟩ := hcut
            cases kq with
            | zero => exact absurd HA.out (by simp [stillagelaw08_RouteFollows.j5])
            | succ kj52 =>
             have H := HA.out
             clear HA
             simp only [stillagelaw08_RouteFollows.j5] at H
             by_cases c65 : x135_52 = true
             ·subst c65
              have H1 : (some false) = some r := by rw [if_pos rfl] at H; exact H
              clear H; have H := H1; clear H1
              obtain rfl := Option.some.inj H
              go_wp2
              go_ret
              exact ⟨by first | rfl | (simp [errW_none, errW_some] <;> rfl) | (simp [*, errW_none, errW_some] <;> rfl), by repeat (first | (with_reducible first | exact HB.out | apply below_alloc | apply pw_below_drewN | apply below_drew1 | refine below_set ?_ GE330.out) | exact HB.out)⟩
             replace c65 := Bool.eq_false_iff.mpr c65
             subst c65
             have H1 : (stillagelaw08_RouteFollows.l2 kj52 l1 a2 t334 t343 t346 x15_5 (rd t334 x14_5) (l0_0.length : Int) x50_3 l1 (l1.length : Int) 0 l0_0 l0_1) = some r := by rw [if_neg (show ¬ (false = true) by decide)] at H; exact H
             clear H; have H := H1; clear H1
             have H' := Aside0.mk H; clear H
             go_wp2
             go_loopg [138] kj52 (fun kq v138 w' => ∃ (x138_7 : Int), v138 = .int .i64 x138_7 ∧ Aside0 (stillagelaw08_RouteFollows.l2 kq l1 a2 t334 t343 t346 x15_5 (rd t334 x14_5) (l0_0.length : Int) x50_3 l1 (l1.length : Int) x138_7 l0_0 l0_1 = some r) ∧ Aside0 (kq ≤ kj52) ∧ Aside0 (Kd.R (Kd.int .i64) 3 w' w.heap.size (fun k_ => some k_ ≠ ((.slice Ao54 t343.length co54) : Value).ownBlock) (.slice (some ad349) t334.length co55) t334) ∧ Aside0 (Kd.R (Kd.int .i64) 3 w' w.heap.size (fun k_ => some k_ ≠ ((.slice (some ad349) t334.length co55) : Value).ownBlock) (.slice Ao54 t343.length co54) t343) ∧ Aside0 (w'.heap[gb330]? = some (.cells #[(.slice A0_0 l0_0.length c0_0), (.slice A0_1 l0_1.length c0_1)] 25 (0, 0))) ∧ Aside0 (Below w.heap.size w w'))
             case atStart => exact ⟨(0), (by first | rfl | (simp; done) | (simp [*]; done)), H', ⟨Nat.le_refl _⟩, ⟨by (with_reducible repeat (first | apply Kd.R_alloc | apply Kd.R_drewN | apply Kd.R_drew)); exact HO_7.out⟩, ⟨by (with_reducible repeat (first | apply Kd.R_alloc | apply Kd.R_drewN | apply Kd.R_drew)); exact HO_12.out⟩, ⟨by (with_reducible repeat (first | refine blk_drewN ?_ _ | refine blk_drew ?_ | refine blk_alloc ?_ _)); exact BK330.out⟩, ⟨by repeat (first | (with_reducible first | exact HB.out | apply below_alloc | apply pw_below_drewN | apply below_drew1 | refine below_set ?_ GE330.out) | exact HB.out)⟩⟩
             case round =>
              clear H'
              obtain ⟨x138_7, rfl, HA, HK7, HO_7, HO_12, BK330, HB⟩ := hrel
              cases gk with
              | zero => exact absurd HA.out (by simp [stillagelaw08_RouteFollows.l2])
              | succ k7 =>
               have H := HA.out
               clear HA
               simp only [stillagelaw08_RouteFollows.l2] at H
               by_cases c66 : x138_7 < (l1.length : Int)
               ·rw [if_pos c66] at H
                have c66b0 : decide (x138_7 < (l1.length : Int)) = true := decide_eq_true c66
                clear c66
                by_cases c67 : 0 ≤ x138_7
                rotate_left; ·rw [if_neg c67] at H; exact absurd H (by simp)
                rw [if_pos c67] at H
                have c67b0 : decide (0 ≤ x138_7) = true := decide_eq_true c67
                clear c67
                by_cases c68 : x138_7 < (l1.length : Int)
                rotate_left; ·rw [if_neg c68] at H; exact absurd H (by simp)
                rw [if_pos c68] at H
                have c68b0 : decide (x138_7 < (l1.length : Int)) = true := decide_eq_true c68
                clear c68
                by_cases c69 : (rd l1 x138_7) = (rd t334 x14_5)
                ·rw [if_pos c69] at H
                 have c69b0 : ((rd l1 x138_7) == (rd t334 x14_5)) = true := beq_iff_eq.mpr c69
                 have c69b1 : ((rd l1 x138_7) != (rd t334 x14_5)) = false := bne_eq_false_iff_eq.mpr c69
                 clear c69
                 obtain rfl := Option.some.inj H
                 have p352 : 0 ≤ (x138_7 : Int) := of_decide_eq_true (by first | (with_reducible assumption) | assumption)
                 have q352 : x138_7 < (l1.length : Int) := of_decide_eq_true (by first | (with_reducible assumption) | assumption)
                 obtain ⟨ad352, e352, hx352_0⟩ := Kd.at_int HR1.out x138_7 p352 q352
                 cases e352
                 replace hx352_0 := (HB.out.cell (World.block_lt_of_cell? w _ hx352_0)).trans hx352_0
                 replace p352 := eq_true p352
                 replace q352 := eq_true q352
                 go_wp2
                 go_ret
                 exact ⟨by first | rfl | (simp [errW_none, errW_some] <;> rfl) | (simp [*, errW_none, errW_some] <;> rfl), by repeat (first | (with_reducible first | exact HB.out | apply below_alloc | apply pw_below_drewN | apply below_drew1 | refine below_set ?_ GE330.out) | exact HB.out)⟩
                rw [if_neg c69] at H
                have c69b0 : ((rd l1 x138_7) == (rd t334 x14_5)) = false := beq_eq_false_iff_ne.mpr c69
                have c69b1 : ((rd l1 x138_7) != (rd t334 x14_5)) = true := bne_iff_ne.mpr c69
                have H' := Aside0.mk H; clear H
                have p352 : 0 ≤ (x138_7 : Int) := of_decide_eq_true (by first | (with_reducible assumption) | assumption)
                have q352 : x138_7 < (l1.length : Int) := of_decide_eq_true (by first | (with_reducible assumption) | assumption)
                obtain ⟨ad352, e352, hx352_0⟩ := Kd.at_int HR1.out x138_7 p352 q352
                cases e352
                replace hx352_0 := (HB.out.cell (World.block_lt_of_cell? w _ hx352_0)).trans hx352_0
                replace p352 := eq_true p352
                replace q352 := eq_true q352
                go_wp2
                go_roundg k7
                case measure => have := HJ5.out; have := HJ19.out; have := HK3.out; have := HJ30.out; have := HK5.out; have := HJ52.out; have := HK7.out; omega
                case rel => exact ⟨(wrap64 (x138_7 + 1)), (by first | rfl | (simp; done) | (simp [*]; done)), H', ⟨by have := HJ5.out; have := HJ19.out; have := HK3.out; have := HJ30.out; have := HK5.out; have := HJ52.out; have := HK7.out; omega⟩, ⟨by (with_reducible repeat (first | apply Kd.R_alloc | apply Kd.R_drewN | apply Kd.R_drew)); exact HO_7.out⟩, ⟨by (with_reducible repeat (first | apply Kd.R_alloc | apply Kd.R_drewN | apply Kd.R_drew)); exact HO_12.out⟩, ⟨by (with_reducible repeat (first | refine blk_drewN ?_ _ | refine blk_drew ?_ | refine blk_alloc ?_ _)); exact BK330.out⟩, ⟨by repeat (first | (with_reducible first | exact HB.out | apply below_alloc | apply pw_below_drewN | apply below_drew1 | refine below_set ?_ GE330.out) | exact HB.out)⟩⟩
               rw [if_neg c66] at H
               have c66b0 : decide (x138_7 < (l1.length : Int)) = false := decide_eq_false c66
               clear c66
               obtain ⟨ji70, hji70⟩ : ∃ j_ : Int, (wrap64 ((rd t334 x14_5) - 1)) = j_ := ⟨_, rfl⟩
               replace H : (if 0 ≤ (ji70) then (if (ji70) < (l0_1.length : Int) then (if ((rd_T38 l0_1 (ji70)).f1) = a2 then (stillagelaw08_RouteFollows.l1 k7 l1 a2 t334 t343 t346 ((rd_T38 l0_1 (ji70)).f1) (wrap64 (x15_5 + 1)) (l0_0.length : Int) x50_3 l0_0 l0_1) else (if 0 ≤ ((rd_T38 l0_1 (ji70)).f1) then (if ((rd_T38 l0_1 (ji70)).f1) < (l0_0.length : Int) then (if ((rd_T47 l0_0 ((rd_T38 l0_1 (ji70)).f1)).f1) = 1 then (stillagelaw08_RouteFollows.l1 k7 l1 a2 t334 t343 t346 ((rd_T38 l0_1 (ji70)).f1) (wrap64 (x15_5 + 1)) (l0_0.length : Int) x50_3 l0_0 l0_1) else (some false)) else (none)) else (none))) else (none)) else (none)) = some r := by first | (rw [hji70] at H; exact H) | (simp only [hji70] at H ⊢; exact H)
               have hji70w : (IntKind.i64.wrap ((rd t334 x14_5) - 1)) = ji70 := (i64_w _).trans hji70
               by_cases c71 : 0 ≤ (ji70)
               rotate_left; ·rw [if_neg c71] at H; exact absurd H (by simp)
               rw [if_pos c71] at H
               have c71b0 : decide (0 ≤ (ji70)) = true := decide_eq_true c71
               clear c71
               by_cases c72 : (ji70) < (l0_1.length : Int)
               rotate_left; ·rw [if_neg c72] at H; exact absurd H (by simp)
               rw [if_pos c72] at H
               have c72b0 : decide ((ji70) < (l0_1.length : Int)) = true := decide_eq_true c72
               clear c72
               by_cases c73 : ((rd_T38 l0_1 (ji70)).f1) = a2
               ·rw [if_pos c73] at H
                have c73b0 : (((rd_T38 l0_1 (ji70)).f1) == a2) = true := beq_iff_eq.mpr c73
                have c73b1 : (((rd_T38 l0_1 (ji70)).f1) != a2) = false := bne_eq_false_iff_eq.mpr c73
                clear c73
                have H' := Aside0.mk H; clear H
                have hcz74_0 : wr.cell? ⟨gb330, 0, none⟩ = some (.slice A0_0 l0_0.length c0_0) := (blk_cell BK330.out 0).trans rfl
                have hcz74_1 : wr.cell? ⟨gb330, 1, none⟩ = some (.slice A0_1 l0_1.length c0_1) := (blk_cell BK330.out 1).trans rfl
                have hfz74_0 := blk_frozen BK330.out 0
                have hfz74_1 := blk_frozen BK330.out 1
                have p353 : 0 ≤ ((ji70) : Int) := of_decide_eq_true (by first | (with_reducible assumption) | assumption)
                have q353 : (ji70) < (l0_1.length : Int) := of_decide_eq_true (by first | (with_reducible assumption) | assumption)
                obtain ⟨ad353, e353, hx353_0, hx353_1⟩ := at_T38 HR0_1.out (ji70) p353 q353
                cases e353
                replace hx353_0 := (HB.out.cell (World.block_lt_of_cell? w _ hx353_0)).trans hx353_0
                replace hx353_1 := (HB.out.cell (World.block_lt_of_cell? w _ hx353_1)).trans hx353_1
                replace p353 := eq_true p353
                replace q353 := eq_true q353
                go_wp2
                go_roundg k7
                case measure => have := HJ5.out; have := HJ19.out; have := HK3.out; have := HJ30.out; have := HK5.out; have := HJ52.out; have := HK7.out; omega
                case rel => exact ⟨((rd_T38 l0_1 (ji70)).f1), (wrap64 (x15_5 + 1)), (by first | rfl | (simp; done) | (simp only [← hji70] <;> (first | rfl | simp)) | (simp [*]; done)), (by first | rfl | (simp; done) | (simp [*]; done)), H', ⟨by have := HJ5.out; have := HJ19.out; have := HK3.out; have := HJ30.out; have := HK5.out; have := HJ52.out; have := HK7.out; omega⟩, ⟨by (with_reducible repeat (first | apply Kd.R_alloc | apply Kd.R_drewN | apply Kd.R_drew)); exact HO_7.out⟩, ⟨by (with_reducible repeat (first | apply Kd.R_alloc | apply Kd.R_drewN | apply Kd.R_drew)); exact HO_12.out⟩, ⟨by (with_reducible repeat (first | refine blk_drewN ?_ _ | refine blk_drew ?_ | refine blk_alloc ?_ _)); exact BK330.out⟩, ⟨by repeat (first | (with_reducible first | exact HB.out | apply below_alloc | apply pw_below_drewN | apply below_drew1 | refine below_set ?_ GE330.out) | exact HB.out)⟩⟩
               rw [if_neg c73] at H
               have c73b0 : (((rd_T38 l0_1 (ji70)).f1) == a2) = false := beq_eq_false_iff_ne.mpr c73
               have c73b1 : (((rd_T38 l0_1 (ji70)).f1) != a2) = true := bne_iff_ne.mpr c73
               by_cases c75 : 0 ≤ ((rd_T38 l0_1 (ji70)).f1)
               rotate_left; ·rw [if_neg c75] at H; exact absurd H (by simp)
               rw [if_pos c75] at H
               have c75b0 : decide (0 ≤ ((rd_T38 l0_1 (ji70)).f1)) = true := decide_eq_true c75
               clear c75
               by_cases c76 : ((rd_T38 l0_1 (ji70)).f1) < (l0_0.length : Int)
               rotate_left; ·rw [if_neg c76] at H; exact absurd H (by simp)
               rw [if_pos c76] at H
               have c76b0 : decide (((rd_T38 l0_1 (ji70)).f1) < (l0_0.length : Int)) = true := decide_eq_true c76
               clear c76
               by_cases c77 : ((rd_T47 l0_0 ((rd_T38 l0_1 (ji70)).f1)).f1) = 1
               rotate_left
               ·rw [if_neg c77] at H
                have c77b0 : (((rd_T47 l0_0 ((rd_T38 l0_1 (ji70)).f1)).f1) == 1) = false := beq_eq_false_iff_ne.mpr c77
                have c77b1 : (((rd_T47 l0_0 ((rd_T38 l0_1 (ji70)).f1)).f1) != 1) = true := bne_iff_ne.mpr c77
                obtain rfl := Option.some.inj H
                have hcz79_0 : wr.cell? ⟨gb330, 0, none⟩ = some (.slice A0_0 l0_0.length c0_0) := (blk_cell BK330.out 0).trans rfl
                have hcz79_1 : wr.cell? ⟨gb330, 1, none⟩ = some (.slice A0_1 l0_1.length c0_1) := (blk_cell BK330.out 1).trans rfl
                have hfz79_0 := blk_frozen BK330.out 0
                have hfz79_1 := blk_frozen BK330.out 1
                have p353 : 0 ≤ ((ji70) : Int) := of_decide_eq_true (by first | (with_reducible assumption) | assumption)
                have q353 : (ji70) < (l0_1.length : Int) := of_decide_eq_true (by first | (with_reducible assumption) | assumption)
                obtain ⟨ad353, e353, hx353_0, hx353_1⟩ := at_T38 HR0_1.out (ji70) p353 q353
                cases e353
                replace hx353_0 := (HB.out.cell (World.block_lt_of_cell? w _ hx353_0)).trans hx353_0
                replace hx353_1 := (HB.out.cell (World.block_lt_of_cell? w _ hx353_1)).trans hx353_1
                replace p353 := eq_true p353
                replace q353 := eq_true q353
                have p354 : 0 ≤ (((rd_T38 l0_1 (ji70)).f1) : Int) := of_decide_eq_true (by first | (with_reducible assumption) | assumption)
                have q354 : ((rd_T38 l0_1 (ji70)).f1) < (l0_0.length : Int) := of_decide_eq_true (by first | (with_reducible assumption) | assumption)
                obtain ⟨ad354, e354, hx354_0, hx354_1, hx354_2⟩ := at_T47 HR0_0.out ((rd_T38 l0_1 (ji70)).f1) p354 q354
                cases e354
                replace hx354_0 := (HB.out.cell (World.block_lt_of_cell? w _ hx354_0)).trans hx354_0
                replace hx354_1 := (HB.out.cell (World.block_lt_of_cell? w _ hx354_1)).trans hx354_1
                replace hx354_2 := (HB.out.cell (World.block_lt_of_cell? w _ hx354_2)).trans hx354_2
                replace p354 := eq_true p354
                replace q354 := eq_true q354
                go_wp2
                go_ret
                exact ⟨by first | rfl | (simp [errW_none, errW_some] <;> rfl) | (simp only [← hji70]; first | rfl | (simp [errW_none, errW_some] <;> rfl)) | (simp [*, errW_none, errW_some] <;> rfl), by repeat (first | (with_reducible first | exact HB.out | apply below_alloc | apply pw_below_drewN | apply below_drew1 | refine below_set ?_ GE330.out) | exact HB.out)⟩
               rw [if_pos c77] at H
               have c77b0 : (((rd_T47 l0_0 ((rd_T38 l0_1 (ji70)).f1)).f1) == 1) = true := beq_iff_eq.mpr c77
               have c77b1 : (((rd_T47 l0_0 ((rd_T38 l0_1 (ji70)).f1)).f1) != 1) = false := bne_eq_false_iff_eq.mpr c77
               clear c77
               have H' := Aside0.mk H; clear H
               have hcz78_0 : wr.cell? ⟨gb330, 0, none⟩ = some (.slice A0_0 l0_0.length c0_0) := (blk_cell BK330.out 0).trans rfl
               have hcz78_1 : wr.cell? ⟨gb330, 1, none⟩ = some (.slice A0_1 l0_1.length c0_1) := (blk_cell BK330.out 1).trans rfl
               have hfz78_0 := blk_frozen BK330.out 0
               have hfz78_1 := blk_frozen BK330.out 1
               have p353 : 0 ≤ ((ji70) : Int) := of_decide_eq_true (by first | (with_reducible assumption) | assumption)
               have q353 : (ji70) < (l0_1.length : Int) := of_decide_eq_true (by first | (with_reducible assumption) | assumption)
               obtain ⟨ad353, e353, hx353_0, hx353_1⟩ := at_T38 HR0_1.out (ji70) p353 q353
               cases e353
               replace hx353_0 := (HB.out.cell (World.block_lt_of_cell? w _ hx353_0)).trans hx353_0
               replace hx353_1 := (HB.out.cell (World.block_lt_of_cell? w _ hx353_1)).trans hx353_1
               replace p353 := eq_true p353
               replace q353 := eq_true q353
               have p354 : 0 ≤ (((rd_T38 l0_1 (ji70)).f1) : Int) := of_decide_eq_true (by first | (with_reducible assumption) | assumption)
               have q354 : ((rd_T38 l0_1 (ji70)).f1) < (l0_0.length : Int) := of_decide_eq_true (by first | (with_reducible assumption) | assumption)
               obtain ⟨ad354, e354, hx354_0, hx354_1, hx354_2⟩ := at_T47 HR0_0.out ((rd_T38 l0_1 (ji70)).f1) p354 q354
               cases e354
               replace hx354_0 := (HB.out.cell (World.block_lt_of_cell? w _ hx354_0)).trans hx354_0
               replace hx354_1 := (HB.out.cell (World.block_lt_of_cell? w _ hx354_1)).trans hx354_1
               replace hx354_2 := (HB.out.cell (World.block_lt_of_cell? w _ hx354_2)).trans hx354_2
               replace p354 := eq_true p354
               replace q354 := eq_true q354
               go_wp2
               go_roundg k7
               case measure => have := HJ5.out; have := HJ19.out; have := HK3.out; have := HJ30.out; have := HK5.out; have := HJ52.out; have := HK7.out; omega
               case rel => exact ⟨((rd_T38 l0_1 (ji70)).f1), (wrap64 (x15_5 + 1)), (by first | rfl | (simp; done) | (simp only [← hji70] <;> (first | rfl | simp)) | (simp [*]; done)), (by first | rfl | (simp; done) | (simp [*]; done)), H', ⟨by have := HJ5.out; have := HJ19.out; have := HK3.out; have := HJ30.out; have := HK5.out; have := HJ52.out; have := HK7.out; omega⟩, ⟨by (with_reducible repeat (first | apply Kd.R_alloc | apply Kd.R_drewN | apply Kd.R_drew)); exact HO_7.out⟩, ⟨by (with_reducible repeat (first | apply Kd.R_alloc | apply Kd.R_drewN | apply Kd.R_drew)); exact HO_12.out⟩, ⟨by (with_reducible repeat (first | refine blk_drewN ?_ _ | refine blk_drew ?_ | refine blk_alloc ?_ _)); exact BK330.out⟩, ⟨by repeat (first | (with_reducible first | exact HB.out | apply below_alloc | apply pw_below_drewN | apply below_drew1 | refine below_set ?_ GE330.out) | exact HB.out)⟩⟩
end Go.Proofs.Ytbbdgndaaajejaa.PRouteFollows
