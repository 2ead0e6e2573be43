-- Written by a program of this session (wip/oprint): after the pattern of the kit's print, which does not take this law. -- trimmed
import Derived.Test.YtbbdgndaaajejaaPRouteAvoidsx0
import Derived.Test.YtbbdgndaaajejaaPRouteAvoidsx6
import Derived.Test.YtbbdgndaaajejaaPRouteAvoidsx9
import Derived.Test.YtbbdgndaaajejaaPRouteAvoidsx11
namespace Go.Proofs.Ytbbdgndaaajejaa.PRouteAvoids
open Go.RowKit Go.Proofs.YtbbdgndaaajejaaW.PrintWords Go.Proofs.YtbbdgndaaajejaaW.PrintLast Go.Proofs.YtbbdgndaaajejaaW.PrintMore
attribute [local go_sem] max2_int min2_int max_two min_two max_three min_three max_four min_four   -- for this text's walks alone
set_option linter.unusedVariables false
set_option linter.unusedSimpArgs false

/-! ### stillagelaw08_RouteAvoids: function 5 -/
mutual
def stillagelaw08_RouteAvoids.j0 : Nat → List Int → List Int → Bool → List (S47) → List (S38) → Option (Bool)
 | 0, _, _, _, _, _ => none
 | k + 1, x1, x2, x36, x323000, x323001 => if x36 = true then (some true) else (stillagelaw08_RouteAvoids.l0 k x1 x2 (x323000.length : Int) 0 x323000 x323001)
def stillagelaw08_RouteAvoids.l0 : Nat → List Int → List Int → Int → Int → List (S47) → List (S38) → Option (Bool)
 | 0, _, _, _, _, _, _ => none
 | k + 1, x1, x2, x39, x40, x323000, x323001 => if x40 < x39 then (stillagelaw08_RouteAvoids.l1 k x1 x2 x40 x39 x40 (x323000.length : Int) 0 x323000 x323001) else (some true)
def stillagelaw08_RouteAvoids.l1 : Nat → List Int → List Int → Int → Int → Int → Int → Int → List (S47) → List (S38) → Option (Bool)
 | 0, _, _, _, _, _, _, _, _, _ => none
 | k + 1, x1, x2, x7, x39, x40, x45, x46, x323000, x323001 => if x46 < x45 then ((route_Path.f k x323000 x323001 x1 x7 x46).bind fun bt325 => ((route_Around.f k x323000 x323001 x1 x7 x46 x2).bind fun bt329 => ((route_Around.f k x323000 x323001 x1 x7 x46 ([] : List Int)).bind fun bt333 => (if bt325.2 = bt333.2 then ((stillageref01_Ints.f k bt325.1 bt333.1).bind fun t337 => (if t337 = true then (if bt329.2 = 0 then (if bt325.2 = 0 then (stillagelaw08_RouteAvoids.j3 k x1 x2 x7 x46 bt329.1 bt329.2 x39 x40 x45 x46 (decide ((bt329.1.length : Int) < (bt325.1.length : Int))) x323000 x323001) else (stillagelaw08_RouteAvoids.j3 k x1 x2 x7 x46 bt329.1 bt329.2 x39 x40 x45 x46 true x323000 x323001)) else (stillagelaw08_RouteAvoids.j3 k x1 x2 x7 x46 bt329.1 bt329.2 x39 x40 x45 x46 false x323000 x323001)) else (stillagelaw08_RouteAvoids.j3 k x1 x2 x7 x46 bt329.1 bt329.2 x39 x40 x45 x46 true x323000 x323001))) else (stillagelaw08_RouteAvoids.j3 k x1 x2 x7 x46 bt329.1 bt329.2 x39 x40 x45 x46 true x323000 x323001))))) else (stillagelaw08_RouteAvoids.l0 k x1 x2 x39 (wrap64 (x40 + 1)) x323000 x323001)
def stillagelaw08_RouteAvoids.j3 : Nat → List Int → List Int → Int → Int → List Int → Int → Int → Int → Int → Int → Bool → List (S47) → List (S38) → Option (Bool)
 | 0, _, _, _, _, _, _, _, _, _, _, _, _, _ => none
 | k + 1, x1, x2, x7, x8, x11, x12, x39, x40, x45, x46, x97, x323000, x323001 => if x97 = true then (some false) else (stillagelaw08_RouteAvoids.l2 k x1 x2 x7 x8 x12 x7 x39 x40 x45 x46 x11 (x11.length : Int) 0 x323000 x323001)
def stillagelaw08_RouteAvoids.l2 : Nat → List Int → List Int → Int → Int → Int → Int → Int → Int → Int → Int → List Int → Int → Int → List (S47) → List (S38) → Option (Bool)
 | 0, _, _, _, _, _, _, _, _, _, _, _, _, _, _, _ => none
 | k + 1, x1, x2, x7, x8, x12, x15, x39, x40, x45, x46, x99, x100, x101, x323000, x323001 => if x101 < x100 then (if 0 ≤ x101 then (if x101 < (x99.length : Int) then (if (rd x99 x101) < 1 then (stillagelaw08_RouteAvoids.j5 k x1 x2 x7 x8 x12 (rd x99 x101) x39 x40 x45 x46 x99 x100 x101 true x323000 x323001) else (if (rd x99 x101) > (x323001.length : Int) then (stillagelaw08_RouteAvoids.j5 k x1 x2 x7 x8 x12 (rd x99 x101) x39 x40 x45 x46 x99 x100 x101 true x323000 x323001) else (if 0 ≤ (wrap64 ((rd x99 x101) - 1)) then (if (wrap64 ((rd x99 x101) - 1)) < (x323001.length : Int) then (stillagelaw08_RouteAvoids.j5 k x1 x2 x7 x8 x12 (rd x99 x101) x39 x40 x45 x46 x99 x100 x101 (((rd_T38 x323001 (wrap64 ((rd x99 x101) - 1))).f0) != x15) x323000 x323001) else (none)) else (none)))) else (none)) else (none)) else (if x12 = 0 then (if x15 = x8 then (stillagelaw08_RouteAvoids.l1 k x1 x2 x7 x39 x40 x45 (wrap64 (x46 + 1)) x323000 x323001) else (some false)) else (stillagelaw08_RouteAvoids.l1 k x1 x2 x7 x39 x40 x45 (wrap64 (x46 + 1)) x323000 x323001))
def stillagelaw08_RouteAvoids.j5 : Nat → List Int → List Int → Int → Int → Int → Int → Int → Int → Int → Int → List Int → Int → Int → Bool → List (S47) → List (S38) → Option (Bool)
 | 0, _, _, _, _, _, _, _, _, _, _, _, _, _, _, _, _ => none
 | k + 1, x1, x2, x7, x8, x12, x17, x39, x40, x45, x46, x99, x100, x101, x124, x323000, x323001 => if x124 = true then (some false) else (if 0 ≤ (wrap64 (x17 - 1)) then (if (wrap64 (x17 - 1)) < (x323001.length : Int) then (stillagelaw08_RouteAvoids.l3 k x1 x2 x7 x8 x12 ((rd_T38 x323001 (wrap64 (x17 - 1))).f1) x39 x40 x45 x46 x99 x100 x101 x2 (x2.length : Int) 0 x323000 x323001) else (none)) else (none))
def stillagelaw08_RouteAvoids.l3 : Nat → List Int → List Int → Int → Int → Int → Int → Int → Int → Int → Int → List Int → Int → Int → List Int → Int → Int → List (S47) → List (S38) → Option (Bool)
 | 0, _, _, _, _, _, _, _, _, _, _, _, _, _, _, _, _, _, _ => none
 | k + 1, x1, x2, x7, x8, x12, x15, x39, x40, x45, x46, x99, x100, x101, x132, x133, x134, x323000, x323001 => if x134 < x133 then (if 0 ≤ x134 then (if x134 < (x132.length : Int) then (if (rd x132 x134) = x15 then (if x15 = x8 then (stillagelaw08_RouteAvoids.l3 k x1 x2 x7 x8 x12 x15 x39 x40 x45 x46 x99 x100 x101 x132 x133 (wrap64 (x134 + 1)) x323000 x323001) else (some false)) else (stillagelaw08_RouteAvoids.l3 k x1 x2 x7 x8 x12 x15 x39 x40 x45 x46 x99 x100 x101 x132 x133 (wrap64 (x134 + 1)) x323000 x323001)) else (none)) else (none)) else (stillagelaw08_RouteAvoids.l2 k x1 x2 x7 x8 x12 x15 x39 x40 x45 x46 x99 x100 (wrap64 (x101 + 1)) x323000 x323001)
end
def stillagelaw08_RouteAvoids.f (k : Nat) (l0_0 : List (S47)) (l0_1 : List (S38)) (l1 : List Int) (l2 : List Int) : Option (Bool) := (stillagelaw08_awake.f k).bind fun t323 => (if t323 = true then ((stillagelaw07_Fits.f k l0_0 l0_1 l1).bind fun t324 => (if t324 = true then (if (l2.length : Int) > 50 then (stillagelaw08_RouteAvoids.j0 k l1 l2 true l0_0 l0_1) else (stillagelaw08_RouteAvoids.j0 k l1 l2 (decide ((l0_0.length : Int) > 20)) l0_0 l0_1)) else (stillagelaw08_RouteAvoids.j0 k l1 l2 true l0_0 l0_1))) else (some false))
theorem stillagelaw08_RouteAvoids.mono_l : ∀ k, (∀ y0 y1 y2 y3 y4, LeO (stillagelaw08_RouteAvoids.j0 k y0 y1 y2 y3 y4) (stillagelaw08_RouteAvoids.j0 (k + 1) y0 y1 y2 y3 y4)) ∧ (∀ y0 y1 y2 y3 y4 y5, LeO (stillagelaw08_RouteAvoids.l0 k y0 y1 y2 y3 y4 y5) (stillagelaw08_RouteAvoids.l0 (k + 1) y0 y1 y2 y3 y4 y5)) ∧ (∀ y0 y1 y2 y3 y4 y5 y6 y7 y8, LeO (stillagelaw08_RouteAvoids.l1 k y0 y1 y2 y3 y4 y5 y6 y7 y8) (stillagelaw08_RouteAvoids.l1 (k + 1) y0 y1 y2 y3 y4 y5 y6 y7 y8)) ∧ (∀ y0 y1 y2 y3 y4 y5 y6 y7 y8 y9 y10 y11 y12, LeO (stillagelaw08_RouteAvoids.j3 k y0 y1 y2 y3 y4 y5 y6 y7 y8 y9 y10 y11 y12) (stillagelaw08_RouteAvoids.j3 (k + 1) y0 y1 y2 y3 y4 y5 y6 y7 y8 y9 y10 y11 y12)) ∧ (∀ y0 y1 y2 y3 y4 y5 y6 y7 y8 y9 y10 y11 y12 y13 y14, LeO (stillagelaw08_RouteAvoids.l2 k y0 y1 y2 y3 y4 y5 y6 y7 y8 y9 y10 y11 y12 y13 y14) (stillagelaw08_RouteAvoids.l2 (k + 1) y0 y1 y2 y3 y4 y5 y6 y7 y8 y9 y10 y11 y12 y13 y14)) ∧ (∀ y0 y1 y2 y3 y4 y5 y6 y7 y8 y9 y10 y11 y12 y13 y14 y15, LeO (stillagelaw08_RouteAvoids.j5 k y0 y1 y2 y3 y4 y5 y6 y7 y8 y9 y10 y11 y12 y13 y14 y15) (stillagelaw08_RouteAvoids.j5 (k + 1) y0 y1 y2 y3 y4 y5 y6 y7 y8 y9 y10 y11 y12 y13 y14 y15)) ∧ (∀ y0 y1 y2 y3 y4 y5 y6 y7 y8 y9 y10 y11 y12 y13 y14 y15 y16 y17, LeO (stillagelaw08_RouteAvoids.l3 k y0 y1 y2 y3 y4 y5 y6 y7 y8 y9 y10 y11 y12 y13 y14 y15 y16 y17) (stillagelaw08_RouteAvoids.l3 (k + 1) y0 y1 y2 y3 y4 y5 y6 y7 y8 y9 y10 y11 y12 y13 y14 y15 y16 y17))
 | 0 => ⟨fun _ _ _ _ _ r h => by simp [stillagelaw08_RouteAvoids.j0] at h, fun _ _ _ _ _ _ r h => by simp [stillagelaw08_RouteAvoids.l0] at h, fun _ _ _ _ _ _ _ _ _ r h => by simp [stillagelaw08_RouteAvoids.l1] at h, fun _ _ _ _ _ _ _ _ _ _ _ _ _ r h => by simp [stillagelaw08_RouteAvoids.j3] at h, fun _ _ _ _ _ _ _ _ _ _ _ _ _ _ _ r h => by simp [stillagelaw08_RouteAvoids.l2] at h, fun _ _ _ _ _ _ _ _ _ _ _ _ _ _ _ _ r h => by simp [stillagelaw08_RouteAvoids.j5] at h, fun _ _ _ _ _ _ _ _ _ _ _ _ _ _ _ _ _ _ r h => by simp [stillagelaw08_RouteAvoids.l3] at h⟩
 | k + 1 => by
  obtain ⟨ih0, ih1, ih2, ih3, ih4, ih5, ih6⟩ := stillagelaw08_RouteAvoids.mono_l k
  refine ⟨?_, ?_, ?_, ?_, ?_, ?_, ?_⟩
  ·intro y0 y1 y2 y3 y4
   unfold stillagelaw08_RouteAvoids.j0
   repeat' first
   | (with_reducible exact ih0 _ _ _ _ _)
   | (with_reducible exact ih1 _ _ _ _ _ _)
   | (with_reducible exact ih2 _ _ _ _ _ _ _ _ _)
   | (with_reducible exact ih3 _ _ _ _ _ _ _ _ _ _ _ _ _)
   | (with_reducible exact ih4 _ _ _ _ _ _ _ _ _ _ _ _ _ _ _)
   | (with_reducible exact ih5 _ _ _ _ _ _ _ _ _ _ _ _ _ _ _ _)
   | (with_reducible exact ih6 _ _ _ _ _ _ _ _ _ _ _ _ _ _ _ _ _ _)
   | (with_reducible exact route_Around.mono _ _ _ _ _ _ _)
   | (with_reducible exact route_Path.mono _ _ _ _ _ _)
   | (with_reducible exact stillagelaw07_Fits.mono _ _ _ _)
   | (with_reducible exact stillagelaw08_awake.mono _)
   | (with_reducible exact stillageref01_Ints.mono _ _ _)
   | (with_reducible exact LeO.refl _)
   | (with_reducible exact LeO.none _)
   | (with_reducible refine LeO.ite ?_ ?_)
   | (with_reducible refine LeO.bind ?_ (fun _ => ?_))
   | exact ih0 _ _ _ _ _
   | exact ih1 _ _ _ _ _ _
   | exact ih2 _ _ _ _ _ _ _ _ _
   | exact ih3 _ _ _ _ _ _ _ _ _ _ _ _ _
   | exact ih4 _ _ _ _ _ _ _ _ _ _ _ _ _ _ _
   | exact ih5 _ _ _ _ _ _ _ _ _ _ _ _ _ _ _ _
   | exact ih6 _ _ _ _ _ _ _ _ _ _ _ _ _ _ _ _ _ _
   | exact route_Around.mono _ _ _ _ _ _ _
   | exact route_Path.mono _ _ _ _ _ _
   | exact stillagelaw07_Fits.mono _ _ _ _
   | exact stillagelaw08_awake.mono _
   | exact stillageref01_Ints.mono _ _ _
   | exact LeO.none _
   | refine LeO.ite ?_ ?_
   | refine LeO.bind ?_ (fun _ => ?_)
  ·intro y0 y1 y2 y3 y4 y5
   unfold stillagelaw08_RouteAvoids.l0
   repeat' first
   | (with_reducible exact ih0 _ _ _ _ _)
   | (with_reducible exact ih1 _ _ _ _ _ _)
   | (with_reducible exact ih2 _ _ _ _ _ _ _ _ _)
   | (with_reducible exact ih3 _ _ _ _ _ _ _ _ _ _ _ _ _)
   | (with_reducible exact ih4 _ _ _ _ _ _ _ _ _ _ _ _ _ _ _)
   | (with_reducible exact ih5 _ _ _ _ _ _ _ _ _ _ _ _ _ _ _ _)
   | (with_reducible exact ih6 _ _ _ _ _ _ _ _ _ _ _ _ _ _ _ _ _ _)
   | (with_reducible exact route_Around.mono _ _ _ _ _ _ _)
   | (with_reducible exact route_Path.mono _ _ _ _ _ _)
   | (with_reducible exact stillagelaw07_Fits.mono _ _ _ _)
   | (with_reducible exact stillagelaw08_awake.mono _)
   | (with_reducible exact stillageref01_Ints.mono _ _ _)
   | (with_reducible exact LeO.refl _)
   | (with_reducible exact LeO.none _)
   | (with_reducible refine LeO.ite ?_ ?_)
   | (with_reducible refine LeO.bind ?_ (fun _ => ?_))
   | exact ih0 _ _ _ _ _
   | exact ih1 _ _ _ _ _ _
   | exact ih2 _ _ _ _ _ _ _ _ _
   | exact ih3 _ _ _ _ _ _ _ _ _ _ _ _ _
   | exact ih4 _ _ _ _ _ _ _ _ _ _ _ _ _ _ _
   | exact ih5 _ _ _ _ _ _ _ _ _ _ _ _ _ _ _ _
   | exact ih6 _ _ _ _ _ _ _ _ _ _ _ _ _ _ _ _ _ _
   | exact route_Around.mono _ _ _ _ _ _ _
   | exact route_Path.mono _ _ _ _ _ _
   | exact stillagelaw07_Fits.mono _ _ _ _
   | exact stillagelaw08_awake.mono _
   | exact stillageref01_Ints.mono _ _ _
   | exact LeO.none _
   | refine LeO.ite ?_ ?_
   | refine LeO.bind ?_ (fun _ => ?_)
  ·intro y0 y1 y2 y3 y4 y5 y6 y7 y8
   unfold stillagelaw08_RouteAvoids.l1
   repeat' first
   | (with_reducible exact ih0 _ _ _ _ _)
   | (with_reducible exact ih1 _ _ _ _ _ _)
   | (with_reducible exact ih2 _ _ _ _ _ _ _ _ _)
   | (with_reducible exact ih3 _ _ _ _ _ _ _ _ _ _ _ _ _)
   | (with_reducible exact ih4 _ _ _ _ _ _ _ _ _ _ _ _ _ _ _)
   | (with_reducible exact ih5 _ _ _ _ _ _ _ _ _ _ _ _ _ _ _ _)
   | (with_reducible exact ih6 _ _ _ _ _ _ _ _ _ _ _ _ _ _ _ _ _ _)
   | (with_reducible exact route_Around.mono _ _ _ _ _ _ _)
   | (with_reducible exact route_Path.mono _ _ _ _ _ _)
   | (with_reducible exact stillagelaw07_Fits.mono _ _ _ _)
   | (with_reducible exact stillagelaw08_awake.mono _)
   | (with_reducible exact stillageref01_Ints.mono _ _ _)
   | (with_reducible exact LeO.refl _)
   | (with_reducible exact LeO.none _)
   | (with_reducible refine LeO.ite ?_ ?_)
   | (with_reducible refine LeO.bind ?_ (fun _ => ?_))
   | exact ih0 _ _ _ _ _
   | exact ih1 _ _ _ _ _ _
   | exact ih2 _ _ _ _ _ _ _ _ _
   | exact ih3 _ _ _ _ _ _ _ _ _ _ _ _ _
   | exact ih4 _ _ _ _ _ _ _ _ _ _ _ _ _ _ _
   | exact ih5 _ _ _ _ _ _ _ _ _ _ _ _ _ _ _ _
   | exact ih6 _ _ _ _ _ _ _ _ _ _ _ _ _ _ _ _ _ _
   | exact route_Around.mono _ _ _ _ _ _ _
   | exact route_Path.mono _ _ _ _ _ _
   | exact stillagelaw07_Fits.mono _ _ _ _
   | exact stillagelaw08_awake.mono _
   | exact stillageref01_Ints.mono _ _ _
   | exact LeO.none _
   | refine LeO.ite ?_ ?_
   | refine LeO.bind ?_ (fun _ => ?_)
  ·intro y0 y1 y2 y3 y4 y5 y6 y7 y8 y9 y10 y11 y12
   unfold stillagelaw08_RouteAvoids.j3
   repeat' first
   | (with_reducible exact ih0 _ _ _ _ _)
   | (with_reducible exact ih1 _ _ _ _ _ _)
   | (with_reducible exact ih2 _ _ _ _ _ _ _ _ _)
   | (with_reducible exact ih3 _ _ _ _ _ _ _ _ _ _ _ _ _)
   | (with_reducible exact ih4 _ _ _ _ _ _ _ _ _ _ _ _ _ _ _)
   | (with_reducible exact ih5 _ _ _ _ _ _ _ _ _ _ _ _ _ _ _ _)
   | (with_reducible exact ih6 _ _ _ _ _ _ _ _ _ _ _ _ _ _ _ _ _ _)
   | (with_reducible exact route_Around.mono _ _ _ _ _ _ _)
   | (with_reducible exact route_Path.mono _ _ _ _ _ _)
   | (with_reducible exact stillagelaw07_Fits.mono _ _ _ _)
   | (with_reducible exact stillagelaw08_awake.mono _)
   | (with_reducible exact stillageref01_Ints.mono _ _ _)
   | (with_reducible exact LeO.refl _)
   | (with_reducible exact LeO.none _)
   | (with_reducible refine LeO.ite ?_ ?_)
   | (with_reducible refine LeO.bind ?_ (fun _ => ?_))
   | exact ih0 _ _ _ _ _
   | exact ih1 _ _ _ _ _ _
   | exact ih2 _ _ _ _ _ _ _ _ _
   | exact ih3 _ _ _ _ _ _ _ _ _ _ _ _ _
   | exact ih4 _ _ _ _ _ _ _ _ _ _ _ _ _ _ _
   | exact ih5 _ _ _ _ _ _ _ _ _ _ _ _ _ _ _ _
   | exact ih6 _ _ _ _ _ _ _ _ _ _ _ _ _ _ _ _ _ _
   | exact route_Around.mono _ _ _ _ _ _ _
   | exact route_Path.mono _ _ _ _ _ _
   | exact stillagelaw07_Fits.mono _ _ _ _
   | exact stillagelaw08_awake.mono _
   | exact stillageref01_Ints.mono _ _ _
   | exact LeO.none _
   | refine LeO.ite ?_ ?_
   | refine LeO.bind ?_ (fun _ => ?_)
  ·intro y0 y1 y2 y3 y4 y5 y6 y7 y8 y9 y10 y11 y12 y13 y14
   unfold stillagelaw08_RouteAvoids.l2
   repeat' first
   | (with_reducible exact ih0 _ _ _ _ _)
   | (with_reducible exact ih1 _ _ _ _ _ _)
   | (with_reducible exact ih2 _ _ _ _ _ _ _ _ _)
   | (with_reducible exact ih3 _ _ _ _ _ _ _ _ _ _ _ _ _)
   | (with_reducible exact ih4 _ _ _ _ _ _ _ _ _ _ _ _ _ _ _)
   | (with_reducible exact ih5 _ _ _ _ _ _ _ _ _ _ _ _ _ _ _ _)
   | (with_reducible exact ih6 _ _ _ _ _ _ _ _ _ _ _ _ _ _ _ _ _ _)
   | (with_reducible exact route_Around.mono _ _ _ _ _ _ _)
   | (with_reducible exact route_Path.mono _ _ _ _ _ _)
   | (with_reducible exact stillagelaw07_Fits.mono _ _ _ _)
   | (with_reducible exact stillagelaw08_awake.mono _)
   | (with_reducible exact stillageref01_Ints.mono _ _ _)
   | (with_reducible exact LeO.refl _)
   | (with_reducible exact LeO.none _)
   | (with_reducible refine LeO.ite ?_ ?_)
   | (with_reducible refine LeO.bind ?_ (fun _ => ?_))
   | exact ih0 _ _ _ _ _
   | exact ih1 _ _ _ _ _ _
   | exact ih2 _ _ _ _ _ _ _ _ _
   | exact ih3 _ _ _ _ _ _ _ _ _ _ _ _ _
   | exact ih4 _ _ _ _ _ _ _ _ _ _ _ _ _ _ _
   | exact ih5 _ _ _ _ _ _ _ _ _ _ _ _ _ _ _ _
   | exact ih6 _ _ _ _ _ _ _ _ _ _ _ _ _ _ _ _ _ _
   | exact route_Around.mono _ _ _ _ _ _ _
   | exact route_Path.mono _ _ _ _ _ _
   | exact stillagelaw07_Fits.mono _ _ _ _
   | exact stillagelaw08_awake.mono _
   | exact stillageref01_Ints.mono _ _ _
   | exact LeO.none _
   | refine LeO.ite ?_ ?_
   | refine LeO.bind ?_ (fun _ => ?_)
  ·intro y0 y1 y2 y3 y4 y5 y6 y7 y8 y9 y10 y11 y12 y13 y14 y15
   unfold stillagelaw08_RouteAvoids.j5
   repeat' first
   | (with_reducible exact ih0 _ _ _ _ _)
   | (with_reducible exact ih1 _ _ _ _ _ _)
   | (with_reducible exact ih2 _ _ _ _ _ _ _ _ _)
   | (with_reducible exact ih3 _ _ _ _ _ _ _ _ _ _ _ _ _)
   | (with_reducible exact ih4 _ _ _ _ _ _ _ _ _ _ _ _ _ _ _)
   | (with_reducible exact ih5 _ _ _ _ _ _ _ _ _ _ _ _ _ _ _ _)
   | (with_reducible exact ih6 _ _ _ _ _ _ _ _ _ _ _ _ _ _ _ _ _ _)
   | (with_reducible exact route_Around.mono _ _ _ _ _ _ _)
   | (with_reducible exact route_Path.mono _ _ _ _ _ _)
   | (with_reducible exact stillagelaw07_Fits.mono _ _ _ _)
   | (with_reducible exact stillagelaw08_awake.mono _)
   | (with_reducible exact stillageref01_Ints.mono _ _ _)
   | (with_reducible exact LeO.refl _)
   | (with_reducible exact LeO.none _)
   | (with_reducible refine LeO.ite ?_ ?_)
   | (with_reducible refine LeO.bind ?_ (fun _ => ?_))
   | exact ih0 _ _ _ _ _
   | exact ih1 _ _ _ _ _ _
   | exact ih2 _ _ _ _ _ _ _ _ _
   | exact ih3 _ _ _ _ _ _ _ _ _ _ _ _ _
   | exact ih4 _ _ _ _ _ _ _ _ _ _ _ _ _ _ _
   | exact ih5 _ _ _ _ _ _ _ _ _ _ _ _ _ _ _ _
   | exact ih6 _ _ _ _ _ _ _ _ _ _ _ _ _ _ _ _ _ _
   | exact route_Around.mono _ _ _ _ _ _ _
   | exact route_Path.mono _ _ _ _ _ _
   | exact stillagelaw07_Fits.mono _ _ _ _
   | exact stillagelaw08_awake.mono _
   | exact stillageref01_Ints.mono _ _ _
   | exact LeO.none _
   | refine LeO.ite ?_ ?_
   | refine LeO.bind ?_ (fun _ => ?_)
  ·intro y0 y1 y2 y3 y4 y5 y6 y7 y8 y9 y10 y11 y12 y13 y14 y15 y16 y17
   unfold stillagelaw08_RouteAvoids.l3
   repeat' first
   | (with_reducible exact ih0 _ _ _ _ _)
   | (with_reducible exact ih1 _ _ _ _ _ _)
   | (with_reducible exact ih2 _ _ _ _ _ _ _ _ _)
   | (with_reducible exact ih3 _ _ _ _ _ _ _ _ _ _ _ _ _)
   | (with_reducible exact ih4 _ _ _ _ _ _ _ _ _ _ _ _ _ _ _)
   | (with_reducible exact ih5 _ _ _ _ _ _ _ _ _ _ _ _ _ _ _ _)
   | (with_reducible exact ih6 _ _ _ _ _ _ _ _ _ _ _ _ _ _ _ _ _ _)
   | (with_reducible exact route_Around.mono _ _ _ _ _ _ _)
   | (with_reducible exact route_Path.mono _ _ _ _ _ _)
   | (with_reducible exact stillagelaw07_Fits.mono _ _ _ _)
   | (with_reducible exact stillagelaw08_awake.mono _)
   | (with_reducible exact stillageref01_Ints.mono _ _ _)
   | (with_reducible exact LeO.refl _)
   | (with_reducible exact LeO.none _)
   | (with_reducible refine LeO.ite ?_ ?_)
   | (with_reducible refine LeO.bind ?_ (fun _ => ?_))
   | exact ih0 _ _ _ _ _
   | exact ih1 _ _ _ _ _ _
   | exact ih2 _ _ _ _ _ _ _ _ _
   | exact ih3 _ _ _ _ _ _ _ _ _ _ _ _ _
   | exact ih4 _ _ _ _ _ _ _ _ _ _ _ _ _ _ _
   | exact ih5 _ _ _ _ _ _ _ _ _ _ _ _ _ _ _ _
   | exact ih6 _ _ _ _ _ _ _ _ _ _ _ _ _ _ _ _ _ _
   | exact route_Around.mono _ _ _ _ _ _ _
   | exact route_Path.mono _ _ _ _ _ _
   | exact stillagelaw07_Fits.mono _ _ _ _
   | exact stillagelaw08_awake.mono _
   | exact stillageref01_Ints.mono _ _ _
   | exact LeO.none _
   | refine LeO.ite ?_ ?_
   | refine LeO.bind ?_ (fun _ => ?_)
theorem stillagelaw08_RouteAvoids.mono : ∀ a0 a1 a2 a3 k, LeO (stillagelaw08_RouteAvoids.f k a0 a1 a2 a3) (stillagelaw08_RouteAvoids.f (k + 1) a0 a1 a2 a3) := by
 intro a0 a1 a2 a3 k
 obtain ⟨ih0, ih1, ih2, ih3, ih4, ih5, ih6⟩ := stillagelaw08_RouteAvoids.mono_l k
 unfold stillagelaw08_RouteAvoids.f
 repeat' first
   | (with_reducible exact ih0 _ _ _ _ _)
   | (with_reducible exact ih1 _ _ _ _ _ _)
   | (with_reducible exact ih2 _ _ _ _ _ _ _ _ _)
   | (with_reducible exact ih3 _ _ _ _ _ _ _ _ _ _ _ _ _)
   | (with_reducible exact ih4 _ _ _ _ _ _ _ _ _ _ _ _ _ _ _)
   | (with_reducible exact ih5 _ _ _ _ _ _ _ _ _ _ _ _ _ _ _ _)
   | (with_reducible exact ih6 _ _ _ _ _ _ _ _ _ _ _ _ _ _ _ _ _ _)
   | (with_reducible exact route_Around.mono _ _ _ _ _ _ _)
   | (with_reducible exact route_Path.mono _ _ _ _ _ _)
   | (with_reducible exact stillagelaw07_Fits.mono _ _ _ _)
   | (with_reducible exact stillagelaw08_awake.mono _)
   | (with_reducible exact stillageref01_Ints.mono _ _ _)
   | (with_reducible exact LeO.refl _)
   | (with_reducible exact LeO.none _)
   | (with_reducible refine LeO.ite ?_ ?_)
   | (with_reducible refine LeO.bind ?_ (fun _ => ?_))
   | exact ih0 _ _ _ _ _
   | exact ih1 _ _ _ _ _ _
   | exact ih2 _ _ _ _ _ _ _ _ _
   | exact ih3 _ _ _ _ _ _ _ _ _ _ _ _ _
   | exact ih4 _ _ _ _ _ _ _ _ _ _ _ _ _ _ _
   | exact ih5 _ _ _ _ _ _ _ _ _ _ _ _ _ _ _ _
   | exact ih6 _ _ _ _ _ _ _ _ _ _ _ _ _ _ _ _ _ _
   | exact route_Around.mono _ _ _ _ _ _ _
   | exact route_Path.mono _ _ _ _ _ _
   | exact stillagelaw07_Fits.mono _ _ _ _
   | exact stillagelaw08_awake.mono _
   | exact stillageref01_Ints.mono _ _ _
   | exact LeO.none _
   | refine LeO.ite ?_ ?_
   | refine LeO.bind ?_ (fun _ => ?_)
set_option maxHeartbeats 8000000 in
set_option maxRecDepth 100000 in
theorem stillagelaw08_RouteAvoids.calls (k : Nat) (A0_0 : Option Addr) (c0_0 : Nat) (l0_0 : List (S47)) (A0_1 : Option Addr) (c0_1 : Nat) (l0_1 : List (S38)) (A1 : Option Addr) (c1 : Nat) (l1 : List Int) (A2 : Option Addr) (c2 : Nat) (l2 : List Int) (r : Bool) (w : World) (hr0_0 : Kd.C k47 w A0_0 l0_0.length l0_0) (hc0_0 : l0_0.length ≤ c0_0) (hr0_1 : Kd.C k38 w A0_1 l0_1.length l0_1) (hc0_1 : l0_1.length ≤ c0_1) (hr1 : Kd.C (Kd.int .i64) w A1 l1.length l1) (hc1 : l1.length ≤ c1) (hr2 : Kd.C (Kd.int .i64) w A2 l2.length l2) (hc2 : l2.length ≤ c2) (h : stillagelaw08_RouteAvoids.f k l0_0 l0_1 l1 l2 = some r) :
  Calls Try.prog 5 #[.agg #[.slice A0_0 l0_0.length c0_0, .slice A0_1 l0_1.length c0_1], .slice A1 l1.length c1, .slice A2 l2.length c2] w fun e w' => e = .returned (.bool r) ∧ Below w.heap.size w w' := by
 have hu25 := Try.underlying25
 have HR0_0 := Aside0.mk hr0_0
 have HC0_0 := Aside0.mk hc0_0
 clear hr0_0 hc0_0
 have HR0_1 := Aside0.mk hr0_1
 have HC0_1 := Aside0.mk hc0_1
 clear hr0_1 hc0_1
 have HR1 := Aside0.mk hr1
 have HC1 := Aside0.mk hc1
 clear hr1 hc1
 have HR2 := Aside0.mk hr2
 have HC2 := Aside0.mk hc2
 clear hr2 hc2
 have HB := Aside0.mk (Below.refl w.heap.size w)
 have H : ((stillagelaw08_awake.f k).bind fun t323 => (if t323 = true then ((stillagelaw07_Fits.f k l0_0 l0_1 l1).bind fun t324 => (if t324 = true then (if (l2.length : Int) > 50 then (stillagelaw08_RouteAvoids.j0 k l1 l2 true l0_0 l0_1) else (stillagelaw08_RouteAvoids.j0 k l1 l2 (decide ((l0_0.length : Int) > 20)) l0_0 l0_1)) else (stillagelaw08_RouteAvoids.j0 k l1 l2 true l0_0 l0_1))) else (some false))) = some r := h
 clear h
 replace H := Option.bind_eq_some_iff.mp H; obtain ⟨t323, A40, H⟩ := H
 replace H : (if t323 = true then ((stillagelaw07_Fits.f k l0_0 l0_1 l1).bind fun t324 => (if t324 = true then (if (l2.length : Int) > 50 then (stillagelaw08_RouteAvoids.j0 k l1 l2 true l0_0 l0_1) else (stillagelaw08_RouteAvoids.j0 k l1 l2 (decide ((l0_0.length : Int) > 20)) l0_0 l0_1)) else (stillagelaw08_RouteAvoids.j0 k l1 l2 true l0_0 l0_1))) else (some false)) = some r := H
 have A4 := Aside0.mk A40
 clear A40
 by_cases c5 : t323 = true
 rotate_left
 ·replace c5 := Bool.eq_false_iff.mpr c5
  subst c5
  have H1 : (some false) = some r := by rw [if_neg (show ¬ (false = true) by decide)] at H; exact H
  clear H; have H := H1; clear H1
  obtain rfl := Option.some.inj H
  go_enter Try.func5, Try.ntmps5
  go_wp2_with (first | ((with_reducible refine gate_dst (N := 3) rfl ?_); (try (refine gate_guard (by rfl) ?_; dsimp only)); refine box_event ?hg (N := 3) ?hd (cs := #[.slice A0_0 l0_0.length c0_0, .slice A0_1 l0_1.length c0_1]) (t := 25) ?hr ?_; (case hd => rfl); (case hg => rfl); (case hr => first | (go_simp; done) | (go_simp; rfl)); intro gb322 hg w73 hbox hb; have BK322 := Aside0.mk (hbox); have GW322 := Aside0.mk ((by rw [hg]; exact (below_size (by repeat (first | (with_reducible first | exact HB.out | apply below_alloc | apply pw_below_drewN | apply below_drew1) | exact HB.out))) : w.heap.size ≤ gb322)); have GE322 := Aside0.mk ((by rw [hg]; exact (below_size (by repeat (first | (with_reducible first | exact HB.out | apply below_alloc | apply pw_below_drewN | apply below_drew1) | exact HB.out))) : w.heap.size ≤ gb322)); replace HB := Aside0.mk (below_step (by repeat (first | (with_reducible first | exact HB.out | apply below_alloc | apply pw_below_drewN | apply below_drew1) | exact HB.out)) hb); clear hb hbox hg) | ((with_reducible refine gate_callee (f := 10) rfl ?_); refine goesL_ (some 20) rfl rfl Try.func10 (by kernel_rfl) rfl #[] rfl (by (try simp only [List.map_toArray, List.map_cons, List.map_nil]); first | done | rfl | (simp only [List.length_drop, List.length_take]; rfl)) ?_; (with_reducible refine (stillagelaw08_awake.calls k  false _ A4.out).mono ?_); rintro e w74 ⟨rfl, hb⟩; refine ⟨_, rfl, ?_⟩; replace BK322 := Aside0.mk (blk_below (g := gb322) (o := .cells #[.slice A0_0 l0_0.length c0_0, .slice A0_1 l0_1.length c0_1] 25 (0, 0)) (by (with_reducible repeat (first | refine blk_drewN ?_ _ | refine blk_drew ?_ | refine blk_alloc ?_ _)); exact BK322.out) hb); replace HB := Aside0.mk (below_step (by repeat (first | (with_reducible first | exact HB.out | apply below_alloc | apply pw_below_drewN | apply below_drew1 | refine below_set ?_ GE322.out) | exact HB.out)) hb); (try clear hb)))
  go_ret
  exact ⟨by first | rfl | (simp [errW_none, errW_some] <;> rfl) | (simp [*, errW_none, errW_some] <;> rfl), by repeat (first | (with_reducible first | exact HB.out | apply below_alloc | apply pw_below_drewN | apply below_drew1 | refine below_set ?_ GE322.out) | exact HB.out)⟩

 subst c5
 have H1 : ((stillagelaw07_Fits.f k l0_0 l0_1 l1).bind fun t324 => (if t324 = true then (if (l2.length : Int) > 50 then (stillagelaw08_RouteAvoids.j0 k l1 l2 true l0_0 l0_1) else (stillagelaw08_RouteAvoids.j0 k l1 l2 (decide ((l0_0.length : Int) > 20)) l0_0 l0_1)) else (stillagelaw08_RouteAvoids.j0 k l1 l2 true l0_0 l0_1))) = some r := by rw [if_pos rfl] at H; exact H
 clear H; have H := H1; clear H1
 have HC6 := Aside0.mk H
 clear H
 go_enter Try.func5, Try.ntmps5
 go_upto_region 3 with (first | ((with_reducible refine gate_dst (N := 3) rfl ?_); (try (refine gate_guard (by rfl) ?_; dsimp only)); refine box_event ?hg (N := 3) ?hd (cs := #[.slice A0_0 l0_0.length c0_0, .slice A0_1 l0_1.length c0_1]) (t := 25) ?hr ?_; (case hd => rfl); (case hg => rfl); (case hr => first | (go_simp; done) | (go_simp; rfl)); intro gb322 hg w7 hbox hb; have BK322 := Aside0.mk (hbox); have GW322 := Aside0.mk ((by rw [hg]; exact (below_size (by repeat (first | (with_reducible first | exact HB.out | apply below_alloc | apply pw_below_drewN | apply below_drew1) | exact HB.out))) : w.heap.size ≤ gb322)); have GE322 := Aside0.mk ((by rw [hg]; exact (below_size (by repeat (first | (with_reducible first | exact HB.out | apply below_alloc | apply pw_below_drewN | apply below_drew1) | exact HB.out))) : w.heap.size ≤ gb322)); replace HB := Aside0.mk (below_step (by repeat (first | (with_reducible first | exact HB.out | apply below_alloc | apply pw_below_drewN | apply below_drew1) | exact HB.out)) hb); clear hb hbox hg) | ((with_reducible refine gate_callee (f := 10) rfl ?_); refine goesL_ (some 20) rfl rfl Try.func10 (by kernel_rfl) rfl #[] rfl (by (try simp only [List.map_toArray, List.map_cons, List.map_nil]); first | done | rfl | (simp only [List.length_drop, List.length_take]; rfl)) ?_; (with_reducible refine (stillagelaw08_awake.calls k  true _ A4.out).mono ?_); rintro e w8 ⟨rfl, hb⟩; refine ⟨_, rfl, ?_⟩; replace BK322 := Aside0.mk (blk_below (g := gb322) (o := .cells #[.slice A0_0 l0_0.length c0_0, .slice A0_1 l0_1.length c0_1] 25 (0, 0)) (by (with_reducible repeat (first | refine blk_drewN ?_ _ | refine blk_drew ?_ | refine blk_alloc ?_ _)); exact BK322.out) hb); replace HB := Aside0.mk (below_step (by repeat (first | (with_reducible first | exact HB.out | apply below_alloc | apply pw_below_drewN | apply below_drew1 | refine below_set ?_ GE322.out) | exact HB.out)) hb); (try clear hb)))
 (try simp only [Act.put, List.setIfInBounds_toArray, List.set_cons_zero, List.set_cons_succ])
 go_cut [36] (fun v36 wc => ∃ (kq : Nat) (x36_5 : Bool), v36 = .bool x36_5 ∧ Aside0 (stillagelaw08_RouteAvoids.j0 kq l1 l2 x36_5 l0_0 l0_1 = some r) ∧ Aside0 (kq ≤ k) ∧ Aside0 (wc.heap[gb322]? = some (.cells #[(.slice A0_0 l0_0.length c0_0), (.slice A0_1 l0_1.length c0_1)] 25 (0, 0))) ∧ Aside0 (Below w.heap.size w wc))
 case first =>
  have H := HC6.out
  clear HC6
  replace H := Option.bind_eq_some_iff.mp H; obtain ⟨t324, A90, H⟩ := H
  replace H : (if t324 = true then (if (l2.length : Int) > 50 then (stillagelaw08_RouteAvoids.j0 k l1 l2 true l0_0 l0_1) else (stillagelaw08_RouteAvoids.j0 k l1 l2 (decide ((l0_0.length : Int) > 20)) l0_0 l0_1)) else (stillagelaw08_RouteAvoids.j0 k l1 l2 true l0_0 l0_1)) = some r := H
  have A9 := Aside0.mk A90
  clear A90
  by_cases c10 : t324 = true
  rotate_left
  ·replace c10 := Bool.eq_false_iff.mpr c10
   subst c10
   have H1 : (stillagelaw08_RouteAvoids.j0 k l1 l2 true l0_0 l0_1) = some r := by rw [if_neg (show ¬ (false = true) by decide)] at H; exact H
   clear H; have H := H1; clear H1
   have H' := Aside0.mk H; clear H
   have hcz17_0 : w8.cell? ⟨gb322, 0, none⟩ = some (.slice A0_0 l0_0.length c0_0) := (blk_cell BK322.out 0).trans rfl
   have hcz17_1 : w8.cell? ⟨gb322, 1, none⟩ = some (.slice A0_1 l0_1.length c0_1) := (blk_cell BK322.out 1).trans rfl
   have hfz17_0 := blk_frozen BK322.out 0
   have hfz17_1 := blk_frozen BK322.out 1
   go_wp2_with (first | ((with_reducible refine gate_callee (f := 23) rfl ?_); refine goesL_ (some 24) rfl rfl Try.func23 (by kernel_rfl) rfl #[.agg #[.slice A0_0 l0_0.length c0_0, .slice A0_1 l0_1.length c0_1], .slice A1 l1.length c1] rfl (by (try simp only [List.map_toArray, List.map_cons, List.map_nil]); first | done | rfl | (simp only [List.length_drop, List.length_take]; rfl)) ?_; (with_reducible refine (stillagelaw07_Fits.calls k _ _ l0_0 _ _ l0_1 _ _ l1 false _ ?side1 ?side2 ?side3 ?side4 ?side5 ?side6 A9.out).mono ?_); (case side1 => repeat (first | exact (Kd.C_below HR0_0.out HB.out) | (with_reducible refine Kd.C_alloc ?_ _) | (with_reducible refine Kd.C_drewN ?_ _) | (with_reducible refine Kd.C_drew ?_))); (case side2 => exact HC0_0.out); (case side3 => repeat (first | exact (Kd.C_below HR0_1.out HB.out) | (with_reducible refine Kd.C_alloc ?_ _) | (with_reducible refine Kd.C_drewN ?_ _) | (with_reducible refine Kd.C_drew ?_))); (case side4 => exact HC0_1.out); (case side5 => repeat (first | exact (Kd.C_below HR1.out HB.out) | (with_reducible refine Kd.C_alloc ?_ _) | (with_reducible refine Kd.C_drewN ?_ _) | (with_reducible refine Kd.C_drew ?_))); (case side6 => exact HC1.out); rintro e w18 ⟨rfl, hb⟩; refine ⟨_, rfl, ?_⟩; replace BK322 := Aside0.mk (blk_below (g := gb322) (o := .cells #[.slice A0_0 l0_0.length c0_0, .slice A0_1 l0_1.length c0_1] 25 (0, 0)) (by (with_reducible repeat (first | refine blk_drewN ?_ _ | refine blk_drew ?_ | refine blk_alloc ?_ _)); exact BK322.out) hb); replace HB := Aside0.mk (below_step (by repeat (first | (with_reducible first | exact HB.out | apply below_alloc | apply pw_below_drewN | apply below_drew1 | refine below_set ?_ GE322.out) | exact HB.out)) hb); (try clear hb)))
   go_meet
   case rel => exact ⟨_, (true), (by first | rfl | (simp; done) | (simp [*]; done)), H', ⟨by first | omega | exact Nat.le_refl _⟩, ⟨by (with_reducible repeat (first | refine blk_drewN ?_ _ | refine blk_drew ?_ | refine blk_alloc ?_ _)); exact BK322.out⟩, ⟨by repeat (first | (with_reducible first | exact HB.out | apply below_alloc | apply pw_below_drewN | apply below_drew1 | refine below_set ?_ GE322.out) | exact HB.out)⟩⟩
  subst c10
  have H1 : (if (l2.length : Int) > 50 then (stillagelaw08_RouteAvoids.j0 k l1 l2 true l0_0 l0_1) else (stillagelaw08_RouteAvoids.j0 k l1 l2 (decide ((l0_0.length : Int) > 20)) l0_0 l0_1)) = some r := by rw [if_pos rfl] at H; exact H
  clear H; have H := H1; clear H1
  by_cases c11 : (l2.length : Int) > 50
  ·rw [if_pos c11] at H
   have c11b0 : decide (50 < (l2.length : Int)) = true := decide_eq_true c11
   have c11b1 : decide (50 < l2.length) = true := decide_eq_true (by omega)
   clear c11
   (first | rw [c11b0] | (simp only [i64_w, i32_w]; rw [c11b0]) | skip)
   have H' := Aside0.mk H; clear H
   have hcz12_0 : w8.cell? ⟨gb322, 0, none⟩ = some (.slice A0_0 l0_0.length c0_0) := (blk_cell BK322.out 0).trans rfl
   have hcz12_1 : w8.cell? ⟨gb322, 1, none⟩ = some (.slice A0_1 l0_1.length c0_1) := (blk_cell BK322.out 1).trans rfl
   have hfz12_0 := blk_frozen BK322.out 0
   have hfz12_1 := blk_frozen BK322.out 1
   go_wp2_with (first | ((with_reducible refine gate_callee (f := 23) rfl ?_); refine goesL_ (some 24) rfl rfl Try.func23 (by kernel_rfl) rfl #[.agg #[.slice A0_0 l0_0.length c0_0, .slice A0_1 l0_1.length c0_1], .slice A1 l1.length c1] rfl (by (try simp only [List.map_toArray, List.map_cons, List.map_nil]); first | done | rfl | (simp only [List.length_drop, List.length_take]; rfl)) ?_; (with_reducible refine (stillagelaw07_Fits.calls k _ _ l0_0 _ _ l0_1 _ _ l1 true _ ?side1 ?side2 ?side3 ?side4 ?side5 ?side6 A9.out).mono ?_); (case side1 => repeat (first | exact (Kd.C_below HR0_0.out HB.out) | (with_reducible refine Kd.C_alloc ?_ _) | (with_reducible refine Kd.C_drewN ?_ _) | (with_reducible refine Kd.C_drew ?_))); (case side2 => exact HC0_0.out); (case side3 => repeat (first | exact (Kd.C_below HR0_1.out HB.out) | (with_reducible refine Kd.C_alloc ?_ _) | (with_reducible refine Kd.C_drewN ?_ _) | (with_reducible refine Kd.C_drew ?_))); (case side4 => exact HC0_1.out); (case side5 => repeat (first | exact (Kd.C_below HR1.out HB.out) | (with_reducible refine Kd.C_alloc ?_ _) | (with_reducible refine Kd.C_drewN ?_ _) | (with_reducible refine Kd.C_drew ?_))); (case side6 => exact HC1.out); rintro e w13 ⟨rfl, hb⟩; refine ⟨_, rfl, ?_⟩; replace BK322 := Aside0.mk (blk_below (g := gb322) (o := .cells #[.slice A0_0 l0_0.length c0_0, .slice A0_1 l0_1.length c0_1] 25 (0, 0)) (by (with_reducible repeat (first | refine blk_drewN ?_ _ | refine blk_drew ?_ | refine blk_alloc ?_ _)); exact BK322.out) hb); replace HB := Aside0.mk (below_step (by repeat (first | (with_reducible first | exact HB.out | apply below_alloc | apply pw_below_drewN | apply below_drew1 | refine below_set ?_ GE322.out) | exact HB.out)) hb); (try clear hb)))
   go_meet
   case rel => exact ⟨_, (true), (by first | rfl | (simp; done) | (simp [*]; done)), H', ⟨by first | omega | exact Nat.le_refl _⟩, ⟨by (with_reducible repeat (first | refine blk_drewN ?_ _ | refine blk_drew ?_ | refine blk_alloc ?_ _)); exact BK322.out⟩, ⟨by repeat (first | (with_reducible first | exact HB.out | apply below_alloc | apply pw_below_drewN | apply below_drew1 | refine below_set ?_ GE322.out) | exact HB.out)⟩⟩
  rw [if_neg c11] at H
  have c11b0 : decide (50 < (l2.length : Int)) = false := decide_eq_false c11
  have c11b1 : decide (50 < l2.length) = false := decide_eq_false (by omega)
  clear c11
  (first | rw [c11b0] | (simp only [i64_w, i32_w]; rw [c11b0]) | skip)
  have H' := Aside0.mk H; clear H
  have hcz14_0 : w8.cell? ⟨gb322, 0, none⟩ = some (.slice A0_0 l0_0.length c0_0) := (blk_cell BK322.out 0).trans rfl
  have hcz14_1 : w8.cell? ⟨gb322, 1, none⟩ = some (.slice A0_1 l0_1.length c0_1) := (blk_cell BK322.out 1).trans rfl
  have hfz14_0 := blk_frozen BK322.out 0
  have hfz14_1 := blk_frozen BK322.out 1
  go_wp2_with (first | ((with_reducible refine gate_callee (f := 23) rfl ?_); refine goesL_ (some 24) rfl rfl Try.func23 (by kernel_rfl) rfl #[.agg #[.slice A0_0 l0_0.length c0_0, .slice A0_1 l0_1.length c0_1], .slice A1 l1.length c1] rfl (by (try simp only [List.map_toArray, List.map_cons, List.map_nil]); first | done | rfl | (simp only [List.length_drop, List.length_take]; rfl)) ?_; (with_reducible refine (stillagelaw07_Fits.calls k _ _ l0_0 _ _ l0_1 _ _ l1 true _ ?side1 ?side2 ?side3 ?side4 ?side5 ?side6 A9.out).mono ?_); (case side1 => repeat (first | exact (Kd.C_below HR0_0.out HB.out) | (with_reducible refine Kd.C_alloc ?_ _) | (with_reducible refine Kd.C_drewN ?_ _) | (with_reducible refine Kd.C_drew ?_))); (case side2 => exact HC0_0.out); (case side3 => repeat (first | exact (Kd.C_below HR0_1.out HB.out) | (with_reducible refine Kd.C_alloc ?_ _) | (with_reducible refine Kd.C_drewN ?_ _) | (with_reducible refine Kd.C_drew ?_))); (case side4 => exact HC0_1.out); (case side5 => repeat (first | exact (Kd.C_below HR1.out HB.out) | (with_reducible refine Kd.C_alloc ?_ _) | (with_reducible refine Kd.C_drewN ?_ _) | (with_reducible refine Kd.C_drew ?_))); (case side6 => exact HC1.out); rintro e w15 ⟨rfl, hb⟩; refine ⟨_, rfl, ?_⟩; replace BK322 := Aside0.mk (blk_below (g := gb322) (o := .cells #[.slice A0_0 l0_0.length c0_0, .slice A0_1 l0_1.length c0_1] 25 (0, 0)) (by (with_reducible repeat (first | refine blk_drewN ?_ _ | refine blk_drew ?_ | refine blk_alloc ?_ _)); exact BK322.out) hb); replace HB := Aside0.mk (below_step (by repeat (first | (with_reducible first | exact HB.out | apply below_alloc | apply pw_below_drewN | apply below_drew1 | refine below_set ?_ GE322.out) | exact HB.out)) hb); (try clear hb); have hcz16_0 : w15.cell? ⟨gb322, 0, none⟩ = some (.slice A0_0 l0_0.length c0_0) := (blk_cell BK322.out 0).trans rfl; have hcz16_1 : w15.cell? ⟨gb322, 1, none⟩ = some (.slice A0_1 l0_1.length c0_1) := (blk_cell BK322.out 1).trans rfl; have hfz16_0 := blk_frozen BK322.out 0; have hfz16_1 := blk_frozen BK322.out 1))
  go_meet
  case rel => exact ⟨_, (decide ((l0_0.length : Int) > 20)), (by first | rfl | (simp; done) | (simp [*]; done)), H', ⟨by first | omega | exact Nat.le_refl _⟩, ⟨by (with_reducible repeat (first | refine blk_drewN ?_ _ | refine blk_drew ?_ | refine blk_alloc ?_ _)); exact BK322.out⟩, ⟨by repeat (first | (with_reducible first | exact HB.out | apply below_alloc | apply pw_below_drewN | apply below_drew1 | refine below_set ?_ GE322.out) | exact HB.out)⟩⟩
 case rest =>
  clear HC6
  obtain ⟨kq, x36_5, rfl, HA, HJ5, BK322, HB⟩ := hcut
  cases kq with
  | zero => exact absurd HA.out (by simp [stillagelaw08_RouteAvoids.j0])
  | succ kj5 =>
   have H := HA.out
   clear HA
   simp only [stillagelaw08_RouteAvoids.j0] at H
   by_cases c19 : x36_5 = true
   ·subst c19
    have H1 : (some true) = some r := by rw [if_pos rfl] at H; exact H
    clear H; have H := H1; clear H1
    obtain rfl := Option.some.inj H
    go_wp2
    go_ret
    exact ⟨by first | rfl | (simp [errW_none, errW_some] <;> rfl) | (simp [*, errW_none, errW_some] <;> rfl), by repeat (first | (with_reducible first | exact HB.out | apply below_alloc | apply pw_below_drewN | apply below_drew1 | refine below_set ?_ GE322.out) | exact HB.out)⟩
   replace c19 := Bool.eq_false_iff.mpr c19
   subst c19
   have H1 : (stillagelaw08_RouteAvoids.l0 kj5 l1 l2 (l0_0.length : Int) 0 l0_0 l0_1) = some r := by rw [if_neg (show ¬ (false = true) by decide)] at H; exact H
   clear H; have H := H1; clear H1
   have H' := Aside0.mk H; clear H
   have hcz20_0 : wc.cell? ⟨gb322, 0, none⟩ = some (.slice A0_0 l0_0.length c0_0) := (blk_cell BK322.out 0).trans rfl
   have hcz20_1 : wc.cell? ⟨gb322, 1, none⟩ = some (.slice A0_1 l0_1.length c0_1) := (blk_cell BK322.out 1).trans rfl
   have hfz20_0 := blk_frozen BK322.out 0
   have hfz20_1 := blk_frozen BK322.out 1
   go_wp2
   go_loopg [40] kj5 (fun kq v40 w' => ∃ (x40_2 : Int), v40 = .int .i64 x40_2 ∧ Aside0 (stillagelaw08_RouteAvoids.l0 kq l1 l2 (l0_0.length : Int) x40_2 l0_0 l0_1 = some r) ∧ Aside0 (kq ≤ kj5) ∧ Aside0 (w'.heap[gb322]? = some (.cells #[(.slice A0_0 l0_0.length c0_0), (.slice A0_1 l0_1.length c0_1)] 25 (0, 0))) ∧ Aside0 (Below w.heap.size w w'))
   case atStart => exact ⟨(0), (by first | rfl | (simp; done) | (simp [*]; done)), H', ⟨Nat.le_refl _⟩, ⟨by (with_reducible repeat (first | refine blk_drewN ?_ _ | refine blk_drew ?_ | refine blk_alloc ?_ _)); exact BK322.out⟩, ⟨by repeat (first | (with_reducible first | exact HB.out | apply below_alloc | apply pw_below_drewN | apply below_drew1 | refine below_set ?_ GE322.out) | exact HB.out)⟩⟩
   case round =>
    clear H'
    obtain ⟨x40_2, rfl, HA, HK2, BK322, HB⟩ := hrel
    cases gk with
    | zero => exact absurd HA.out (by simp [stillagelaw08_RouteAvoids.l0])
    | succ k2 =>
     have H := HA.out
     clear HA
     simp only [stillagelaw08_RouteAvoids.l0] at H
     by_cases c21 : x40_2 < (l0_0.length : Int)
     rotate_left
     ·rw [if_neg c21] at H
      have c21b0 : decide (x40_2 < (l0_0.length : Int)) = false := decide_eq_false c21
      clear c21
      obtain rfl := Option.some.inj H
      go_wp2
      go_ret
      exact ⟨by first | rfl | (simp [errW_none, errW_some] <;> rfl) | (simp [*, errW_none, errW_some] <;> rfl), by repeat (first | (with_reducible first | exact HB.out | apply below_alloc | apply pw_below_drewN | apply below_drew1 | refine below_set ?_ GE322.out) | exact HB.out)⟩
     rw [if_pos c21] at H
     have c21b0 : decide (x40_2 < (l0_0.length : Int)) = true := decide_eq_true c21
     clear c21
     have H' := Aside0.mk H; clear H
     have hcz22_0 : wr.cell? ⟨gb322, 0, none⟩ = some (.slice A0_0 l0_0.length c0_0) := (blk_cell BK322.out 0).trans rfl
     have hcz22_1 : wr.cell? ⟨gb322, 1, none⟩ = some (.slice A0_1 l0_1.length c0_1) := (blk_cell BK322.out 1).trans rfl
     have hfz22_0 := blk_frozen BK322.out 0
     have hfz22_1 := blk_frozen BK322.out 1
     go_wp2
     go_loopg [46] k2 (fun kq v46 w' => ∃ (x46_3 : Int), v46 = .int .i64 x46_3 ∧ Aside0 (stillagelaw08_RouteAvoids.l1 kq l1 l2 x40_2 (l0_0.length : Int) x40_2 (l0_0.length : Int) x46_3 l0_0 l0_1 = some r) ∧ Aside0 (kq ≤ k2) ∧ Aside0 (w'.heap[gb322]? = some (.cells #[(.slice A0_0 l0_0.length c0_0), (.slice A0_1 l0_1.length c0_1)] 25 (0, 0))) ∧ Aside0 (Below w.heap.size w w'))
     case atStart => exact ⟨(0), (by first | rfl | (simp; done) | (simp [*]; done)), H', ⟨Nat.le_refl _⟩, ⟨by (with_reducible repeat (first | refine blk_drewN ?_ _ | refine blk_drew ?_ | refine blk_alloc ?_ _)); exact BK322.out⟩, ⟨by repeat (first | (with_reducible first | exact HB.out | apply below_alloc | apply pw_below_drewN | apply below_drew1 | refine below_set ?_ GE322.out) | exact HB.out)⟩⟩
     case round =>
      clear H'
      obtain ⟨x46_3, rfl, HA, HK3, BK322, HB⟩ := hrel
      cases gk with
      | zero => exact absurd HA.out (by simp [stillagelaw08_RouteAvoids.l1])
      | succ k3 =>
       have H := HA.out
       clear HA
       simp only [stillagelaw08_RouteAvoids.l1] at H
       by_cases c23 : x46_3 < (l0_0.length : Int)
       rotate_left
       ·rw [if_neg c23] at H
        have c23b0 : decide (x46_3 < (l0_0.length : Int)) = false := decide_eq_false c23
        clear c23
        have H' := Aside0.mk H; clear H
        go_wp2
        go_roundg k3
        case measure => have := HJ5.out; have := HK2.out; have := HK3.out; omega
        case rel => exact ⟨(wrap64 (x40_2 + 1)), (by first | rfl | (simp; done) | (simp [*]; done)), H', ⟨by have := HJ5.out; have := HK2.out; have := HK3.out; omega⟩, ⟨by (with_reducible repeat (first | refine blk_drewN ?_ _ | refine blk_drew ?_ | refine blk_alloc ?_ _)); exact BK322.out⟩, ⟨by repeat (first | (with_reducible first | exact HB.out | apply below_alloc | apply pw_below_drewN | apply below_drew1 | refine below_set ?_ GE322.out) | exact HB.out)⟩⟩
       rw [if_pos c23] at H
       have c23b0 : decide (x46_3 < (l0_0.length : Int)) = true := decide_eq_true c23
       clear c23
       replace H := Option.bind_eq_some_iff.mp H; obtain ⟨⟨t325, t328⟩, A240, H⟩ := H
       replace H : ((route_Around.f k3 l0_0 l0_1 l1 x40_2 x46_3 l2).bind fun bt329 => ((route_Around.f k3 l0_0 l0_1 l1 x40_2 x46_3 ([] : List Int)).bind fun bt333 => (if t328 = bt333.2 then ((stillageref01_Ints.f k3 t325 bt333.1).bind fun t337 => (if t337 = true then (if bt329.2 = 0 then (if t328 = 0 then (stillagelaw08_RouteAvoids.j3 k3 l1 l2 x40_2 x46_3 bt329.1 bt329.2 (l0_0.length : Int) x40_2 (l0_0.length : Int) x46_3 (decide ((bt329.1.length : Int) < (t325.length : Int))) l0_0 l0_1) else (stillagelaw08_RouteAvoids.j3 k3 l1 l2 x40_2 x46_3 bt329.1 bt329.2 (l0_0.length : Int) x40_2 (l0_0.length : Int) x46_3 true l0_0 l0_1)) else (stillagelaw08_RouteAvoids.j3 k3 l1 l2 x40_2 x46_3 bt329.1 bt329.2 (l0_0.length : Int) x40_2 (l0_0.length : Int) x46_3 false l0_0 l0_1)) else (stillagelaw08_RouteAvoids.j3 k3 l1 l2 x40_2 x46_3 bt329.1 bt329.2 (l0_0.length : Int) x40_2 (l0_0.length : Int) x46_3 true l0_0 l0_1))) else (stillagelaw08_RouteAvoids.j3 k3 l1 l2 x40_2 x46_3 bt329.1 bt329.2 (l0_0.length : Int) x40_2 (l0_0.length : Int) x46_3 true l0_0 l0_1)))) = some r := H
       have A24 := Aside0.mk A240
       clear A240
       replace H := Option.bind_eq_some_iff.mp H; obtain ⟨⟨t329, t332⟩, A250, H⟩ := H
       replace H : ((route_Around.f k3 l0_0 l0_1 l1 x40_2 x46_3 ([] : List Int)).bind fun bt333 => (if t328 = bt333.2 then ((stillageref01_Ints.f k3 t325 bt333.1).bind fun t337 => (if t337 = true then (if t332 = 0 then (if t328 = 0 then (stillagelaw08_RouteAvoids.j3 k3 l1 l2 x40_2 x46_3 t329 t332 (l0_0.length : Int) x40_2 (l0_0.length : Int) x46_3 (decide ((t329.length : Int) < (t325.length : Int))) l0_0 l0_1) else (stillagelaw08_RouteAvoids.j3 k3 l1 l2 x40_2 x46_3 t329 t332 (l0_0.length : Int) x40_2 (l0_0.length : Int) x46_3 true l0_0 l0_1)) else (stillagelaw08_RouteAvoids.j3 k3 l1 l2 x40_2 x46_3 t329 t332 (l0_0.length : Int) x40_2 (l0_0.length : Int) x46_3 false l0_0 l0_1)) else (stillagelaw08_RouteAvoids.j3 k3 l1 l2 x40_2 x46_3 t329 t332 (l0_0.length : Int) x40_2 (l0_0.length : Int) x46_3 true l0_0 l0_1))) else (stillagelaw08_RouteAvoids.j3 k3 l1 l2 x40_2 x46_3 t329 t332 (l0_0.length : Int) x40_2 (l0_0.length : Int) x46_3 true l0_0 l0_1))) = some r := H
       have A25 := Aside0.mk A250
       clear A250
       replace H := Option.bind_eq_some_iff.mp H; obtain ⟨⟨t333, t336⟩, A260, H⟩ := H
       replace H : (if t328 = t336 then ((stillageref01_Ints.f k3 t325 t333).bind fun t337 => (if t337 = true then (if t332 = 0 then (if t328 = 0 then (stillagelaw08_RouteAvoids.j3 k3 l1 l2 x40_2 x46_3 t329 t332 (l0_0.length : Int) x40_2 (l0_0.length : Int) x46_3 (decide ((t329.length : Int) < (t325.length : Int))) l0_0 l0_1) else (stillagelaw08_RouteAvoids.j3 k3 l1 l2 x40_2 x46_3 t329 t332 (l0_0.length : Int) x40_2 (l0_0.length : Int) x46_3 true l0_0 l0_1)) else (stillagelaw08_RouteAvoids.j3 k3 l1 l2 x40_2 x46_3 t329 t332 (l0_0.length : Int) x40_2 (l0_0.length : Int) x46_3 false l0_0 l0_1)) else (stillagelaw08_RouteAvoids.j3 k3 l1 l2 x40_2 x46_3 t329 t332 (l0_0.length : Int) x40_2 (l0_0.length : Int) x46_3 true l0_0 l0_1))) else (stillagelaw08_RouteAvoids.j3 k3 l1 l2 x40_2 x46_3 t329 t332 (l0_0.length : Int) x40_2 (l0_0.length : Int) x46_3 true l0_0 l0_1)) = some r := H
       have A26 := Aside0.mk A260
       clear A260
       have HC27 := Aside0.mk H
       clear H
       have hcz28_0 : wr.cell? ⟨gb322, 0, none⟩ = some (.slice A0_0 l0_0.length c0_0) := (blk_cell BK322.out 0).trans rfl
       have hcz28_1 : wr.cell? ⟨gb322, 1, none⟩ = some (.slice A0_1 l0_1.length c0_1) := (blk_cell BK322.out 1).trans rfl
       have hfz28_0 := blk_frozen BK322.out 0
       have hfz28_1 := blk_frozen BK322.out 1
       go_upto_region 14 with (first | ((with_reducible refine gate_callee (f := 18) rfl ?_); refine goesL_ (some 54) rfl rfl Try.func18 (by kernel_rfl) rfl #[.agg #[.slice A0_0 l0_0.length c0_0, .slice A0_1 l0_1.length c0_1], .slice A1 l1.length c1, .int .i64 x40_2, .int .i64 x46_3] rfl (by (try simp only [List.map_toArray, List.map_cons, List.map_nil]); first | done | rfl | (simp only [List.length_drop, List.length_take]; rfl)) ?_; (with_reducible refine (route_Path.calls k3 _ _ l0_0 _ _ l0_1 _ _ l1 x40_2 x46_3 t325 t328 _ ?side1 ?side2 ?side3 ?side4 ?side5 ?side6 A24.out).mono ?_); (case side1 => repeat (first | exact (Kd.C_below HR0_0.out HB.out) | (with_reducible refine Kd.C_alloc ?_ _) | (with_reducible refine Kd.C_drewN ?_ _) | (with_reducible refine Kd.C_drew ?_))); (case side2 => exact HC0_0.out); (case side3 => repeat (first | exact (Kd.C_below HR0_1.out HB.out) | (with_reducible refine Kd.C_alloc ?_ _) | (with_reducible refine Kd.C_drewN ?_ _) | (with_reducible refine Kd.C_drew ?_))); (case side4 => exact HC0_1.out); (case side5 => repeat (first | exact (Kd.C_below HR1.out HB.out) | (with_reducible refine Kd.C_alloc ?_ _) | (with_reducible refine Kd.C_drewN ?_ _) | (with_reducible refine Kd.C_drew ?_))); (case side6 => exact HC1.out); rintro e w29 ⟨v326, rfl, ho0, hb⟩; refine ⟨_, rfl, ?_⟩; have HO327 := Aside0.mk (Kd.R_lower ho0 (below_size (by repeat (first | (with_reducible first | exact HB.out | apply below_alloc | apply pw_below_drewN | apply below_drew1 | refine below_set ?_ GE322.out) | exact HB.out)))); replace BK322 := Aside0.mk (blk_below (g := gb322) (o := .cells #[.slice A0_0 l0_0.length c0_0, .slice A0_1 l0_1.length c0_1] 25 (0, 0)) (by (with_reducible repeat (first | refine blk_drewN ?_ _ | refine blk_drew ?_ | refine blk_alloc ?_ _)); exact BK322.out) hb); replace HB := Aside0.mk (below_step (by repeat (first | (with_reducible first | exact HB.out | apply below_alloc | apply pw_below_drewN | apply below_drew1 | refine below_set ?_ GE322.out) | exact HB.out)) hb); (try clear hb); (try clear ho0); have hcz30_0 : w29.cell? ⟨gb322, 0, none⟩ = some (.slice A0_0 l0_0.length c0_0) := (blk_cell BK322.out 0).trans rfl; have hcz30_1 : w29.cell? ⟨gb322, 1, none⟩ = some (.slice A0_1 l0_1.length c0_1) := (blk_cell BK322.out 1).trans rfl; have hfz30_0 := blk_frozen BK322.out 0; have hfz30_1 := blk_frozen BK322.out 1) | ((with_reducible refine gate_callee (f := 19) rfl ?_); refine goesL_ (some 63) rfl rfl Try.func19 (by kernel_rfl) rfl #[.agg #[.slice A0_0 l0_0.length c0_0, .slice A0_1 l0_1.length c0_1], .slice A1 l1.length c1, .int .i64 x40_2, .int .i64 x46_3, .slice A2 l2.length c2] rfl (by (try simp only [List.map_toArray, List.map_cons, List.map_nil]); first | done | rfl | (simp only [List.length_drop, List.length_take]; rfl)) ?_; (with_reducible refine (route_Around.calls k3 _ _ l0_0 _ _ l0_1 _ _ l1 x40_2 x46_3 _ _ l2 t329 t332 _ ?side1 ?side2 ?side3 ?side4 ?side5 ?side6 ?side7 ?side8 A25.out).mono ?_); (case side1 => repeat (first | exact (Kd.C_below HR0_0.out HB.out) | (with_reducible refine Kd.C_alloc ?_ _) | (with_reducible refine Kd.C_drewN ?_ _) | (with_reducible refine Kd.C_drew ?_))); (case side2 => exact HC0_0.out); (case side3 => repeat (first | exact (Kd.C_below HR0_1.out HB.out) | (with_reducible refine Kd.C_alloc ?_ _) | (with_reducible refine Kd.C_drewN ?_ _) | (with_reducible refine Kd.C_drew ?_))); (case side4 => exact HC0_1.out); (case side5 => repeat (first | exact (Kd.C_below HR1.out HB.out) | (with_reducible refine Kd.C_alloc ?_ _) | (with_reducible refine Kd.C_drewN ?_ _) | (with_reducible refine Kd.C_drew ?_))); (case side6 => exact HC1.out); (case side7 => repeat (first | exact (Kd.C_below HR2.out HB.out) | (with_reducible refine Kd.C_alloc ?_ _) | (with_reducible refine Kd.C_drewN ?_ _) | (with_reducible refine Kd.C_drew ?_))); (case side8 => exact HC2.out); rintro e w31 ⟨v330, rfl, ho0, hb⟩; refine ⟨_, rfl, ?_⟩; have HO331 := Aside0.mk (Kd.R_lower (Kd.R_new' ho0 (Kd.R_lt (by (with_reducible repeat (first | apply Kd.R_alloc | apply Kd.R_drewN | apply Kd.R_drew)); exact HO327.out))) (below_size (by repeat (first | (with_reducible first | exact HB.out | apply below_alloc | apply pw_below_drewN | apply below_drew1 | refine below_set ?_ GE322.out) | exact HB.out)))); replace HO327 := Aside0.mk (Kd.R_elder' (by (with_reducible repeat (first | apply Kd.R_alloc | apply Kd.R_drewN | apply Kd.R_drew)); exact HO327.out) (Kd.R_base ho0) hb); replace BK322 := Aside0.mk (blk_below (g := gb322) (o := .cells #[.slice A0_0 l0_0.length c0_0, .slice A0_1 l0_1.length c0_1] 25 (0, 0)) (by (with_reducible repeat (first | refine blk_drewN ?_ _ | refine blk_drew ?_ | refine blk_alloc ?_ _)); exact BK322.out) hb); replace HB := Aside0.mk (below_step (by repeat (first | (with_reducible first | exact HB.out | apply below_alloc | apply pw_below_drewN | apply below_drew1 | refine below_set ?_ GE322.out) | exact HB.out)) hb); (try clear hb); (try clear ho0); have hcz32_0 : w31.cell? ⟨gb322, 0, none⟩ = some (.slice A0_0 l0_0.length c0_0) := (blk_cell BK322.out 0).trans rfl; have hcz32_1 : w31.cell? ⟨gb322, 1, none⟩ = some (.slice A0_1 l0_1.length c0_1) := (blk_cell BK322.out 1).trans rfl; have hfz32_0 := blk_frozen BK322.out 0; have hfz32_1 := blk_frozen BK322.out 1) | ((with_reducible refine gate_callee (f := 19) rfl ?_); refine goesL_ (some 71) rfl rfl Try.func19 (by kernel_rfl) rfl #[.agg #[.slice A0_0 l0_0.length c0_0, .slice A0_1 l0_1.length c0_1], .slice A1 l1.length c1, .int .i64 x40_2, .int .i64 x46_3, .slice none 0 0] rfl (by (try simp only [List.map_toArray, List.map_cons, List.map_nil]); first | done | rfl | (simp only [List.length_drop, List.length_take]; rfl)) ?_; (refine (route_Around.calls k3 _ _ l0_0 _ _ l0_1 _ _ l1 x40_2 x46_3 _ _ ([] : List Int) t333 t336 _ ?side1 ?side2 ?side3 ?side4 ?side5 ?side6 ?side7 ?side8 A26.out).mono ?_); (case side1 => repeat (first | exact (Kd.C_below HR0_0.out HB.out) | (with_reducible refine Kd.C_alloc ?_ _) | (with_reducible refine Kd.C_drewN ?_ _) | (with_reducible refine Kd.C_drew ?_))); (case side2 => exact HC0_0.out); (case side3 => repeat (first | exact (Kd.C_below HR0_1.out HB.out) | (with_reducible refine Kd.C_alloc ?_ _) | (with_reducible refine Kd.C_drewN ?_ _) | (with_reducible refine Kd.C_drew ?_))); (case side4 => exact HC0_1.out); (case side5 => repeat (first | exact (Kd.C_below HR1.out HB.out) | (with_reducible refine Kd.C_alloc ?_ _) | (with_reducible refine Kd.C_drewN ?_ _) | (with_reducible refine Kd.C_drew ?_))); (case side6 => exact HC1.out); (case side7 => exact Kd.C_nil _ _); (case side8 => exact Nat.le_refl _); rintro e w33 ⟨v334, rfl, ho0, hb⟩; refine ⟨_, rfl, ?_⟩; have HO335 := Aside0.mk (Kd.R_lower (Kd.R_new' (Kd.R_new' ho0 (Kd.R_lt (by (with_reducible repeat (first | apply Kd.R_alloc | apply Kd.R_drewN | apply Kd.R_drew)); exact HO327.out))) (Kd.R_lt (by (with_reducible repeat (first | apply Kd.R_alloc | apply Kd.R_drewN | apply Kd.R_drew)); exact HO331.out))) (below_size (by repeat (first | (with_reducible first | exact HB.out | apply below_alloc | apply pw_below_drewN | apply below_drew1 | refine below_set ?_ GE322.out) | exact HB.out)))); replace HO327 := Aside0.mk (Kd.R_elder' (by (with_reducible repeat (first | apply Kd.R_alloc | apply Kd.R_drewN | apply Kd.R_drew)); exact HO327.out) (Kd.R_base ho0) hb); replace HO331 := Aside0.mk (Kd.R_elder' (by (with_reducible repeat (first | apply Kd.R_alloc | apply Kd.R_drewN | apply Kd.R_drew)); exact HO331.out) (Kd.R_base ho0) hb); replace BK322 := Aside0.mk (blk_below (g := gb322) (o := .cells #[.slice A0_0 l0_0.length c0_0, .slice A0_1 l0_1.length c0_1] 25 (0, 0)) (by (with_reducible repeat (first | refine blk_drewN ?_ _ | refine blk_drew ?_ | refine blk_alloc ?_ _)); exact BK322.out) hb); replace HB := Aside0.mk (below_step (by repeat (first | (with_reducible first | exact HB.out | apply below_alloc | apply pw_below_drewN | apply below_drew1 | refine below_set ?_ GE322.out) | exact HB.out)) hb); (try clear hb); (try clear ho0)))
       (try simp only [Act.put, List.setIfInBounds_toArray, List.set_cons_zero, List.set_cons_succ])
       go_cut [97] (fun v97 wc => ∃ (kq : Nat) (x97_26 : Bool), v97 = .bool x97_26 ∧ Aside0 (stillagelaw08_RouteAvoids.j3 kq l1 l2 x40_2 x46_3 t329 t332 (l0_0.length : Int) x40_2 (l0_0.length : Int) x46_3 x97_26 l0_0 l0_1 = some r) ∧ Aside0 (kq ≤ k3) ∧ Aside0 (Kd.R (Kd.int .i64) 3 wc w.heap.size (fun _ => True) v330 t329) ∧ Aside0 (wc.heap[gb322]? = some (.cells #[(.slice A0_0 l0_0.length c0_0), (.slice A0_1 l0_1.length c0_1)] 25 (0, 0))) ∧ Aside0 (Below w.heap.size w wc))
       case first =>
        have H := HC27.out
        clear HC27
        by_cases c34 : t328 = t336
        rotate_left
        ·rw [if_neg c34] at H
         have c34b0 : (t328 == t336) = false := beq_eq_false_iff_ne.mpr c34
         have c34b1 : (t328 != t336) = true := bne_iff_ne.mpr c34
         (first | rw [c34b0] | (simp only [i64_w, i32_w]; rw [c34b0]) | skip)
         have H' := Aside0.mk H; clear H
         go_wp2
         go_meet
         case rel => exact ⟨_, (true), (by first | rfl | (simp; done) | (simp [*]; done)), H', ⟨by have := HJ5.out; have := HK2.out; have := HK3.out; first | omega | exact Nat.le_refl _⟩, ⟨by (with_reducible repeat (first | apply Kd.R_alloc | apply Kd.R_drewN | apply Kd.R_drew)); exact Kd.R_mono HO331.out (fun _ hk => trivial)⟩, ⟨by (with_reducible repeat (first | refine blk_drewN ?_ _ | refine blk_drew ?_ | refine blk_alloc ?_ _)); exact BK322.out⟩, ⟨by repeat (first | (with_reducible first | exact HB.out | apply below_alloc | apply pw_below_drewN | apply below_drew1 | refine below_set ?_ GE322.out) | exact HB.out)⟩⟩
        rw [if_pos c34] at H
        have c34b0 : (t328 == t336) = true := beq_iff_eq.mpr c34
        have c34b1 : (t328 != t336) = false := bne_eq_false_iff_eq.mpr c34
        clear c34
        (first | rw [c34b0] | (simp only [i64_w, i32_w]; rw [c34b0]) | skip)
        replace H := Option.bind_eq_some_iff.mp H; obtain ⟨t337, A350, H⟩ := H
        replace H : (if t337 = true then (if t332 = 0 then (if t328 = 0 then (stillagelaw08_RouteAvoids.j3 k3 l1 l2 x40_2 x46_3 t329 t332 (l0_0.length : Int) x40_2 (l0_0.length : Int) x46_3 (decide ((t329.length : Int) < (t325.length : Int))) l0_0 l0_1) else (stillagelaw08_RouteAvoids.j3 k3 l1 l2 x40_2 x46_3 t329 t332 (l0_0.length : Int) x40_2 (l0_0.length : Int) x46_3 true l0_0 l0_1)) else (stillagelaw08_RouteAvoids.j3 k3 l1 l2 x40_2 x46_3 t329 t332 (l0_0.length : Int) x40_2 (l0_0.length : Int) x46_3 false l0_0 l0_1)) else (stillagelaw08_RouteAvoids.j3 k3 l1 l2 x40_2 x46_3 t329 t332 (l0_0.length : Int) x40_2 (l0_0.length : Int) x46_3 true l0_0 l0_1)) = some r := H
        have A35 := Aside0.mk A350
        clear A350
        by_cases c36 : t337 = true
        rotate_left
        ·replace c36 := Bool.eq_false_iff.mpr c36
         subst c36
         have H1 : (stillagelaw08_RouteAvoids.j3 k3 l1 l2 x40_2 x46_3 t329 t332 (l0_0.length : Int) x40_2 (l0_0.length : Int) x46_3 true l0_0 l0_1) = some r := by rw [if_neg (show ¬ (false = true) by decide)] at H; exact H
         clear H; have H := H1; clear H1
         have H' := Aside0.mk H; clear H
         obtain ⟨Ao46, co46, eo46⟩ := Kd.R_slice HO327.out
         subst eo46
         obtain ⟨Ao47, co47, eo47⟩ := Kd.R_slice HO335.out
         subst eo47
         go_wp2_with (first | (go_at_call 15; (with_reducible refine (stillageref01_Ints.calls k3 _ _ t325 _ _ t333 false _ ?side1 ?side2 ?side3 ?side4 A35.out).mono ?_); (case side1 => repeat (first | exact (Kd.R_reads' HO327.out).2.2 | (with_reducible refine Kd.C_alloc ?_ _) | (with_reducible refine Kd.C_drewN ?_ _) | (with_reducible refine Kd.C_drew ?_))); (case side2 => exact (Kd.R_reads' HO327.out).2.1); (case side3 => repeat (first | exact (Kd.R_reads' HO335.out).2.2 | (with_reducible refine Kd.C_alloc ?_ _) | (with_reducible refine Kd.C_drewN ?_ _) | (with_reducible refine Kd.C_drew ?_))); (case side4 => exact (Kd.R_reads' HO335.out).2.1); rintro e w' ⟨rfl, ⟨nd, rfl⟩⟩))
         go_meet
         case rel => exact ⟨_, (true), (by first | rfl | (simp; done) | (simp [*]; done)), H', ⟨by have := HJ5.out; have := HK2.out; have := HK3.out; first | omega | exact Nat.le_refl _⟩, ⟨by (with_reducible repeat (first | apply Kd.R_alloc | apply Kd.R_drewN | apply Kd.R_drew)); exact Kd.R_mono HO331.out (fun _ hk => trivial)⟩, ⟨by (with_reducible repeat (first | refine blk_drewN ?_ _ | refine blk_drew ?_ | refine blk_alloc ?_ _)); exact BK322.out⟩, ⟨by repeat (first | (with_reducible first | exact HB.out | apply below_alloc | apply pw_below_drewN | apply below_drew1 | refine below_set ?_ GE322.out) | exact HB.out)⟩⟩
        subst c36
        have H1 : (if t332 = 0 then (if t328 = 0 then (stillagelaw08_RouteAvoids.j3 k3 l1 l2 x40_2 x46_3 t329 t332 (l0_0.length : Int) x40_2 (l0_0.length : Int) x46_3 (decide ((t329.length : Int) < (t325.length : Int))) l0_0 l0_1) else (stillagelaw08_RouteAvoids.j3 k3 l1 l2 x40_2 x46_3 t329 t332 (l0_0.length : Int) x40_2 (l0_0.length : Int) x46_3 true l0_0 l0_1)) else (stillagelaw08_RouteAvoids.j3 k3 l1 l2 x40_2 x46_3 t329 t332 (l0_0.length : Int) x40_2 (l0_0.length : Int) x46_3 false l0_0 l0_1)) = some r := by rw [if_pos rfl] at H; exact H
        clear H; have H := H1; clear H1
        by_cases c37 : t332 = 0
        rotate_left
        ·rw [if_neg c37] at H
         have c37b0 : (t332 == 0) = false := beq_eq_false_iff_ne.mpr c37
         have c37b1 : (t332 != 0) = true := bne_iff_ne.mpr c37
         have H' := Aside0.mk H; clear H
         obtain ⟨Ao44, co44, eo44⟩ := Kd.R_slice HO327.out
         subst eo44
         obtain ⟨Ao45, co45, eo45⟩ := Kd.R_slice HO335.out
         subst eo45
         go_wp2_with (first | (go_at_call 15; (with_reducible refine (stillageref01_Ints.calls k3 _ _ t325 _ _ t333 true _ ?side1 ?side2 ?side3 ?side4 A35.out).mono ?_); (case side1 => repeat (first | exact (Kd.R_reads' HO327.out).2.2 | (with_reducible refine Kd.C_alloc ?_ _) | (with_reducible refine Kd.C_drewN ?_ _) | (with_reducible refine Kd.C_drew ?_))); (case side2 => exact (Kd.R_reads' HO327.out).2.1); (case side3 => repeat (first | exact (Kd.R_reads' HO335.out).2.2 | (with_reducible refine Kd.C_alloc ?_ _) | (with_reducible refine Kd.C_drewN ?_ _) | (with_reducible refine Kd.C_drew ?_))); (case side4 => exact (Kd.R_reads' HO335.out).2.1); rintro e w' ⟨rfl, ⟨nd, rfl⟩⟩))
         go_meet
         case rel => exact ⟨_, (false), (by first | rfl | (simp; done) | (simp [*]; done)), H', ⟨by have := HJ5.out; have := HK2.out; have := HK3.out; first | omega | exact Nat.le_refl _⟩, ⟨by (with_reducible repeat (first | apply Kd.R_alloc | apply Kd.R_drewN | apply Kd.R_drew)); exact Kd.R_mono HO331.out (fun _ hk => trivial)⟩, ⟨by (with_reducible repeat (first | refine blk_drewN ?_ _ | refine blk_drew ?_ | refine blk_alloc ?_ _)); exact BK322.out⟩, ⟨by repeat (first | (with_reducible first | exact HB.out | apply below_alloc | apply pw_below_drewN | apply below_drew1 | refine below_set ?_ GE322.out) | exact HB.out)⟩⟩
        rw [if_pos c37] at H
        have c37b0 : (t332 == 0) = true := beq_iff_eq.mpr c37
        have c37b1 : (t332 != 0) = false := bne_eq_false_iff_eq.mpr c37
        clear c37
        by_cases c38 : t328 = 0
        rotate_left
        ·rw [if_neg c38] at H
         have c38b0 : (t328 == 0) = false := beq_eq_false_iff_ne.mpr c38
         have c38b1 : (t328 != 0) = true := bne_iff_ne.mpr c38
         have H' := Aside0.mk H; clear H
         obtain ⟨Ao42, co42, eo42⟩ := Kd.R_slice HO327.out
         subst eo42
         obtain ⟨Ao43, co43, eo43⟩ := Kd.R_slice HO335.out
         subst eo43
         go_wp2_with (first | (go_at_call 15; (with_reducible refine (stillageref01_Ints.calls k3 _ _ t325 _ _ t333 true _ ?side1 ?side2 ?side3 ?side4 A35.out).mono ?_); (case side1 => repeat (first | exact (Kd.R_reads' HO327.out).2.2 | (with_reducible refine Kd.C_alloc ?_ _) | (with_reducible refine Kd.C_drewN ?_ _) | (with_reducible refine Kd.C_drew ?_))); (case side2 => exact (Kd.R_reads' HO327.out).2.1); (case side3 => repeat (first | exact (Kd.R_reads' HO335.out).2.2 | (with_reducible refine Kd.C_alloc ?_ _) | (with_reducible refine Kd.C_drewN ?_ _) | (with_reducible refine Kd.C_drew ?_))); (case side4 => exact (Kd.R_reads' HO335.out).2.1); rintro e w' ⟨rfl, ⟨nd, rfl⟩⟩))
         go_meet
         case rel => exact ⟨_, (true), (by first | rfl | (simp; done) | (simp [*]; done)), H', ⟨by have := HJ5.out; have := HK2.out; have := HK3.out; first | omega | exact Nat.le_refl _⟩, ⟨by (with_reducible repeat (first | apply Kd.R_alloc | apply Kd.R_drewN | apply Kd.R_drew)); exact Kd.R_mono HO331.out (fun _ hk => trivial)⟩, ⟨by (with_reducible repeat (first | refine blk_drewN ?_ _ | refine blk_drew ?_ | refine blk_alloc ?_ _)); exact BK322.out⟩, ⟨by repeat (first | (with_reducible first | exact HB.out | apply below_alloc | apply pw_below_drewN | apply below_drew1 | refine below_set ?_ GE322.out) | exact HB.out)⟩⟩
        rw [if_pos c38] at H
        have c38b0 : (t328 == 0) = true := beq_iff_eq.mpr c38
        have c38b1 : (t328 != 0) = false := bne_eq_false_iff_eq.mpr c38
        clear c38
        have H' := Aside0.mk H; clear H
        obtain ⟨Ao39, co39, eo39⟩ := Kd.R_slice HO327.out
        subst eo39
        obtain ⟨Ao40, co40, eo40⟩ := Kd.R_slice HO335.out
        subst eo40
        go_wp2_with (first | (go_at_call 15; (with_reducible refine (stillageref01_Ints.calls k3 _ _ t325 _ _ t333 true _ ?side1 ?side2 ?side3 ?side4 A35.out).mono ?_); (case side1 => repeat (first | exact (Kd.R_reads' HO327.out).2.2 | (with_reducible refine Kd.C_alloc ?_ _) | (with_reducible refine Kd.C_drewN ?_ _) | (with_reducible refine Kd.C_drew ?_))); (case side2 => exact (Kd.R_reads' HO327.out).2.1); (case side3 => repeat (first | exact (Kd.R_reads' HO335.out).2.2 | (with_reducible refine Kd.C_alloc ?_ _) | (with_reducible refine Kd.C_drewN ?_ _) | (with_reducible refine Kd.C_drew ?_))); (case side4 => exact (Kd.R_reads' HO335.out).2.1); rintro e w' ⟨rfl, ⟨nd, rfl⟩⟩; obtain ⟨Ao41, co41, eo41⟩ := Kd.R_slice HO331.out; subst eo41))
        go_meet
        case rel => exact ⟨_, (decide ((t329.length : Int) < (t325.length : Int))), (by first | rfl | (simp; done) | (simp [*]; done)), H', ⟨by have := HJ5.out; have := HK2.out; have := HK3.out; first | omega | exact Nat.le_refl _⟩, ⟨by (with_reducible repeat (first | apply Kd.R_alloc | apply Kd.R_drewN | apply Kd.R_drew)); exact Kd.R_mono HO331.out (fun _ hk => trivial)⟩, ⟨by (with_reducible repeat (first | refine blk_drewN ?_ _ | refine blk_drew ?_ | refine blk_alloc ?_ _)); exact BK322.out⟩, ⟨by repeat (first | (with_reducible first | exact HB.out | apply below_alloc | apply pw_below_drewN | apply below_drew1 | refine below_set ?_ GE322.out) | exact HB.out)⟩⟩
       case rest =>
        clear HC27
        obtain ⟨kq, x97_26, rfl, HA, HJ26, HO_11, BK322, HB⟩ := hcut
        cases kq with
        | zero => exact absurd HA.out (by simp [stillagelaw08_RouteAvoids.j3])
        | succ kj26 =>
         have H := HA.out
         clear HA
         simp only [stillagelaw08_RouteAvoids.j3] at H
         by_cases c48 : x97_26 = true
         ·subst c48
          have H1 : (some false) = some r := by rw [if_pos rfl] at H; exact H
          clear H; have H := H1; clear H1
          obtain rfl := Option.some.inj H
          go_wp2
          go_ret
          exact ⟨by first | rfl | (simp [errW_none, errW_some] <;> rfl) | (simp [*, errW_none, errW_some] <;> rfl), by repeat (first | (with_reducible first | exact HB.out | apply below_alloc | apply pw_below_drewN | apply below_drew1 | refine below_set ?_ GE322.out) | exact HB.out)⟩
         replace c48 := Bool.eq_false_iff.mpr c48
         subst c48
         have H1 : (stillagelaw08_RouteAvoids.l2 kj26 l1 l2 x40_2 x46_3 t332 x40_2 (l0_0.length : Int) x40_2 (l0_0.length : Int) x46_3 t329 (t329.length : Int) 0 l0_0 l0_1) = some r := by rw [if_neg (show ¬ (false = true) by decide)] at H; exact H
         clear H; have H := H1; clear H1
         have H' := Aside0.mk H; clear H
         obtain ⟨Ao49, co49, eo49⟩ := Kd.R_slice HO_11.out
         subst eo49
         go_wp2
         go_loopg [15, 101] kj26 (fun kq v15 v101 w' => ∃ (x15_5 : Int) (x101_5 : Int), v15 = .int .i64 x15_5 ∧ v101 = .int .i64 x101_5 ∧ Aside0 (stillagelaw08_RouteAvoids.l2 kq l1 l2 x40_2 x46_3 t332 x15_5 (l0_0.length : Int) x40_2 (l0_0.length : Int) x46_3 t329 (t329.length : Int) x101_5 l0_0 l0_1 = some r) ∧ Aside0 (kq ≤ kj26) ∧ Aside0 (Kd.R (Kd.int .i64) 3 w' w.heap.size (fun _ => True) (.slice Ao49 t329.length co49) t329) ∧ Aside0 (w'.heap[gb322]? = some (.cells #[(.slice A0_0 l0_0.length c0_0), (.slice A0_1 l0_1.length c0_1)] 25 (0, 0))) ∧ Aside0 (Below w.heap.size w w'))
         case atStart => exact ⟨(x40_2), (0), (by first | rfl | (simp; done) | (simp [*]; done)), (by first | rfl | (simp; done) | (simp [*]; done)), H', ⟨Nat.le_refl _⟩, ⟨by (with_reducible repeat (first | apply Kd.R_alloc | apply Kd.R_drewN | apply Kd.R_drew)); exact HO_11.out⟩, ⟨by (with_reducible repeat (first | refine blk_drewN ?_ _ | refine blk_drew ?_ | refine blk_alloc ?_ _)); exact BK322.out⟩, ⟨by repeat (first | (with_reducible first | exact HB.out | apply below_alloc | apply pw_below_drewN | apply below_drew1 | refine below_set ?_ GE322.out) | exact HB.out)⟩⟩
         case round =>
          clear H'
          obtain ⟨x15_5, x101_5, rfl, rfl, HA, HK5, HO_99, BK322, HB⟩ := hrel
          cases gk with
          | zero => exact absurd HA.out (by simp [stillagelaw08_RouteAvoids.l2])
          | succ k5 =>
           have H := HA.out
           clear HA
           simp only [stillagelaw08_RouteAvoids.l2] at H
           by_cases c50 : x101_5 < (t329.length : Int)
           rotate_left
           ·rw [if_neg c50] at H
            have c50b0 : decide (x101_5 < (t329.length : Int)) = false := decide_eq_false c50
            clear c50
            by_cases c71 : t332 = 0
            rotate_left
            ·rw [if_neg c71] at H
             have c71b0 : (t332 == 0) = false := beq_eq_false_iff_ne.mpr c71
             have c71b1 : (t332 != 0) = true := bne_iff_ne.mpr c71
             have H' := Aside0.mk H; clear H
             go_wp2
             go_roundg k5
             case measure => have := HJ5.out; have := HK2.out; have := HK3.out; have := HJ26.out; have := HK5.out; omega
             case rel => exact ⟨(wrap64 (x46_3 + 1)), (by first | rfl | (simp; done) | (simp [*]; done)), H', ⟨by have := HJ5.out; have := HK2.out; have := HK3.out; have := HJ26.out; have := HK5.out; omega⟩, ⟨by (with_reducible repeat (first | refine blk_drewN ?_ _ | refine blk_drew ?_ | refine blk_alloc ?_ _)); exact BK322.out⟩, ⟨by repeat (first | (with_reducible first | exact HB.out | apply below_alloc | apply pw_below_drewN | apply below_drew1 | refine below_set ?_ GE322.out) | exact HB.out)⟩⟩
            rw [if_pos c71] at H
            have c71b0 : (t332 == 0) = true := beq_iff_eq.mpr c71
            have c71b1 : (t332 != 0) = false := bne_eq_false_iff_eq.mpr c71
            clear c71
            by_cases c72 : x15_5 = x46_3
            rotate_left
            ·rw [if_neg c72] at H
             have c72b0 : (x15_5 == x46_3) = false := beq_eq_false_iff_ne.mpr c72
             have c72b1 : (x15_5 != x46_3) = true := bne_iff_ne.mpr c72
             obtain rfl := Option.some.inj H
             go_wp2
             go_ret
             exact ⟨by first | rfl | (simp [errW_none, errW_some] <;> rfl) | (simp [*, errW_none, errW_some] <;> rfl), by repeat (first | (with_reducible first | exact HB.out | apply below_alloc | apply pw_below_drewN | apply below_drew1 | refine below_set ?_ GE322.out) | exact HB.out)⟩
            rw [if_pos c72] at H
            have c72b0 : (x15_5 == x46_3) = true := beq_iff_eq.mpr c72
            have c72b1 : (x15_5 != x46_3) = false := bne_eq_false_iff_eq.mpr c72
            clear c72
            have H' := Aside0.mk H; clear H
            go_wp2
            go_roundg k5
            case measure => have := HJ5.out; have := HK2.out; have := HK3.out; have := HJ26.out; have := HK5.out; omega
            case rel => exact ⟨(wrap64 (x46_3 + 1)), (by first | rfl | (simp; done) | (simp [*]; done)), H', ⟨by have := HJ5.out; have := HK2.out; have := HK3.out; have := HJ26.out; have := HK5.out; omega⟩, ⟨by (with_reducible repeat (first | refine blk_drewN ?_ _ | refine blk_drew ?_ | refine blk_alloc ?_ _)); exact BK322.out⟩, ⟨by repeat (first | (with_reducible first | exact HB.out | apply below_alloc | apply pw_below_drewN | apply below_drew1 | refine below_set ?_ GE322.out) | exact HB.out)⟩⟩
           rw [if_pos c50] at H
           have c50b0 : decide (x101_5 < (t329.length : Int)) = true := decide_eq_true c50
           clear c50
           by_cases c51 : 0 ≤ x101_5
           rotate_left; ·rw [if_neg c51] at H; exact absurd H (by simp)
           rw [if_pos c51] at H
           have c51b0 : decide (0 ≤ x101_5) = true := decide_eq_true c51
           clear c51
           by_cases c52 : x101_5 < (t329.length : Int)
           rotate_left; ·rw [if_neg c52] at H; exact absurd H (by simp)
           rw [if_pos c52] at H
           have c52b0 : decide (x101_5 < (t329.length : Int)) = true := decide_eq_true c52
           clear c52
           have HC53 := Aside0.mk H
           clear H
           have p338 : 0 ≤ (x101_5 : Int) := of_decide_eq_true (by first | (with_reducible assumption) | assumption)
           have q338 : x101_5 < (t329.length : Int) := of_decide_eq_true (by first | (with_reducible assumption) | assumption)
           obtain ⟨ad338, e338, hx338_0⟩ := Kd.at_int (Kd.R_reads' HO_99.out).2.2 x101_5 p338 q338
           cases e338
           replace p338 := eq_true p338
           replace q338 := eq_true q338
           go_upto_region 20 with (fail)
           go_cut [124] (fun v124 wc => ∃ (kq : Nat) (x124_52 : Bool), v124 = .bool x124_52 ∧ Aside0 (stillagelaw08_RouteAvoids.j5 kq l1 l2 x40_2 x46_3 t332 (rd t329 x101_5) (l0_0.length : Int) x40_2 (l0_0.length : Int) x46_3 t329 (t329.length : Int) x101_5 x124_52 l0_0 l0_1 = some r) ∧ Aside0 (kq ≤ k5) ∧ Aside0 (Kd.R (Kd.int .i64) 3 wc w.heap.size (fun _ => True) (.slice (some ad338) t329.length co49) t329) ∧ Aside0 (wc.heap[gb322]? = some (.cells #[(.slice A0_0 l0_0.length c0_0), (.slice A0_1 l0_1.length c0_1)] 25 (0, 0))) ∧ Aside0 (Below w.heap.size w wc))
           case first =>
            have H := HC53.out
            clear HC53
            by_cases c54 : (rd t329 x101_5) < 1
            ·rw [if_pos c54] at H
             have c54b0 : decide ((rd t329 x101_5) < 1) = true := decide_eq_true c54
             clear c54
             (first | rw [c54b0] | (simp only [i64_w, i32_w]; rw [c54b0]) | skip)
             have H' := Aside0.mk H; clear H
             go_wp2
             go_meet
             case rel => exact ⟨_, (true), (by first | rfl | (simp; done) | (simp [*]; done)), H', ⟨by have := HJ5.out; have := HK2.out; have := HK3.out; have := HJ26.out; have := HK5.out; first | omega | exact Nat.le_refl _⟩, ⟨by (with_reducible repeat (first | apply Kd.R_alloc | apply Kd.R_drewN | apply Kd.R_drew)); exact HO_99.out⟩, ⟨by (with_reducible repeat (first | refine blk_drewN ?_ _ | refine blk_drew ?_ | refine blk_alloc ?_ _)); exact BK322.out⟩, ⟨by repeat (first | (with_reducible first | exact HB.out | apply below_alloc | apply pw_below_drewN | apply below_drew1 | refine below_set ?_ GE322.out) | exact HB.out)⟩⟩
            rw [if_neg c54] at H
            have c54b0 : decide ((rd t329 x101_5) < 1) = false := decide_eq_false c54
            clear c54
            (first | rw [c54b0] | (simp only [i64_w, i32_w]; rw [c54b0]) | skip)
            by_cases c55 : (rd t329 x101_5) > (l0_1.length : Int)
            ·rw [if_pos c55] at H
             have c55b0 : decide ((l0_1.length : Int) < (rd t329 x101_5)) = true := decide_eq_true c55
             clear c55
             have H' := Aside0.mk H; clear H
             have hcz56_0 : wr.cell? ⟨gb322, 0, none⟩ = some (.slice A0_0 l0_0.length c0_0) := (blk_cell BK322.out 0).trans rfl
             have hcz56_1 : wr.cell? ⟨gb322, 1, none⟩ = some (.slice A0_1 l0_1.length c0_1) := (blk_cell BK322.out 1).trans rfl
             have hfz56_0 := blk_frozen BK322.out 0
             have hfz56_1 := blk_frozen BK322.out 1
             go_wp2
             go_meet
             case rel => exact ⟨_, (true), (by first | rfl | (simp; done) | (simp [*]; done)), H', ⟨by have := HJ5.out; have := HK2.out; have := HK3.out; have := HJ26.out; have := HK5.out; first | omega | exact Nat.le_refl _⟩, ⟨by (with_reducible repeat (first | apply Kd.R_alloc | apply Kd.R_drewN | apply Kd.R_drew)); exact HO_99.out⟩, ⟨by (with_reducible repeat (first | refine blk_drewN ?_ _ | refine blk_drew ?_ | refine blk_alloc ?_ _)); exact BK322.out⟩, ⟨by repeat (first | (with_reducible first | exact HB.out | apply below_alloc | apply pw_below_drewN | apply below_drew1 | refine below_set ?_ GE322.out) | exact HB.out)⟩⟩
            rw [if_neg c55] at H
            have c55b0 : decide ((l0_1.length : Int) < (rd t329 x101_5)) = false := decide_eq_false c55
            clear c55
            obtain ⟨ji57, hji57⟩ : ∃ j_ : Int, (wrap64 ((rd t329 x101_5) - 1)) = j_ := ⟨_, rfl⟩
            replace H : (if 0 ≤ (ji57) then (if (ji57) < (l0_1.length : Int) then (stillagelaw08_RouteAvoids.j5 k5 l1 l2 x40_2 x46_3 t332 (rd t329 x101_5) (l0_0.length : Int) x40_2 (l0_0.length : Int) x46_3 t329 (t329.length : Int) x101_5 (((rd_T38 l0_1 (ji57)).f0) != x15_5) l0_0 l0_1) else (none)) else (none)) = some r := by first | (rw [hji57] at H; exact H) | (simp only [hji57] at H ⊢; exact H)
            have hji57w : (IntKind.i64.wrap ((rd t329 x101_5) - 1)) = ji57 := (i64_w _).trans hji57
            by_cases c58 : 0 ≤ (ji57)
            rotate_left; ·rw [if_neg c58] at H; exact absurd H (by simp)
            rw [if_pos c58] at H
            have c58b0 : decide (0 ≤ (ji57)) = true := decide_eq_true c58
            clear c58
            by_cases c59 : (ji57) < (l0_1.length : Int)
            rotate_left; ·rw [if_neg c59] at H; exact absurd H (by simp)
            rw [if_pos c59] at H
            have c59b0 : decide ((ji57) < (l0_1.length : Int)) = true := decide_eq_true c59
            clear c59
            have H' := Aside0.mk H; clear H
            have hcz60_0 : wr.cell? ⟨gb322, 0, none⟩ = some (.slice A0_0 l0_0.length c0_0) := (blk_cell BK322.out 0).trans rfl
            have hcz60_1 : wr.cell? ⟨gb322, 1, none⟩ = some (.slice A0_1 l0_1.length c0_1) := (blk_cell BK322.out 1).trans rfl
            have hfz60_0 := blk_frozen BK322.out 0
            have hfz60_1 := blk_frozen BK322.out 1
            have p339 : 0 ≤ ((ji57) : Int) := of_decide_eq_true (by first | (with_reducible assumption) | assumption)
            have q339 : (ji57) < (l0_1.length : Int) := of_decide_eq_true (by first | (with_reducible assumption) | assumption)
            obtain ⟨ad339, e339, hx339_0, hx339_1⟩ := at_T38 HR0_1.out (ji57) p339 q339
            cases e339
            replace hx339_0 := (HB.out.cell (World.block_lt_of_cell? w _ hx339_0)).trans hx339_0
            replace hx339_1 := (HB.out.cell (World.block_lt_of_cell? w _ hx339_1)).trans hx339_1
            replace p339 := eq_true p339
            replace q339 := eq_true q339
            go_wp2
            go_meet
            case rel => exact ⟨_, ((((rd_T38 l0_1 (ji57)).f0) != x15_5)), (by first | rfl | (simp; done) | (simp only [← hji57] <;> (first | rfl | simp)) | (simp [*]; done)), H', ⟨by have := HJ5.out; have := HK2.out; have := HK3.out; have := HJ26.out; have := HK5.out; first | omega | exact Nat.le_refl _⟩, ⟨by (with_reducible repeat (first | apply Kd.R_alloc | apply Kd.R_drewN | apply Kd.R_drew)); exact HO_99.out⟩, ⟨by (with_reducible repeat (first | refine blk_drewN ?_ _ | refine blk_drew ?_ | refine blk_alloc ?_ _)); exact BK322.out⟩, ⟨by repeat (first | (with_reducible first | exact HB.out | apply below_alloc | apply pw_below_drewN | apply below_drew1 | refine below_set ?_ GE322.out) | exact HB.out)⟩⟩
           case rest =>
            clear HC53
            obtain ⟨kq, x124_52, rfl, HA, HJ52, HO_99, BK322, HB⟩ := hcut
            cases kq with
            | zero => exact absurd HA.out (by simp [stillagelaw08_RouteAvoids.j5])
            | succ kj52 =>
             have H := HA.out
             clear HA
             simp only [stillagelaw08_RouteAvoids.j5] at H
             by_cases c61 : x124_52 = true
             ·subst c61
              have H1 : (some false) = some r := by rw [if_pos rfl] at H; exact H
              clear H; have H := H1; clear H1
              obtain rfl := Option.some.inj H
              go_wp2
              go_ret
              exact ⟨by first | rfl | (simp [errW_none, errW_some] <;> rfl) | (simp [*, errW_none, errW_some] <;> rfl), by repeat (first | (with_reducible first | exact HB.out | apply below_alloc | apply pw_below_drewN | apply below_drew1 | refine below_set ?_ GE322.out) | exact HB.out)⟩
             replace c61 := Bool.eq_false_iff.mpr c61
             subst c61
             have H1 : (if 0 ≤ (wrap64 ((rd t329 x101_5) - 1)) then (if (wrap64 ((rd t329 x101_5) - 1)) < (l0_1.length : Int) then (stillagelaw08_RouteAvoids.l3 kj52 l1 l2 x40_2 x46_3 t332 ((rd_T38 l0_1 (wrap64 ((rd t329 x101_5) - 1))).f1) (l0_0.length : Int) x40_2 (l0_0.length : Int) x46_3 t329 (t329.length : Int) x101_5 l2 (l2.length : Int) 0 l0_0 l0_1) else (none)) else (none)) = some r := by rw [if_neg (show ¬ (false = true) by decide)] at H; exact H
             clear H; have H := H1; clear H1
             obtain ⟨ji62, hji62⟩ : ∃ j_ : Int, (wrap64 ((rd t329 x101_5) - 1)) = j_ := ⟨_, rfl⟩
             replace H : (if 0 ≤ (ji62) then (if (ji62) < (l0_1.length : Int) then (stillagelaw08_RouteAvoids.l3 kj52 l1 l2 x40_2 x46_3 t332 ((rd_T38 l0_1 (ji62)).f1) (l0_0.length : Int) x40_2 (l0_0.length : Int) x46_3 t329 (t329.length : Int) x101_5 l2 (l2.length : Int) 0 l0_0 l0_1) else (none)) else (none)) = some r := by first | (rw [hji62] at H; exact H) | (simp only [hji62] at H ⊢; exact H)
             have hji62w : (IntKind.i64.wrap ((rd t329 x101_5) - 1)) = ji62 := (i64_w _).trans hji62
             by_cases c63 : 0 ≤ (ji62)
             rotate_left; ·rw [if_neg c63] at H; exact absurd H (by simp)
             rw [if_pos c63] at H
             have c63b0 : decide (0 ≤ (ji62)) = true := decide_eq_true c63
             clear c63
             by_cases c64 : (ji62) < (l0_1.length : Int)
             rotate_left; ·rw [if_neg c64] at H; exact absurd H (by simp)
             rw [if_pos c64] at H
             have c64b0 : decide ((ji62) < (l0_1.length : Int)) = true := decide_eq_true c64
             clear c64
             have H' := Aside0.mk H; clear H
             have hcz65_0 : wc.cell? ⟨gb322, 0, none⟩ = some (.slice A0_0 l0_0.length c0_0) := (blk_cell BK322.out 0).trans rfl
             have hcz65_1 : wc.cell? ⟨gb322, 1, none⟩ = some (.slice A0_1 l0_1.length c0_1) := (blk_cell BK322.out 1).trans rfl
             have hfz65_0 := blk_frozen BK322.out 0
             have hfz65_1 := blk_frozen BK322.out 1
             have p340 : 0 ≤ ((ji62) : Int) := of_decide_eq_true (by first | (with_reducible assumption) | assumption)
             have q340 : (ji62) < (l0_1.length : Int) := of_decide_eq_true (by first | (with_reducible assumption) | assumption)
             obtain ⟨ad340, e340, hx340_0, hx340_1⟩ := at_T38 HR0_1.out (ji62) p340 q340
             cases e340
             replace hx340_0 := (HB.out.cell (World.block_lt_of_cell? w _ hx340_0)).trans hx340_0
             replace hx340_1 := (HB.out.cell (World.block_lt_of_cell? w _ hx340_1)).trans hx340_1
             replace p340 := eq_true p340
             replace q340 := eq_true q340
             go_wp2
             go_loopg [134] kj52 (fun kq v134 w' => ∃ (x134_7 : Int), v134 = .int .i64 x134_7 ∧ Aside0 (stillagelaw08_RouteAvoids.l3 kq l1 l2 x40_2 x46_3 t332 ((rd_T38 l0_1 (ji62)).f1) (l0_0.length : Int) x40_2 (l0_0.length : Int) x46_3 t329 (t329.length : Int) x101_5 l2 (l2.length : Int) x134_7 l0_0 l0_1 = some r) ∧ Aside0 (kq ≤ kj52) ∧ Aside0 (Kd.R (Kd.int .i64) 3 w' w.heap.size (fun _ => True) (.slice (some ad338) t329.length co49) t329) ∧ Aside0 (w'.heap[gb322]? = some (.cells #[(.slice A0_0 l0_0.length c0_0), (.slice (some ad340) l0_1.length c0_1)] 25 (0, 0))) ∧ Aside0 (Below w.heap.size w w'))
             case atStart => exact ⟨(0), (by first | rfl | (simp; done) | (simp [*]; done)), H', ⟨Nat.le_refl _⟩, ⟨by (with_reducible repeat (first | apply Kd.R_alloc | apply Kd.R_drewN | apply Kd.R_drew)); exact HO_99.out⟩, ⟨by (with_reducible repeat (first | refine blk_drewN ?_ _ | refine blk_drew ?_ | refine blk_alloc ?_ _)); exact BK322.out⟩, ⟨by repeat (first | (with_reducible first | exact HB.out | apply below_alloc | apply pw_below_drewN | apply below_drew1 | refine below_set ?_ GE322.out) | exact HB.out)⟩⟩
             case round =>
              clear H'
              obtain ⟨x134_7, rfl, HA, HK7, HO_99, BK322, HB⟩ := hrel
              cases gk with
              | zero => exact absurd HA.out (by simp [stillagelaw08_RouteAvoids.l3])
              | succ k7 =>
               have H := HA.out
               clear HA
               simp only [stillagelaw08_RouteAvoids.l3] at H
               by_cases c66 : x134_7 < (l2.length : Int)
               rotate_left
               ·rw [if_neg c66] at H
                have c66b0 : decide (x134_7 < (l2.length : Int)) = false := decide_eq_false c66
                clear c66
                have H' := Aside0.mk H; clear H
                go_wp2
                go_roundg k7
                case measure => have := HJ5.out; have := HK2.out; have := HK3.out; have := HJ26.out; have := HK5.out; have := HJ52.out; have := HK7.out; omega
                case rel => exact ⟨(((rd_T38 l0_1 (ji62)).f1)), (wrap64 (x101_5 + 1)), (by first | rfl | (simp; done) | (simp only [← hji62] <;> (first | rfl | simp)) | (simp [*]; done)), (by first | rfl | (simp; done) | (simp [*]; done)), H', ⟨by have := HJ5.out; have := HK2.out; have := HK3.out; have := HJ26.out; have := HK5.out; have := HJ52.out; have := HK7.out; omega⟩, ⟨by (with_reducible repeat (first | apply Kd.R_alloc | apply Kd.R_drewN | apply Kd.R_drew)); exact HO_99.out⟩, ⟨by (with_reducible repeat (first | refine blk_drewN ?_ _ | refine blk_drew ?_ | refine blk_alloc ?_ _)); exact BK322.out⟩, ⟨by repeat (first | (with_reducible first | exact HB.out | apply below_alloc | apply pw_below_drewN | apply below_drew1 | refine below_set ?_ GE322.out) | exact HB.out)⟩⟩
               rw [if_pos c66] at H
               have c66b0 : decide (x134_7 < (l2.length : Int)) = true := decide_eq_true c66
               clear c66
               by_cases c67 : 0 ≤ x134_7
               rotate_left; ·rw [if_neg c67] at H; exact absurd H (by simp)
               rw [if_pos c67] at H
               have c67b0 : decide (0 ≤ x134_7) = true := decide_eq_true c67
               clear c67
               by_cases c68 : x134_7 < (l2.length : Int)
               rotate_left; ·rw [if_neg c68] at H; exact absurd H (by simp)
               rw [if_pos c68] at H
               have c68b0 : decide (x134_7 < (l2.length : Int)) = true := decide_eq_true c68
               clear c68
               by_cases c69 : (rd l2 x134_7) = ((rd_T38 l0_1 (ji62)).f1)
               rotate_left
               ·rw [if_neg c69] at H
                have c69b0 : ((rd l2 x134_7) == ((rd_T38 l0_1 (ji62)).f1)) = false := beq_eq_false_iff_ne.mpr c69
                have c69b1 : ((rd l2 x134_7) != ((rd_T38 l0_1 (ji62)).f1)) = true := bne_iff_ne.mpr c69
                have H' := Aside0.mk H; clear H
                have p341 : 0 ≤ (x134_7 : Int) := of_decide_eq_true (by first | (with_reducible assumption) | assumption)
                have q341 : x134_7 < (l2.length : Int) := of_decide_eq_true (by first | (with_reducible assumption) | assumption)
                obtain ⟨ad341, e341, hx341_0⟩ := Kd.at_int HR2.out x134_7 p341 q341
                cases e341
                replace hx341_0 := (HB.out.cell (World.block_lt_of_cell? w _ hx341_0)).trans hx341_0
                replace p341 := eq_true p341
                replace q341 := eq_true q341
                go_wp2
                go_roundg k7
                case measure => have := HJ5.out; have := HK2.out; have := HK3.out; have := HJ26.out; have := HK5.out; have := HJ52.out; have := HK7.out; omega
                case rel => exact ⟨(wrap64 (x134_7 + 1)), (by first | rfl | (simp; done) | (simp [*]; done)), H', ⟨by have := HJ5.out; have := HK2.out; have := HK3.out; have := HJ26.out; have := HK5.out; have := HJ52.out; have := HK7.out; omega⟩, ⟨by (with_reducible repeat (first | apply Kd.R_alloc | apply Kd.R_drewN | apply Kd.R_drew)); exact HO_99.out⟩, ⟨by (with_reducible repeat (first | refine blk_drewN ?_ _ | refine blk_drew ?_ | refine blk_alloc ?_ _)); exact BK322.out⟩, ⟨by repeat (first | (with_reducible first | exact HB.out | apply below_alloc | apply pw_below_drewN | apply below_drew1 | refine below_set ?_ GE322.out) | exact HB.out)⟩⟩
               rw [if_pos c69] at H
               have c69b0 : ((rd l2 x134_7) == ((rd_T38 l0_1 (ji62)).f1)) = true := beq_iff_eq.mpr c69
               have c69b1 : ((rd l2 x134_7) != ((rd_T38 l0_1 (ji62)).f1)) = false := bne_eq_false_iff_eq.mpr c69
               clear c69
               by_cases c70 : ((rd_T38 l0_1 (ji62)).f1) = x46_3
               rotate_left
               ·rw [if_neg c70] at H
                have c70b0 : (((rd_T38 l0_1 (ji62)).f1) == x46_3) = false := beq_eq_false_iff_ne.mpr c70
                have c70b1 : (((rd_T38 l0_1 (ji62)).f1) != x46_3) = true := bne_iff_ne.mpr c70
                obtain rfl := Option.some.inj H
                have p341 : 0 ≤ (x134_7 : Int) := of_decide_eq_true (by first | (with_reducible assumption) | assumption)
                have q341 : x134_7 < (l2.length : Int) := of_decide_eq_true (by first | (with_reducible assumption) | assumption)
                obtain ⟨ad341, e341, hx341_0⟩ := Kd.at_int HR2.out x134_7 p341 q341
                cases e341
                replace hx341_0 := (HB.out.cell (World.block_lt_of_cell? w _ hx341_0)).trans hx341_0
                replace p341 := eq_true p341
                replace q341 := eq_true q341
                go_wp2
                go_ret
                exact ⟨by first | rfl | (simp [errW_none, errW_some] <;> rfl) | (simp only [← hji62]; first | rfl | (simp [errW_none, errW_some] <;> rfl)) | (simp [*, errW_none, errW_some] <;> rfl), by repeat (first | (with_reducible first | exact HB.out | apply below_alloc | apply pw_below_drewN | apply below_drew1 | refine below_set ?_ GE322.out) | exact HB.out)⟩
               rw [if_pos c70] at H
               have c70b0 : (((rd_T38 l0_1 (ji62)).f1) == x46_3) = true := beq_iff_eq.mpr c70
               have c70b1 : (((rd_T38 l0_1 (ji62)).f1) != x46_3) = false := bne_eq_false_iff_eq.mpr c70
               clear c70
               have H' := Aside0.mk H; clear H
               have p341 : 0 ≤ (x134_7 : Int) := of_decide_eq_true (by first | (with_reducible assumption) | assumption)
               have q341 : x134_7 < (l2.length : Int) := of_decide_eq_true (by first | (with_reducible assumption) | assumption)
               obtain ⟨ad341, e341, hx341_0⟩ := Kd.at_int HR2.out x134_7 p341 q341
               cases e341
               replace hx341_0 := (HB.out.cell (World.block_lt_of_cell? w _ hx341_0)).trans hx341_0
               replace p341 := eq_true p341
               replace q341 := eq_true q341
               go_wp2
               go_roundg k7
               case measure => have := HJ5.out; have := HK2.out; have := HK3.out; have := HJ26.out; have := HK5.out; have := HJ52.out; have := HK7.out; omega
               case rel => exact ⟨(wrap64 (x134_7 + 1)), (by first | rfl | (simp; done) | (simp [*]; done)), H', ⟨by have := HJ5.out; have := HK2.out; have := HK3.out; have := HJ26.out; have := HK5.out; have := HJ52.out; have := HK7.out; omega⟩, ⟨by (with_reducible repeat (first | apply Kd.R_alloc | apply Kd.R_drewN | apply Kd.R_drew)); exact HO_99.out⟩, ⟨by (with_reducible repeat (first | refine blk_drewN ?_ _ | refine blk_drew ?_ | refine blk_alloc ?_ _)); exact BK322.out⟩, ⟨by repeat (first | (with_reducible first | exact HB.out | apply below_alloc | apply pw_below_drewN | apply below_drew1 | refine below_set ?_ GE322.out) | exact HB.out)⟩⟩
end Go.Proofs.Ytbbdgndaaajejaa.PRouteAvoids
