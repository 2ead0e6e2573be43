-- Written by a program of this session (wip/oprint): after the pattern of the kit's print, which does not take this law. -- trimmed
import Derived.Test.YtkdfohmceokchaaPZoneJoinedx0
import Derived.Test.YtkdfohmceokchaaPZoneJoinedx2
import Derived.Test.YtkdfohmceokchaaPZoneJoinedx4
import Derived.Test.YtkdfohmceokchaaPZoneJoinedx5
import Derived.Test.YtkdfohmceokchaaPZoneJoinedx8
import Derived.Test.YtkdfohmceokchaaPZoneJoinedx13
namespace Go.Proofs.Ytkdfohmceokchaa.PZoneJoined
open Go.RowKit Go.Proofs.YtkdfohmceokchaaW.PrintWords Go.Proofs.YtkdfohmceokchaaW.PrintLast Go.Proofs.YtkdfohmceokchaaW.PrintMore
attribute [local go_sem] max2_int min2_int max_two min_two max_three min_three max_four min_four   -- for this text's walks alone
set_option linter.unusedVariables false
set_option linter.unusedSimpArgs false

/-! ### stillagelaw09_ZoneJoined: function 4 -/
mutual
def stillagelaw09_ZoneJoined.j0 : Nat → List Int → List (List Int) → List Int → Bool → List (S46) → List (S43) → Option (Bool)
 | 0, _, _, _, _, _, _ => none
 | k + 1, x7, x9, x10, x58, x284000, x284001 => if x58 = true then (some false) else (stillagelaw09_ZoneJoined.l0 k x7 x9 x10 ([] : List Int) (x9.length : Int) 0 x284000 x284001)
def stillagelaw09_ZoneJoined.l0 : Nat → List Int → List (List Int) → List Int → List Int → Int → Int → List (S46) → List (S43) → Option (Bool)
 | 0, _, _, _, _, _, _, _, _ => none
 | k + 1, x7, x9, x10, x12, x60, x61, x284000, x284001 => if x61 < x60 then (if 0 ≤ x61 then (if x61 < (x9.length : Int) then (stillagelaw09_ZoneJoined.l1 k x7 x9 x10 x12 x61 x60 x61 (rd_L1 x9 x61) ((rd_L1 x9 x61).length : Int) 0 x284000 x284001) else (none)) else (none)) else ((stillageref01_Ints.f k x12 x7).bind fun t299 => (some t299))
def stillagelaw09_ZoneJoined.l1 : Nat → List Int → List (List Int) → List Int → List Int → Int → Int → Int → List Int → Int → Int → List (S46) → List (S43) → Option (Bool)
 | 0, _, _, _, _, _, _, _, _, _, _, _, _ => none
 | k + 1, x7, x9, x10, x12, x13, x60, x61, x67, x68, x69, x284000, x284001 => if x69 < x68 then (if 0 ≤ x69 then (if x69 < (x67.length : Int) then (if (rd x67 x69) < 1 then (some false) else (if (rd x67 x69) > (x284001.length : Int) then (some false) else (if 0 ≤ (wrap64 ((rd x67 x69) - 1)) then (if (wrap64 ((rd x67 x69) - 1)) < (x284001.length : Int) then (if 0 ≤ ((rd_T43 x284001 (wrap64 ((rd x67 x69) - 1))).f1) then (if ((rd_T43 x284001 (wrap64 ((rd x67 x69) - 1))).f1) < (x284000.length : Int) then (if 0 ≤ x13 then (if x13 < (x10.length : Int) then (if ((rd_T46 x284000 ((rd_T43 x284001 (wrap64 ((rd x67 x69) - 1))).f1)).f2) = (rd x10 x13) then (stillagelaw09_ZoneJoined.l1 k x7 x9 x10 x12 x13 x60 x61 x67 x68 (wrap64 (x69 + 1)) x284000 x284001) else (some false)) else (none)) else (none)) else (none)) else (none)) else (none)) else (none)))) else (none)) else (none)) else (if x13 > 0 then (if 0 ≤ x13 then (if x13 < (x10.length : Int) then (if 0 ≤ (wrap64 (x13 - 1)) then (if (wrap64 (x13 - 1)) < (x10.length : Int) then (if (rd x10 x13) = (rd x10 (wrap64 (x13 - 1))) then (some false) else (if x13 < (x9.length : Int) then (if x12.length + (rd_L1 x9 x13).length < 17592186044416 then (stillagelaw09_ZoneJoined.l0 k x7 x9 x10 (x12 ++ (rd_L1 x9 x13)) x60 (wrap64 (x61 + 1)) x284000 x284001) else (none)) else (none))) else (none)) else (none)) else (none)) else (none)) else (if 0 ≤ x13 then (if x13 < (x9.length : Int) then (if x12.length + (rd_L1 x9 x13).length < 17592186044416 then (stillagelaw09_ZoneJoined.l0 k x7 x9 x10 (x12 ++ (rd_L1 x9 x13)) x60 (wrap64 (x61 + 1)) x284000 x284001) else (none)) else (none)) else (none)))
end
def stillagelaw09_ZoneJoined.f (k : Nat) (l0_0 : List (S46)) (l0_1 : List (S43)) (l1 : List Int) (a2_0 : Int) (a2_1 : Int) : Option (Bool) := (stillagelaw09_awake.f k).bind fun t285 => (if t285 = true then ((stillagelaw07_Fits.f k l0_0 l0_1 l1).bind fun t286 => (if t286 = true then ((route_Path.f k l0_0 l0_1 l1 a2_0 a2_1).bind fun bt287 => (if bt287.2 = 0 then ((zone_Pieces.f l0_0 l0_1 bt287.1).bind fun bt291 => ((zone_Zones.f k l0_0 l0_1 bt287.1).bind fun bt295 => (if bt291.2 = 0 then (if bt295.2 = 0 then (stillagelaw09_ZoneJoined.j0 k bt287.1 bt291.1 bt295.1 ((bt295.1.length : Int) != (bt291.1.length : Int)) l0_0 l0_1) else (stillagelaw09_ZoneJoined.j0 k bt287.1 bt291.1 bt295.1 true l0_0 l0_1)) else (stillagelaw09_ZoneJoined.j0 k bt287.1 bt291.1 bt295.1 true l0_0 l0_1)))) else (some true))) else (some true))) else (some false))
theorem stillagelaw09_ZoneJoined.mono_l : ∀ k, (∀ y0 y1 y2 y3 y4 y5, LeO (stillagelaw09_ZoneJoined.j0 k y0 y1 y2 y3 y4 y5) (stillagelaw09_ZoneJoined.j0 (k + 1) y0 y1 y2 y3 y4 y5)) ∧ (∀ y0 y1 y2 y3 y4 y5 y6 y7, LeO (stillagelaw09_ZoneJoined.l0 k y0 y1 y2 y3 y4 y5 y6 y7) (stillagelaw09_ZoneJoined.l0 (k + 1) y0 y1 y2 y3 y4 y5 y6 y7)) ∧ (∀ y0 y1 y2 y3 y4 y5 y6 y7 y8 y9 y10 y11, LeO (stillagelaw09_ZoneJoined.l1 k y0 y1 y2 y3 y4 y5 y6 y7 y8 y9 y10 y11) (stillagelaw09_ZoneJoined.l1 (k + 1) y0 y1 y2 y3 y4 y5 y6 y7 y8 y9 y10 y11))
 | 0 => ⟨fun _ _ _ _ _ _ r h => by simp [stillagelaw09_ZoneJoined.j0] at h, fun _ _ _ _ _ _ _ _ r h => by simp [stillagelaw09_ZoneJoined.l0] at h, fun _ _ _ _ _ _ _ _ _ _ _ _ r h => by simp [stillagelaw09_ZoneJoined.l1] at h⟩
 | k + 1 => by
  obtain ⟨ih0, ih1, ih2⟩ := stillagelaw09_ZoneJoined.mono_l k
  refine ⟨?_, ?_, ?_⟩
  ·intro y0 y1 y2 y3 y4 y5
   unfold stillagelaw09_ZoneJoined.j0
   repeat' first
   | (with_reducible exact ih0 _ _ _ _ _ _)
   | (with_reducible exact ih1 _ _ _ _ _ _ _ _)
   | (with_reducible exact ih2 _ _ _ _ _ _ _ _ _ _ _ _)
   | (with_reducible exact route_Path.mono _ _ _ _ _ _)
   | (with_reducible exact stillagelaw07_Fits.mono _ _ _ _)
   | (with_reducible exact stillagelaw09_awake.mono _)
   | (with_reducible exact stillageref01_Ints.mono _ _ _)
   | (with_reducible exact zone_Zones.mono _ _ _ _)
   | (with_reducible exact LeO.refl _)
   | (with_reducible exact LeO.none _)
   | (with_reducible refine LeO.ite ?_ ?_)
   | (with_reducible refine LeO.bind ?_ (fun _ => ?_))
   | exact ih0 _ _ _ _ _ _
   | exact ih1 _ _ _ _ _ _ _ _
   | exact ih2 _ _ _ _ _ _ _ _ _ _ _ _
   | exact route_Path.mono _ _ _ _ _ _
   | exact stillagelaw07_Fits.mono _ _ _ _
   | exact stillagelaw09_awake.mono _
   | exact stillageref01_Ints.mono _ _ _
   | exact zone_Zones.mono _ _ _ _
   | exact LeO.none _
   | refine LeO.ite ?_ ?_
   | refine LeO.bind ?_ (fun _ => ?_)
  ·intro y0 y1 y2 y3 y4 y5 y6 y7
   unfold stillagelaw09_ZoneJoined.l0
   repeat' first
   | (with_reducible exact ih0 _ _ _ _ _ _)
   | (with_reducible exact ih1 _ _ _ _ _ _ _ _)
   | (with_reducible exact ih2 _ _ _ _ _ _ _ _ _ _ _ _)
   | (with_reducible exact route_Path.mono _ _ _ _ _ _)
   | (with_reducible exact stillagelaw07_Fits.mono _ _ _ _)
   | (with_reducible exact stillagelaw09_awake.mono _)
   | (with_reducible exact stillageref01_Ints.mono _ _ _)
   | (with_reducible exact zone_Zones.mono _ _ _ _)
   | (with_reducible exact LeO.refl _)
   | (with_reducible exact LeO.none _)
   | (with_reducible refine LeO.ite ?_ ?_)
   | (with_reducible refine LeO.bind ?_ (fun _ => ?_))
   | exact ih0 _ _ _ _ _ _
   | exact ih1 _ _ _ _ _ _ _ _
   | exact ih2 _ _ _ _ _ _ _ _ _ _ _ _
   | exact route_Path.mono _ _ _ _ _ _
   | exact stillagelaw07_Fits.mono _ _ _ _
   | exact stillagelaw09_awake.mono _
   | exact stillageref01_Ints.mono _ _ _
   | exact zone_Zones.mono _ _ _ _
   | exact LeO.none _
   | refine LeO.ite ?_ ?_
   | refine LeO.bind ?_ (fun _ => ?_)
  ·intro y0 y1 y2 y3 y4 y5 y6 y7 y8 y9 y10 y11
   unfold stillagelaw09_ZoneJoined.l1
   repeat' first
   | (with_reducible exact ih0 _ _ _ _ _ _)
   | (with_reducible exact ih1 _ _ _ _ _ _ _ _)
   | (with_reducible exact ih2 _ _ _ _ _ _ _ _ _ _ _ _)
   | (with_reducible exact route_Path.mono _ _ _ _ _ _)
   | (with_reducible exact stillagelaw07_Fits.mono _ _ _ _)
   | (with_reducible exact stillagelaw09_awake.mono _)
   | (with_reducible exact stillageref01_Ints.mono _ _ _)
   | (with_reducible exact zone_Zones.mono _ _ _ _)
   | (with_reducible exact LeO.refl _)
   | (with_reducible exact LeO.none _)
   | (with_reducible refine LeO.ite ?_ ?_)
   | (with_reducible refine LeO.bind ?_ (fun _ => ?_))
   | exact ih0 _ _ _ _ _ _
   | exact ih1 _ _ _ _ _ _ _ _
   | exact ih2 _ _ _ _ _ _ _ _ _ _ _ _
   | exact route_Path.mono _ _ _ _ _ _
   | exact stillagelaw07_Fits.mono _ _ _ _
   | exact stillagelaw09_awake.mono _
   | exact stillageref01_Ints.mono _ _ _
   | exact zone_Zones.mono _ _ _ _
   | exact LeO.none _
   | refine LeO.ite ?_ ?_
   | refine LeO.bind ?_ (fun _ => ?_)
theorem stillagelaw09_ZoneJoined.mono : ∀ a0 a1 a2 a3 a4 k, LeO (stillagelaw09_ZoneJoined.f k a0 a1 a2 a3 a4) (stillagelaw09_ZoneJoined.f (k + 1) a0 a1 a2 a3 a4) := by
 intro a0 a1 a2 a3 a4 k
 obtain ⟨ih0, ih1, ih2⟩ := stillagelaw09_ZoneJoined.mono_l k
 unfold stillagelaw09_ZoneJoined.f
 repeat' first
   | (with_reducible exact ih0 _ _ _ _ _ _)
   | (with_reducible exact ih1 _ _ _ _ _ _ _ _)
   | (with_reducible exact ih2 _ _ _ _ _ _ _ _ _ _ _ _)
   | (with_reducible exact route_Path.mono _ _ _ _ _ _)
   | (with_reducible exact stillagelaw07_Fits.mono _ _ _ _)
   | (with_reducible exact stillagelaw09_awake.mono _)
   | (with_reducible exact stillageref01_Ints.mono _ _ _)
   | (with_reducible exact zone_Zones.mono _ _ _ _)
   | (with_reducible exact LeO.refl _)
   | (with_reducible exact LeO.none _)
   | (with_reducible refine LeO.ite ?_ ?_)
   | (with_reducible refine LeO.bind ?_ (fun _ => ?_))
   | exact ih0 _ _ _ _ _ _
   | exact ih1 _ _ _ _ _ _ _ _
   | exact ih2 _ _ _ _ _ _ _ _ _ _ _ _
   | exact route_Path.mono _ _ _ _ _ _
   | exact stillagelaw07_Fits.mono _ _ _ _
   | exact stillagelaw09_awake.mono _
   | exact stillageref01_Ints.mono _ _ _
   | exact zone_Zones.mono _ _ _ _
   | exact LeO.none _
   | refine LeO.ite ?_ ?_
   | refine LeO.bind ?_ (fun _ => ?_)
set_option maxHeartbeats 8000000 in
set_option maxRecDepth 100000 in
theorem stillagelaw09_ZoneJoined.calls (k : Nat) (A0_0 : Option Addr) (c0_0 : Nat) (l0_0 : List (S46)) (A0_1 : Option Addr) (c0_1 : Nat) (l0_1 : List (S43)) (A1 : Option Addr) (c1 : Nat) (l1 : List Int) (a2_0 : Int) (a2_1 : Int) (r : Bool) (w : World) (hr0_0 : Kd.C k46 w A0_0 l0_0.length l0_0) (hc0_0 : l0_0.length ≤ c0_0) (hr0_1 : Kd.C k43 w A0_1 l0_1.length l0_1) (hc0_1 : l0_1.length ≤ c0_1) (hr1 : Kd.C (Kd.int .i64) w A1 l1.length l1) (hc1 : l1.length ≤ c1) (h : stillagelaw09_ZoneJoined.f k l0_0 l0_1 l1 a2_0 a2_1 = some r) :
  Calls Try.prog 4 #[.agg #[.slice A0_0 l0_0.length c0_0, .slice A0_1 l0_1.length c0_1], .slice A1 l1.length c1, .agg #[.int .i64 a2_0, .int .i64 a2_1]] w fun e w' => e = .returned (.bool r) ∧ Below w.heap.size w w' := by
 have hu25 := Try.underlying25
 have hu43 := Try.underlying43
 have HR0_0 := Aside0.mk hr0_0
 have HC0_0 := Aside0.mk hc0_0
 clear hr0_0 hc0_0
 have HR0_1 := Aside0.mk hr0_1
 have HC0_1 := Aside0.mk hc0_1
 clear hr0_1 hc0_1
 have HR1 := Aside0.mk hr1
 have HC1 := Aside0.mk hc1
 clear hr1 hc1
 have HB := Aside0.mk (Below.refl w.heap.size w)
 have H : ((stillagelaw09_awake.f k).bind fun t285 => (if t285 = true then ((stillagelaw07_Fits.f k l0_0 l0_1 l1).bind fun t286 => (if t286 = true then ((route_Path.f k l0_0 l0_1 l1 a2_0 a2_1).bind fun bt287 => (if bt287.2 = 0 then ((zone_Pieces.f l0_0 l0_1 bt287.1).bind fun bt291 => ((zone_Zones.f k l0_0 l0_1 bt287.1).bind fun bt295 => (if bt291.2 = 0 then (if bt295.2 = 0 then (stillagelaw09_ZoneJoined.j0 k bt287.1 bt291.1 bt295.1 ((bt295.1.length : Int) != (bt291.1.length : Int)) l0_0 l0_1) else (stillagelaw09_ZoneJoined.j0 k bt287.1 bt291.1 bt295.1 true l0_0 l0_1)) else (stillagelaw09_ZoneJoined.j0 k bt287.1 bt291.1 bt295.1 true l0_0 l0_1)))) else (some true))) else (some true))) else (some false))) = some r := h
 clear h
 replace H := Option.bind_eq_some_iff.mp H
 obtain ⟨t285, A40, H⟩ := H
 replace H : (if t285 = true then ((stillagelaw07_Fits.f k l0_0 l0_1 l1).bind fun t286 => (if t286 = true then ((route_Path.f k l0_0 l0_1 l1 a2_0 a2_1).bind fun bt287 => (if bt287.2 = 0 then ((zone_Pieces.f l0_0 l0_1 bt287.1).bind fun bt291 => ((zone_Zones.f k l0_0 l0_1 bt287.1).bind fun bt295 => (if bt291.2 = 0 then (if bt295.2 = 0 then (stillagelaw09_ZoneJoined.j0 k bt287.1 bt291.1 bt295.1 ((bt295.1.length : Int) != (bt291.1.length : Int)) l0_0 l0_1) else (stillagelaw09_ZoneJoined.j0 k bt287.1 bt291.1 bt295.1 true l0_0 l0_1)) else (stillagelaw09_ZoneJoined.j0 k bt287.1 bt291.1 bt295.1 true l0_0 l0_1)))) else (some true))) else (some true))) else (some false)) = some r := H
 have A4 := Aside0.mk A40
 clear A40
 by_cases c5 : t285 = true
 ·subst c5
  have H1 : ((stillagelaw07_Fits.f k l0_0 l0_1 l1).bind fun t286 => (if t286 = true then ((route_Path.f k l0_0 l0_1 l1 a2_0 a2_1).bind fun bt287 => (if bt287.2 = 0 then ((zone_Pieces.f l0_0 l0_1 bt287.1).bind fun bt291 => ((zone_Zones.f k l0_0 l0_1 bt287.1).bind fun bt295 => (if bt291.2 = 0 then (if bt295.2 = 0 then (stillagelaw09_ZoneJoined.j0 k bt287.1 bt291.1 bt295.1 ((bt295.1.length : Int) != (bt291.1.length : Int)) l0_0 l0_1) else (stillagelaw09_ZoneJoined.j0 k bt287.1 bt291.1 bt295.1 true l0_0 l0_1)) else (stillagelaw09_ZoneJoined.j0 k bt287.1 bt291.1 bt295.1 true l0_0 l0_1)))) else (some true))) else (some true))) = some r := by rw [if_pos rfl] at H; exact H
  clear H
  have H := H1
  clear H1
  replace H := Option.bind_eq_some_iff.mp H
  obtain ⟨t286, A60, H⟩ := H
  replace H : (if t286 = true then ((route_Path.f k l0_0 l0_1 l1 a2_0 a2_1).bind fun bt287 => (if bt287.2 = 0 then ((zone_Pieces.f l0_0 l0_1 bt287.1).bind fun bt291 => ((zone_Zones.f k l0_0 l0_1 bt287.1).bind fun bt295 => (if bt291.2 = 0 then (if bt295.2 = 0 then (stillagelaw09_ZoneJoined.j0 k bt287.1 bt291.1 bt295.1 ((bt295.1.length : Int) != (bt291.1.length : Int)) l0_0 l0_1) else (stillagelaw09_ZoneJoined.j0 k bt287.1 bt291.1 bt295.1 true l0_0 l0_1)) else (stillagelaw09_ZoneJoined.j0 k bt287.1 bt291.1 bt295.1 true l0_0 l0_1)))) else (some true))) else (some true)) = some r := H
  have A6 := Aside0.mk A60
  clear A60
  by_cases c7 : t286 = true
  ·subst c7
   have H1 : ((route_Path.f k l0_0 l0_1 l1 a2_0 a2_1).bind fun bt287 => (if bt287.2 = 0 then ((zone_Pieces.f l0_0 l0_1 bt287.1).bind fun bt291 => ((zone_Zones.f k l0_0 l0_1 bt287.1).bind fun bt295 => (if bt291.2 = 0 then (if bt295.2 = 0 then (stillagelaw09_ZoneJoined.j0 k bt287.1 bt291.1 bt295.1 ((bt295.1.length : Int) != (bt291.1.length : Int)) l0_0 l0_1) else (stillagelaw09_ZoneJoined.j0 k bt287.1 bt291.1 bt295.1 true l0_0 l0_1)) else (stillagelaw09_ZoneJoined.j0 k bt287.1 bt291.1 bt295.1 true l0_0 l0_1)))) else (some true))) = some r := by rw [if_pos rfl] at H; exact H
   clear H
   have H := H1
   clear H1
   replace H := Option.bind_eq_some_iff.mp H
   obtain ⟨⟨t287, t290⟩, A80, H⟩ := H
   replace H : (if t290 = 0 then ((zone_Pieces.f l0_0 l0_1 t287).bind fun bt291 => ((zone_Zones.f k l0_0 l0_1 t287).bind fun bt295 => (if bt291.2 = 0 then (if bt295.2 = 0 then (stillagelaw09_ZoneJoined.j0 k t287 bt291.1 bt295.1 ((bt295.1.length : Int) != (bt291.1.length : Int)) l0_0 l0_1) else (stillagelaw09_ZoneJoined.j0 k t287 bt291.1 bt295.1 true l0_0 l0_1)) else (stillagelaw09_ZoneJoined.j0 k t287 bt291.1 bt295.1 true l0_0 l0_1)))) else (some true)) = some r := H
   have A8 := Aside0.mk A80
   clear A80
   by_cases c9 : t290 = 0
   ·rw [if_pos c9] at H
    have c9b0 : (t290 == 0) = true := beq_iff_eq.mpr c9
    have c9b1 : (t290 != 0) = false := bne_eq_false_iff_eq.mpr c9
    clear c9
    replace H := Option.bind_eq_some_iff.mp H
    obtain ⟨⟨t291, t294⟩, A100, H⟩ := H
    replace H : ((zone_Zones.f k l0_0 l0_1 t287).bind fun bt295 => (if t294 = 0 then (if bt295.2 = 0 then (stillagelaw09_ZoneJoined.j0 k t287 t291 bt295.1 ((bt295.1.length : Int) != (t291.length : Int)) l0_0 l0_1) else (stillagelaw09_ZoneJoined.j0 k t287 t291 bt295.1 true l0_0 l0_1)) else (stillagelaw09_ZoneJoined.j0 k t287 t291 bt295.1 true l0_0 l0_1))) = some r := H
    have A10 := Aside0.mk A100
    clear A100
    replace H := Option.bind_eq_some_iff.mp H
    obtain ⟨⟨t295, t298⟩, A110, H⟩ := H
    replace H : (if t294 = 0 then (if t298 = 0 then (stillagelaw09_ZoneJoined.j0 k t287 t291 t295 ((t295.length : Int) != (t291.length : Int)) l0_0 l0_1) else (stillagelaw09_ZoneJoined.j0 k t287 t291 t295 true l0_0 l0_1)) else (stillagelaw09_ZoneJoined.j0 k t287 t291 t295 true l0_0 l0_1)) = some r := H
    have A11 := Aside0.mk A110
    clear A110
    have HC12 := Aside0.mk H
    clear H
    go_enter Try.func4, Try.ntmps4
    go_upto_region 10 with (first | ((with_reducible refine gate_dst (N := 3) rfl ?_); (try (refine gate_guard (by rfl) ?_; dsimp only)); refine box_event ?hg (N := 3) ?hd (cs := #[.slice A0_0 l0_0.length c0_0, .slice A0_1 l0_1.length c0_1]) (t := 25) ?hr ?_; (case hd => rfl); (case hg => rfl); (case hr => first | (go_simp; done) | (go_simp; rfl)); intro gb283 hg w13 hbox hb; have n0_ := Aside0.mk (below_step (zb0 HB.out) hb); have n1_ := Aside0.mk (hbox); have n2_ := Aside0.mk ((by rw [hg]; exact (below_size (zb0 HB.out)) : w.heap.size ≤ gb283)); have n3_ := Aside0.mk ((by rw [hg]; exact (below_size (zb0 HB.out)) : w.heap.size ≤ gb283)); clear HB; have HB := n0_; have BK283 := n1_; have GW283 := n2_; have GE283 := n3_; clear n0_ n1_ n2_ n3_; clear hb hbox hg) | ((with_reducible refine gate_dst (N := 5) rfl ?_); (try (refine gate_guard (by rfl) ?_; dsimp only)); refine box_event ?hg (N := 5) ?hd (cs := #[.int .i64 a2_0, .int .i64 a2_1]) (t := 43) ?hr ?_; (case hd => rfl); (case hg => rfl); (case hr => first | (go_simp; done) | (go_simp; rfl)); intro gb284 hg w14 hbox hb; have n0_ := Aside0.mk (blk_below (g := gb283) (o := .cells #[.slice A0_0 l0_0.length c0_0, .slice A0_1 l0_1.length c0_1] 25 (0, 0)) (zk BK283.out) hb); have n1_ := Aside0.mk (below_step (zb1 HB.out GE283.out) hb); have n2_ := Aside0.mk (hbox); have n3_ := Aside0.mk ((by rw [hg]; exact (below_size (zb1 HB.out GE283.out)) : w.heap.size ≤ gb284)); have n4_ := Aside0.mk ((by rw [hg]; exact (below_size (zb1 HB.out GE283.out)) : w.heap.size ≤ gb284)); have n5_ := Aside0.mk ((by rw [hg]; exact Nat.ne_of_lt (blk_lt (g := gb283) (o := .cells #[.slice A0_0 l0_0.length c0_0, .slice A0_1 l0_1.length c0_1] 25 (0, 0)) (zk BK283.out)) : gb283 ≠ gb284)); have n6_ := Aside0.mk ((by rw [hg]; exact Nat.ne_of_gt (blk_lt (g := gb283) (o := .cells #[.slice A0_0 l0_0.length c0_0, .slice A0_1 l0_1.length c0_1] 25 (0, 0)) (zk BK283.out)) : gb284 ≠ gb283)); clear BK283; clear HB; have BK283 := n0_; have HB := n1_; have BK284 := n2_; have GW284 := n3_; have GE284 := n4_; have NB283_284 := n5_; have NB284_283 := n6_; clear n0_ n1_ n2_ n3_ n4_ n5_ n6_; clear hb hbox hg) | (go_at_call 9; (with_reducible refine (stillagelaw09_awake.calls k  true _ A4.out).mono ?_); rintro e w15 ⟨rfl, hb⟩; have n0_ := Aside0.mk (blk_below (g := gb283) (o := .cells #[.slice A0_0 l0_0.length c0_0, .slice A0_1 l0_1.length c0_1] 25 (0, 0)) (zk BK283.out) hb); have n1_ := Aside0.mk (blk_below (g := gb284) (o := .cells #[.int .i64 a2_0, .int .i64 a2_1] 43 (0, 0)) (zk BK284.out) hb); have n2_ := Aside0.mk (below_step (zb2 HB.out GE283.out GE284.out) hb); clear BK283; clear BK284; clear HB; have BK283 := n0_; have BK284 := n1_; have HB := n2_; clear n0_ n1_ n2_; (try clear hb); (try clear hb2); (try clear hk); (try clear hi); have hnb16 := NB283_284.out; have hnc16 := NB284_283.out; have hcz17_0 : w15.cell? ⟨gb283, 0, none⟩ = some (.slice A0_0 l0_0.length c0_0) := (blk_cell BK283.out 0).trans rfl; have hcz17_1 : w15.cell? ⟨gb283, 1, none⟩ = some (.slice A0_1 l0_1.length c0_1) := (blk_cell BK283.out 1).trans rfl; have hfz17_0 := blk_frozen BK283.out 0; have hfz17_1 := blk_frozen BK283.out 1) | (go_at_call 19; (with_reducible refine (stillagelaw07_Fits.calls k _ _ l0_0 _ _ l0_1 _ _ l1 true _ ?side1 ?side2 ?side3 ?side4 ?side5 ?side6 A6.out).mono ?_); (case side1 => exact zc HR0_0.out HB.out); (case side2 => exact HC0_0.out); (case side3 => exact zc HR0_1.out HB.out); (case side4 => exact HC0_1.out); (case side5 => exact zc HR1.out HB.out); (case side6 => exact HC1.out); rintro e w18 ⟨rfl, hb⟩; have n0_ := Aside0.mk (blk_below (g := gb283) (o := .cells #[.slice A0_0 l0_0.length c0_0, .slice A0_1 l0_1.length c0_1] 25 (0, 0)) (zk BK283.out) hb); have n1_ := Aside0.mk (blk_below (g := gb284) (o := .cells #[.int .i64 a2_0, .int .i64 a2_1] 43 (0, 0)) (zk BK284.out) hb); have n2_ := Aside0.mk (below_step (zb2 HB.out GE283.out GE284.out) hb); clear BK283; clear BK284; clear HB; have BK283 := n0_; have BK284 := n1_; have HB := n2_; clear n0_ n1_ n2_; (try clear hb); (try clear hb2); (try clear hk); (try clear hi); have hcz19_0 : w18.cell? ⟨gb283, 0, none⟩ = some (.slice A0_0 l0_0.length c0_0) := (blk_cell BK283.out 0).trans rfl; have hcz19_1 : w18.cell? ⟨gb283, 1, none⟩ = some (.slice A0_1 l0_1.length c0_1) := (blk_cell BK283.out 1).trans rfl; have hfz19_0 := blk_frozen BK283.out 0; have hfz19_1 := blk_frozen BK283.out 1; have hcz20_0 : w18.cell? ⟨gb284, 0, none⟩ = some (.int .i64 a2_0) := (blk_cell BK284.out 0).trans rfl; have hcz20_1 : w18.cell? ⟨gb284, 1, none⟩ = some (.int .i64 a2_1) := (blk_cell BK284.out 1).trans rfl; have hfz20_0 := blk_frozen BK284.out 0; have hfz20_1 := blk_frozen BK284.out 1) | (go_at_call 20; (with_reducible refine (route_Path.calls k _ _ l0_0 _ _ l0_1 _ _ l1 a2_0 a2_1 t287 t290 _ ?side1 ?side2 ?side3 ?side4 ?side5 ?side6 A8.out).mono ?_); (case side1 => exact zc HR0_0.out HB.out); (case side2 => exact HC0_0.out); (case side3 => exact zc HR0_1.out HB.out); (case side4 => exact HC0_1.out); (case side5 => exact zc HR1.out HB.out); (case side6 => exact HC1.out); rintro e w21 ⟨v288, rfl, ho0, hb⟩; have n0_ := Aside0.mk (Kd.R_lower ho0 (below_size (zb2 HB.out GE283.out GE284.out))); have n1_ := Aside0.mk (blk_below (g := gb283) (o := .cells #[.slice A0_0 l0_0.length c0_0, .slice A0_1 l0_1.length c0_1] 25 (0, 0)) (zk BK283.out) hb); have n2_ := Aside0.mk (blk_below (g := gb284) (o := .cells #[.int .i64 a2_0, .int .i64 a2_1] 43 (0, 0)) (zk BK284.out) hb); have n3_ := Aside0.mk (below_step (zb2 HB.out GE283.out GE284.out) hb); clear BK283; clear BK284; clear HB; have HO289 := n0_; have BK283 := n1_; have BK284 := n2_; have HB := n3_; clear n0_ n1_ n2_ n3_; (try clear hb); (try clear hb2); (try clear hk); (try clear hi); (try clear ho0); have hcz22_0 : w21.cell? ⟨gb283, 0, none⟩ = some (.slice A0_0 l0_0.length c0_0) := (blk_cell BK283.out 0).trans rfl; have hcz22_1 : w21.cell? ⟨gb283, 1, none⟩ = some (.slice A0_1 l0_1.length c0_1) := (blk_cell BK283.out 1).trans rfl; have hfz22_0 := blk_frozen BK283.out 0; have hfz22_1 := blk_frozen BK283.out 1; obtain ⟨Ao23, co23, eo23⟩ := Kd.R_slice HO289.out; subst eo23) | (go_at_call 12; (with_reducible refine (zone_Pieces.calls _ _ l0_0 _ _ l0_1 _ _ t287 t291 t294 _ ?side1 ?side2 ?side3 ?side4 ?side5 ?side6 A10.out).mono ?_); (case side1 => exact zc HR0_0.out HB.out); (case side2 => exact HC0_0.out); (case side3 => exact zc HR0_1.out HB.out); (case side4 => exact HC0_1.out); (case side5 => exact zd (Kd.R_reads' HO289.out).2.2); (case side6 => exact (Kd.R_reads' HO289.out).2.1); rintro e w24 ⟨v292, rfl, ho0, hb⟩; have n0_ := Aside0.mk (Kd.R_below (zr HO289.out) hb); have n1_ := Aside0.mk (Kd.N_lower (Kd.N_mono (ok' := fun k_ => some k_ ≠ (.slice Ao23 t287.length co23 : Value).ownBlock ∧ k_ ≠ gb283 ∧ k_ ≠ gb284) ho0 (fun k_ hk_ => ⟨(Kd.fresh' (Kd.R_lt (zr HO289.out)) k_ hk_), (Kd.freshB (g := gb283) (o := .cells #[.slice A0_0 l0_0.length c0_0, .slice A0_1 l0_1.length c0_1] 25 (0, 0)) (zk BK283.out) k_ hk_), (Kd.freshB (g := gb284) (o := .cells #[.int .i64 a2_0, .int .i64 a2_1] 43 (0, 0)) (zk BK284.out) k_ hk_)⟩)) (below_size (zb2 HB.out GE283.out GE284.out))); have n2_ := Aside0.mk (blk_below (g := gb283) (o := .cells #[.slice A0_0 l0_0.length c0_0, .slice A0_1 l0_1.length c0_1] 25 (0, 0)) (zk BK283.out) hb); have n3_ := Aside0.mk (blk_below (g := gb284) (o := .cells #[.int .i64 a2_0, .int .i64 a2_1] 43 (0, 0)) (zk BK284.out) hb); have n4_ := Aside0.mk (below_step (zb2 HB.out GE283.out GE284.out) hb); clear HO289; clear BK283; clear BK284; clear HB; have HO289 := n0_; have HO293 := n1_; have BK283 := n2_; have BK284 := n3_; have HB := n4_; clear n0_ n1_ n2_ n3_ n4_; (try clear hb); (try clear hb2); (try clear hk); (try clear hi); (try clear ho0); have hcz25_0 : w24.cell? ⟨gb283, 0, none⟩ = some (.slice A0_0 l0_0.length c0_0) := (blk_cell BK283.out 0).trans rfl; have hcz25_1 : w24.cell? ⟨gb283, 1, none⟩ = some (.slice A0_1 l0_1.length c0_1) := (blk_cell BK283.out 1).trans rfl; have hfz25_0 := blk_frozen BK283.out 0; have hfz25_1 := blk_frozen BK283.out 1) | (go_at_call 13; (with_reducible refine (zone_Zones.calls k _ _ l0_0 _ _ l0_1 _ _ t287 t295 t298 _ ?side1 ?side2 ?side3 ?side4 ?side5 ?side6 A11.out).mono ?_); (case side1 => exact zc HR0_0.out HB.out); (case side2 => exact HC0_0.out); (case side3 => exact zc HR0_1.out HB.out); (case side4 => exact HC0_1.out); (case side5 => exact zd (Kd.R_reads' HO289.out).2.2); (case side6 => exact (Kd.R_reads' HO289.out).2.1); rintro e w26 ⟨v296, rfl, ho0, hb⟩; have n0_ := Aside0.mk (Kd.R_elder' (zr HO289.out) (Kd.R_base ho0) hb); have n1_ := Aside0.mk (Kd.N_elder' (by (with_reducible repeat (first | apply Kd.N_alloc | apply Kd.N_drewN | apply Kd.N_drew)); exact HO293.out) (Kd.R_base ho0) hb); have n2_ := Aside0.mk (Kd.R_lower (Kd.R_new' ho0 (Kd.R_lt (zr HO289.out))) (below_size (zb2 HB.out GE283.out GE284.out))); have n3_ := Aside0.mk (blk_below (g := gb283) (o := .cells #[.slice A0_0 l0_0.length c0_0, .slice A0_1 l0_1.length c0_1] 25 (0, 0)) (zk BK283.out) hb); have n4_ := Aside0.mk (blk_below (g := gb284) (o := .cells #[.int .i64 a2_0, .int .i64 a2_1] 43 (0, 0)) (zk BK284.out) hb); have n5_ := Aside0.mk (below_step (zb2 HB.out GE283.out GE284.out) hb); clear HO289; clear HO293; clear BK283; clear BK284; clear HB; have HO289 := n0_; have HO293 := n1_; have HO297 := n2_; have BK283 := n3_; have BK284 := n4_; have HB := n5_; clear n0_ n1_ n2_ n3_ n4_ n5_; (try clear hb); (try clear hb2); (try clear hk); (try clear hi); (try clear ho0)))
    repeat (go_quiet (first | ((with_reducible refine gate_dst (N := 3) rfl ?_); (try (refine gate_guard (by rfl) ?_; dsimp only)); refine box_event ?hg (N := 3) ?hd (cs := #[.slice A0_0 l0_0.length c0_0, .slice A0_1 l0_1.length c0_1]) (t := 25) ?hr ?_; (case hd => rfl); (case hg => rfl); (case hr => first | (go_simp; done) | (go_simp; rfl)); intro gb283 hg w13 hbox hb; have n0_ := Aside0.mk (below_step (zb0 HB.out) hb); have n1_ := Aside0.mk (hbox); have n2_ := Aside0.mk ((by rw [hg]; exact (below_size (zb0 HB.out)) : w.heap.size ≤ gb283)); have n3_ := Aside0.mk ((by rw [hg]; exact (below_size (zb0 HB.out)) : w.heap.size ≤ gb283)); clear HB; have HB := n0_; have BK283 := n1_; have GW283 := n2_; have GE283 := n3_; clear n0_ n1_ n2_ n3_; clear hb hbox hg) | ((with_reducible refine gate_dst (N := 5) rfl ?_); (try (refine gate_guard (by rfl) ?_; dsimp only)); refine box_event ?hg (N := 5) ?hd (cs := #[.int .i64 a2_0, .int .i64 a2_1]) (t := 43) ?hr ?_; (case hd => rfl); (case hg => rfl); (case hr => first | (go_simp; done) | (go_simp; rfl)); intro gb284 hg w14 hbox hb; have n0_ := Aside0.mk (blk_below (g := gb283) (o := .cells #[.slice A0_0 l0_0.length c0_0, .slice A0_1 l0_1.length c0_1] 25 (0, 0)) (zk BK283.out) hb); have n1_ := Aside0.mk (below_step (zb1 HB.out GE283.out) hb); have n2_ := Aside0.mk (hbox); have n3_ := Aside0.mk ((by rw [hg]; exact (below_size (zb1 HB.out GE283.out)) : w.heap.size ≤ gb284)); have n4_ := Aside0.mk ((by rw [hg]; exact (below_size (zb1 HB.out GE283.out)) : w.heap.size ≤ gb284)); have n5_ := Aside0.mk ((by rw [hg]; exact Nat.ne_of_lt (blk_lt (g := gb283) (o := .cells #[.slice A0_0 l0_0.length c0_0, .slice A0_1 l0_1.length c0_1] 25 (0, 0)) (zk BK283.out)) : gb283 ≠ gb284)); have n6_ := Aside0.mk ((by rw [hg]; exact Nat.ne_of_gt (blk_lt (g := gb283) (o := .cells #[.slice A0_0 l0_0.length c0_0, .slice A0_1 l0_1.length c0_1] 25 (0, 0)) (zk BK283.out)) : gb284 ≠ gb283)); clear BK283; clear HB; have BK283 := n0_; have HB := n1_; have BK284 := n2_; have GW284 := n3_; have GE284 := n4_; have NB283_284 := n5_; have NB284_283 := n6_; clear n0_ n1_ n2_ n3_ n4_ n5_ n6_; clear hb hbox hg) | (go_at_call 9; (with_reducible refine (stillagelaw09_awake.calls k  true _ A4.out).mono ?_); rintro e w15 ⟨rfl, hb⟩; have n0_ := Aside0.mk (blk_below (g := gb283) (o := .cells #[.slice A0_0 l0_0.length c0_0, .slice A0_1 l0_1.length c0_1] 25 (0, 0)) (zk BK283.out) hb); have n1_ := Aside0.mk (blk_below (g := gb284) (o := .cells #[.int .i64 a2_0, .int .i64 a2_1] 43 (0, 0)) (zk BK284.out) hb); have n2_ := Aside0.mk (below_step (zb2 HB.out GE283.out GE284.out) hb); clear BK283; clear BK284; clear HB; have BK283 := n0_; have BK284 := n1_; have HB := n2_; clear n0_ n1_ n2_; (try clear hb); (try clear hb2); (try clear hk); (try clear hi); have hnb16 := NB283_284.out; have hnc16 := NB284_283.out; have hcz17_0 : w15.cell? ⟨gb283, 0, none⟩ = some (.slice A0_0 l0_0.length c0_0) := (blk_cell BK283.out 0).trans rfl; have hcz17_1 : w15.cell? ⟨gb283, 1, none⟩ = some (.slice A0_1 l0_1.length c0_1) := (blk_cell BK283.out 1).trans rfl; have hfz17_0 := blk_frozen BK283.out 0; have hfz17_1 := blk_frozen BK283.out 1) | (go_at_call 19; (with_reducible refine (stillagelaw07_Fits.calls k _ _ l0_0 _ _ l0_1 _ _ l1 true _ ?side1 ?side2 ?side3 ?side4 ?side5 ?side6 A6.out).mono ?_); (case side1 => exact zc HR0_0.out HB.out); (case side2 => exact HC0_0.out); (case side3 => exact zc HR0_1.out HB.out); (case side4 => exact HC0_1.out); (case side5 => exact zc HR1.out HB.out); (case side6 => exact HC1.out); rintro e w18 ⟨rfl, hb⟩; have n0_ := Aside0.mk (blk_below (g := gb283) (o := .cells #[.slice A0_0 l0_0.length c0_0, .slice A0_1 l0_1.length c0_1] 25 (0, 0)) (zk BK283.out) hb); have n1_ := Aside0.mk (blk_below (g := gb284) (o := .cells #[.int .i64 a2_0, .int .i64 a2_1] 43 (0, 0)) (zk BK284.out) hb); have n2_ := Aside0.mk (below_step (zb2 HB.out GE283.out GE284.out) hb); clear BK283; clear BK284; clear HB; have BK283 := n0_; have BK284 := n1_; have HB := n2_; clear n0_ n1_ n2_; (try clear hb); (try clear hb2); (try clear hk); (try clear hi); have hcz19_0 : w18.cell? ⟨gb283, 0, none⟩ = some (.slice A0_0 l0_0.length c0_0) := (blk_cell BK283.out 0).trans rfl; have hcz19_1 : w18.cell? ⟨gb283, 1, none⟩ = some (.slice A0_1 l0_1.length c0_1) := (blk_cell BK283.out 1).trans rfl; have hfz19_0 := blk_frozen BK283.out 0; have hfz19_1 := blk_frozen BK283.out 1; have hcz20_0 : w18.cell? ⟨gb284, 0, none⟩ = some (.int .i64 a2_0) := (blk_cell BK284.out 0).trans rfl; have hcz20_1 : w18.cell? ⟨gb284, 1, none⟩ = some (.int .i64 a2_1) := (blk_cell BK284.out 1).trans rfl; have hfz20_0 := blk_frozen BK284.out 0; have hfz20_1 := blk_frozen BK284.out 1) | (go_at_call 20; (with_reducible refine (route_Path.calls k _ _ l0_0 _ _ l0_1 _ _ l1 a2_0 a2_1 t287 t290 _ ?side1 ?side2 ?side3 ?side4 ?side5 ?side6 A8.out).mono ?_); (case side1 => exact zc HR0_0.out HB.out); (case side2 => exact HC0_0.out); (case side3 => exact zc HR0_1.out HB.out); (case side4 => exact HC0_1.out); (case side5 => exact zc HR1.out HB.out); (case side6 => exact HC1.out); rintro e w21 ⟨v288, rfl, ho0, hb⟩; have n0_ := Aside0.mk (Kd.R_lower ho0 (below_size (zb2 HB.out GE283.out GE284.out))); have n1_ := Aside0.mk (blk_below (g := gb283) (o := .cells #[.slice A0_0 l0_0.length c0_0, .slice A0_1 l0_1.length c0_1] 25 (0, 0)) (zk BK283.out) hb); have n2_ := Aside0.mk (blk_below (g := gb284) (o := .cells #[.int .i64 a2_0, .int .i64 a2_1] 43 (0, 0)) (zk BK284.out) hb); have n3_ := Aside0.mk (below_step (zb2 HB.out GE283.out GE284.out) hb); clear BK283; clear BK284; clear HB; have HO289 := n0_; have BK283 := n1_; have BK284 := n2_; have HB := n3_; clear n0_ n1_ n2_ n3_; (try clear hb); (try clear hb2); (try clear hk); (try clear hi); (try clear ho0); have hcz22_0 : w21.cell? ⟨gb283, 0, none⟩ = some (.slice A0_0 l0_0.length c0_0) := (blk_cell BK283.out 0).trans rfl; have hcz22_1 : w21.cell? ⟨gb283, 1, none⟩ = some (.slice A0_1 l0_1.length c0_1) := (blk_cell BK283.out 1).trans rfl; have hfz22_0 := blk_frozen BK283.out 0; have hfz22_1 := blk_frozen BK283.out 1; obtain ⟨Ao23, co23, eo23⟩ := Kd.R_slice HO289.out; subst eo23) | (go_at_call 12; (with_reducible refine (zone_Pieces.calls _ _ l0_0 _ _ l0_1 _ _ t287 t291 t294 _ ?side1 ?side2 ?side3 ?side4 ?side5 ?side6 A10.out).mono ?_); (case side1 => exact zc HR0_0.out HB.out); (case side2 => exact HC0_0.out); (case side3 => exact zc HR0_1.out HB.out); (case side4 => exact HC0_1.out); (case side5 => exact zd (Kd.R_reads' HO289.out).2.2); (case side6 => exact (Kd.R_reads' HO289.out).2.1); rintro e w24 ⟨v292, rfl, ho0, hb⟩; have n0_ := Aside0.mk (Kd.R_below (zr HO289.out) hb); have n1_ := Aside0.mk (Kd.N_lower (Kd.N_mono (ok' := fun k_ => some k_ ≠ (.slice Ao23 t287.length co23 : Value).ownBlock ∧ k_ ≠ gb283 ∧ k_ ≠ gb284) ho0 (fun k_ hk_ => ⟨(Kd.fresh' (Kd.R_lt (zr HO289.out)) k_ hk_), (Kd.freshB (g := gb283) (o := .cells #[.slice A0_0 l0_0.length c0_0, .slice A0_1 l0_1.length c0_1] 25 (0, 0)) (zk BK283.out) k_ hk_), (Kd.freshB (g := gb284) (o := .cells #[.int .i64 a2_0, .int .i64 a2_1] 43 (0, 0)) (zk BK284.out) k_ hk_)⟩)) (below_size (zb2 HB.out GE283.out GE284.out))); have n2_ := Aside0.mk (blk_below (g := gb283) (o := .cells #[.slice A0_0 l0_0.length c0_0, .slice A0_1 l0_1.length c0_1] 25 (0, 0)) (zk BK283.out) hb); have n3_ := Aside0.mk (blk_below (g := gb284) (o := .cells #[.int .i64 a2_0, .int .i64 a2_1] 43 (0, 0)) (zk BK284.out) hb); have n4_ := Aside0.mk (below_step (zb2 HB.out GE283.out GE284.out) hb); clear HO289; clear BK283; clear BK284; clear HB; have HO289 := n0_; have HO293 := n1_; have BK283 := n2_; have BK284 := n3_; have HB := n4_; clear n0_ n1_ n2_ n3_ n4_; (try clear hb); (try clear hb2); (try clear hk); (try clear hi); (try clear ho0); have hcz25_0 : w24.cell? ⟨gb283, 0, none⟩ = some (.slice A0_0 l0_0.length c0_0) := (blk_cell BK283.out 0).trans rfl; have hcz25_1 : w24.cell? ⟨gb283, 1, none⟩ = some (.slice A0_1 l0_1.length c0_1) := (blk_cell BK283.out 1).trans rfl; have hfz25_0 := blk_frozen BK283.out 0; have hfz25_1 := blk_frozen BK283.out 1) | (go_at_call 13; (with_reducible refine (zone_Zones.calls k _ _ l0_0 _ _ l0_1 _ _ t287 t295 t298 _ ?side1 ?side2 ?side3 ?side4 ?side5 ?side6 A11.out).mono ?_); (case side1 => exact zc HR0_0.out HB.out); (case side2 => exact HC0_0.out); (case side3 => exact zc HR0_1.out HB.out); (case side4 => exact HC0_1.out); (case side5 => exact zd (Kd.R_reads' HO289.out).2.2); (case side6 => exact (Kd.R_reads' HO289.out).2.1); rintro e w26 ⟨v296, rfl, ho0, hb⟩; have n0_ := Aside0.mk (Kd.R_elder' (zr HO289.out) (Kd.R_base ho0) hb); have n1_ := Aside0.mk (Kd.N_elder' (by (with_reducible repeat (first | apply Kd.N_alloc | apply Kd.N_drewN | apply Kd.N_drew)); exact HO293.out) (Kd.R_base ho0) hb); have n2_ := Aside0.mk (Kd.R_lower (Kd.R_new' ho0 (Kd.R_lt (zr HO289.out))) (below_size (zb2 HB.out GE283.out GE284.out))); have n3_ := Aside0.mk (blk_below (g := gb283) (o := .cells #[.slice A0_0 l0_0.length c0_0, .slice A0_1 l0_1.length c0_1] 25 (0, 0)) (zk BK283.out) hb); have n4_ := Aside0.mk (blk_below (g := gb284) (o := .cells #[.int .i64 a2_0, .int .i64 a2_1] 43 (0, 0)) (zk BK284.out) hb); have n5_ := Aside0.mk (below_step (zb2 HB.out GE283.out GE284.out) hb); clear HO289; clear HO293; clear BK283; clear BK284; clear HB; have HO289 := n0_; have HO293 := n1_; have HO297 := n2_; have BK283 := n3_; have BK284 := n4_; have HB := n5_; clear n0_ n1_ n2_ n3_ n4_ n5_; (try clear hb); (try clear hb2); (try clear hk); (try clear hi); (try clear ho0))); go_upto_region 10 with (first | ((with_reducible refine gate_dst (N := 3) rfl ?_); (try (refine gate_guard (by rfl) ?_; dsimp only)); refine box_event ?hg (N := 3) ?hd (cs := #[.slice A0_0 l0_0.length c0_0, .slice A0_1 l0_1.length c0_1]) (t := 25) ?hr ?_; (case hd => rfl); (case hg => rfl); (case hr => first | (go_simp; done) | (go_simp; rfl)); intro gb283 hg w13 hbox hb; have n0_ := Aside0.mk (below_step (zb0 HB.out) hb); have n1_ := Aside0.mk (hbox); have n2_ := Aside0.mk ((by rw [hg]; exact (below_size (zb0 HB.out)) : w.heap.size ≤ gb283)); have n3_ := Aside0.mk ((by rw [hg]; exact (below_size (zb0 HB.out)) : w.heap.size ≤ gb283)); clear HB; have HB := n0_; have BK283 := n1_; have GW283 := n2_; have GE283 := n3_; clear n0_ n1_ n2_ n3_; clear hb hbox hg) | ((with_reducible refine gate_dst (N := 5) rfl ?_); (try (refine gate_guard (by rfl) ?_; dsimp only)); refine box_event ?hg (N := 5) ?hd (cs := #[.int .i64 a2_0, .int .i64 a2_1]) (t := 43) ?hr ?_; (case hd => rfl); (case hg => rfl); (case hr => first | (go_simp; done) | (go_simp; rfl)); intro gb284 hg w14 hbox hb; have n0_ := Aside0.mk (blk_below (g := gb283) (o := .cells #[.slice A0_0 l0_0.length c0_0, .slice A0_1 l0_1.length c0_1] 25 (0, 0)) (zk BK283.out) hb); have n1_ := Aside0.mk (below_step (zb1 HB.out GE283.out) hb); have n2_ := Aside0.mk (hbox); have n3_ := Aside0.mk ((by rw [hg]; exact (below_size (zb1 HB.out GE283.out)) : w.heap.size ≤ gb284)); have n4_ := Aside0.mk ((by rw [hg]; exact (below_size (zb1 HB.out GE283.out)) : w.heap.size ≤ gb284)); have n5_ := Aside0.mk ((by rw [hg]; exact Nat.ne_of_lt (blk_lt (g := gb283) (o := .cells #[.slice A0_0 l0_0.length c0_0, .slice A0_1 l0_1.length c0_1] 25 (0, 0)) (zk BK283.out)) : gb283 ≠ gb284)); have n6_ := Aside0.mk ((by rw [hg]; exact Nat.ne_of_gt (blk_lt (g := gb283) (o := .cells #[.slice A0_0 l0_0.length c0_0, .slice A0_1 l0_1.length c0_1] 25 (0, 0)) (zk BK283.out)) : gb284 ≠ gb283)); clear BK283; clear HB; have BK283 := n0_; have HB := n1_; have BK284 := n2_; have GW284 := n3_; have GE284 := n4_; have NB283_284 := n5_; have NB284_283 := n6_; clear n0_ n1_ n2_ n3_ n4_ n5_ n6_; clear hb hbox hg) | (go_at_call 9; (with_reducible refine (stillagelaw09_awake.calls k  true _ A4.out).mono ?_); rintro e w15 ⟨rfl, hb⟩; have n0_ := Aside0.mk (blk_below (g := gb283) (o := .cells #[.slice A0_0 l0_0.length c0_0, .slice A0_1 l0_1.length c0_1] 25 (0, 0)) (zk BK283.out) hb); have n1_ := Aside0.mk (blk_below (g := gb284) (o := .cells #[.int .i64 a2_0, .int .i64 a2_1] 43 (0, 0)) (zk BK284.out) hb); have n2_ := Aside0.mk (below_step (zb2 HB.out GE283.out GE284.out) hb); clear BK283; clear BK284; clear HB; have BK283 := n0_; have BK284 := n1_; have HB := n2_; clear n0_ n1_ n2_; (try clear hb); (try clear hb2); (try clear hk); (try clear hi); have hnb16 := NB283_284.out; have hnc16 := NB284_283.out; have hcz17_0 : w15.cell? ⟨gb283, 0, none⟩ = some (.slice A0_0 l0_0.length c0_0) := (blk_cell BK283.out 0).trans rfl; have hcz17_1 : w15.cell? ⟨gb283, 1, none⟩ = some (.slice A0_1 l0_1.length c0_1) := (blk_cell BK283.out 1).trans rfl; have hfz17_0 := blk_frozen BK283.out 0; have hfz17_1 := blk_frozen BK283.out 1) | (go_at_call 19; (with_reducible refine (stillagelaw07_Fits.calls k _ _ l0_0 _ _ l0_1 _ _ l1 true _ ?side1 ?side2 ?side3 ?side4 ?side5 ?side6 A6.out).mono ?_); (case side1 => exact zc HR0_0.out HB.out); (case side2 => exact HC0_0.out); (case side3 => exact zc HR0_1.out HB.out); (case side4 => exact HC0_1.out); (case side5 => exact zc HR1.out HB.out); (case side6 => exact HC1.out); rintro e w18 ⟨rfl, hb⟩; have n0_ := Aside0.mk (blk_below (g := gb283) (o := .cells #[.slice A0_0 l0_0.length c0_0, .slice A0_1 l0_1.length c0_1] 25 (0, 0)) (zk BK283.out) hb); have n1_ := Aside0.mk (blk_below (g := gb284) (o := .cells #[.int .i64 a2_0, .int .i64 a2_1] 43 (0, 0)) (zk BK284.out) hb); have n2_ := Aside0.mk (below_step (zb2 HB.out GE283.out GE284.out) hb); clear BK283; clear BK284; clear HB; have BK283 := n0_; have BK284 := n1_; have HB := n2_; clear n0_ n1_ n2_; (try clear hb); (try clear hb2); (try clear hk); (try clear hi); have hcz19_0 : w18.cell? ⟨gb283, 0, none⟩ = some (.slice A0_0 l0_0.length c0_0) := (blk_cell BK283.out 0).trans rfl; have hcz19_1 : w18.cell? ⟨gb283, 1, none⟩ = some (.slice A0_1 l0_1.length c0_1) := (blk_cell BK283.out 1).trans rfl; have hfz19_0 := blk_frozen BK283.out 0; have hfz19_1 := blk_frozen BK283.out 1; have hcz20_0 : w18.cell? ⟨gb284, 0, none⟩ = some (.int .i64 a2_0) := (blk_cell BK284.out 0).trans rfl; have hcz20_1 : w18.cell? ⟨gb284, 1, none⟩ = some (.int .i64 a2_1) := (blk_cell BK284.out 1).trans rfl; have hfz20_0 := blk_frozen BK284.out 0; have hfz20_1 := blk_frozen BK284.out 1) | (go_at_call 20; (with_reducible refine (route_Path.calls k _ _ l0_0 _ _ l0_1 _ _ l1 a2_0 a2_1 t287 t290 _ ?side1 ?side2 ?side3 ?side4 ?side5 ?side6 A8.out).mono ?_); (case side1 => exact zc HR0_0.out HB.out); (case side2 => exact HC0_0.out); (case side3 => exact zc HR0_1.out HB.out); (case side4 => exact HC0_1.out); (case side5 => exact zc HR1.out HB.out); (case side6 => exact HC1.out); rintro e w21 ⟨v288, rfl, ho0, hb⟩; have n0_ := Aside0.mk (Kd.R_lower ho0 (below_size (zb2 HB.out GE283.out GE284.out))); have n1_ := Aside0.mk (blk_below (g := gb283) (o := .cells #[.slice A0_0 l0_0.length c0_0, .slice A0_1 l0_1.length c0_1] 25 (0, 0)) (zk BK283.out) hb); have n2_ := Aside0.mk (blk_below (g := gb284) (o := .cells #[.int .i64 a2_0, .int .i64 a2_1] 43 (0, 0)) (zk BK284.out) hb); have n3_ := Aside0.mk (below_step (zb2 HB.out GE283.out GE284.out) hb); clear BK283; clear BK284; clear HB; have HO289 := n0_; have BK283 := n1_; have BK284 := n2_; have HB := n3_; clear n0_ n1_ n2_ n3_; (try clear hb); (try clear hb2); (try clear hk); (try clear hi); (try clear ho0); have hcz22_0 : w21.cell? ⟨gb283, 0, none⟩ = some (.slice A0_0 l0_0.length c0_0) := (blk_cell BK283.out 0).trans rfl; have hcz22_1 : w21.cell? ⟨gb283, 1, none⟩ = some (.slice A0_1 l0_1.length c0_1) := (blk_cell BK283.out 1).trans rfl; have hfz22_0 := blk_frozen BK283.out 0; have hfz22_1 := blk_frozen BK283.out 1; obtain ⟨Ao23, co23, eo23⟩ := Kd.R_slice HO289.out; subst eo23) | (go_at_call 12; (with_reducible refine (zone_Pieces.calls _ _ l0_0 _ _ l0_1 _ _ t287 t291 t294 _ ?side1 ?side2 ?side3 ?side4 ?side5 ?side6 A10.out).mono ?_); (case side1 => exact zc HR0_0.out HB.out); (case side2 => exact HC0_0.out); (case side3 => exact zc HR0_1.out HB.out); (case side4 => exact HC0_1.out); (case side5 => exact zd (Kd.R_reads' HO289.out).2.2); (case side6 => exact (Kd.R_reads' HO289.out).2.1); rintro e w24 ⟨v292, rfl, ho0, hb⟩; have n0_ := Aside0.mk (Kd.R_below (zr HO289.out) hb); have n1_ := Aside0.mk (Kd.N_lower (Kd.N_mono (ok' := fun k_ => some k_ ≠ (.slice Ao23 t287.length co23 : Value).ownBlock ∧ k_ ≠ gb283 ∧ k_ ≠ gb284) (Kd.S_N (Kd.S_bound ho0)) (fun k_ hk_ => ⟨(Kd.fresh' (Kd.R_lt (zr HO289.out)) k_ hk_.2.1), (Kd.freshB (g := gb283) (o := .cells #[.slice A0_0 l0_0.length c0_0, .slice A0_1 l0_1.length c0_1] 25 (0, 0)) (zk BK283.out) k_ hk_.2.1), (Kd.freshB (g := gb284) (o := .cells #[.int .i64 a2_0, .int .i64 a2_1] 43 (0, 0)) (zk BK284.out) k_ hk_.2.1)⟩)) (below_size (zb2 HB.out GE283.out GE284.out))); have n2_ := Aside0.mk (blk_below (g := gb283) (o := .cells #[.slice A0_0 l0_0.length c0_0, .slice A0_1 l0_1.length c0_1] 25 (0, 0)) (zk BK283.out) hb); have n3_ := Aside0.mk (blk_below (g := gb284) (o := .cells #[.int .i64 a2_0, .int .i64 a2_1] 43 (0, 0)) (zk BK284.out) hb); have n4_ := Aside0.mk (below_step (zb2 HB.out GE283.out GE284.out) hb); clear HO289; clear BK283; clear BK284; clear HB; have HO289 := n0_; have HO293 := n1_; have BK283 := n2_; have BK284 := n3_; have HB := n4_; clear n0_ n1_ n2_ n3_ n4_; (try clear hb); (try clear hb2); (try clear hk); (try clear hi); (try clear ho0); have hcz25_0 : w24.cell? ⟨gb283, 0, none⟩ = some (.slice A0_0 l0_0.length c0_0) := (blk_cell BK283.out 0).trans rfl; have hcz25_1 : w24.cell? ⟨gb283, 1, none⟩ = some (.slice A0_1 l0_1.length c0_1) := (blk_cell BK283.out 1).trans rfl; have hfz25_0 := blk_frozen BK283.out 0; have hfz25_1 := blk_frozen BK283.out 1) | (go_at_call 13; (with_reducible refine (zone_Zones.calls k _ _ l0_0 _ _ l0_1 _ _ t287 t295 t298 _ ?side1 ?side2 ?side3 ?side4 ?side5 ?side6 A11.out).mono ?_); (case side1 => exact zc HR0_0.out HB.out); (case side2 => exact HC0_0.out); (case side3 => exact zc HR0_1.out HB.out); (case side4 => exact HC0_1.out); (case side5 => exact zd (Kd.R_reads' HO289.out).2.2); (case side6 => exact (Kd.R_reads' HO289.out).2.1); rintro e w26 ⟨v296, rfl, ho0, hb⟩; have n0_ := Aside0.mk (Kd.R_elder' (zr HO289.out) (Kd.R_base ho0) hb); have n1_ := Aside0.mk (Kd.N_elder' (by (with_reducible repeat (first | apply Kd.N_alloc | apply Kd.N_drewN | apply Kd.N_drew)); exact HO293.out) (Kd.R_base ho0) hb); have n2_ := Aside0.mk (Kd.R_lower (Kd.R_new' ho0 (Kd.R_lt (zr HO289.out))) (below_size (zb2 HB.out GE283.out GE284.out))); have n3_ := Aside0.mk (blk_below (g := gb283) (o := .cells #[.slice A0_0 l0_0.length c0_0, .slice A0_1 l0_1.length c0_1] 25 (0, 0)) (zk BK283.out) hb); have n4_ := Aside0.mk (blk_below (g := gb284) (o := .cells #[.int .i64 a2_0, .int .i64 a2_1] 43 (0, 0)) (zk BK284.out) hb); have n5_ := Aside0.mk (below_step (zb2 HB.out GE283.out GE284.out) hb); clear HO289; clear HO293; clear BK283; clear BK284; clear HB; have HO289 := n0_; have HO293 := n1_; have HO297 := n2_; have BK283 := n3_; have BK284 := n4_; have HB := n5_; clear n0_ n1_ n2_ n3_ n4_ n5_; (try clear hb); (try clear hb2); (try clear hk); (try clear hi); (try clear ho0))))
    (try simp only [Act.put, List.setIfInBounds_toArray, List.set_cons_zero, List.set_cons_succ])
    go_cut [58] (fun v58 wc => ∃ (kq : Nat) (x58_11 : Bool), v58 = .bool x58_11 ∧ Aside0 (stillagelaw09_ZoneJoined.j0 kq t287 t291 t295 x58_11 l0_0 l0_1 = some r) ∧ Aside0 (kq ≤ k) ∧ Aside0 (Kd.R (Kd.int .i64) 3 wc w.heap.size (fun k_ => some k_ ≠ (v296 : Value).ownBlock) (.slice Ao23 t287.length co23) t287) ∧ Aside0 (Kd.N (Kd.slice 3 (Kd.int .i64)) 26 wc w.heap.size (fun k_ => some k_ ≠ ((.slice Ao23 t287.length co23) : Value).ownBlock ∧ some k_ ≠ (v296 : Value).ownBlock ∧ k_ ≠ gb283 ∧ k_ ≠ gb284) v292 t291) ∧ Aside0 (Kd.R (Kd.int .i64) 3 wc w.heap.size (fun k_ => some k_ ≠ ((.slice Ao23 t287.length co23) : Value).ownBlock) v296 t295) ∧ Aside0 (wc.heap[gb283]? = some (.cells #[(.slice A0_0 l0_0.length c0_0), (.slice A0_1 l0_1.length c0_1)] 25 (0, 0))) ∧ Aside0 (wc.heap[gb284]? = some (.cells #[.int .i64 a2_0, .int .i64 a2_1] 43 (0, 0))) ∧ Aside0 (Below w.heap.size w wc))
    case first =>
     have H := HC12.out
     clear HC12
     by_cases c27 : t294 = 0
     ·rw [if_pos c27] at H
      have c27b0 : (t294 == 0) = true := beq_iff_eq.mpr c27
      have c27b1 : (t294 != 0) = false := bne_eq_false_iff_eq.mpr c27
      clear c27
      (first | rw [c27b0] | (simp only [i64_w, i32_w]; rw [c27b0]) | skip)
      by_cases c28 : t298 = 0
      ·rw [if_pos c28] at H
       have c28b0 : (t298 == 0) = true := beq_iff_eq.mpr c28
       have c28b1 : (t298 != 0) = false := bne_eq_false_iff_eq.mpr c28
       clear c28
       have H' := Aside0.mk H
       clear H
       obtain ⟨Ao29, co29, eo29⟩ := Kd.R_slice HO297.out
       subst eo29
       obtain ⟨Ao30, co30, eo30⟩ := Kd.N_slice HO293.out
       subst eo30
       go_wp2
       repeat (go_quiet (fail); try go_wp2)
       go_meet
       case rel => exact ⟨_, (((t295.length : Int) != (t291.length : Int))), rs, H', ⟨by first | omega | exact Nat.le_refl _⟩, ⟨by (with_reducible repeat (first | apply Kd.R_alloc | apply Kd.R_drewN | apply Kd.R_drew)); exact Kd.R_mono HO289.out (fun _ hk => hk.2)⟩, ⟨by (with_reducible repeat (first | apply Kd.N_alloc | apply Kd.N_drewN | apply Kd.N_drew)); exact Kd.N_mono HO293.out (fun _ hk => ⟨hk.1.1, ⟨hk.2, ⟨hk.1.2.1, hk.1.2.2⟩⟩⟩)⟩, ⟨by (with_reducible repeat (first | apply Kd.R_alloc | apply Kd.R_drewN | apply Kd.R_drew)); exact Kd.R_mono HO297.out (fun _ hk => hk.2)⟩, ⟨zk BK283.out⟩, ⟨zk BK284.out⟩, ⟨zb2 HB.out GE283.out GE284.out⟩⟩
      ·rw [if_neg c28] at H
       have c28b0 : (t298 == 0) = false := beq_eq_false_iff_ne.mpr c28
       have c28b1 : (t298 != 0) = true := bne_iff_ne.mpr c28
       have H' := Aside0.mk H
       clear H
       go_wp2
       repeat (go_quiet (fail); try go_wp2)
       go_meet
       case rel => exact ⟨_, (true), rs, H', ⟨by first | omega | exact Nat.le_refl _⟩, ⟨by (with_reducible repeat (first | apply Kd.R_alloc | apply Kd.R_drewN | apply Kd.R_drew)); exact Kd.R_mono HO289.out (fun _ hk => hk.2)⟩, ⟨by (with_reducible repeat (first | apply Kd.N_alloc | apply Kd.N_drewN | apply Kd.N_drew)); exact Kd.N_mono HO293.out (fun _ hk => ⟨hk.1.1, ⟨hk.2, ⟨hk.1.2.1, hk.1.2.2⟩⟩⟩)⟩, ⟨by (with_reducible repeat (first | apply Kd.R_alloc | apply Kd.R_drewN | apply Kd.R_drew)); exact Kd.R_mono HO297.out (fun _ hk => hk.2)⟩, ⟨zk BK283.out⟩, ⟨zk BK284.out⟩, ⟨zb2 HB.out GE283.out GE284.out⟩⟩
     ·rw [if_neg c27] at H
      have c27b0 : (t294 == 0) = false := beq_eq_false_iff_ne.mpr c27
      have c27b1 : (t294 != 0) = true := bne_iff_ne.mpr c27
      (first | rw [c27b0] | (simp only [i64_w, i32_w]; rw [c27b0]) | skip)
      have H' := Aside0.mk H
      clear H
      go_wp2
      repeat (go_quiet (fail); try go_wp2)
      go_meet
      case rel => exact ⟨_, (true), rs, H', ⟨by first | omega | exact Nat.le_refl _⟩, ⟨by (with_reducible repeat (first | apply Kd.R_alloc | apply Kd.R_drewN | apply Kd.R_drew)); exact Kd.R_mono HO289.out (fun _ hk => hk.2)⟩, ⟨by (with_reducible repeat (first | apply Kd.N_alloc | apply Kd.N_drewN | apply Kd.N_drew)); exact Kd.N_mono HO293.out (fun _ hk => ⟨hk.1.1, ⟨hk.2, ⟨hk.1.2.1, hk.1.2.2⟩⟩⟩)⟩, ⟨by (with_reducible repeat (first | apply Kd.R_alloc | apply Kd.R_drewN | apply Kd.R_drew)); exact Kd.R_mono HO297.out (fun _ hk => hk.2)⟩, ⟨zk BK283.out⟩, ⟨zk BK284.out⟩, ⟨zb2 HB.out GE283.out GE284.out⟩⟩
    case rest =>
     clear HC12
     try clear c1
     try clear c2
     try clear p2
     try clear c4
     try clear c5
     try clear c7
     try clear c9
     try clear c9b0
     try clear c9b1
     try clear c16
     try clear c27
     try clear c27b0
     try clear c27b1
     try clear c28
     try clear c28b0
     try clear c28b1
     try clear hcz17_0
     try clear hcz17_1
     try clear hcz19_0
     try clear hcz19_1
     try clear hcz20_0
     try clear hcz20_1
     try clear hcz22_0
     try clear hcz22_1
     try clear hcz25_0
     try clear hcz25_1
     try clear hfz17_0
     try clear hfz17_1
     try clear hfz19_0
     try clear hfz19_1
     try clear hfz20_0
     try clear hfz20_1
     try clear hfz22_0
     try clear hfz22_1
     try clear hfz25_0
     try clear hfz25_1
     obtain ⟨kq, x58_11, rfl, HA, HJ11, HO_7, HO_9, HO_10, BK283, BK284, HB⟩ := hcut
     cases kq with
     | zero => exact absurd HA.out (by simp [stillagelaw09_ZoneJoined.j0])
     | succ kj11 =>
      have H := HA.out
      clear HA
      simp only [stillagelaw09_ZoneJoined.j0] at H
      by_cases c31 : x58_11 = true
      ·subst c31
       have H1 : (some false) = some r := by rw [if_pos rfl] at H; exact H
       clear H
       have H := H1
       clear H1
       obtain rfl := Option.some.inj H
       go_wp2
       repeat (go_quiet (fail); try go_wp2)
       go_ret
       exact ⟨by first | rfl | (simp [errW_none, errW_some] <;> rfl) | (simp [*, errW_none, errW_some] <;> rfl), zb2 HB.out GE283.out GE284.out⟩
      ·replace c31 := Bool.eq_false_iff.mpr c31
       subst c31
       have H1 : (stillagelaw09_ZoneJoined.l0 kj11 t287 t291 t295 ([] : List Int) (t291.length : Int) 0 l0_0 l0_1) = some r := by rw [if_neg (show ¬ (false = true) by decide)] at H; exact H
       clear H
       have H := H1
       clear H1
       have H' := Aside0.mk H
       clear H
       obtain ⟨Ao32, co32, eo32⟩ := Kd.N_slice HO_9.out
       subst eo32
       go_wp2
       repeat (go_quiet (fail); try go_wp2)
       go_loopg [12, 61] kj11 (fun kq v12 v61 w' => ∃ (x12_2 : List Int) (x61_2 : Int), v61 = .int .i64 x61_2 ∧ Aside0 (stillagelaw09_ZoneJoined.l0 kq t287 t291 t295 x12_2 (t291.length : Int) x61_2 l0_0 l0_1 = some r) ∧ Aside0 (kq ≤ kj11) ∧ Aside0 (Kd.R (Kd.int .i64) 3 w' w.heap.size (fun k_ => some k_ ≠ (v296 : Value).ownBlock ∧ some k_ ≠ (v12 : Value).ownBlock) (.slice Ao23 t287.length co23) t287) ∧ Aside0 (Kd.N (Kd.slice 3 (Kd.int .i64)) 26 w' w.heap.size (fun k_ => some k_ ≠ ((.slice Ao23 t287.length co23) : Value).ownBlock ∧ some k_ ≠ (v296 : Value).ownBlock ∧ some k_ ≠ (v12 : Value).ownBlock ∧ k_ ≠ gb283 ∧ k_ ≠ gb284) (.slice Ao32 t291.length co32) t291) ∧ Aside0 (Kd.R (Kd.int .i64) 3 w' w.heap.size (fun k_ => some k_ ≠ ((.slice Ao23 t287.length co23) : Value).ownBlock ∧ some k_ ≠ (v12 : Value).ownBlock) v296 t295) ∧ Aside0 (Kd.R (Kd.int .i64) 3 w' w.heap.size (fun k_ => some k_ ≠ ((.slice Ao23 t287.length co23) : Value).ownBlock ∧ some k_ ≠ (v296 : Value).ownBlock) v12 x12_2) ∧ Aside0 (w'.heap[gb283]? = some (.cells #[(.slice A0_0 l0_0.length c0_0), (.slice A0_1 l0_1.length c0_1)] 25 (0, 0))) ∧ Aside0 (w'.heap[gb284]? = some (.cells #[.int .i64 a2_0, .int .i64 a2_1] 43 (0, 0))) ∧ Aside0 (Below w.heap.size w w'))
       case atStart => exact ⟨(([] : List Int)), (0), rs, H', ⟨Nat.le_refl _⟩, ⟨by (with_reducible repeat (first | apply Kd.R_alloc | apply Kd.R_drewN | apply Kd.R_drew)); exact Kd.R_mono HO_7.out (fun _ hk => ⟨hk, (by simp [Value.ownBlock])⟩)⟩, ⟨by (with_reducible repeat (first | apply Kd.N_alloc | apply Kd.N_drewN | apply Kd.N_drew)); exact Kd.N_mono HO_9.out (fun _ hk => ⟨hk.1, ⟨hk.2.1, ⟨(by simp [Value.ownBlock]), ⟨hk.2.2.1, hk.2.2.2⟩⟩⟩⟩)⟩, ⟨by (with_reducible repeat (first | apply Kd.R_alloc | apply Kd.R_drewN | apply Kd.R_drew)); exact Kd.R_mono HO_10.out (fun _ hk => ⟨hk, (by simp [Value.ownBlock])⟩)⟩, ⟨by first | exact Kd.R_nil _ _ _ _ _ | exact Kd.N_nil _ _ _ _ _ | exact Kd.V_nil _ _ _ _ _ | exact Kd.Q_nil _ _ _ _ _ | exact Kd.S_nil _ _ _ _ _⟩, ⟨zk BK283.out⟩, ⟨zk BK284.out⟩, ⟨zb2 HB.out GE283.out GE284.out⟩⟩
       case round =>
        clear H'
        try clear c1
        try clear c2
        try clear p2
        try clear c3
        try clear c4
        try clear c5
        try clear c7
        try clear c9
        try clear c9b0
        try clear c9b1
        try clear c16
        try clear c27
        try clear c27b0
        try clear c27b1
        try clear c28
        try clear c28b0
        try clear c28b1
        try clear c31
        try clear hcz17_0
        try clear hcz17_1
        try clear hcz19_0
        try clear hcz19_1
        try clear hcz20_0
        try clear hcz20_1
        try clear hcz22_0
        try clear hcz22_1
        try clear hcz25_0
        try clear hcz25_1
        try clear hfz17_0
        try clear hfz17_1
        try clear hfz19_0
        try clear hfz19_1
        try clear hfz20_0
        try clear hfz20_1
        try clear hfz22_0
        try clear hfz22_1
        try clear hfz25_0
        try clear hfz25_1
        try clear p2
        obtain ⟨x12_2, x61_2, rfl, HA, HK2, HO_7, HO_9, HO_10, HO_12, BK283, BK284, HB⟩ := hrel
        cases gk with
        | zero => exact absurd HA.out (by simp [stillagelaw09_ZoneJoined.l0])
        | succ k2 =>
         have H := HA.out
         clear HA
         simp only [stillagelaw09_ZoneJoined.l0] at H
         by_cases c33 : x61_2 < (t291.length : Int)
         ·rw [if_pos c33] at H
          have c33b0 : decide (x61_2 < (t291.length : Int)) = true := decide_eq_true c33
          clear c33
          by_cases c34 : 0 ≤ x61_2
          ·rw [if_pos c34] at H
           have c34b0 : decide (0 ≤ x61_2) = true := decide_eq_true c34
           clear c34
           by_cases c35 : x61_2 < (t291.length : Int)
           ·rw [if_pos c35] at H
            have c35b0 : decide (x61_2 < (t291.length : Int)) = true := decide_eq_true c35
            clear c35
            have H' := Aside0.mk H
            clear H
            have p300 : 0 ≤ (x61_2 : Int) := oda
            have q300 : x61_2 < (t291.length : Int) := oda
            obtain ⟨ad300, A300_0, c300_0, e300, hx300_0, hl300_0, hi300_0⟩ := at_L1 (Kd.N_reads' HO_9.out).2.2 x61_2 p300 q300
            cases e300
            obtain ⟨ce300, hce300, hMe300, hcc300⟩ := Kd.N_get HO_9.out [] x61_2 p300 (by first | exact q300 | exact oda | (have e_ := (Kd.N_reads' HO_9.out).1; omega))
            obtain ⟨ua300_0, uc300_0, rfl, ul300_0, ge300_0⟩ := Kd.FK_slice_open hMe300
            have hv300_0 := hcc300 0 _ rfl
            rw [Nat.add_zero, show ((Kd.slice 3 (Kd.int .i64))).sz = 1 from rfl, Nat.mul_one] at hv300_0
            replace hv300_0 := Option.some.inj (hv300_0.symm.trans hx300_0)
            injection hv300_0 with hva_ hvn_ hvc_
            rw [hva_] at ge300_0
            rw [hvc_] at ul300_0
            have HL300_0 := Aside0.mk (show Kd.V (Kd.int .i64) 3 _ w.heap.size _ _ (rd_L1 t291 x61_2) from Kd.V_mk ul300_0 ge300_0)
            clear hva_ hvn_ hvc_ ge300_0 ul300_0
            clear hcc300 hce300
            have HR300_0 := Aside0.mk hi300_0
            have HC300_0 := Aside0.mk hl300_0
            clear hi300_0 hl300_0
            replace p300 := eq_true p300
            replace q300 := eq_true q300
            go_wp2
            repeat (go_quiet (fail); try go_wp2)
            go_loopg [69] k2 (fun kq v69 w' => ∃ (x69_3 : Int), v69 = .int .i64 x69_3 ∧ Aside0 (stillagelaw09_ZoneJoined.l1 kq t287 t291 t295 x12_2 x61_2 (t291.length : Int) x61_2 (rd_L1 t291 x61_2) ((rd_L1 t291 x61_2).length : Int) x69_3 l0_0 l0_1 = some r) ∧ Aside0 (kq ≤ k2) ∧ Aside0 (Kd.R (Kd.int .i64) 3 w' w.heap.size (fun k_ => some k_ ≠ (v296 : Value).ownBlock ∧ some k_ ≠ (u12 : Value).ownBlock) (.slice Ao23 t287.length co23) t287) ∧ Aside0 (Kd.N (Kd.slice 3 (Kd.int .i64)) 26 w' w.heap.size (fun k_ => some k_ ≠ ((.slice Ao23 t287.length co23) : Value).ownBlock ∧ some k_ ≠ (v296 : Value).ownBlock ∧ some k_ ≠ (u12 : Value).ownBlock ∧ k_ ≠ gb283 ∧ k_ ≠ gb284) (.slice (some ad300) t291.length co32) t291) ∧ Aside0 (Kd.R (Kd.int .i64) 3 w' w.heap.size (fun k_ => some k_ ≠ ((.slice Ao23 t287.length co23) : Value).ownBlock ∧ some k_ ≠ (u12 : Value).ownBlock) v296 t295) ∧ Aside0 (Kd.R (Kd.int .i64) 3 w' w.heap.size (fun k_ => some k_ ≠ ((.slice Ao23 t287.length co23) : Value).ownBlock ∧ some k_ ≠ (v296 : Value).ownBlock) u12 x12_2) ∧ Aside0 (w'.heap[gb283]? = some (.cells #[(.slice A0_0 l0_0.length c0_0), (.slice A0_1 l0_1.length c0_1)] 25 (0, 0))) ∧ Aside0 (w'.heap[gb284]? = some (.cells #[.int .i64 a2_0, .int .i64 a2_1] 43 (0, 0))) ∧ Aside0 (Kd.C (Kd.int .i64) w' A300_0 (rd_L1 t291 x61_2).length (rd_L1 t291 x61_2)) ∧ Aside0 (Below w.heap.size w w'))
            case atStart => exact ⟨(0), rs, H', ⟨Nat.le_refl _⟩, ⟨zr HO_7.out⟩, ⟨by (with_reducible repeat (first | apply Kd.N_alloc | apply Kd.N_drewN | apply Kd.N_drew)); exact HO_9.out⟩, ⟨zr HO_10.out⟩, ⟨zr HO_12.out⟩, ⟨zk BK283.out⟩, ⟨zk BK284.out⟩, ⟨by repeat (first | (with_reducible exact HR300_0.out) | (with_reducible refine Kd.C_alloc ?_ _) | (with_reducible refine Kd.C_drewN ?_ _) | (with_reducible refine Kd.C_drew ?_) | exact HR300_0.out)⟩, ⟨zb2 HB.out GE283.out GE284.out⟩⟩
            case round =>
             clear H'
             try clear c1
             try clear c2
             try clear p2
             try clear c3
             try clear p3
             try clear q3
             try clear hx3
             try clear c4
             try clear c5
             try clear c7
             try clear c9
             try clear c9b0
             try clear c9b1
             try clear c16
             try clear c27
             try clear c27b0
             try clear c27b1
             try clear c28
             try clear c28b0
             try clear c28b1
             try clear c30
             try clear p30
             try clear q30
             try clear hx30
             try clear c31
             try clear c33
             try clear c33b0
             try clear c34
             try clear c34b0
             try clear c35
             try clear c35b0
             try clear hcz17_0
             try clear hcz17_1
             try clear hcz19_0
             try clear hcz19_1
             try clear hcz20_0
             try clear hcz20_1
             try clear hcz22_0
             try clear hcz22_1
             try clear hcz25_0
             try clear hcz25_1
             try clear hfz17_0
             try clear hfz17_1
             try clear hfz19_0
             try clear hfz19_1
             try clear hfz20_0
             try clear hfz20_1
             try clear hfz22_0
             try clear hfz22_1
             try clear hfz25_0
             try clear hfz25_1
             try clear hx300_0
             try clear p2
             try clear p300
             try clear q300
             obtain ⟨x69_3, rfl, HA, HK3, HO_7, HO_9, HO_10, HO_12, BK283, BK284, HR300_0, HB⟩ := hrel
             cases gk with
             | zero => exact absurd HA.out (by simp [stillagelaw09_ZoneJoined.l1])
             | succ k3 =>
              have H := HA.out
              clear HA
              simp only [stillagelaw09_ZoneJoined.l1] at H
              by_cases c36 : x69_3 < ((rd_L1 t291 x61_2).length : Int)
              ·rw [if_pos c36] at H
               have c36b0 : decide (x69_3 < ((rd_L1 t291 x61_2).length : Int)) = true := decide_eq_true c36
               clear c36
               by_cases c37 : 0 ≤ x69_3
               ·rw [if_pos c37] at H
                have c37b0 : decide (0 ≤ x69_3) = true := decide_eq_true c37
                clear c37
                by_cases c38 : x69_3 < ((rd_L1 t291 x61_2).length : Int)
                ·rw [if_pos c38] at H
                 have c38b0 : decide (x69_3 < ((rd_L1 t291 x61_2).length : Int)) = true := decide_eq_true c38
                 clear c38
                 by_cases c39 : (rd (rd_L1 t291 x61_2) x69_3) < 1
                 ·rw [if_pos c39] at H
                  have c39b0 : decide ((rd (rd_L1 t291 x61_2) x69_3) < 1) = true := decide_eq_true c39
                  clear c39
                  obtain rfl := Option.some.inj H
                  have p301 : 0 ≤ (x69_3 : Int) := oda
                  have q301 : x69_3 < ((rd_L1 t291 x61_2).length : Int) := oda
                  obtain ⟨ad301, e301, hx301_0⟩ := Kd.at_int HR300_0.out x69_3 p301 q301
                  cases e301
                  replace p301 := eq_true p301
                  replace q301 := eq_true q301
                  go_wp2
                  repeat (go_quiet (fail); try go_wp2)
                  go_ret
                  exact ⟨by first | rfl | (simp [errW_none, errW_some] <;> rfl) | (simp [*, errW_none, errW_some] <;> rfl), zb2 HB.out GE283.out GE284.out⟩
                 ·rw [if_neg c39] at H
                  have c39b0 : decide ((rd (rd_L1 t291 x61_2) x69_3) < 1) = false := decide_eq_false c39
                  clear c39
                  by_cases c40 : (rd (rd_L1 t291 x61_2) x69_3) > (l0_1.length : Int)
                  ·rw [if_pos c40] at H
                   have c40b0 : decide ((l0_1.length : Int) < (rd (rd_L1 t291 x61_2) x69_3)) = true := decide_eq_true c40
                   clear c40
                   obtain rfl := Option.some.inj H
                   have p301 : 0 ≤ (x69_3 : Int) := oda
                   have q301 : x69_3 < ((rd_L1 t291 x61_2).length : Int) := oda
                   obtain ⟨ad301, e301, hx301_0⟩ := Kd.at_int HR300_0.out x69_3 p301 q301
                   cases e301
                   replace p301 := eq_true p301
                   replace q301 := eq_true q301
                   have hnb41 := NB283_284.out
                   have hnc41 := NB284_283.out
                   have hcz42_0 : wr.cell? ⟨gb283, 0, none⟩ = some (.slice A0_0 l0_0.length c0_0) := (blk_cell BK283.out 0).trans rfl
                   have hcz42_1 : wr.cell? ⟨gb283, 1, none⟩ = some (.slice A0_1 l0_1.length c0_1) := (blk_cell BK283.out 1).trans rfl
                   have hfz42_0 := blk_frozen BK283.out 0
                   have hfz42_1 := blk_frozen BK283.out 1
                   go_wp2
                   repeat (go_quiet (fail); try go_wp2)
                   go_ret
                   exact ⟨by first | rfl | (simp [errW_none, errW_some] <;> rfl) | (simp [*, errW_none, errW_some] <;> rfl), zb2 HB.out GE283.out GE284.out⟩
                  ·rw [if_neg c40] at H
                   have c40b0 : decide ((l0_1.length : Int) < (rd (rd_L1 t291 x61_2) x69_3)) = false := decide_eq_false c40
                   clear c40
                   obtain ⟨ji43, hji43⟩ : ∃ j_ : Int, (wrap64 ((rd (rd_L1 t291 x61_2) x69_3) - 1)) = j_ := ⟨_, rfl⟩
                   replace H : (if 0 ≤ (ji43) then (if (ji43) < (l0_1.length : Int) then (if 0 ≤ ((rd_T43 l0_1 (ji43)).f1) then (if ((rd_T43 l0_1 (ji43)).f1) < (l0_0.length : Int) then (if 0 ≤ x61_2 then (if x61_2 < (t295.length : Int) then (if ((rd_T46 l0_0 ((rd_T43 l0_1 (ji43)).f1)).f2) = (rd t295 x61_2) then (stillagelaw09_ZoneJoined.l1 k3 t287 t291 t295 x12_2 x61_2 (t291.length : Int) x61_2 (rd_L1 t291 x61_2) ((rd_L1 t291 x61_2).length : Int) (wrap64 (x69_3 + 1)) l0_0 l0_1) else (some false)) else (none)) else (none)) else (none)) else (none)) else (none)) else (none)) = some r := by first | (rw [hji43] at H; exact H) | (simp only [hji43] at H ⊢; exact H)
                   have hji43w : (IntKind.i64.wrap ((rd (rd_L1 t291 x61_2) x69_3) - 1)) = ji43 := (i64_w _).trans hji43
                   by_cases c44 : 0 ≤ (ji43)
                   ·rw [if_pos c44] at H
                    have c44b0 : decide (0 ≤ (ji43)) = true := decide_eq_true c44
                    clear c44
                    by_cases c45 : (ji43) < (l0_1.length : Int)
                    ·rw [if_pos c45] at H
                     have c45b0 : decide ((ji43) < (l0_1.length : Int)) = true := decide_eq_true c45
                     clear c45
                     by_cases c46 : 0 ≤ ((rd_T43 l0_1 (ji43)).f1)
                     ·rw [if_pos c46] at H
                      have c46b0 : decide (0 ≤ ((rd_T43 l0_1 (ji43)).f1)) = true := decide_eq_true c46
                      clear c46
                      by_cases c47 : ((rd_T43 l0_1 (ji43)).f1) < (l0_0.length : Int)
                      ·rw [if_pos c47] at H
                       have c47b0 : decide (((rd_T43 l0_1 (ji43)).f1) < (l0_0.length : Int)) = true := decide_eq_true c47
                       clear c47
                       by_cases c48 : 0 ≤ x61_2
                       ·rw [if_pos c48] at H
                        have c48b0 : decide (0 ≤ x61_2) = true := decide_eq_true c48
                        clear c48
                        by_cases c49 : x61_2 < (t295.length : Int)
                        ·rw [if_pos c49] at H
                         have c49b0 : decide (x61_2 < (t295.length : Int)) = true := decide_eq_true c49
                         clear c49
                         by_cases c50 : ((rd_T46 l0_0 ((rd_T43 l0_1 (ji43)).f1)).f2) = (rd t295 x61_2)
                         ·rw [if_pos c50] at H
                          have c50b0 : (((rd_T46 l0_0 ((rd_T43 l0_1 (ji43)).f1)).f2) == (rd t295 x61_2)) = true := beq_iff_eq.mpr c50
                          have c50b1 : (((rd_T46 l0_0 ((rd_T43 l0_1 (ji43)).f1)).f2) != (rd t295 x61_2)) = false := bne_eq_false_iff_eq.mpr c50
                          clear c50
                          have H' := Aside0.mk H
                          clear H
                          have p301 : 0 ≤ (x69_3 : Int) := oda
                          have q301 : x69_3 < ((rd_L1 t291 x61_2).length : Int) := oda
                          obtain ⟨ad301, e301, hx301_0⟩ := Kd.at_int HR300_0.out x69_3 p301 q301
                          cases e301
                          replace p301 := eq_true p301
                          replace q301 := eq_true q301
                          have hnb51 := NB283_284.out
                          have hnc51 := NB284_283.out
                          have hcz52_0 : wr.cell? ⟨gb283, 0, none⟩ = some (.slice A0_0 l0_0.length c0_0) := (blk_cell BK283.out 0).trans rfl
                          have hcz52_1 : wr.cell? ⟨gb283, 1, none⟩ = some (.slice A0_1 l0_1.length c0_1) := (blk_cell BK283.out 1).trans rfl
                          have hfz52_0 := blk_frozen BK283.out 0
                          have hfz52_1 := blk_frozen BK283.out 1
                          have p302 : 0 ≤ ((ji43) : Int) := oda
                          have q302 : (ji43) < (l0_1.length : Int) := oda
                          obtain ⟨ad302, e302, hx302_0, hx302_1⟩ := at_T43 HR0_1.out (ji43) p302 q302
                          cases e302
                          replace hx302_0 := zx HB.out hx302_0
                          replace hx302_1 := zx HB.out hx302_1
                          replace p302 := eq_true p302
                          replace q302 := eq_true q302
                          have p303 : 0 ≤ (((rd_T43 l0_1 (ji43)).f1) : Int) := oda
                          have q303 : ((rd_T43 l0_1 (ji43)).f1) < (l0_0.length : Int) := oda
                          obtain ⟨ad303, e303, hx303_0, hx303_1, hx303_2⟩ := at_T46 HR0_0.out ((rd_T43 l0_1 (ji43)).f1) p303 q303
                          cases e303
                          replace hx303_0 := zx HB.out hx303_0
                          replace hx303_1 := zx HB.out hx303_1
                          replace hx303_2 := zx HB.out hx303_2
                          replace p303 := eq_true p303
                          replace q303 := eq_true q303
                          obtain ⟨Ao53, co53, eo53⟩ := Kd.R_slice HO_10.out
                          subst eo53
                          have p304 : 0 ≤ (x61_2 : Int) := oda
                          have q304 : x61_2 < (t295.length : Int) := oda
                          obtain ⟨ad304, e304, hx304_0⟩ := Kd.at_int (Kd.R_reads' HO_10.out).2.2 x61_2 p304 q304
                          cases e304
                          replace p304 := eq_true p304
                          replace q304 := eq_true q304
                          go_wp2
                          repeat (go_quiet (fail); try go_wp2)
                          go_roundg k3
                          case measure => have := HJ11.out; have := HK2.out; have := HK3.out; omega
                          case rel => exact ⟨(wrap64 (x69_3 + 1)), rs, H', ⟨by have := HJ11.out; have := HK2.out; have := HK3.out; omega⟩, ⟨zr HO_7.out⟩, ⟨by (with_reducible repeat (first | apply Kd.N_alloc | apply Kd.N_drewN | apply Kd.N_drew)); exact HO_9.out⟩, ⟨zr HO_10.out⟩, ⟨zr HO_12.out⟩, ⟨zk BK283.out⟩, ⟨zk BK284.out⟩, ⟨by repeat (first | (with_reducible exact HR300_0.out) | (with_reducible refine Kd.C_alloc ?_ _) | (with_reducible refine Kd.C_drewN ?_ _) | (with_reducible refine Kd.C_drew ?_) | exact HR300_0.out)⟩, ⟨zb2 HB.out GE283.out GE284.out⟩⟩
                         ·rw [if_neg c50] at H
                          have c50b0 : (((rd_T46 l0_0 ((rd_T43 l0_1 (ji43)).f1)).f2) == (rd t295 x61_2)) = false := beq_eq_false_iff_ne.mpr c50
                          have c50b1 : (((rd_T46 l0_0 ((rd_T43 l0_1 (ji43)).f1)).f2) != (rd t295 x61_2)) = true := bne_iff_ne.mpr c50
                          obtain rfl := Option.some.inj H
                          have p301 : 0 ≤ (x69_3 : Int) := oda
                          have q301 : x69_3 < ((rd_L1 t291 x61_2).length : Int) := oda
                          obtain ⟨ad301, e301, hx301_0⟩ := Kd.at_int HR300_0.out x69_3 p301 q301
                          cases e301
                          replace p301 := eq_true p301
                          replace q301 := eq_true q301
                          have hnb54 := NB283_284.out
                          have hnc54 := NB284_283.out
                          have hcz55_0 : wr.cell? ⟨gb283, 0, none⟩ = some (.slice A0_0 l0_0.length c0_0) := (blk_cell BK283.out 0).trans rfl
                          have hcz55_1 : wr.cell? ⟨gb283, 1, none⟩ = some (.slice A0_1 l0_1.length c0_1) := (blk_cell BK283.out 1).trans rfl
                          have hfz55_0 := blk_frozen BK283.out 0
                          have hfz55_1 := blk_frozen BK283.out 1
                          have p302 : 0 ≤ ((ji43) : Int) := oda
                          have q302 : (ji43) < (l0_1.length : Int) := oda
                          obtain ⟨ad302, e302, hx302_0, hx302_1⟩ := at_T43 HR0_1.out (ji43) p302 q302
                          cases e302
                          replace hx302_0 := zx HB.out hx302_0
                          replace hx302_1 := zx HB.out hx302_1
                          replace p302 := eq_true p302
                          replace q302 := eq_true q302
                          have p303 : 0 ≤ (((rd_T43 l0_1 (ji43)).f1) : Int) := oda
                          have q303 : ((rd_T43 l0_1 (ji43)).f1) < (l0_0.length : Int) := oda
                          obtain ⟨ad303, e303, hx303_0, hx303_1, hx303_2⟩ := at_T46 HR0_0.out ((rd_T43 l0_1 (ji43)).f1) p303 q303
                          cases e303
                          replace hx303_0 := zx HB.out hx303_0
                          replace hx303_1 := zx HB.out hx303_1
                          replace hx303_2 := zx HB.out hx303_2
                          replace p303 := eq_true p303
                          replace q303 := eq_true q303
                          obtain ⟨Ao56, co56, eo56⟩ := Kd.R_slice HO_10.out
                          subst eo56
                          have p304 : 0 ≤ (x61_2 : Int) := oda
                          have q304 : x61_2 < (t295.length : Int) := oda
                          obtain ⟨ad304, e304, hx304_0⟩ := Kd.at_int (Kd.R_reads' HO_10.out).2.2 x61_2 p304 q304
                          cases e304
                          replace p304 := eq_true p304
                          replace q304 := eq_true q304
                          go_wp2
                          repeat (go_quiet (fail); try go_wp2)
                          go_ret
                          exact ⟨by first | rfl | (simp [errW_none, errW_some] <;> rfl) | (simp only [← hji43]; first | rfl | (simp [errW_none, errW_some] <;> rfl)) | (simp [*, errW_none, errW_some] <;> rfl), zb2 HB.out GE283.out GE284.out⟩
                        ·rw [if_neg c49] at H
                         exact absurd H (by simp)
                       ·rw [if_neg c48] at H
                        exact absurd H (by simp)
                      ·rw [if_neg c47] at H
                       exact absurd H (by simp)
                     ·rw [if_neg c46] at H
                      exact absurd H (by simp)
                    ·rw [if_neg c45] at H
                     exact absurd H (by simp)
                   ·rw [if_neg c44] at H
                    exact absurd H (by simp)
                ·rw [if_neg c38] at H
                 exact absurd H (by simp)
               ·rw [if_neg c37] at H
                exact absurd H (by simp)
              ·rw [if_neg c36] at H
               have c36b0 : decide (x69_3 < ((rd_L1 t291 x61_2).length : Int)) = false := decide_eq_false c36
               clear c36
               by_cases c57 : x61_2 > 0
               ·rw [if_pos c57] at H
                have c57b0 : decide (0 < x61_2) = true := decide_eq_true c57
                clear c57
                by_cases c58 : 0 ≤ x61_2
                ·rw [if_pos c58] at H
                 have c58b0 : decide (0 ≤ x61_2) = true := decide_eq_true c58
                 clear c58
                 by_cases c59 : x61_2 < (t295.length : Int)
                 ·rw [if_pos c59] at H
                  have c59b0 : decide (x61_2 < (t295.length : Int)) = true := decide_eq_true c59
                  clear c59
                  obtain ⟨ji60, hji60⟩ : ∃ j_ : Int, (wrap64 (x61_2 - 1)) = j_ := ⟨_, rfl⟩
                  replace H : (if 0 ≤ (ji60) then (if (ji60) < (t295.length : Int) then (if (rd t295 x61_2) = (rd t295 (ji60)) then (some false) else (if x61_2 < (t291.length : Int) then (if x12_2.length + (rd_L1 t291 x61_2).length < 17592186044416 then (stillagelaw09_ZoneJoined.l0 k3 t287 t291 t295 (x12_2 ++ (rd_L1 t291 x61_2)) (t291.length : Int) (wrap64 (x61_2 + 1)) l0_0 l0_1) else (none)) else (none))) else (none)) else (none)) = some r := by first | (rw [hji60] at H; exact H) | (simp only [hji60] at H ⊢; exact H)
                  have hji60w : (IntKind.i64.wrap (x61_2 - 1)) = ji60 := (i64_w _).trans hji60
                  by_cases c61 : 0 ≤ (ji60)
                  ·rw [if_pos c61] at H
                   have c61b0 : decide (0 ≤ (ji60)) = true := decide_eq_true c61
                   clear c61
                   by_cases c62 : (ji60) < (t295.length : Int)
                   ·rw [if_pos c62] at H
                    have c62b0 : decide ((ji60) < (t295.length : Int)) = true := decide_eq_true c62
                    clear c62
                    by_cases c63 : (rd t295 x61_2) = (rd t295 (ji60))
                    ·rw [if_pos c63] at H
                     have c63b0 : ((rd t295 x61_2) == (rd t295 (ji60))) = true := beq_iff_eq.mpr c63
                     have c63b1 : ((rd t295 x61_2) != (rd t295 (ji60))) = false := bne_eq_false_iff_eq.mpr c63
                     clear c63
                     obtain rfl := Option.some.inj H
                     obtain ⟨Ao64, co64, eo64⟩ := Kd.R_slice HO_10.out
                     subst eo64
                     have p305 : 0 ≤ (x61_2 : Int) := oda
                     have q305 : x61_2 < (t295.length : Int) := oda
                     obtain ⟨ad305, e305, hx305_0⟩ := Kd.at_int (Kd.R_reads' HO_10.out).2.2 x61_2 p305 q305
                     cases e305
                     replace p305 := eq_true p305
                     replace q305 := eq_true q305
                     have p306 : 0 ≤ ((ji60) : Int) := oda
                     have q306 : (ji60) < (t295.length : Int) := oda
                     obtain ⟨ad306, e306, hx306_0⟩ := Kd.at_int (Kd.R_reads' HO_10.out).2.2 (ji60) p306 q306
                     obtain rfl : ad305 = ad306 := (by injection e306)
                     replace p306 := eq_true p306
                     replace q306 := eq_true q306
                     go_wp2
                     repeat (go_quiet (fail); try go_wp2)
                     go_ret
                     exact ⟨by first | rfl | (simp [errW_none, errW_some] <;> rfl) | (simp only [← hji60]; first | rfl | (simp [errW_none, errW_some] <;> rfl)) | (simp [*, errW_none, errW_some] <;> rfl), zb2 HB.out GE283.out GE284.out⟩
                    ·rw [if_neg c63] at H
                     have c63b0 : ((rd t295 x61_2) == (rd t295 (ji60))) = false := beq_eq_false_iff_ne.mpr c63
                     have c63b1 : ((rd t295 x61_2) != (rd t295 (ji60))) = true := bne_iff_ne.mpr c63
                     by_cases c65 : x61_2 < (t291.length : Int)
                     ·rw [if_pos c65] at H
                      have c65b0 : decide (x61_2 < (t291.length : Int)) = true := decide_eq_true c65
                      clear c65
                      by_cases c66 : x12_2.length + (rd_L1 t291 x61_2).length < 17592186044416
                      ·rw [if_pos c66] at H
                       have LMc66 := Aside0.mk c66
                       clear c66
                       obtain ⟨y308, hy308⟩ : ∃ y_ : List Int, y_ = (x12_2 ++ (rd_L1 t291 x61_2)) := ⟨_, rfl⟩
                       replace H : (stillagelaw09_ZoneJoined.l0 k3 t287 t291 t295 y308 (t291.length : Int) (wrap64 (x61_2 + 1)) l0_0 l0_1) = some r := by first | (rw [hy308]; with_reducible exact H) | (have H2_ := (Option.bind_some _ _).symm.trans H; rw [hy308]; with_reducible exact H2_) | (have H2_ := (Option.bind_some _ _).symm.trans H; with_reducible exact H2_) | with_reducible exact H | (rw [hy308]; exact H) | exact H
                       have Ny308 := Aside0.mk hy308
                       clear hy308
                       have H' := Aside0.mk H
                       clear H
                       obtain ⟨Ao67, co67, eo67⟩ := Kd.R_slice HO_10.out
                       subst eo67
                       have p305 : 0 ≤ (x61_2 : Int) := oda
                       have q305 : x61_2 < (t295.length : Int) := oda
                       obtain ⟨ad305, e305, hx305_0⟩ := Kd.at_int (Kd.R_reads' HO_10.out).2.2 x61_2 p305 q305
                       cases e305
                       replace p305 := eq_true p305
                       replace q305 := eq_true q305
                       have p306 : 0 ≤ ((ji60) : Int) := oda
                       have q306 : (ji60) < (t295.length : Int) := oda
                       obtain ⟨ad306, e306, hx306_0⟩ := Kd.at_int (Kd.R_reads' HO_10.out).2.2 (ji60) p306 q306
                       obtain rfl : ad305 = ad306 := (by injection e306)
                       replace p306 := eq_true p306
                       replace q306 := eq_true q306
                       have p307 : 0 ≤ (x61_2 : Int) := oda
                       have q307 : x61_2 < (t291.length : Int) := oda
                       obtain ⟨ad307, A307_0, c307_0, e307, hx307_0, hl307_0, hi307_0⟩ := at_L1 (Kd.N_reads' HO_9.out).2.2 x61_2 p307 q307
                       obtain rfl : ad300 = ad307 := (by injection e307)
                       obtain ⟨ce307, hce307, hMe307, hcc307⟩ := Kd.N_get HO_9.out [] x61_2 p307 (by first | exact q307 | exact oda | (have e_ := (Kd.N_reads' HO_9.out).1; omega))
                       obtain ⟨ua307_0, uc307_0, rfl, ul307_0, ge307_0⟩ := Kd.FK_slice_open hMe307
                       have hv307_0 := hcc307 0 _ rfl
                       rw [Nat.add_zero, show ((Kd.slice 3 (Kd.int .i64))).sz = 1 from rfl, Nat.mul_one] at hv307_0
                       replace hv307_0 := Option.some.inj (hv307_0.symm.trans hx307_0)
                       injection hv307_0 with hva_ hvn_ hvc_
                       rw [hva_] at ge307_0
                       rw [hvc_] at ul307_0
                       have HL307_0 := Aside0.mk (show Kd.V (Kd.int .i64) 3 _ w.heap.size _ _ (rd_L1 t291 x61_2) from Kd.V_mk ul307_0 ge307_0)
                       clear hva_ hvn_ hvc_ ge307_0 ul307_0
                       clear hcc307 hce307
                       have HR307_0 := Aside0.mk hi307_0
                       have HC307_0 := Aside0.mk hl307_0
                       clear hi307_0 hl307_0
                       replace p307 := eq_true p307
                       replace q307 := eq_true q307
                       go_wp2_with (first | ((with_reducible refine gate_builtin (b := .append) (xs := #[.tmp 116, .tmp 120]) rfl ?_); (try (refine gate_guard (by rfl) ?_; dsimp only)); at_builtin; refine Kd.R_append_rows (Kd.int .i64) (w0 := w) w.heap.size rfl (.tmp 116) (.tmp 120) 26 3 (.int .i64 0) 8 rfl Try.underlying26 info3 rfl (by decide) (by omega) u12 x12_2 (rd_L1 t291 x61_2) _ _ _ (fun k_ => some k_ ≠ (.slice Ao23 t287.length co23 : Value).ownBlock ∧ some k_ ≠ (.slice (some ad305) t295.length co67 : Value).ownBlock) (fun _ => False) rfl rfl ?aO ?aR (fun _ _ h => h) (fun _ h => h.elim) ?aF ?aB ?aS ?aL ?_; (case aR => repeat (first | exact (by repeat (first | (with_reducible exact HR307_0.out) | (with_reducible refine Kd.C_alloc ?_ _) | (with_reducible refine Kd.C_drewN ?_ _) | (with_reducible refine Kd.C_drew ?_) | exact HR307_0.out)) | (with_reducible refine Kd.C_alloc ?_ _) | (with_reducible refine Kd.C_drewN ?_ _) | (with_reducible refine Kd.C_drew ?_))); (case aB => exact (zb2 HB.out GE283.out GE284.out)); (case aF => exact (fun k_ hk => ⟨Kd.fresh' (Kd.R_lt (zr HO_7.out)) k_ hk, Kd.fresh' (Kd.R_lt (zr HO_10.out)) k_ hk⟩)); (case aO => exact (zr HO_12.out)); (case aS => exact (below_size (zb2 HB.out GE283.out GE284.out))); (case aL => have := LMc66.out; omega); intro v309 w68 ho hb hg hat; rw [← Ny308.out] at ho; have n0_ := Aside0.mk (Kd.R_after (ok := (fun k_ => some k_ ≠ (.slice (some ad305) t295.length co67 : Value).ownBlock)) (zr HO_7.out) hg hat); have n1_ := Aside0.mk (Kd.N_afterv (ok := (fun k_ => some k_ ≠ (.slice Ao23 t287.length co23 : Value).ownBlock ∧ some k_ ≠ (.slice (some ad305) t295.length co67 : Value).ownBlock ∧ k_ ≠ gb283 ∧ k_ ≠ gb284)) (by (with_reducible repeat (first | apply Kd.N_alloc | apply Kd.N_drewN | apply Kd.N_drew)); exact Kd.N_mono HO_9.out (fun _ hk => ⟨⟨hk.1, ⟨hk.2.1, ⟨hk.2.2.2.1, hk.2.2.2.2⟩⟩⟩, hk.2.2.1⟩)) hg hat); have n2_ := Aside0.mk (Kd.R_after (ok := (fun k_ => some k_ ≠ (.slice Ao23 t287.length co23 : Value).ownBlock)) (zr HO_10.out) hg hat); have n3_ := Aside0.mk (blk_grown (g := gb283) (o := .cells #[.slice A0_0 l0_0.length c0_0, .slice A0_1 l0_1.length c0_1] 25 (0, 0)) (zk BK283.out) hg (Kd.R_ne HO_12.out BK283.out (by decide))); have n4_ := Aside0.mk (blk_grown (g := gb284) (o := .cells #[.int .i64 a2_0, .int .i64 a2_1] 43 (0, 0)) (zk BK284.out) hg (Kd.R_ne HO_12.out BK284.out (by decide))); have n5_ := Aside0.mk (Kd.V_afterv (ok := (fun k_ => some k_ ≠ (.slice Ao23 t287.length co23 : Value).ownBlock ∧ some k_ ≠ (.slice (some ad300) t291.length co32 : Value).ownBlock ∧ some k_ ≠ (.slice (some ad305) t295.length co67 : Value).ownBlock ∧ k_ ≠ gb283 ∧ k_ ≠ gb284)) (by (with_reducible repeat (first | apply Kd.V_alloc | apply Kd.V_drewN | apply Kd.V_drew)); exact Kd.V_mono HL307_0.out (fun _ hk => ⟨⟨hk.1.1, ⟨hk.2, ⟨hk.1.2.1, ⟨hk.1.2.2.2.1, hk.1.2.2.2.2⟩⟩⟩⟩, hk.1.2.2.1⟩)) hg hat); have n6_ := Aside0.mk (hb); have n7_ := Aside0.mk (ho); clear HO_7; clear HO_9; clear HO_10; clear BK283; clear BK284; clear HL307_0; clear HB; clear HO_12; have HO_7 := n0_; have HO_9 := n1_; have HO_10 := n2_; have BK283 := n3_; have BK284 := n4_; have HL307_0 := n5_; have HB := n6_; have HO310 := n7_; clear n0_ n1_ n2_ n3_ n4_ n5_ n6_ n7_; clear ho hb hg hat))
                       repeat (go_quiet (first | ((with_reducible refine gate_builtin (b := .append) (xs := #[.tmp 116, .tmp 120]) rfl ?_); (try (refine gate_guard (by rfl) ?_; dsimp only)); at_builtin; refine Kd.R_append_rows (Kd.int .i64) (w0 := w) w.heap.size rfl (.tmp 116) (.tmp 120) 26 3 (.int .i64 0) 8 rfl Try.underlying26 info3 rfl (by decide) (by omega) u12 x12_2 (rd_L1 t291 x61_2) _ _ _ (fun k_ => some k_ ≠ (.slice Ao23 t287.length co23 : Value).ownBlock ∧ some k_ ≠ (.slice (some ad305) t295.length co67 : Value).ownBlock) (fun _ => False) rfl rfl ?aO ?aR (fun _ _ h => h) (fun _ h => h.elim) ?aF ?aB ?aS ?aL ?_; (case aR => repeat (first | exact (by repeat (first | (with_reducible exact HR307_0.out) | (with_reducible refine Kd.C_alloc ?_ _) | (with_reducible refine Kd.C_drewN ?_ _) | (with_reducible refine Kd.C_drew ?_) | exact HR307_0.out)) | (with_reducible refine Kd.C_alloc ?_ _) | (with_reducible refine Kd.C_drewN ?_ _) | (with_reducible refine Kd.C_drew ?_))); (case aB => exact (zb2 HB.out GE283.out GE284.out)); (case aF => exact (fun k_ hk => ⟨Kd.fresh' (Kd.R_lt (zr HO_7.out)) k_ hk, Kd.fresh' (Kd.R_lt (zr HO_10.out)) k_ hk⟩)); (case aO => exact (zr HO_12.out)); (case aS => exact (below_size (zb2 HB.out GE283.out GE284.out))); (case aL => have := LMc66.out; omega); intro v309 w68 ho hb hg hat; rw [← Ny308.out] at ho; have n0_ := Aside0.mk (Kd.R_after (ok := (fun k_ => some k_ ≠ (.slice (some ad305) t295.length co67 : Value).ownBlock)) (zr HO_7.out) hg hat); have n1_ := Aside0.mk (Kd.N_afterv (ok := (fun k_ => some k_ ≠ (.slice Ao23 t287.length co23 : Value).ownBlock ∧ some k_ ≠ (.slice (some ad305) t295.length co67 : Value).ownBlock ∧ k_ ≠ gb283 ∧ k_ ≠ gb284)) (by (with_reducible repeat (first | apply Kd.N_alloc | apply Kd.N_drewN | apply Kd.N_drew)); exact Kd.N_mono HO_9.out (fun _ hk => ⟨⟨hk.1, ⟨hk.2.1, ⟨hk.2.2.2.1, hk.2.2.2.2⟩⟩⟩, hk.2.2.1⟩)) hg hat); have n2_ := Aside0.mk (Kd.R_after (ok := (fun k_ => some k_ ≠ (.slice Ao23 t287.length co23 : Value).ownBlock)) (zr HO_10.out) hg hat); have n3_ := Aside0.mk (blk_grown (g := gb283) (o := .cells #[.slice A0_0 l0_0.length c0_0, .slice A0_1 l0_1.length c0_1] 25 (0, 0)) (zk BK283.out) hg (Kd.R_ne HO_12.out BK283.out (by decide))); have n4_ := Aside0.mk (blk_grown (g := gb284) (o := .cells #[.int .i64 a2_0, .int .i64 a2_1] 43 (0, 0)) (zk BK284.out) hg (Kd.R_ne HO_12.out BK284.out (by decide))); have n5_ := Aside0.mk (Kd.V_afterv (ok := (fun k_ => some k_ ≠ (.slice Ao23 t287.length co23 : Value).ownBlock ∧ some k_ ≠ (.slice (some ad300) t291.length co32 : Value).ownBlock ∧ some k_ ≠ (.slice (some ad305) t295.length co67 : Value).ownBlock ∧ k_ ≠ gb283 ∧ k_ ≠ gb284)) (by (with_reducible repeat (first | apply Kd.V_alloc | apply Kd.V_drewN | apply Kd.V_drew)); exact Kd.V_mono HL307_0.out (fun _ hk => ⟨⟨hk.1.1, ⟨hk.2, ⟨hk.1.2.1, ⟨hk.1.2.2.2.1, hk.1.2.2.2.2⟩⟩⟩⟩, hk.1.2.2.1⟩)) hg hat); have n6_ := Aside0.mk (hb); have n7_ := Aside0.mk (ho); clear HO_7; clear HO_9; clear HO_10; clear BK283; clear BK284; clear HL307_0; clear HB; clear HO_12; have HO_7 := n0_; have HO_9 := n1_; have HO_10 := n2_; have BK283 := n3_; have BK284 := n4_; have HL307_0 := n5_; have HB := n6_; have HO310 := n7_; clear n0_ n1_ n2_ n3_ n4_ n5_ n6_ n7_; clear ho hb hg hat)); try go_wp2_with (first | ((with_reducible refine gate_builtin (b := .append) (xs := #[.tmp 116, .tmp 120]) rfl ?_); (try (refine gate_guard (by rfl) ?_; dsimp only)); at_builtin; refine Kd.R_append_rows (Kd.int .i64) (w0 := w) w.heap.size rfl (.tmp 116) (.tmp 120) 26 3 (.int .i64 0) 8 rfl Try.underlying26 info3 rfl (by decide) (by omega) u12 x12_2 (rd_L1 t291 x61_2) _ _ _ (fun k_ => some k_ ≠ (.slice Ao23 t287.length co23 : Value).ownBlock ∧ some k_ ≠ (.slice (some ad305) t295.length co67 : Value).ownBlock) (fun _ => False) rfl rfl ?aO ?aR (fun _ _ h => h) (fun _ h => h.elim) ?aF ?aB ?aS ?aL ?_; (case aR => repeat (first | exact (by repeat (first | (with_reducible exact HR307_0.out) | (with_reducible refine Kd.C_alloc ?_ _) | (with_reducible refine Kd.C_drewN ?_ _) | (with_reducible refine Kd.C_drew ?_) | exact HR307_0.out)) | (with_reducible refine Kd.C_alloc ?_ _) | (with_reducible refine Kd.C_drewN ?_ _) | (with_reducible refine Kd.C_drew ?_))); (case aB => exact (zb2 HB.out GE283.out GE284.out)); (case aF => exact (fun k_ hk => ⟨Kd.fresh' (Kd.R_lt (zr HO_7.out)) k_ hk, Kd.fresh' (Kd.R_lt (zr HO_10.out)) k_ hk⟩)); (case aO => exact (zr HO_12.out)); (case aS => exact (below_size (zb2 HB.out GE283.out GE284.out))); (case aL => have := LMc66.out; omega); intro v309 w68 ho hb hg hat; rw [← Ny308.out] at ho; have n0_ := Aside0.mk (Kd.R_after (ok := (fun k_ => some k_ ≠ (.slice (some ad305) t295.length co67 : Value).ownBlock)) (zr HO_7.out) hg hat); have n1_ := Aside0.mk (Kd.N_afterv (ok := (fun k_ => some k_ ≠ (.slice Ao23 t287.length co23 : Value).ownBlock ∧ some k_ ≠ (.slice (some ad305) t295.length co67 : Value).ownBlock ∧ k_ ≠ gb283 ∧ k_ ≠ gb284)) (by (with_reducible repeat (first | apply Kd.N_alloc | apply Kd.N_drewN | apply Kd.N_drew)); exact Kd.N_mono HO_9.out (fun _ hk => ⟨⟨hk.1, ⟨hk.2.1, ⟨hk.2.2.2.1, hk.2.2.2.2⟩⟩⟩, hk.2.2.1⟩)) hg hat); have n2_ := Aside0.mk (Kd.R_after (ok := (fun k_ => some k_ ≠ (.slice Ao23 t287.length co23 : Value).ownBlock)) (zr HO_10.out) hg hat); have n3_ := Aside0.mk (blk_grown (g := gb283) (o := .cells #[.slice A0_0 l0_0.length c0_0, .slice A0_1 l0_1.length c0_1] 25 (0, 0)) (zk BK283.out) hg (Kd.R_ne HO_12.out BK283.out (by decide))); have n4_ := Aside0.mk (blk_grown (g := gb284) (o := .cells #[.int .i64 a2_0, .int .i64 a2_1] 43 (0, 0)) (zk BK284.out) hg (Kd.R_ne HO_12.out BK284.out (by decide))); have n5_ := Aside0.mk (Kd.V_afterv (ok := (fun k_ => some k_ ≠ (.slice Ao23 t287.length co23 : Value).ownBlock ∧ some k_ ≠ (.slice (some ad300) t291.length co32 : Value).ownBlock ∧ some k_ ≠ (.slice (some ad305) t295.length co67 : Value).ownBlock ∧ k_ ≠ gb283 ∧ k_ ≠ gb284)) (by (with_reducible repeat (first | apply Kd.V_alloc | apply Kd.V_drewN | apply Kd.V_drew)); exact Kd.V_mono HL307_0.out (fun _ hk => ⟨⟨hk.1.1, ⟨hk.2, ⟨hk.1.2.1, ⟨hk.1.2.2.2.1, hk.1.2.2.2.2⟩⟩⟩⟩, hk.1.2.2.1⟩)) hg hat); have n6_ := Aside0.mk (hb); have n7_ := Aside0.mk (ho); clear HO_7; clear HO_9; clear HO_10; clear BK283; clear BK284; clear HL307_0; clear HB; clear HO_12; have HO_7 := n0_; have HO_9 := n1_; have HO_10 := n2_; have BK283 := n3_; have BK284 := n4_; have HL307_0 := n5_; have HB := n6_; have HO310 := n7_; clear n0_ n1_ n2_ n3_ n4_ n5_ n6_ n7_; clear ho hb hg hat)))
                       go_roundg k3
                       case measure => have := HJ11.out; have := HK2.out; have := HK3.out; omega
                       case rel => exact ⟨(y308), (wrap64 (x61_2 + 1)), rs, H', ⟨by have := HJ11.out; have := HK2.out; have := HK3.out; omega⟩, ⟨zr HO_7.out⟩, ⟨by (with_reducible repeat (first | apply Kd.N_alloc | apply Kd.N_drewN | apply Kd.N_drew)); exact Kd.N_mono HO_9.out (fun _ hk => ⟨hk.1.1, ⟨hk.1.2.1, ⟨hk.2, ⟨hk.1.2.2.1, hk.1.2.2.2⟩⟩⟩⟩)⟩, ⟨zr HO_10.out⟩, ⟨zr HO310.out⟩, ⟨zk BK283.out⟩, ⟨zk BK284.out⟩, ⟨zb2 HB.out GE283.out GE284.out⟩⟩
                      ·rw [if_neg c66] at H
                       exact absurd H (by simp)
                     ·rw [if_neg c65] at H
                      exact absurd H (by simp)
                   ·rw [if_neg c62] at H
                    exact absurd H (by simp)
                  ·rw [if_neg c61] at H
                   exact absurd H (by simp)
                 ·rw [if_neg c59] at H
                  exact absurd H (by simp)
                ·rw [if_neg c58] at H
                 exact absurd H (by simp)
               ·rw [if_neg c57] at H
                have c57b0 : decide (0 < x61_2) = false := decide_eq_false c57
                clear c57
                by_cases c69 : 0 ≤ x61_2
                ·rw [if_pos c69] at H
                 have c69b0 : decide (0 ≤ x61_2) = true := decide_eq_true c69
                 clear c69
                 by_cases c70 : x61_2 < (t291.length : Int)
                 ·rw [if_pos c70] at H
                  have c70b0 : decide (x61_2 < (t291.length : Int)) = true := decide_eq_true c70
                  clear c70
                  by_cases c71 : x12_2.length + (rd_L1 t291 x61_2).length < 17592186044416
                  ·rw [if_pos c71] at H
                   have LMc71 := Aside0.mk c71
                   clear c71
                   obtain ⟨y312, hy312⟩ : ∃ y_ : List Int, y_ = (x12_2 ++ (rd_L1 t291 x61_2)) := ⟨_, rfl⟩
                   replace H : (stillagelaw09_ZoneJoined.l0 k3 t287 t291 t295 y312 (t291.length : Int) (wrap64 (x61_2 + 1)) l0_0 l0_1) = some r := by first | (rw [hy312]; with_reducible exact H) | (have H2_ := (Option.bind_some _ _).symm.trans H; rw [hy312]; with_reducible exact H2_) | (have H2_ := (Option.bind_some _ _).symm.trans H; with_reducible exact H2_) | with_reducible exact H | (rw [hy312]; exact H) | exact H
                   have Ny312 := Aside0.mk hy312
                   clear hy312
                   have H' := Aside0.mk H
                   clear H
                   have p311 : 0 ≤ (x61_2 : Int) := oda
                   have q311 : x61_2 < (t291.length : Int) := oda
                   obtain ⟨ad311, A311_0, c311_0, e311, hx311_0, hl311_0, hi311_0⟩ := at_L1 (Kd.N_reads' HO_9.out).2.2 x61_2 p311 q311
                   obtain rfl : ad300 = ad311 := (by injection e311)
                   obtain ⟨ce311, hce311, hMe311, hcc311⟩ := Kd.N_get HO_9.out [] x61_2 p311 (by first | exact q311 | exact oda | (have e_ := (Kd.N_reads' HO_9.out).1; omega))
                   obtain ⟨ua311_0, uc311_0, rfl, ul311_0, ge311_0⟩ := Kd.FK_slice_open hMe311
                   have hv311_0 := hcc311 0 _ rfl
                   rw [Nat.add_zero, show ((Kd.slice 3 (Kd.int .i64))).sz = 1 from rfl, Nat.mul_one] at hv311_0
                   replace hv311_0 := Option.some.inj (hv311_0.symm.trans hx311_0)
                   injection hv311_0 with hva_ hvn_ hvc_
                   rw [hva_] at ge311_0
                   rw [hvc_] at ul311_0
                   have HL311_0 := Aside0.mk (show Kd.V (Kd.int .i64) 3 _ w.heap.size _ _ (rd_L1 t291 x61_2) from Kd.V_mk ul311_0 ge311_0)
                   clear hva_ hvn_ hvc_ ge311_0 ul311_0
                   clear hcc311 hce311
                   have HR311_0 := Aside0.mk hi311_0
                   have HC311_0 := Aside0.mk hl311_0
                   clear hi311_0 hl311_0
                   replace p311 := eq_true p311
                   replace q311 := eq_true q311
                   go_wp2_with (first | ((with_reducible refine gate_builtin (b := .append) (xs := #[.tmp 116, .tmp 120]) rfl ?_); (try (refine gate_guard (by rfl) ?_; dsimp only)); at_builtin; refine Kd.R_append_rows (Kd.int .i64) (w0 := w) w.heap.size rfl (.tmp 116) (.tmp 120) 26 3 (.int .i64 0) 8 rfl Try.underlying26 info3 rfl (by decide) (by omega) u12 x12_2 (rd_L1 t291 x61_2) _ _ _ (fun k_ => some k_ ≠ (.slice Ao23 t287.length co23 : Value).ownBlock ∧ some k_ ≠ (v296 : Value).ownBlock) (fun _ => False) rfl rfl ?aO ?aR (fun _ _ h => h) (fun _ h => h.elim) ?aF ?aB ?aS ?aL ?_; (case aR => repeat (first | exact (by repeat (first | (with_reducible exact HR311_0.out) | (with_reducible refine Kd.C_alloc ?_ _) | (with_reducible refine Kd.C_drewN ?_ _) | (with_reducible refine Kd.C_drew ?_) | exact HR311_0.out)) | (with_reducible refine Kd.C_alloc ?_ _) | (with_reducible refine Kd.C_drewN ?_ _) | (with_reducible refine Kd.C_drew ?_))); (case aB => exact (zb2 HB.out GE283.out GE284.out)); (case aF => exact (fun k_ hk => ⟨Kd.fresh' (Kd.R_lt (zr HO_7.out)) k_ hk, Kd.fresh' (Kd.R_lt (zr HO_10.out)) k_ hk⟩)); (case aO => exact (zr HO_12.out)); (case aS => exact (below_size (zb2 HB.out GE283.out GE284.out))); (case aL => have := LMc71.out; omega); intro v313 w72 ho hb hg hat; rw [← Ny312.out] at ho; have n0_ := Aside0.mk (Kd.R_after (ok := (fun k_ => some k_ ≠ (v296 : Value).ownBlock)) (zr HO_7.out) hg hat); have n1_ := Aside0.mk (Kd.N_afterv (ok := (fun k_ => some k_ ≠ (.slice Ao23 t287.length co23 : Value).ownBlock ∧ some k_ ≠ (v296 : Value).ownBlock ∧ k_ ≠ gb283 ∧ k_ ≠ gb284)) (by (with_reducible repeat (first | apply Kd.N_alloc | apply Kd.N_drewN | apply Kd.N_drew)); exact Kd.N_mono HO_9.out (fun _ hk => ⟨⟨hk.1, ⟨hk.2.1, ⟨hk.2.2.2.1, hk.2.2.2.2⟩⟩⟩, hk.2.2.1⟩)) hg hat); have n2_ := Aside0.mk (Kd.R_after (ok := (fun k_ => some k_ ≠ (.slice Ao23 t287.length co23 : Value).ownBlock)) (zr HO_10.out) hg hat); have n3_ := Aside0.mk (blk_grown (g := gb283) (o := .cells #[.slice A0_0 l0_0.length c0_0, .slice A0_1 l0_1.length c0_1] 25 (0, 0)) (zk BK283.out) hg (Kd.R_ne HO_12.out BK283.out (by decide))); have n4_ := Aside0.mk (blk_grown (g := gb284) (o := .cells #[.int .i64 a2_0, .int .i64 a2_1] 43 (0, 0)) (zk BK284.out) hg (Kd.R_ne HO_12.out BK284.out (by decide))); have n5_ := Aside0.mk (Kd.V_afterv (ok := (fun k_ => some k_ ≠ (.slice Ao23 t287.length co23 : Value).ownBlock ∧ some k_ ≠ (.slice (some ad300) t291.length co32 : Value).ownBlock ∧ some k_ ≠ (v296 : Value).ownBlock ∧ k_ ≠ gb283 ∧ k_ ≠ gb284)) (by (with_reducible repeat (first | apply Kd.V_alloc | apply Kd.V_drewN | apply Kd.V_drew)); exact Kd.V_mono HL311_0.out (fun _ hk => ⟨⟨hk.1.1, ⟨hk.2, ⟨hk.1.2.1, ⟨hk.1.2.2.2.1, hk.1.2.2.2.2⟩⟩⟩⟩, hk.1.2.2.1⟩)) hg hat); have n6_ := Aside0.mk (hb); have n7_ := Aside0.mk (ho); clear HO_7; clear HO_9; clear HO_10; clear BK283; clear BK284; clear HL311_0; clear HB; clear HO_12; have HO_7 := n0_; have HO_9 := n1_; have HO_10 := n2_; have BK283 := n3_; have BK284 := n4_; have HL311_0 := n5_; have HB := n6_; have HO314 := n7_; clear n0_ n1_ n2_ n3_ n4_ n5_ n6_ n7_; clear ho hb hg hat))
                   repeat (go_quiet (first | ((with_reducible refine gate_builtin (b := .append) (xs := #[.tmp 116, .tmp 120]) rfl ?_); (try (refine gate_guard (by rfl) ?_; dsimp only)); at_builtin; refine Kd.R_append_rows (Kd.int .i64) (w0 := w) w.heap.size rfl (.tmp 116) (.tmp 120) 26 3 (.int .i64 0) 8 rfl Try.underlying26 info3 rfl (by decide) (by omega) u12 x12_2 (rd_L1 t291 x61_2) _ _ _ (fun k_ => some k_ ≠ (.slice Ao23 t287.length co23 : Value).ownBlock ∧ some k_ ≠ (v296 : Value).ownBlock) (fun _ => False) rfl rfl ?aO ?aR (fun _ _ h => h) (fun _ h => h.elim) ?aF ?aB ?aS ?aL ?_; (case aR => repeat (first | exact (by repeat (first | (with_reducible exact HR311_0.out) | (with_reducible refine Kd.C_alloc ?_ _) | (with_reducible refine Kd.C_drewN ?_ _) | (with_reducible refine Kd.C_drew ?_) | exact HR311_0.out)) | (with_reducible refine Kd.C_alloc ?_ _) | (with_reducible refine Kd.C_drewN ?_ _) | (with_reducible refine Kd.C_drew ?_))); (case aB => exact (zb2 HB.out GE283.out GE284.out)); (case aF => exact (fun k_ hk => ⟨Kd.fresh' (Kd.R_lt (zr HO_7.out)) k_ hk, Kd.fresh' (Kd.R_lt (zr HO_10.out)) k_ hk⟩)); (case aO => exact (zr HO_12.out)); (case aS => exact (below_size (zb2 HB.out GE283.out GE284.out))); (case aL => have := LMc71.out; omega); intro v313 w72 ho hb hg hat; rw [← Ny312.out] at ho; have n0_ := Aside0.mk (Kd.R_after (ok := (fun k_ => some k_ ≠ (v296 : Value).ownBlock)) (zr HO_7.out) hg hat); have n1_ := Aside0.mk (Kd.N_afterv (ok := (fun k_ => some k_ ≠ (.slice Ao23 t287.length co23 : Value).ownBlock ∧ some k_ ≠ (v296 : Value).ownBlock ∧ k_ ≠ gb283 ∧ k_ ≠ gb284)) (by (with_reducible repeat (first | apply Kd.N_alloc | apply Kd.N_drewN | apply Kd.N_drew)); exact Kd.N_mono HO_9.out (fun _ hk => ⟨⟨hk.1, ⟨hk.2.1, ⟨hk.2.2.2.1, hk.2.2.2.2⟩⟩⟩, hk.2.2.1⟩)) hg hat); have n2_ := Aside0.mk (Kd.R_after (ok := (fun k_ => some k_ ≠ (.slice Ao23 t287.length co23 : Value).ownBlock)) (zr HO_10.out) hg hat); have n3_ := Aside0.mk (blk_grown (g := gb283) (o := .cells #[.slice A0_0 l0_0.length c0_0, .slice A0_1 l0_1.length c0_1] 25 (0, 0)) (zk BK283.out) hg (Kd.R_ne HO_12.out BK283.out (by decide))); have n4_ := Aside0.mk (blk_grown (g := gb284) (o := .cells #[.int .i64 a2_0, .int .i64 a2_1] 43 (0, 0)) (zk BK284.out) hg (Kd.R_ne HO_12.out BK284.out (by decide))); have n5_ := Aside0.mk (Kd.V_afterv (ok := (fun k_ => some k_ ≠ (.slice Ao23 t287.length co23 : Value).ownBlock ∧ some k_ ≠ (.slice (some ad300) t291.length co32 : Value).ownBlock ∧ some k_ ≠ (v296 : Value).ownBlock ∧ k_ ≠ gb283 ∧ k_ ≠ gb284)) (by (with_reducible repeat (first | apply Kd.V_alloc | apply Kd.V_drewN | apply Kd.V_drew)); exact Kd.V_mono HL311_0.out (fun _ hk => ⟨⟨hk.1.1, ⟨hk.2, ⟨hk.1.2.1, ⟨hk.1.2.2.2.1, hk.1.2.2.2.2⟩⟩⟩⟩, hk.1.2.2.1⟩)) hg hat); have n6_ := Aside0.mk (hb); have n7_ := Aside0.mk (ho); clear HO_7; clear HO_9; clear HO_10; clear BK283; clear BK284; clear HL311_0; clear HB; clear HO_12; have HO_7 := n0_; have HO_9 := n1_; have HO_10 := n2_; have BK283 := n3_; have BK284 := n4_; have HL311_0 := n5_; have HB := n6_; have HO314 := n7_; clear n0_ n1_ n2_ n3_ n4_ n5_ n6_ n7_; clear ho hb hg hat)); try go_wp2_with (first | ((with_reducible refine gate_builtin (b := .append) (xs := #[.tmp 116, .tmp 120]) rfl ?_); (try (refine gate_guard (by rfl) ?_; dsimp only)); at_builtin; refine Kd.R_append_rows (Kd.int .i64) (w0 := w) w.heap.size rfl (.tmp 116) (.tmp 120) 26 3 (.int .i64 0) 8 rfl Try.underlying26 info3 rfl (by decide) (by omega) u12 x12_2 (rd_L1 t291 x61_2) _ _ _ (fun k_ => some k_ ≠ (.slice Ao23 t287.length co23 : Value).ownBlock ∧ some k_ ≠ (v296 : Value).ownBlock) (fun _ => False) rfl rfl ?aO ?aR (fun _ _ h => h) (fun _ h => h.elim) ?aF ?aB ?aS ?aL ?_; (case aR => repeat (first | exact (by repeat (first | (with_reducible exact HR311_0.out) | (with_reducible refine Kd.C_alloc ?_ _) | (with_reducible refine Kd.C_drewN ?_ _) | (with_reducible refine Kd.C_drew ?_) | exact HR311_0.out)) | (with_reducible refine Kd.C_alloc ?_ _) | (with_reducible refine Kd.C_drewN ?_ _) | (with_reducible refine Kd.C_drew ?_))); (case aB => exact (zb2 HB.out GE283.out GE284.out)); (case aF => exact (fun k_ hk => ⟨Kd.fresh' (Kd.R_lt (zr HO_7.out)) k_ hk, Kd.fresh' (Kd.R_lt (zr HO_10.out)) k_ hk⟩)); (case aO => exact (zr HO_12.out)); (case aS => exact (below_size (zb2 HB.out GE283.out GE284.out))); (case aL => have := LMc71.out; omega); intro v313 w72 ho hb hg hat; rw [← Ny312.out] at ho; have n0_ := Aside0.mk (Kd.R_after (ok := (fun k_ => some k_ ≠ (v296 : Value).ownBlock)) (zr HO_7.out) hg hat); have n1_ := Aside0.mk (Kd.N_afterv (ok := (fun k_ => some k_ ≠ (.slice Ao23 t287.length co23 : Value).ownBlock ∧ some k_ ≠ (v296 : Value).ownBlock ∧ k_ ≠ gb283 ∧ k_ ≠ gb284)) (by (with_reducible repeat (first | apply Kd.N_alloc | apply Kd.N_drewN | apply Kd.N_drew)); exact Kd.N_mono HO_9.out (fun _ hk => ⟨⟨hk.1, ⟨hk.2.1, ⟨hk.2.2.2.1, hk.2.2.2.2⟩⟩⟩, hk.2.2.1⟩)) hg hat); have n2_ := Aside0.mk (Kd.R_after (ok := (fun k_ => some k_ ≠ (.slice Ao23 t287.length co23 : Value).ownBlock)) (zr HO_10.out) hg hat); have n3_ := Aside0.mk (blk_grown (g := gb283) (o := .cells #[.slice A0_0 l0_0.length c0_0, .slice A0_1 l0_1.length c0_1] 25 (0, 0)) (zk BK283.out) hg (Kd.R_ne HO_12.out BK283.out (by decide))); have n4_ := Aside0.mk (blk_grown (g := gb284) (o := .cells #[.int .i64 a2_0, .int .i64 a2_1] 43 (0, 0)) (zk BK284.out) hg (Kd.R_ne HO_12.out BK284.out (by decide))); have n5_ := Aside0.mk (Kd.V_afterv (ok := (fun k_ => some k_ ≠ (.slice Ao23 t287.length co23 : Value).ownBlock ∧ some k_ ≠ (.slice (some ad300) t291.length co32 : Value).ownBlock ∧ some k_ ≠ (v296 : Value).ownBlock ∧ k_ ≠ gb283 ∧ k_ ≠ gb284)) (by (with_reducible repeat (first | apply Kd.V_alloc | apply Kd.V_drewN | apply Kd.V_drew)); exact Kd.V_mono HL311_0.out (fun _ hk => ⟨⟨hk.1.1, ⟨hk.2, ⟨hk.1.2.1, ⟨hk.1.2.2.2.1, hk.1.2.2.2.2⟩⟩⟩⟩, hk.1.2.2.1⟩)) hg hat); have n6_ := Aside0.mk (hb); have n7_ := Aside0.mk (ho); clear HO_7; clear HO_9; clear HO_10; clear BK283; clear BK284; clear HL311_0; clear HB; clear HO_12; have HO_7 := n0_; have HO_9 := n1_; have HO_10 := n2_; have BK283 := n3_; have BK284 := n4_; have HL311_0 := n5_; have HB := n6_; have HO314 := n7_; clear n0_ n1_ n2_ n3_ n4_ n5_ n6_ n7_; clear ho hb hg hat)))
                   go_roundg k3
                   case measure => have := HJ11.out; have := HK2.out; have := HK3.out; omega
                   case rel => exact ⟨(y312), (wrap64 (x61_2 + 1)), rs, H', ⟨by have := HJ11.out; have := HK2.out; have := HK3.out; omega⟩, ⟨zr HO_7.out⟩, ⟨by (with_reducible repeat (first | apply Kd.N_alloc | apply Kd.N_drewN | apply Kd.N_drew)); exact Kd.N_mono HO_9.out (fun _ hk => ⟨hk.1.1, ⟨hk.1.2.1, ⟨hk.2, ⟨hk.1.2.2.1, hk.1.2.2.2⟩⟩⟩⟩)⟩, ⟨zr HO_10.out⟩, ⟨zr HO314.out⟩, ⟨zk BK283.out⟩, ⟨zk BK284.out⟩, ⟨zb2 HB.out GE283.out GE284.out⟩⟩
                  ·rw [if_neg c71] at H
                   exact absurd H (by simp)
                 ·rw [if_neg c70] at H
                  exact absurd H (by simp)
                ·rw [if_neg c69] at H
                 exact absurd H (by simp)
           ·rw [if_neg c35] at H
            exact absurd H (by simp)
          ·rw [if_neg c34] at H
           exact absurd H (by simp)
         ·rw [if_neg c33] at H
          have c33b0 : decide (x61_2 < (t291.length : Int)) = false := decide_eq_false c33
          clear c33
          replace H := Option.bind_eq_some_iff.mp H
          obtain ⟨t299, A730, H⟩ := H
          replace H : (some t299) = some r := H
          have A73 := Aside0.mk A730
          clear A730
          obtain rfl := Option.some.inj H
          obtain ⟨Ao74, co74, eo74⟩ := Kd.R_slice HO_12.out
          subst eo74
          go_wp2_with (first | (go_at_call 18; (with_reducible refine (stillageref01_Ints.calls k2 _ _ x12_2 _ _ t287 t299 _ ?side1 ?side2 ?side3 ?side4 A73.out).mono ?_); (case side1 => exact zd (Kd.R_reads' HO_12.out).2.2); (case side2 => exact (Kd.R_reads' HO_12.out).2.1); (case side3 => exact zd (Kd.R_reads' HO_7.out).2.2); (case side4 => exact (Kd.R_reads' HO_7.out).2.1); rintro e w' ⟨rfl, ⟨nd, rfl⟩⟩; (try first | exact ⟨rfl, _, World.drewN_drewN _ _ _⟩ | exact ⟨rfl, _, Eq.trans (World.drewN_drewN _ _ _) (congrArg (World.drewN _) (Nat.add_assoc _ _ _))⟩)))
          repeat (go_quiet (first | (go_at_call 18; (with_reducible refine (stillageref01_Ints.calls k2 _ _ x12_2 _ _ t287 t299 _ ?side1 ?side2 ?side3 ?side4 A73.out).mono ?_); (case side1 => exact zd (Kd.R_reads' HO_12.out).2.2); (case side2 => exact (Kd.R_reads' HO_12.out).2.1); (case side3 => exact zd (Kd.R_reads' HO_7.out).2.2); (case side4 => exact (Kd.R_reads' HO_7.out).2.1); rintro e w' ⟨rfl, ⟨nd, rfl⟩⟩; (try first | exact ⟨rfl, _, World.drewN_drewN _ _ _⟩ | exact ⟨rfl, _, Eq.trans (World.drewN_drewN _ _ _) (congrArg (World.drewN _) (Nat.add_assoc _ _ _))⟩))); try go_wp2_with (first | (go_at_call 18; (with_reducible refine (stillageref01_Ints.calls k2 _ _ x12_2 _ _ t287 t299 _ ?side1 ?side2 ?side3 ?side4 A73.out).mono ?_); (case side1 => exact zd (Kd.R_reads' HO_12.out).2.2); (case side2 => exact (Kd.R_reads' HO_12.out).2.1); (case side3 => exact zd (Kd.R_reads' HO_7.out).2.2); (case side4 => exact (Kd.R_reads' HO_7.out).2.1); rintro e w' ⟨rfl, ⟨nd, rfl⟩⟩; (try first | exact ⟨rfl, _, World.drewN_drewN _ _ _⟩ | exact ⟨rfl, _, Eq.trans (World.drewN_drewN _ _ _) (congrArg (World.drewN _) (Nat.add_assoc _ _ _))⟩))))
          go_ret
          exact ⟨by first | rfl | (simp [errW_none, errW_some] <;> rfl) | (simp [*, errW_none, errW_some] <;> rfl), zb2 HB.out GE283.out GE284.out⟩
   ·rw [if_neg c9] at H
    have c9b0 : (t290 == 0) = false := beq_eq_false_iff_ne.mpr c9
    have c9b1 : (t290 != 0) = true := bne_iff_ne.mpr c9
    obtain rfl := Option.some.inj H
    go_enter Try.func4, Try.ntmps4
    go_wp2_with (first | ((with_reducible refine gate_dst (N := 3) rfl ?_); (try (refine gate_guard (by rfl) ?_; dsimp only)); refine box_event ?hg (N := 3) ?hd (cs := #[.slice A0_0 l0_0.length c0_0, .slice A0_1 l0_1.length c0_1]) (t := 25) ?hr ?_; (case hd => rfl); (case hg => rfl); (case hr => first | (go_simp; done) | (go_simp; rfl)); intro gb283 hg w75 hbox hb; have n0_ := Aside0.mk (below_step (zb0 HB.out) hb); have n1_ := Aside0.mk (hbox); have n2_ := Aside0.mk ((by rw [hg]; exact (below_size (zb0 HB.out)) : w.heap.size ≤ gb283)); have n3_ := Aside0.mk ((by rw [hg]; exact (below_size (zb0 HB.out)) : w.heap.size ≤ gb283)); clear HB; have HB := n0_; have BK283 := n1_; have GW283 := n2_; have GE283 := n3_; clear n0_ n1_ n2_ n3_; clear hb hbox hg) | ((with_reducible refine gate_dst (N := 5) rfl ?_); (try (refine gate_guard (by rfl) ?_; dsimp only)); refine box_event ?hg (N := 5) ?hd (cs := #[.int .i64 a2_0, .int .i64 a2_1]) (t := 43) ?hr ?_; (case hd => rfl); (case hg => rfl); (case hr => first | (go_simp; done) | (go_simp; rfl)); intro gb284 hg w76 hbox hb; have n0_ := Aside0.mk (blk_below (g := gb283) (o := .cells #[.slice A0_0 l0_0.length c0_0, .slice A0_1 l0_1.length c0_1] 25 (0, 0)) (zk BK283.out) hb); have n1_ := Aside0.mk (below_step (zb1 HB.out GE283.out) hb); have n2_ := Aside0.mk (hbox); have n3_ := Aside0.mk ((by rw [hg]; exact (below_size (zb1 HB.out GE283.out)) : w.heap.size ≤ gb284)); have n4_ := Aside0.mk ((by rw [hg]; exact (below_size (zb1 HB.out GE283.out)) : w.heap.size ≤ gb284)); have n5_ := Aside0.mk ((by rw [hg]; exact Nat.ne_of_lt (blk_lt (g := gb283) (o := .cells #[.slice A0_0 l0_0.length c0_0, .slice A0_1 l0_1.length c0_1] 25 (0, 0)) (zk BK283.out)) : gb283 ≠ gb284)); have n6_ := Aside0.mk ((by rw [hg]; exact Nat.ne_of_gt (blk_lt (g := gb283) (o := .cells #[.slice A0_0 l0_0.length c0_0, .slice A0_1 l0_1.length c0_1] 25 (0, 0)) (zk BK283.out)) : gb284 ≠ gb283)); clear BK283; clear HB; have BK283 := n0_; have HB := n1_; have BK284 := n2_; have GW284 := n3_; have GE284 := n4_; have NB283_284 := n5_; have NB284_283 := n6_; clear n0_ n1_ n2_ n3_ n4_ n5_ n6_; clear hb hbox hg) | (go_at_call 9; (with_reducible refine (stillagelaw09_awake.calls k  true _ A4.out).mono ?_); rintro e w77 ⟨rfl, hb⟩; have n0_ := Aside0.mk (blk_below (g := gb283) (o := .cells #[.slice A0_0 l0_0.length c0_0, .slice A0_1 l0_1.length c0_1] 25 (0, 0)) (zk BK283.out) hb); have n1_ := Aside0.mk (blk_below (g := gb284) (o := .cells #[.int .i64 a2_0, .int .i64 a2_1] 43 (0, 0)) (zk BK284.out) hb); have n2_ := Aside0.mk (below_step (zb2 HB.out GE283.out GE284.out) hb); clear BK283; clear BK284; clear HB; have BK283 := n0_; have BK284 := n1_; have HB := n2_; clear n0_ n1_ n2_; (try clear hb); (try clear hb2); (try clear hk); (try clear hi); have hnb78 := NB283_284.out; have hnc78 := NB284_283.out; have hcz79_0 : w77.cell? ⟨gb283, 0, none⟩ = some (.slice A0_0 l0_0.length c0_0) := (blk_cell BK283.out 0).trans rfl; have hcz79_1 : w77.cell? ⟨gb283, 1, none⟩ = some (.slice A0_1 l0_1.length c0_1) := (blk_cell BK283.out 1).trans rfl; have hfz79_0 := blk_frozen BK283.out 0; have hfz79_1 := blk_frozen BK283.out 1) | (go_at_call 19; (with_reducible refine (stillagelaw07_Fits.calls k _ _ l0_0 _ _ l0_1 _ _ l1 true _ ?side1 ?side2 ?side3 ?side4 ?side5 ?side6 A6.out).mono ?_); (case side1 => exact zc HR0_0.out HB.out); (case side2 => exact HC0_0.out); (case side3 => exact zc HR0_1.out HB.out); (case side4 => exact HC0_1.out); (case side5 => exact zc HR1.out HB.out); (case side6 => exact HC1.out); rintro e w80 ⟨rfl, hb⟩; have n0_ := Aside0.mk (blk_below (g := gb283) (o := .cells #[.slice A0_0 l0_0.length c0_0, .slice A0_1 l0_1.length c0_1] 25 (0, 0)) (zk BK283.out) hb); have n1_ := Aside0.mk (blk_below (g := gb284) (o := .cells #[.int .i64 a2_0, .int .i64 a2_1] 43 (0, 0)) (zk BK284.out) hb); have n2_ := Aside0.mk (below_step (zb2 HB.out GE283.out GE284.out) hb); clear BK283; clear BK284; clear HB; have BK283 := n0_; have BK284 := n1_; have HB := n2_; clear n0_ n1_ n2_; (try clear hb); (try clear hb2); (try clear hk); (try clear hi); have hcz81_0 : w80.cell? ⟨gb283, 0, none⟩ = some (.slice A0_0 l0_0.length c0_0) := (blk_cell BK283.out 0).trans rfl; have hcz81_1 : w80.cell? ⟨gb283, 1, none⟩ = some (.slice A0_1 l0_1.length c0_1) := (blk_cell BK283.out 1).trans rfl; have hfz81_0 := blk_frozen BK283.out 0; have hfz81_1 := blk_frozen BK283.out 1; have hcz82_0 : w80.cell? ⟨gb284, 0, none⟩ = some (.int .i64 a2_0) := (blk_cell BK284.out 0).trans rfl; have hcz82_1 : w80.cell? ⟨gb284, 1, none⟩ = some (.int .i64 a2_1) := (blk_cell BK284.out 1).trans rfl; have hfz82_0 := blk_frozen BK284.out 0; have hfz82_1 := blk_frozen BK284.out 1) | (go_at_call 20; (with_reducible refine (route_Path.calls k _ _ l0_0 _ _ l0_1 _ _ l1 a2_0 a2_1 t287 t290 _ ?side1 ?side2 ?side3 ?side4 ?side5 ?side6 A8.out).mono ?_); (case side1 => exact zc HR0_0.out HB.out); (case side2 => exact HC0_0.out); (case side3 => exact zc HR0_1.out HB.out); (case side4 => exact HC0_1.out); (case side5 => exact zc HR1.out HB.out); (case side6 => exact HC1.out); rintro e w83 ⟨v288, rfl, ho0, hb⟩; have n0_ := Aside0.mk (Kd.R_lower ho0 (below_size (zb2 HB.out GE283.out GE284.out))); have n1_ := Aside0.mk (blk_below (g := gb283) (o := .cells #[.slice A0_0 l0_0.length c0_0, .slice A0_1 l0_1.length c0_1] 25 (0, 0)) (zk BK283.out) hb); have n2_ := Aside0.mk (blk_below (g := gb284) (o := .cells #[.int .i64 a2_0, .int .i64 a2_1] 43 (0, 0)) (zk BK284.out) hb); have n3_ := Aside0.mk (below_step (zb2 HB.out GE283.out GE284.out) hb); clear BK283; clear BK284; clear HB; have HO289 := n0_; have BK283 := n1_; have BK284 := n2_; have HB := n3_; clear n0_ n1_ n2_ n3_; (try clear hb); (try clear hb2); (try clear hk); (try clear hi); (try clear ho0)))
    repeat (go_quiet (first | ((with_reducible refine gate_dst (N := 3) rfl ?_); (try (refine gate_guard (by rfl) ?_; dsimp only)); refine box_event ?hg (N := 3) ?hd (cs := #[.slice A0_0 l0_0.length c0_0, .slice A0_1 l0_1.length c0_1]) (t := 25) ?hr ?_; (case hd => rfl); (case hg => rfl); (case hr => first | (go_simp; done) | (go_simp; rfl)); intro gb283 hg w75 hbox hb; have n0_ := Aside0.mk (below_step (zb0 HB.out) hb); have n1_ := Aside0.mk (hbox); have n2_ := Aside0.mk ((by rw [hg]; exact (below_size (zb0 HB.out)) : w.heap.size ≤ gb283)); have n3_ := Aside0.mk ((by rw [hg]; exact (below_size (zb0 HB.out)) : w.heap.size ≤ gb283)); clear HB; have HB := n0_; have BK283 := n1_; have GW283 := n2_; have GE283 := n3_; clear n0_ n1_ n2_ n3_; clear hb hbox hg) | ((with_reducible refine gate_dst (N := 5) rfl ?_); (try (refine gate_guard (by rfl) ?_; dsimp only)); refine box_event ?hg (N := 5) ?hd (cs := #[.int .i64 a2_0, .int .i64 a2_1]) (t := 43) ?hr ?_; (case hd => rfl); (case hg => rfl); (case hr => first | (go_simp; done) | (go_simp; rfl)); intro gb284 hg w76 hbox hb; have n0_ := Aside0.mk (blk_below (g := gb283) (o := .cells #[.slice A0_0 l0_0.length c0_0, .slice A0_1 l0_1.length c0_1] 25 (0, 0)) (zk BK283.out) hb); have n1_ := Aside0.mk (below_step (zb1 HB.out GE283.out) hb); have n2_ := Aside0.mk (hbox); have n3_ := Aside0.mk ((by rw [hg]; exact (below_size (zb1 HB.out GE283.out)) : w.heap.size ≤ gb284)); have n4_ := Aside0.mk ((by rw [hg]; exact (below_size (zb1 HB.out GE283.out)) : w.heap.size ≤ gb284)); have n5_ := Aside0.mk ((by rw [hg]; exact Nat.ne_of_lt (blk_lt (g := gb283) (o := .cells #[.slice A0_0 l0_0.length c0_0, .slice A0_1 l0_1.length c0_1] 25 (0, 0)) (zk BK283.out)) : gb283 ≠ gb284)); have n6_ := Aside0.mk ((by rw [hg]; exact Nat.ne_of_gt (blk_lt (g := gb283) (o := .cells #[.slice A0_0 l0_0.length c0_0, .slice A0_1 l0_1.length c0_1] 25 (0, 0)) (zk BK283.out)) : gb284 ≠ gb283)); clear BK283; clear HB; have BK283 := n0_; have HB := n1_; have BK284 := n2_; have GW284 := n3_; have GE284 := n4_; have NB283_284 := n5_; have NB284_283 := n6_; clear n0_ n1_ n2_ n3_ n4_ n5_ n6_; clear hb hbox hg) | (go_at_call 9; (with_reducible refine (stillagelaw09_awake.calls k  true _ A4.out).mono ?_); rintro e w77 ⟨rfl, hb⟩; have n0_ := Aside0.mk (blk_below (g := gb283) (o := .cells #[.slice A0_0 l0_0.length c0_0, .slice A0_1 l0_1.length c0_1] 25 (0, 0)) (zk BK283.out) hb); have n1_ := Aside0.mk (blk_below (g := gb284) (o := .cells #[.int .i64 a2_0, .int .i64 a2_1] 43 (0, 0)) (zk BK284.out) hb); have n2_ := Aside0.mk (below_step (zb2 HB.out GE283.out GE284.out) hb); clear BK283; clear BK284; clear HB; have BK283 := n0_; have BK284 := n1_; have HB := n2_; clear n0_ n1_ n2_; (try clear hb); (try clear hb2); (try clear hk); (try clear hi); have hnb78 := NB283_284.out; have hnc78 := NB284_283.out; have hcz79_0 : w77.cell? ⟨gb283, 0, none⟩ = some (.slice A0_0 l0_0.length c0_0) := (blk_cell BK283.out 0).trans rfl; have hcz79_1 : w77.cell? ⟨gb283, 1, none⟩ = some (.slice A0_1 l0_1.length c0_1) := (blk_cell BK283.out 1).trans rfl; have hfz79_0 := blk_frozen BK283.out 0; have hfz79_1 := blk_frozen BK283.out 1) | (go_at_call 19; (with_reducible refine (stillagelaw07_Fits.calls k _ _ l0_0 _ _ l0_1 _ _ l1 true _ ?side1 ?side2 ?side3 ?side4 ?side5 ?side6 A6.out).mono ?_); (case side1 => exact zc HR0_0.out HB.out); (case side2 => exact HC0_0.out); (case side3 => exact zc HR0_1.out HB.out); (case side4 => exact HC0_1.out); (case side5 => exact zc HR1.out HB.out); (case side6 => exact HC1.out); rintro e w80 ⟨rfl, hb⟩; have n0_ := Aside0.mk (blk_below (g := gb283) (o := .cells #[.slice A0_0 l0_0.length c0_0, .slice A0_1 l0_1.length c0_1] 25 (0, 0)) (zk BK283.out) hb); have n1_ := Aside0.mk (blk_below (g := gb284) (o := .cells #[.int .i64 a2_0, .int .i64 a2_1] 43 (0, 0)) (zk BK284.out) hb); have n2_ := Aside0.mk (below_step (zb2 HB.out GE283.out GE284.out) hb); clear BK283; clear BK284; clear HB; have BK283 := n0_; have BK284 := n1_; have HB := n2_; clear n0_ n1_ n2_; (try clear hb); (try clear hb2); (try clear hk); (try clear hi); have hcz81_0 : w80.cell? ⟨gb283, 0, none⟩ = some (.slice A0_0 l0_0.length c0_0) := (blk_cell BK283.out 0).trans rfl; have hcz81_1 : w80.cell? ⟨gb283, 1, none⟩ = some (.slice A0_1 l0_1.length c0_1) := (blk_cell BK283.out 1).trans rfl; have hfz81_0 := blk_frozen BK283.out 0; have hfz81_1 := blk_frozen BK283.out 1; have hcz82_0 : w80.cell? ⟨gb284, 0, none⟩ = some (.int .i64 a2_0) := (blk_cell BK284.out 0).trans rfl; have hcz82_1 : w80.cell? ⟨gb284, 1, none⟩ = some (.int .i64 a2_1) := (blk_cell BK284.out 1).trans rfl; have hfz82_0 := blk_frozen BK284.out 0; have hfz82_1 := blk_frozen BK284.out 1) | (go_at_call 20; (with_reducible refine (route_Path.calls k _ _ l0_0 _ _ l0_1 _ _ l1 a2_0 a2_1 t287 t290 _ ?side1 ?side2 ?side3 ?side4 ?side5 ?side6 A8.out).mono ?_); (case side1 => exact zc HR0_0.out HB.out); (case side2 => exact HC0_0.out); (case side3 => exact zc HR0_1.out HB.out); (case side4 => exact HC0_1.out); (case side5 => exact zc HR1.out HB.out); (case side6 => exact HC1.out); rintro e w83 ⟨v288, rfl, ho0, hb⟩; have n0_ := Aside0.mk (Kd.R_lower ho0 (below_size (zb2 HB.out GE283.out GE284.out))); have n1_ := Aside0.mk (blk_below (g := gb283) (o := .cells #[.slice A0_0 l0_0.length c0_0, .slice A0_1 l0_1.length c0_1] 25 (0, 0)) (zk BK283.out) hb); have n2_ := Aside0.mk (blk_below (g := gb284) (o := .cells #[.int .i64 a2_0, .int .i64 a2_1] 43 (0, 0)) (zk BK284.out) hb); have n3_ := Aside0.mk (below_step (zb2 HB.out GE283.out GE284.out) hb); clear BK283; clear BK284; clear HB; have HO289 := n0_; have BK283 := n1_; have BK284 := n2_; have HB := n3_; clear n0_ n1_ n2_ n3_; (try clear hb); (try clear hb2); (try clear hk); (try clear hi); (try clear ho0))); try go_wp2_with (first | ((with_reducible refine gate_dst (N := 3) rfl ?_); (try (refine gate_guard (by rfl) ?_; dsimp only)); refine box_event ?hg (N := 3) ?hd (cs := #[.slice A0_0 l0_0.length c0_0, .slice A0_1 l0_1.length c0_1]) (t := 25) ?hr ?_; (case hd => rfl); (case hg => rfl); (case hr => first | (go_simp; done) | (go_simp; rfl)); intro gb283 hg w75 hbox hb; have n0_ := Aside0.mk (below_step (zb0 HB.out) hb); have n1_ := Aside0.mk (hbox); have n2_ := Aside0.mk ((by rw [hg]; exact (below_size (zb0 HB.out)) : w.heap.size ≤ gb283)); have n3_ := Aside0.mk ((by rw [hg]; exact (below_size (zb0 HB.out)) : w.heap.size ≤ gb283)); clear HB; have HB := n0_; have BK283 := n1_; have GW283 := n2_; have GE283 := n3_; clear n0_ n1_ n2_ n3_; clear hb hbox hg) | ((with_reducible refine gate_dst (N := 5) rfl ?_); (try (refine gate_guard (by rfl) ?_; dsimp only)); refine box_event ?hg (N := 5) ?hd (cs := #[.int .i64 a2_0, .int .i64 a2_1]) (t := 43) ?hr ?_; (case hd => rfl); (case hg => rfl); (case hr => first | (go_simp; done) | (go_simp; rfl)); intro gb284 hg w76 hbox hb; have n0_ := Aside0.mk (blk_below (g := gb283) (o := .cells #[.slice A0_0 l0_0.length c0_0, .slice A0_1 l0_1.length c0_1] 25 (0, 0)) (zk BK283.out) hb); have n1_ := Aside0.mk (below_step (zb1 HB.out GE283.out) hb); have n2_ := Aside0.mk (hbox); have n3_ := Aside0.mk ((by rw [hg]; exact (below_size (zb1 HB.out GE283.out)) : w.heap.size ≤ gb284)); have n4_ := Aside0.mk ((by rw [hg]; exact (below_size (zb1 HB.out GE283.out)) : w.heap.size ≤ gb284)); have n5_ := Aside0.mk ((by rw [hg]; exact Nat.ne_of_lt (blk_lt (g := gb283) (o := .cells #[.slice A0_0 l0_0.length c0_0, .slice A0_1 l0_1.length c0_1] 25 (0, 0)) (zk BK283.out)) : gb283 ≠ gb284)); have n6_ := Aside0.mk ((by rw [hg]; exact Nat.ne_of_gt (blk_lt (g := gb283) (o := .cells #[.slice A0_0 l0_0.length c0_0, .slice A0_1 l0_1.length c0_1] 25 (0, 0)) (zk BK283.out)) : gb284 ≠ gb283)); clear BK283; clear HB; have BK283 := n0_; have HB := n1_; have BK284 := n2_; have GW284 := n3_; have GE284 := n4_; have NB283_284 := n5_; have NB284_283 := n6_; clear n0_ n1_ n2_ n3_ n4_ n5_ n6_; clear hb hbox hg) | (go_at_call 9; (with_reducible refine (stillagelaw09_awake.calls k  true _ A4.out).mono ?_); rintro e w77 ⟨rfl, hb⟩; have n0_ := Aside0.mk (blk_below (g := gb283) (o := .cells #[.slice A0_0 l0_0.length c0_0, .slice A0_1 l0_1.length c0_1] 25 (0, 0)) (zk BK283.out) hb); have n1_ := Aside0.mk (blk_below (g := gb284) (o := .cells #[.int .i64 a2_0, .int .i64 a2_1] 43 (0, 0)) (zk BK284.out) hb); have n2_ := Aside0.mk (below_step (zb2 HB.out GE283.out GE284.out) hb); clear BK283; clear BK284; clear HB; have BK283 := n0_; have BK284 := n1_; have HB := n2_; clear n0_ n1_ n2_; (try clear hb); (try clear hb2); (try clear hk); (try clear hi); have hnb78 := NB283_284.out; have hnc78 := NB284_283.out; have hcz79_0 : w77.cell? ⟨gb283, 0, none⟩ = some (.slice A0_0 l0_0.length c0_0) := (blk_cell BK283.out 0).trans rfl; have hcz79_1 : w77.cell? ⟨gb283, 1, none⟩ = some (.slice A0_1 l0_1.length c0_1) := (blk_cell BK283.out 1).trans rfl; have hfz79_0 := blk_frozen BK283.out 0; have hfz79_1 := blk_frozen BK283.out 1) | (go_at_call 19; (with_reducible refine (stillagelaw07_Fits.calls k _ _ l0_0 _ _ l0_1 _ _ l1 true _ ?side1 ?side2 ?side3 ?side4 ?side5 ?side6 A6.out).mono ?_); (case side1 => exact zc HR0_0.out HB.out); (case side2 => exact HC0_0.out); (case side3 => exact zc HR0_1.out HB.out); (case side4 => exact HC0_1.out); (case side5 => exact zc HR1.out HB.out); (case side6 => exact HC1.out); rintro e w80 ⟨rfl, hb⟩; have n0_ := Aside0.mk (blk_below (g := gb283) (o := .cells #[.slice A0_0 l0_0.length c0_0, .slice A0_1 l0_1.length c0_1] 25 (0, 0)) (zk BK283.out) hb); have n1_ := Aside0.mk (blk_below (g := gb284) (o := .cells #[.int .i64 a2_0, .int .i64 a2_1] 43 (0, 0)) (zk BK284.out) hb); have n2_ := Aside0.mk (below_step (zb2 HB.out GE283.out GE284.out) hb); clear BK283; clear BK284; clear HB; have BK283 := n0_; have BK284 := n1_; have HB := n2_; clear n0_ n1_ n2_; (try clear hb); (try clear hb2); (try clear hk); (try clear hi); have hcz81_0 : w80.cell? ⟨gb283, 0, none⟩ = some (.slice A0_0 l0_0.length c0_0) := (blk_cell BK283.out 0).trans rfl; have hcz81_1 : w80.cell? ⟨gb283, 1, none⟩ = some (.slice A0_1 l0_1.length c0_1) := (blk_cell BK283.out 1).trans rfl; have hfz81_0 := blk_frozen BK283.out 0; have hfz81_1 := blk_frozen BK283.out 1; have hcz82_0 : w80.cell? ⟨gb284, 0, none⟩ = some (.int .i64 a2_0) := (blk_cell BK284.out 0).trans rfl; have hcz82_1 : w80.cell? ⟨gb284, 1, none⟩ = some (.int .i64 a2_1) := (blk_cell BK284.out 1).trans rfl; have hfz82_0 := blk_frozen BK284.out 0; have hfz82_1 := blk_frozen BK284.out 1) | (go_at_call 20; (with_reducible refine (route_Path.calls k _ _ l0_0 _ _ l0_1 _ _ l1 a2_0 a2_1 t287 t290 _ ?side1 ?side2 ?side3 ?side4 ?side5 ?side6 A8.out).mono ?_); (case side1 => exact zc HR0_0.out HB.out); (case side2 => exact HC0_0.out); (case side3 => exact zc HR0_1.out HB.out); (case side4 => exact HC0_1.out); (case side5 => exact zc HR1.out HB.out); (case side6 => exact HC1.out); rintro e w83 ⟨v288, rfl, ho0, hb⟩; have n0_ := Aside0.mk (Kd.R_lower ho0 (below_size (zb2 HB.out GE283.out GE284.out))); have n1_ := Aside0.mk (blk_below (g := gb283) (o := .cells #[.slice A0_0 l0_0.length c0_0, .slice A0_1 l0_1.length c0_1] 25 (0, 0)) (zk BK283.out) hb); have n2_ := Aside0.mk (blk_below (g := gb284) (o := .cells #[.int .i64 a2_0, .int .i64 a2_1] 43 (0, 0)) (zk BK284.out) hb); have n3_ := Aside0.mk (below_step (zb2 HB.out GE283.out GE284.out) hb); clear BK283; clear BK284; clear HB; have HO289 := n0_; have BK283 := n1_; have BK284 := n2_; have HB := n3_; clear n0_ n1_ n2_ n3_; (try clear hb); (try clear hb2); (try clear hk); (try clear hi); (try clear ho0))))
    go_ret
    exact ⟨by first | rfl | (simp [errW_none, errW_some] <;> rfl) | (simp [*, errW_none, errW_some] <;> rfl), zb2 HB.out GE283.out GE284.out⟩
  ·replace c7 := Bool.eq_false_iff.mpr c7
   subst c7
   have H1 : (some true) = some r := by rw [if_neg (show ¬ (false = true) by decide)] at H; exact H
   clear H
   have H := H1
   clear H1
   obtain rfl := Option.some.inj H
   go_enter Try.func4, Try.ntmps4
   go_wp2_with (first | ((with_reducible refine gate_dst (N := 3) rfl ?_); (try (refine gate_guard (by rfl) ?_; dsimp only)); refine box_event ?hg (N := 3) ?hd (cs := #[.slice A0_0 l0_0.length c0_0, .slice A0_1 l0_1.length c0_1]) (t := 25) ?hr ?_; (case hd => rfl); (case hg => rfl); (case hr => first | (go_simp; done) | (go_simp; rfl)); intro gb283 hg w84 hbox hb; have n0_ := Aside0.mk (below_step (zb0 HB.out) hb); have n1_ := Aside0.mk (hbox); have n2_ := Aside0.mk ((by rw [hg]; exact (below_size (zb0 HB.out)) : w.heap.size ≤ gb283)); have n3_ := Aside0.mk ((by rw [hg]; exact (below_size (zb0 HB.out)) : w.heap.size ≤ gb283)); clear HB; have HB := n0_; have BK283 := n1_; have GW283 := n2_; have GE283 := n3_; clear n0_ n1_ n2_ n3_; clear hb hbox hg) | ((with_reducible refine gate_dst (N := 5) rfl ?_); (try (refine gate_guard (by rfl) ?_; dsimp only)); refine box_event ?hg (N := 5) ?hd (cs := #[.int .i64 a2_0, .int .i64 a2_1]) (t := 43) ?hr ?_; (case hd => rfl); (case hg => rfl); (case hr => first | (go_simp; done) | (go_simp; rfl)); intro gb284 hg w85 hbox hb; have n0_ := Aside0.mk (blk_below (g := gb283) (o := .cells #[.slice A0_0 l0_0.length c0_0, .slice A0_1 l0_1.length c0_1] 25 (0, 0)) (zk BK283.out) hb); have n1_ := Aside0.mk (below_step (zb1 HB.out GE283.out) hb); have n2_ := Aside0.mk (hbox); have n3_ := Aside0.mk ((by rw [hg]; exact (below_size (zb1 HB.out GE283.out)) : w.heap.size ≤ gb284)); have n4_ := Aside0.mk ((by rw [hg]; exact (below_size (zb1 HB.out GE283.out)) : w.heap.size ≤ gb284)); have n5_ := Aside0.mk ((by rw [hg]; exact Nat.ne_of_lt (blk_lt (g := gb283) (o := .cells #[.slice A0_0 l0_0.length c0_0, .slice A0_1 l0_1.length c0_1] 25 (0, 0)) (zk BK283.out)) : gb283 ≠ gb284)); have n6_ := Aside0.mk ((by rw [hg]; exact Nat.ne_of_gt (blk_lt (g := gb283) (o := .cells #[.slice A0_0 l0_0.length c0_0, .slice A0_1 l0_1.length c0_1] 25 (0, 0)) (zk BK283.out)) : gb284 ≠ gb283)); clear BK283; clear HB; have BK283 := n0_; have HB := n1_; have BK284 := n2_; have GW284 := n3_; have GE284 := n4_; have NB283_284 := n5_; have NB284_283 := n6_; clear n0_ n1_ n2_ n3_ n4_ n5_ n6_; clear hb hbox hg) | (go_at_call 9; (with_reducible refine (stillagelaw09_awake.calls k  true _ A4.out).mono ?_); rintro e w86 ⟨rfl, hb⟩; have n0_ := Aside0.mk (blk_below (g := gb283) (o := .cells #[.slice A0_0 l0_0.length c0_0, .slice A0_1 l0_1.length c0_1] 25 (0, 0)) (zk BK283.out) hb); have n1_ := Aside0.mk (blk_below (g := gb284) (o := .cells #[.int .i64 a2_0, .int .i64 a2_1] 43 (0, 0)) (zk BK284.out) hb); have n2_ := Aside0.mk (below_step (zb2 HB.out GE283.out GE284.out) hb); clear BK283; clear BK284; clear HB; have BK283 := n0_; have BK284 := n1_; have HB := n2_; clear n0_ n1_ n2_; (try clear hb); (try clear hb2); (try clear hk); (try clear hi); have hnb87 := NB283_284.out; have hnc87 := NB284_283.out; have hcz88_0 : w86.cell? ⟨gb283, 0, none⟩ = some (.slice A0_0 l0_0.length c0_0) := (blk_cell BK283.out 0).trans rfl; have hcz88_1 : w86.cell? ⟨gb283, 1, none⟩ = some (.slice A0_1 l0_1.length c0_1) := (blk_cell BK283.out 1).trans rfl; have hfz88_0 := blk_frozen BK283.out 0; have hfz88_1 := blk_frozen BK283.out 1) | (go_at_call 19; (with_reducible refine (stillagelaw07_Fits.calls k _ _ l0_0 _ _ l0_1 _ _ l1 false _ ?side1 ?side2 ?side3 ?side4 ?side5 ?side6 A6.out).mono ?_); (case side1 => exact zc HR0_0.out HB.out); (case side2 => exact HC0_0.out); (case side3 => exact zc HR0_1.out HB.out); (case side4 => exact HC0_1.out); (case side5 => exact zc HR1.out HB.out); (case side6 => exact HC1.out); rintro e w89 ⟨rfl, hb⟩; have n0_ := Aside0.mk (blk_below (g := gb283) (o := .cells #[.slice A0_0 l0_0.length c0_0, .slice A0_1 l0_1.length c0_1] 25 (0, 0)) (zk BK283.out) hb); have n1_ := Aside0.mk (blk_below (g := gb284) (o := .cells #[.int .i64 a2_0, .int .i64 a2_1] 43 (0, 0)) (zk BK284.out) hb); have n2_ := Aside0.mk (below_step (zb2 HB.out GE283.out GE284.out) hb); clear BK283; clear BK284; clear HB; have BK283 := n0_; have BK284 := n1_; have HB := n2_; clear n0_ n1_ n2_; (try clear hb); (try clear hb2); (try clear hk); (try clear hi)))
   repeat (go_quiet (first | ((with_reducible refine gate_dst (N := 3) rfl ?_); (try (refine gate_guard (by rfl) ?_; dsimp only)); refine box_event ?hg (N := 3) ?hd (cs := #[.slice A0_0 l0_0.length c0_0, .slice A0_1 l0_1.length c0_1]) (t := 25) ?hr ?_; (case hd => rfl); (case hg => rfl); (case hr => first | (go_simp; done) | (go_simp; rfl)); intro gb283 hg w84 hbox hb; have n0_ := Aside0.mk (below_step (zb0 HB.out) hb); have n1_ := Aside0.mk (hbox); have n2_ := Aside0.mk ((by rw [hg]; exact (below_size (zb0 HB.out)) : w.heap.size ≤ gb283)); have n3_ := Aside0.mk ((by rw [hg]; exact (below_size (zb0 HB.out)) : w.heap.size ≤ gb283)); clear HB; have HB := n0_; have BK283 := n1_; have GW283 := n2_; have GE283 := n3_; clear n0_ n1_ n2_ n3_; clear hb hbox hg) | ((with_reducible refine gate_dst (N := 5) rfl ?_); (try (refine gate_guard (by rfl) ?_; dsimp only)); refine box_event ?hg (N := 5) ?hd (cs := #[.int .i64 a2_0, .int .i64 a2_1]) (t := 43) ?hr ?_; (case hd => rfl); (case hg => rfl); (case hr => first | (go_simp; done) | (go_simp; rfl)); intro gb284 hg w85 hbox hb; have n0_ := Aside0.mk (blk_below (g := gb283) (o := .cells #[.slice A0_0 l0_0.length c0_0, .slice A0_1 l0_1.length c0_1] 25 (0, 0)) (zk BK283.out) hb); have n1_ := Aside0.mk (below_step (zb1 HB.out GE283.out) hb); have n2_ := Aside0.mk (hbox); have n3_ := Aside0.mk ((by rw [hg]; exact (below_size (zb1 HB.out GE283.out)) : w.heap.size ≤ gb284)); have n4_ := Aside0.mk ((by rw [hg]; exact (below_size (zb1 HB.out GE283.out)) : w.heap.size ≤ gb284)); have n5_ := Aside0.mk ((by rw [hg]; exact Nat.ne_of_lt (blk_lt (g := gb283) (o := .cells #[.slice A0_0 l0_0.length c0_0, .slice A0_1 l0_1.length c0_1] 25 (0, 0)) (zk BK283.out)) : gb283 ≠ gb284)); have n6_ := Aside0.mk ((by rw [hg]; exact Nat.ne_of_gt (blk_lt (g := gb283) (o := .cells #[.slice A0_0 l0_0.length c0_0, .slice A0_1 l0_1.length c0_1] 25 (0, 0)) (zk BK283.out)) : gb284 ≠ gb283)); clear BK283; clear HB; have BK283 := n0_; have HB := n1_; have BK284 := n2_; have GW284 := n3_; have GE284 := n4_; have NB283_284 := n5_; have NB284_283 := n6_; clear n0_ n1_ n2_ n3_ n4_ n5_ n6_; clear hb hbox hg) | (go_at_call 9; (with_reducible refine (stillagelaw09_awake.calls k  true _ A4.out).mono ?_); rintro e w86 ⟨rfl, hb⟩; have n0_ := Aside0.mk (blk_below (g := gb283) (o := .cells #[.slice A0_0 l0_0.length c0_0, .slice A0_1 l0_1.length c0_1] 25 (0, 0)) (zk BK283.out) hb); have n1_ := Aside0.mk (blk_below (g := gb284) (o := .cells #[.int .i64 a2_0, .int .i64 a2_1] 43 (0, 0)) (zk BK284.out) hb); have n2_ := Aside0.mk (below_step (zb2 HB.out GE283.out GE284.out) hb); clear BK283; clear BK284; clear HB; have BK283 := n0_; have BK284 := n1_; have HB := n2_; clear n0_ n1_ n2_; (try clear hb); (try clear hb2); (try clear hk); (try clear hi); have hnb87 := NB283_284.out; have hnc87 := NB284_283.out; have hcz88_0 : w86.cell? ⟨gb283, 0, none⟩ = some (.slice A0_0 l0_0.length c0_0) := (blk_cell BK283.out 0).trans rfl; have hcz88_1 : w86.cell? ⟨gb283, 1, none⟩ = some (.slice A0_1 l0_1.length c0_1) := (blk_cell BK283.out 1).trans rfl; have hfz88_0 := blk_frozen BK283.out 0; have hfz88_1 := blk_frozen BK283.out 1) | (go_at_call 19; (with_reducible refine (stillagelaw07_Fits.calls k _ _ l0_0 _ _ l0_1 _ _ l1 false _ ?side1 ?side2 ?side3 ?side4 ?side5 ?side6 A6.out).mono ?_); (case side1 => exact zc HR0_0.out HB.out); (case side2 => exact HC0_0.out); (case side3 => exact zc HR0_1.out HB.out); (case side4 => exact HC0_1.out); (case side5 => exact zc HR1.out HB.out); (case side6 => exact HC1.out); rintro e w89 ⟨rfl, hb⟩; have n0_ := Aside0.mk (blk_below (g := gb283) (o := .cells #[.slice A0_0 l0_0.length c0_0, .slice A0_1 l0_1.length c0_1] 25 (0, 0)) (zk BK283.out) hb); have n1_ := Aside0.mk (blk_below (g := gb284) (o := .cells #[.int .i64 a2_0, .int .i64 a2_1] 43 (0, 0)) (zk BK284.out) hb); have n2_ := Aside0.mk (below_step (zb2 HB.out GE283.out GE284.out) hb); clear BK283; clear BK284; clear HB; have BK283 := n0_; have BK284 := n1_; have HB := n2_; clear n0_ n1_ n2_; (try clear hb); (try clear hb2); (try clear hk); (try clear hi))); try go_wp2_with (first | ((with_reducible refine gate_dst (N := 3) rfl ?_); (try (refine gate_guard (by rfl) ?_; dsimp only)); refine box_event ?hg (N := 3) ?hd (cs := #[.slice A0_0 l0_0.length c0_0, .slice A0_1 l0_1.length c0_1]) (t := 25) ?hr ?_; (case hd => rfl); (case hg => rfl); (case hr => first | (go_simp; done) | (go_simp; rfl)); intro gb283 hg w84 hbox hb; have n0_ := Aside0.mk (below_step (zb0 HB.out) hb); have n1_ := Aside0.mk (hbox); have n2_ := Aside0.mk ((by rw [hg]; exact (below_size (zb0 HB.out)) : w.heap.size ≤ gb283)); have n3_ := Aside0.mk ((by rw [hg]; exact (below_size (zb0 HB.out)) : w.heap.size ≤ gb283)); clear HB; have HB := n0_; have BK283 := n1_; have GW283 := n2_; have GE283 := n3_; clear n0_ n1_ n2_ n3_; clear hb hbox hg) | ((with_reducible refine gate_dst (N := 5) rfl ?_); (try (refine gate_guard (by rfl) ?_; dsimp only)); refine box_event ?hg (N := 5) ?hd (cs := #[.int .i64 a2_0, .int .i64 a2_1]) (t := 43) ?hr ?_; (case hd => rfl); (case hg => rfl); (case hr => first | (go_simp; done) | (go_simp; rfl)); intro gb284 hg w85 hbox hb; have n0_ := Aside0.mk (blk_below (g := gb283) (o := .cells #[.slice A0_0 l0_0.length c0_0, .slice A0_1 l0_1.length c0_1] 25 (0, 0)) (zk BK283.out) hb); have n1_ := Aside0.mk (below_step (zb1 HB.out GE283.out) hb); have n2_ := Aside0.mk (hbox); have n3_ := Aside0.mk ((by rw [hg]; exact (below_size (zb1 HB.out GE283.out)) : w.heap.size ≤ gb284)); have n4_ := Aside0.mk ((by rw [hg]; exact (below_size (zb1 HB.out GE283.out)) : w.heap.size ≤ gb284)); have n5_ := Aside0.mk ((by rw [hg]; exact Nat.ne_of_lt (blk_lt (g := gb283) (o := .cells #[.slice A0_0 l0_0.length c0_0, .slice A0_1 l0_1.length c0_1] 25 (0, 0)) (zk BK283.out)) : gb283 ≠ gb284)); have n6_ := Aside0.mk ((by rw [hg]; exact Nat.ne_of_gt (blk_lt (g := gb283) (o := .cells #[.slice A0_0 l0_0.length c0_0, .slice A0_1 l0_1.length c0_1] 25 (0, 0)) (zk BK283.out)) : gb284 ≠ gb283)); clear BK283; clear HB; have BK283 := n0_; have HB := n1_; have BK284 := n2_; have GW284 := n3_; have GE284 := n4_; have NB283_284 := n5_; have NB284_283 := n6_; clear n0_ n1_ n2_ n3_ n4_ n5_ n6_; clear hb hbox hg) | (go_at_call 9; (with_reducible refine (stillagelaw09_awake.calls k  true _ A4.out).mono ?_); rintro e w86 ⟨rfl, hb⟩; have n0_ := Aside0.mk (blk_below (g := gb283) (o := .cells #[.slice A0_0 l0_0.length c0_0, .slice A0_1 l0_1.length c0_1] 25 (0, 0)) (zk BK283.out) hb); have n1_ := Aside0.mk (blk_below (g := gb284) (o := .cells #[.int .i64 a2_0, .int .i64 a2_1] 43 (0, 0)) (zk BK284.out) hb); have n2_ := Aside0.mk (below_step (zb2 HB.out GE283.out GE284.out) hb); clear BK283; clear BK284; clear HB; have BK283 := n0_; have BK284 := n1_; have HB := n2_; clear n0_ n1_ n2_; (try clear hb); (try clear hb2); (try clear hk); (try clear hi); have hnb87 := NB283_284.out; have hnc87 := NB284_283.out; have hcz88_0 : w86.cell? ⟨gb283, 0, none⟩ = some (.slice A0_0 l0_0.length c0_0) := (blk_cell BK283.out 0).trans rfl; have hcz88_1 : w86.cell? ⟨gb283, 1, none⟩ = some (.slice A0_1 l0_1.length c0_1) := (blk_cell BK283.out 1).trans rfl; have hfz88_0 := blk_frozen BK283.out 0; have hfz88_1 := blk_frozen BK283.out 1) | (go_at_call 19; (with_reducible refine (stillagelaw07_Fits.calls k _ _ l0_0 _ _ l0_1 _ _ l1 false _ ?side1 ?side2 ?side3 ?side4 ?side5 ?side6 A6.out).mono ?_); (case side1 => exact zc HR0_0.out HB.out); (case side2 => exact HC0_0.out); (case side3 => exact zc HR0_1.out HB.out); (case side4 => exact HC0_1.out); (case side5 => exact zc HR1.out HB.out); (case side6 => exact HC1.out); rintro e w89 ⟨rfl, hb⟩; have n0_ := Aside0.mk (blk_below (g := gb283) (o := .cells #[.slice A0_0 l0_0.length c0_0, .slice A0_1 l0_1.length c0_1] 25 (0, 0)) (zk BK283.out) hb); have n1_ := Aside0.mk (blk_below (g := gb284) (o := .cells #[.int .i64 a2_0, .int .i64 a2_1] 43 (0, 0)) (zk BK284.out) hb); have n2_ := Aside0.mk (below_step (zb2 HB.out GE283.out GE284.out) hb); clear BK283; clear BK284; clear HB; have BK283 := n0_; have BK284 := n1_; have HB := n2_; clear n0_ n1_ n2_; (try clear hb); (try clear hb2); (try clear hk); (try clear hi))))
   go_ret
   exact ⟨by first | rfl | (simp [errW_none, errW_some] <;> rfl) | (simp [*, errW_none, errW_some] <;> rfl), zb2 HB.out GE283.out GE284.out⟩
 ·replace c5 := Bool.eq_false_iff.mpr c5
  subst c5
  have H1 : (some false) = some r := by rw [if_neg (show ¬ (false = true) by decide)] at H; exact H
  clear H
  have H := H1
  clear H1
  obtain rfl := Option.some.inj H
  go_enter Try.func4, Try.ntmps4
  go_wp2_with (first | ((with_reducible refine gate_dst (N := 3) rfl ?_); (try (refine gate_guard (by rfl) ?_; dsimp only)); refine box_event ?hg (N := 3) ?hd (cs := #[.slice A0_0 l0_0.length c0_0, .slice A0_1 l0_1.length c0_1]) (t := 25) ?hr ?_; (case hd => rfl); (case hg => rfl); (case hr => first | (go_simp; done) | (go_simp; rfl)); intro gb283 hg w90 hbox hb; have n0_ := Aside0.mk (below_step (zb0 HB.out) hb); have n1_ := Aside0.mk (hbox); have n2_ := Aside0.mk ((by rw [hg]; exact (below_size (zb0 HB.out)) : w.heap.size ≤ gb283)); have n3_ := Aside0.mk ((by rw [hg]; exact (below_size (zb0 HB.out)) : w.heap.size ≤ gb283)); clear HB; have HB := n0_; have BK283 := n1_; have GW283 := n2_; have GE283 := n3_; clear n0_ n1_ n2_ n3_; clear hb hbox hg) | ((with_reducible refine gate_dst (N := 5) rfl ?_); (try (refine gate_guard (by rfl) ?_; dsimp only)); refine box_event ?hg (N := 5) ?hd (cs := #[.int .i64 a2_0, .int .i64 a2_1]) (t := 43) ?hr ?_; (case hd => rfl); (case hg => rfl); (case hr => first | (go_simp; done) | (go_simp; rfl)); intro gb284 hg w91 hbox hb; have n0_ := Aside0.mk (blk_below (g := gb283) (o := .cells #[.slice A0_0 l0_0.length c0_0, .slice A0_1 l0_1.length c0_1] 25 (0, 0)) (zk BK283.out) hb); have n1_ := Aside0.mk (below_step (zb1 HB.out GE283.out) hb); have n2_ := Aside0.mk (hbox); have n3_ := Aside0.mk ((by rw [hg]; exact (below_size (zb1 HB.out GE283.out)) : w.heap.size ≤ gb284)); have n4_ := Aside0.mk ((by rw [hg]; exact (below_size (zb1 HB.out GE283.out)) : w.heap.size ≤ gb284)); have n5_ := Aside0.mk ((by rw [hg]; exact Nat.ne_of_lt (blk_lt (g := gb283) (o := .cells #[.slice A0_0 l0_0.length c0_0, .slice A0_1 l0_1.length c0_1] 25 (0, 0)) (zk BK283.out)) : gb283 ≠ gb284)); have n6_ := Aside0.mk ((by rw [hg]; exact Nat.ne_of_gt (blk_lt (g := gb283) (o := .cells #[.slice A0_0 l0_0.length c0_0, .slice A0_1 l0_1.length c0_1] 25 (0, 0)) (zk BK283.out)) : gb284 ≠ gb283)); clear BK283; clear HB; have BK283 := n0_; have HB := n1_; have BK284 := n2_; have GW284 := n3_; have GE284 := n4_; have NB283_284 := n5_; have NB284_283 := n6_; clear n0_ n1_ n2_ n3_ n4_ n5_ n6_; clear hb hbox hg) | (go_at_call 9; (with_reducible refine (stillagelaw09_awake.calls k  false _ A4.out).mono ?_); rintro e w92 ⟨rfl, hb⟩; have n0_ := Aside0.mk (blk_below (g := gb283) (o := .cells #[.slice A0_0 l0_0.length c0_0, .slice A0_1 l0_1.length c0_1] 25 (0, 0)) (zk BK283.out) hb); have n1_ := Aside0.mk (blk_below (g := gb284) (o := .cells #[.int .i64 a2_0, .int .i64 a2_1] 43 (0, 0)) (zk BK284.out) hb); have n2_ := Aside0.mk (below_step (zb2 HB.out GE283.out GE284.out) hb); clear BK283; clear BK284; clear HB; have BK283 := n0_; have BK284 := n1_; have HB := n2_; clear n0_ n1_ n2_; (try clear hb); (try clear hb2); (try clear hk); (try clear hi)))
  repeat (go_quiet (first | ((with_reducible refine gate_dst (N := 3) rfl ?_); (try (refine gate_guard (by rfl) ?_; dsimp only)); refine box_event ?hg (N := 3) ?hd (cs := #[.slice A0_0 l0_0.length c0_0, .slice A0_1 l0_1.length c0_1]) (t := 25) ?hr ?_; (case hd => rfl); (case hg => rfl); (case hr => first | (go_simp; done) | (go_simp; rfl)); intro gb283 hg w90 hbox hb; have n0_ := Aside0.mk (below_step (zb0 HB.out) hb); have n1_ := Aside0.mk (hbox); have n2_ := Aside0.mk ((by rw [hg]; exact (below_size (zb0 HB.out)) : w.heap.size ≤ gb283)); have n3_ := Aside0.mk ((by rw [hg]; exact (below_size (zb0 HB.out)) : w.heap.size ≤ gb283)); clear HB; have HB := n0_; have BK283 := n1_; have GW283 := n2_; have GE283 := n3_; clear n0_ n1_ n2_ n3_; clear hb hbox hg) | ((with_reducible refine gate_dst (N := 5) rfl ?_); (try (refine gate_guard (by rfl) ?_; dsimp only)); refine box_event ?hg (N := 5) ?hd (cs := #[.int .i64 a2_0, .int .i64 a2_1]) (t := 43) ?hr ?_; (case hd => rfl); (case hg => rfl); (case hr => first | (go_simp; done) | (go_simp; rfl)); intro gb284 hg w91 hbox hb; have n0_ := Aside0.mk (blk_below (g := gb283) (o := .cells #[.slice A0_0 l0_0.length c0_0, .slice A0_1 l0_1.length c0_1] 25 (0, 0)) (zk BK283.out) hb); have n1_ := Aside0.mk (below_step (zb1 HB.out GE283.out) hb); have n2_ := Aside0.mk (hbox); have n3_ := Aside0.mk ((by rw [hg]; exact (below_size (zb1 HB.out GE283.out)) : w.heap.size ≤ gb284)); have n4_ := Aside0.mk ((by rw [hg]; exact (below_size (zb1 HB.out GE283.out)) : w.heap.size ≤ gb284)); have n5_ := Aside0.mk ((by rw [hg]; exact Nat.ne_of_lt (blk_lt (g := gb283) (o := .cells #[.slice A0_0 l0_0.length c0_0, .slice A0_1 l0_1.length c0_1] 25 (0, 0)) (zk BK283.out)) : gb283 ≠ gb284)); have n6_ := Aside0.mk ((by rw [hg]; exact Nat.ne_of_gt (blk_lt (g := gb283) (o := .cells #[.slice A0_0 l0_0.length c0_0, .slice A0_1 l0_1.length c0_1] 25 (0, 0)) (zk BK283.out)) : gb284 ≠ gb283)); clear BK283; clear HB; have BK283 := n0_; have HB := n1_; have BK284 := n2_; have GW284 := n3_; have GE284 := n4_; have NB283_284 := n5_; have NB284_283 := n6_; clear n0_ n1_ n2_ n3_ n4_ n5_ n6_; clear hb hbox hg) | (go_at_call 9; (with_reducible refine (stillagelaw09_awake.calls k  false _ A4.out).mono ?_); rintro e w92 ⟨rfl, hb⟩; have n0_ := Aside0.mk (blk_below (g := gb283) (o := .cells #[.slice A0_0 l0_0.length c0_0, .slice A0_1 l0_1.length c0_1] 25 (0, 0)) (zk BK283.out) hb); have n1_ := Aside0.mk (blk_below (g := gb284) (o := .cells #[.int .i64 a2_0, .int .i64 a2_1] 43 (0, 0)) (zk BK284.out) hb); have n2_ := Aside0.mk (below_step (zb2 HB.out GE283.out GE284.out) hb); clear BK283; clear BK284; clear HB; have BK283 := n0_; have BK284 := n1_; have HB := n2_; clear n0_ n1_ n2_; (try clear hb); (try clear hb2); (try clear hk); (try clear hi))); try go_wp2_with (first | ((with_reducible refine gate_dst (N := 3) rfl ?_); (try (refine gate_guard (by rfl) ?_; dsimp only)); refine box_event ?hg (N := 3) ?hd (cs := #[.slice A0_0 l0_0.length c0_0, .slice A0_1 l0_1.length c0_1]) (t := 25) ?hr ?_; (case hd => rfl); (case hg => rfl); (case hr => first | (go_simp; done) | (go_simp; rfl)); intro gb283 hg w90 hbox hb; have n0_ := Aside0.mk (below_step (zb0 HB.out) hb); have n1_ := Aside0.mk (hbox); have n2_ := Aside0.mk ((by rw [hg]; exact (below_size (zb0 HB.out)) : w.heap.size ≤ gb283)); have n3_ := Aside0.mk ((by rw [hg]; exact (below_size (zb0 HB.out)) : w.heap.size ≤ gb283)); clear HB; have HB := n0_; have BK283 := n1_; have GW283 := n2_; have GE283 := n3_; clear n0_ n1_ n2_ n3_; clear hb hbox hg) | ((with_reducible refine gate_dst (N := 5) rfl ?_); (try (refine gate_guard (by rfl) ?_; dsimp only)); refine box_event ?hg (N := 5) ?hd (cs := #[.int .i64 a2_0, .int .i64 a2_1]) (t := 43) ?hr ?_; (case hd => rfl); (case hg => rfl); (case hr => first | (go_simp; done) | (go_simp; rfl)); intro gb284 hg w91 hbox hb; have n0_ := Aside0.mk (blk_below (g := gb283) (o := .cells #[.slice A0_0 l0_0.length c0_0, .slice A0_1 l0_1.length c0_1] 25 (0, 0)) (zk BK283.out) hb); have n1_ := Aside0.mk (below_step (zb1 HB.out GE283.out) hb); have n2_ := Aside0.mk (hbox); have n3_ := Aside0.mk ((by rw [hg]; exact (below_size (zb1 HB.out GE283.out)) : w.heap.size ≤ gb284)); have n4_ := Aside0.mk ((by rw [hg]; exact (below_size (zb1 HB.out GE283.out)) : w.heap.size ≤ gb284)); have n5_ := Aside0.mk ((by rw [hg]; exact Nat.ne_of_lt (blk_lt (g := gb283) (o := .cells #[.slice A0_0 l0_0.length c0_0, .slice A0_1 l0_1.length c0_1] 25 (0, 0)) (zk BK283.out)) : gb283 ≠ gb284)); have n6_ := Aside0.mk ((by rw [hg]; exact Nat.ne_of_gt (blk_lt (g := gb283) (o := .cells #[.slice A0_0 l0_0.length c0_0, .slice A0_1 l0_1.length c0_1] 25 (0, 0)) (zk BK283.out)) : gb284 ≠ gb283)); clear BK283; clear HB; have BK283 := n0_; have HB := n1_; have BK284 := n2_; have GW284 := n3_; have GE284 := n4_; have NB283_284 := n5_; have NB284_283 := n6_; clear n0_ n1_ n2_ n3_ n4_ n5_ n6_; clear hb hbox hg) | (go_at_call 9; (with_reducible refine (stillagelaw09_awake.calls k  false _ A4.out).mono ?_); rintro e w92 ⟨rfl, hb⟩; have n0_ := Aside0.mk (blk_below (g := gb283) (o := .cells #[.slice A0_0 l0_0.length c0_0, .slice A0_1 l0_1.length c0_1] 25 (0, 0)) (zk BK283.out) hb); have n1_ := Aside0.mk (blk_below (g := gb284) (o := .cells #[.int .i64 a2_0, .int .i64 a2_1] 43 (0, 0)) (zk BK284.out) hb); have n2_ := Aside0.mk (below_step (zb2 HB.out GE283.out GE284.out) hb); clear BK283; clear BK284; clear HB; have BK283 := n0_; have BK284 := n1_; have HB := n2_; clear n0_ n1_ n2_; (try clear hb); (try clear hb2); (try clear hk); (try clear hi))))
  go_ret
  exact ⟨by first | rfl | (simp [errW_none, errW_some] <;> rfl) | (simp [*, errW_none, errW_some] <;> rfl), zb2 HB.out GE283.out GE284.out⟩

end Go.Proofs.Ytkdfohmceokchaa.PZoneJoined
