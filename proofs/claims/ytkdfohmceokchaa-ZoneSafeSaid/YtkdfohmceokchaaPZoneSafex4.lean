-- Written by a program of this session (wip/oprint): after the pattern of the kit's print, which does not take this law. -- trimmed
import Derived.Test.YtkdfohmceokchaaPZoneSafex0
import Derived.Test.YtkdfohmceokchaaPZoneSafex2
import Derived.Test.YtkdfohmceokchaaPZoneSafex3
namespace Go.Proofs.Ytkdfohmceokchaa.PZoneSafe
open Go.RowKit Go.Proofs.YtkdfohmceokchaaW.PrintWords Go.Proofs.YtkdfohmceokchaaW.PrintLast Go.Proofs.YtkdfohmceokchaaW.PrintMore
attribute [local go_sem] max2_int min2_int max_two min_two max_three min_three max_four min_four   -- for this text's walks alone
set_option linter.unusedVariables false
set_option linter.unusedSimpArgs false

/-! ### stillagelaw09_ZoneSafe: function 7 -/
mutual
def stillagelaw09_ZoneSafe.j0 : Nat → List Int → Bool → Int → Int → Int → Int → Int → Int → Int → Int → Option (Bool)
 | 0, _, _, _, _, _, _, _, _, _, _ => none
 | k + 1, x1, x21, x143000, x143001, x143002, x143003, x143004, x143005, x143006, x143007 => if x21 = true then ((stillagelaw09_awake.f k).bind fun t144 => (some t144)) else (if 0 ≤ (x1.length : Int) then (if ((x1.length : Int) : Int).toNat ≤ 8796093022208 then (stillagelaw09_ZoneSafe.l0 k x1 (List.replicate ((x1.length : Int) : Int).toNat z62) 0 x143000 x143001 x143002 x143003 x143004 x143005 x143006 x143007) else (none)) else (none))
def stillagelaw09_ZoneSafe.l0 : Nat → List Int → List (S62) → Int → Int → Int → Int → Int → Int → Int → Int → Int → Option (Bool)
 | 0, _, _, _, _, _, _, _, _, _, _, _ => none
 | k + 1, x1, x5, x27, x143000, x143001, x143002, x143003, x143004, x143005, x143006, x143007 => if x27 < 8 then (if 0 ≤ x27 then (if (x5.length : Int) > 0 then (if (rd [x143000, x143001, x143002, x143003, x143004, x143005, x143006, x143007] x27) ≥ 0 then (if (x5.length : Int) = 0 then (none) else (if 0 ≤ (Int.tmod (rd [x143000, x143001, x143002, x143003, x143004, x143005, x143006, x143007] x27) (x5.length : Int)) then (if (Int.tmod (rd [x143000, x143001, x143002, x143003, x143004, x143005, x143006, x143007] x27) (x5.length : Int)) < (x5.length : Int) then (if ((rd_T62 x5 (Int.tmod (rd [x143000, x143001, x143002, x143003, x143004, x143005, x143006, x143007] x27) (x5.length : Int))).f0).length < 17592186044416 then (stillagelaw09_ZoneSafe.l0 k x1 (x5.set ((Int.tmod (rd [x143000, x143001, x143002, x143003, x143004, x143005, x143006, x143007] x27) (x5.length : Int)) : Int).toNat (⟨(((rd_T62 x5 (Int.tmod (rd [x143000, x143001, x143002, x143003, x143004, x143005, x143006, x143007] x27) (x5.length : Int))).f0) ++ [x27]), (rd_T62 x5 (Int.tmod (rd [x143000, x143001, x143002, x143003, x143004, x143005, x143006, x143007] x27) (x5.length : Int))).f1⟩ : S62)) (wrap64 (x27 + 1)) x143000 x143001 x143002 x143003 x143004 x143005 x143006 x143007) else (none)) else (none)) else (none))) else (stillagelaw09_ZoneSafe.l0 k x1 x5 (wrap64 (x27 + 1)) x143000 x143001 x143002 x143003 x143004 x143005 x143006 x143007)) else (stillagelaw09_ZoneSafe.l0 k x1 x5 (wrap64 (x27 + 1)) x143000 x143001 x143002 x143003 x143004 x143005 x143006 x143007)) else (none)) else (stillagelaw09_ZoneSafe.l1 k x1 x5 (x5.length : Int) 0)
def stillagelaw09_ZoneSafe.l1 : Nat → List Int → List (S62) → Int → Int → Option (Bool)
 | 0, _, _, _, _ => none
 | k + 1, x1, x5, x56, x57 => if x57 < x56 then (if 0 ≤ x57 then (if x57 < (x5.length : Int) then (stillagelaw09_ZoneSafe.l2 k x1 x5 x57 0 x56 x57 ((rd_T62 x5 x57).f0) (((rd_T62 x5 x57).f0).length : Int) 0) else (none)) else (none)) else ((zone_Stuck.f k x5).bind fun bt153 => (if bt153.2 = 0 then (some ((bt153.1.length : Int) == 0)) else (some false)))
def stillagelaw09_ZoneSafe.l2 : Nat → List Int → List (S62) → Int → Int → Int → Int → List Int → Int → Int → Option (Bool)
 | 0, _, _, _, _, _, _, _, _, _ => none
 | k + 1, x1, x5, x9, x10, x56, x57, x64, x65, x66 => if x66 < x65 then (if 0 ≤ x66 then (if x66 < (x64.length : Int) then (stillagelaw09_ZoneSafe.l2 k x1 x5 x9 (mx x10 (wrap64 ((rd x64 x66) + 1))) x56 x57 x64 x65 (wrap64 (x66 + 1))) else (none)) else (none)) else (if 0 ≤ x9 then (if x9 < (x5.length : Int) then ((some (x5.set (x9 : Int).toNat (⟨(rd_T62 x5 x9).f0, (-1)⟩ : S62) : List (S62))).bind fun y159 => (if x10 < 8 then (if x9 < (x1.length : Int) then (if (rd x1 x9) ≥ 0 then (if (wrap64 (8 - x10)) = 0 then (none) else (stillagelaw09_ZoneSafe.l1 k x1 (y159.set (x9 : Int).toNat (⟨(rd_T62 y159 x9).f0, wrap64 (x10 + (Int.tmod (rd x1 x9) (wrap64 (8 - x10))))⟩ : S62)) x56 (wrap64 (x57 + 1)))) else (stillagelaw09_ZoneSafe.l1 k x1 y159 x56 (wrap64 (x57 + 1)))) else (none)) else (stillagelaw09_ZoneSafe.l1 k x1 y159 x56 (wrap64 (x57 + 1))))) else (none)) else (none))
end
def stillagelaw09_ZoneSafe.f (k : Nat) (a0_0 : Int) (a0_1 : Int) (a0_2 : Int) (a0_3 : Int) (a0_4 : Int) (a0_5 : Int) (a0_6 : Int) (a0_7 : Int) (l1 : List Int) : Option (Bool) := (stillagelaw09_awake.f k).bind fun t143 => (if t143 = true then (stillagelaw09_ZoneSafe.j0 k l1 (decide ((l1.length : Int) > 40)) a0_0 a0_1 a0_2 a0_3 a0_4 a0_5 a0_6 a0_7) else (stillagelaw09_ZoneSafe.j0 k l1 true a0_0 a0_1 a0_2 a0_3 a0_4 a0_5 a0_6 a0_7))
theorem stillagelaw09_ZoneSafe.mono_l : ∀ k, (∀ y0 y1 y2 y3 y4 y5 y6 y7 y8 y9, LeO (stillagelaw09_ZoneSafe.j0 k y0 y1 y2 y3 y4 y5 y6 y7 y8 y9) (stillagelaw09_ZoneSafe.j0 (k + 1) y0 y1 y2 y3 y4 y5 y6 y7 y8 y9)) ∧ (∀ y0 y1 y2 y3 y4 y5 y6 y7 y8 y9 y10, LeO (stillagelaw09_ZoneSafe.l0 k y0 y1 y2 y3 y4 y5 y6 y7 y8 y9 y10) (stillagelaw09_ZoneSafe.l0 (k + 1) y0 y1 y2 y3 y4 y5 y6 y7 y8 y9 y10)) ∧ (∀ y0 y1 y2 y3, LeO (stillagelaw09_ZoneSafe.l1 k y0 y1 y2 y3) (stillagelaw09_ZoneSafe.l1 (k + 1) y0 y1 y2 y3)) ∧ (∀ y0 y1 y2 y3 y4 y5 y6 y7 y8, LeO (stillagelaw09_ZoneSafe.l2 k y0 y1 y2 y3 y4 y5 y6 y7 y8) (stillagelaw09_ZoneSafe.l2 (k + 1) y0 y1 y2 y3 y4 y5 y6 y7 y8))
 | 0 => ⟨fun _ _ _ _ _ _ _ _ _ _ r h => by simp [stillagelaw09_ZoneSafe.j0] at h, fun _ _ _ _ _ _ _ _ _ _ _ r h => by simp [stillagelaw09_ZoneSafe.l0] at h, fun _ _ _ _ r h => by simp [stillagelaw09_ZoneSafe.l1] at h, fun _ _ _ _ _ _ _ _ _ r h => by simp [stillagelaw09_ZoneSafe.l2] at h⟩
 | k + 1 => by
  obtain ⟨ih0, ih1, ih2, ih3⟩ := stillagelaw09_ZoneSafe.mono_l k
  refine ⟨?_, ?_, ?_, ?_⟩
  ·intro y0 y1 y2 y3 y4 y5 y6 y7 y8 y9
   unfold stillagelaw09_ZoneSafe.j0
   repeat' first
   | (with_reducible exact ih0 _ _ _ _ _ _ _ _ _ _)
   | (with_reducible exact ih1 _ _ _ _ _ _ _ _ _ _ _)
   | (with_reducible exact ih2 _ _ _ _)
   | (with_reducible exact ih3 _ _ _ _ _ _ _ _ _)
   | (with_reducible exact stillagelaw09_awake.mono _)
   | (with_reducible exact zone_Stuck.mono _ _)
   | (with_reducible exact LeO.refl _)
   | (with_reducible exact LeO.none _)
   | (with_reducible refine LeO.ite ?_ ?_)
   | (with_reducible refine LeO.bind ?_ (fun _ => ?_))
   | exact ih0 _ _ _ _ _ _ _ _ _ _
   | exact ih1 _ _ _ _ _ _ _ _ _ _ _
   | exact ih2 _ _ _ _
   | exact ih3 _ _ _ _ _ _ _ _ _
   | exact stillagelaw09_awake.mono _
   | exact zone_Stuck.mono _ _
   | exact LeO.none _
   | refine LeO.ite ?_ ?_
   | refine LeO.bind ?_ (fun _ => ?_)
  ·intro y0 y1 y2 y3 y4 y5 y6 y7 y8 y9 y10
   unfold stillagelaw09_ZoneSafe.l0
   repeat' first
   | (with_reducible exact ih0 _ _ _ _ _ _ _ _ _ _)
   | (with_reducible exact ih1 _ _ _ _ _ _ _ _ _ _ _)
   | (with_reducible exact ih2 _ _ _ _)
   | (with_reducible exact ih3 _ _ _ _ _ _ _ _ _)
   | (with_reducible exact stillagelaw09_awake.mono _)
   | (with_reducible exact zone_Stuck.mono _ _)
   | (with_reducible exact LeO.refl _)
   | (with_reducible exact LeO.none _)
   | (with_reducible refine LeO.ite ?_ ?_)
   | (with_reducible refine LeO.bind ?_ (fun _ => ?_))
   | exact ih0 _ _ _ _ _ _ _ _ _ _
   | exact ih1 _ _ _ _ _ _ _ _ _ _ _
   | exact ih2 _ _ _ _
   | exact ih3 _ _ _ _ _ _ _ _ _
   | exact stillagelaw09_awake.mono _
   | exact zone_Stuck.mono _ _
   | exact LeO.none _
   | refine LeO.ite ?_ ?_
   | refine LeO.bind ?_ (fun _ => ?_)
  ·intro y0 y1 y2 y3
   unfold stillagelaw09_ZoneSafe.l1
   repeat' first
   | (with_reducible exact ih0 _ _ _ _ _ _ _ _ _ _)
   | (with_reducible exact ih1 _ _ _ _ _ _ _ _ _ _ _)
   | (with_reducible exact ih2 _ _ _ _)
   | (with_reducible exact ih3 _ _ _ _ _ _ _ _ _)
   | (with_reducible exact stillagelaw09_awake.mono _)
   | (with_reducible exact zone_Stuck.mono _ _)
   | (with_reducible exact LeO.refl _)
   | (with_reducible exact LeO.none _)
   | (with_reducible refine LeO.ite ?_ ?_)
   | (with_reducible refine LeO.bind ?_ (fun _ => ?_))
   | exact ih0 _ _ _ _ _ _ _ _ _ _
   | exact ih1 _ _ _ _ _ _ _ _ _ _ _
   | exact ih2 _ _ _ _
   | exact ih3 _ _ _ _ _ _ _ _ _
   | exact stillagelaw09_awake.mono _
   | exact zone_Stuck.mono _ _
   | exact LeO.none _
   | refine LeO.ite ?_ ?_
   | refine LeO.bind ?_ (fun _ => ?_)
  ·intro y0 y1 y2 y3 y4 y5 y6 y7 y8
   unfold stillagelaw09_ZoneSafe.l2
   repeat' first
   | (with_reducible exact ih0 _ _ _ _ _ _ _ _ _ _)
   | (with_reducible exact ih1 _ _ _ _ _ _ _ _ _ _ _)
   | (with_reducible exact ih2 _ _ _ _)
   | (with_reducible exact ih3 _ _ _ _ _ _ _ _ _)
   | (with_reducible exact stillagelaw09_awake.mono _)
   | (with_reducible exact zone_Stuck.mono _ _)
   | (with_reducible exact LeO.refl _)
   | (with_reducible exact LeO.none _)
   | (with_reducible refine LeO.ite ?_ ?_)
   | (with_reducible refine LeO.bind ?_ (fun _ => ?_))
   | exact ih0 _ _ _ _ _ _ _ _ _ _
   | exact ih1 _ _ _ _ _ _ _ _ _ _ _
   | exact ih2 _ _ _ _
   | exact ih3 _ _ _ _ _ _ _ _ _
   | exact stillagelaw09_awake.mono _
   | exact zone_Stuck.mono _ _
   | exact LeO.none _
   | refine LeO.ite ?_ ?_
   | refine LeO.bind ?_ (fun _ => ?_)
theorem stillagelaw09_ZoneSafe.mono : ∀ a0 a1 a2 a3 a4 a5 a6 a7 a8 k, LeO (stillagelaw09_ZoneSafe.f k a0 a1 a2 a3 a4 a5 a6 a7 a8) (stillagelaw09_ZoneSafe.f (k + 1) a0 a1 a2 a3 a4 a5 a6 a7 a8) := by
 intro a0 a1 a2 a3 a4 a5 a6 a7 a8 k
 obtain ⟨ih0, ih1, ih2, ih3⟩ := stillagelaw09_ZoneSafe.mono_l k
 unfold stillagelaw09_ZoneSafe.f
 repeat' first
   | (with_reducible exact ih0 _ _ _ _ _ _ _ _ _ _)
   | (with_reducible exact ih1 _ _ _ _ _ _ _ _ _ _ _)
   | (with_reducible exact ih2 _ _ _ _)
   | (with_reducible exact ih3 _ _ _ _ _ _ _ _ _)
   | (with_reducible exact stillagelaw09_awake.mono _)
   | (with_reducible exact zone_Stuck.mono _ _)
   | (with_reducible exact LeO.refl _)
   | (with_reducible exact LeO.none _)
   | (with_reducible refine LeO.ite ?_ ?_)
   | (with_reducible refine LeO.bind ?_ (fun _ => ?_))
   | exact ih0 _ _ _ _ _ _ _ _ _ _
   | exact ih1 _ _ _ _ _ _ _ _ _ _ _
   | exact ih2 _ _ _ _
   | exact ih3 _ _ _ _ _ _ _ _ _
   | exact stillagelaw09_awake.mono _
   | exact zone_Stuck.mono _ _
   | exact LeO.none _
   | refine LeO.ite ?_ ?_
   | refine LeO.bind ?_ (fun _ => ?_)
set_option maxHeartbeats 8000000 in
set_option maxRecDepth 100000 in
theorem stillagelaw09_ZoneSafe.calls (k : Nat) (a0_0 : Int) (a0_1 : Int) (a0_2 : Int) (a0_3 : Int) (a0_4 : Int) (a0_5 : Int) (a0_6 : Int) (a0_7 : Int) (A1 : Option Addr) (c1 : Nat) (l1 : List Int) (r : Bool) (w : World) (hr1 : Kd.C (Kd.int .i64) w A1 l1.length l1) (hc1 : l1.length ≤ c1) (h : stillagelaw09_ZoneSafe.f k a0_0 a0_1 a0_2 a0_3 a0_4 a0_5 a0_6 a0_7 l1 = some r) :
  Calls Try.prog 7 #[.agg #[.int .i64 a0_0, .int .i64 a0_1, .int .i64 a0_2, .int .i64 a0_3, .int .i64 a0_4, .int .i64 a0_5, .int .i64 a0_6, .int .i64 a0_7], .slice A1 l1.length c1] w fun e w' => e = .returned (.bool r) ∧ Below w.heap.size w w' := by
 have hu60 := Try.underlying60
 have HR1 := Aside0.mk hr1
 have HC1 := Aside0.mk hc1
 clear hr1 hc1
 have HB := Aside0.mk (Below.refl w.heap.size w)
 have H : ((stillagelaw09_awake.f k).bind fun t143 => (if t143 = true then (stillagelaw09_ZoneSafe.j0 k l1 (decide ((l1.length : Int) > 40)) a0_0 a0_1 a0_2 a0_3 a0_4 a0_5 a0_6 a0_7) else (stillagelaw09_ZoneSafe.j0 k l1 true a0_0 a0_1 a0_2 a0_3 a0_4 a0_5 a0_6 a0_7))) = some r := h
 clear h
 have HC3 := Aside0.mk H
 clear H
 go_enter Try.func7, Try.ntmps7
 go_upto_region 1 with (first | ((with_reducible refine gate_dst (N := 2) rfl ?_); (try (refine gate_guard (by rfl) ?_; dsimp only)); refine box_event ?hg (N := 2) ?hd (cs := #[.int .i64 a0_0, .int .i64 a0_1, .int .i64 a0_2, .int .i64 a0_3, .int .i64 a0_4, .int .i64 a0_5, .int .i64 a0_6, .int .i64 a0_7]) (t := 60) ?hr ?_; (case hd => rfl); (case hg => rfl); (case hr => first | (go_simp; done) | (go_simp; rfl)); intro gb142 hg w4 hbox hb; have n0_ := Aside0.mk (below_step (by repeat (first | (with_reducible first | exact HB.out | apply below_alloc | apply pw_below_drewN | apply below_drew1) | exact HB.out)) hb); have n1_ := Aside0.mk (hbox); have n2_ := Aside0.mk ((by rw [hg]; exact (below_size (by repeat (first | (with_reducible first | exact HB.out | apply below_alloc | apply pw_below_drewN | apply below_drew1) | exact HB.out))) : w.heap.size ≤ gb142)); have n3_ := Aside0.mk ((by rw [hg]; exact (below_size (by repeat (first | (with_reducible first | exact HB.out | apply below_alloc | apply pw_below_drewN | apply below_drew1) | exact HB.out))) : w.heap.size ≤ gb142)); clear HB; have HB := n0_; have BK142 := n1_; have GW142 := n2_; have GE142 := n3_; clear n0_ n1_ n2_ n3_; clear hb hbox hg))
 (try simp only [Act.put, List.setIfInBounds_toArray, List.set_cons_zero, List.set_cons_succ])
 go_cut [21] (fun v21 wc => ∃ (kq : Nat) (x21_2 : Bool), v21 = .bool x21_2 ∧ Aside0 (stillagelaw09_ZoneSafe.j0 kq l1 x21_2 a0_0 a0_1 a0_2 a0_3 a0_4 a0_5 a0_6 a0_7 = some r) ∧ Aside0 (kq ≤ k) ∧ Aside0 (wc.heap[gb142]? = some (.cells #[.int .i64 a0_0, .int .i64 a0_1, .int .i64 a0_2, .int .i64 a0_3, .int .i64 a0_4, .int .i64 a0_5, .int .i64 a0_6, .int .i64 a0_7] 60 (0, 0))) ∧ Aside0 (Below w.heap.size w wc))
 case first =>
  have H := HC3.out
  clear HC3
  replace H := Option.bind_eq_some_iff.mp H
  obtain ⟨t143, A50, H⟩ := H
  replace H : (if t143 = true then (stillagelaw09_ZoneSafe.j0 k l1 (decide ((l1.length : Int) > 40)) a0_0 a0_1 a0_2 a0_3 a0_4 a0_5 a0_6 a0_7) else (stillagelaw09_ZoneSafe.j0 k l1 true a0_0 a0_1 a0_2 a0_3 a0_4 a0_5 a0_6 a0_7)) = some r := H
  have A5 := Aside0.mk A50
  clear A50
  by_cases c6 : t143 = true
  ·subst c6
   have H1 : (stillagelaw09_ZoneSafe.j0 k l1 (decide ((l1.length : Int) > 40)) a0_0 a0_1 a0_2 a0_3 a0_4 a0_5 a0_6 a0_7) = some r := by rw [if_pos rfl] at H; exact H
   clear H
   have H := H1
   clear H1
   have H' := Aside0.mk H
   clear H
   go_wp2_with (first | ((with_reducible refine gate_callee (f := 9) rfl ?_); refine goesL_ (some 15) rfl rfl Try.func9 (by kernel_rfl) rfl #[] rfl (by (try simp only [List.map_toArray, List.map_cons, List.map_nil]); first | done | rfl | (simp only [List.length_drop, List.length_take]; rfl)) ?_; (with_reducible refine (stillagelaw09_awake.calls k  true _ A5.out).mono ?_); rintro e w7 ⟨rfl, hb⟩; refine ⟨_, rfl, ?_⟩; have n0_ := Aside0.mk (blk_below (g := gb142) (o := .cells #[.int .i64 a0_0, .int .i64 a0_1, .int .i64 a0_2, .int .i64 a0_3, .int .i64 a0_4, .int .i64 a0_5, .int .i64 a0_6, .int .i64 a0_7] 60 (0, 0)) (by (with_reducible repeat (first | refine blk_drewN ?_ _ | refine blk_drew ?_ | refine blk_alloc ?_ _)); exact BK142.out) hb); have n1_ := Aside0.mk (below_step (by repeat (first | (with_reducible first | exact HB.out | apply below_alloc | apply pw_below_drewN | apply below_drew1 | refine below_set ?_ GE142.out) | exact HB.out)) hb); clear BK142; clear HB; have BK142 := n0_; have HB := n1_; clear n0_ n1_; (try clear hb); (try clear hb2); (try clear hk); (try clear hi)))
   go_meet
   case rel => exact ⟨_, (decide ((l1.length : Int) > 40)), (by first | rfl | (simp; done) | (simp [*]; done)), H', ⟨by first | omega | exact Nat.le_refl _⟩, ⟨by (with_reducible repeat (first | refine blk_drewN ?_ _ | refine blk_drew ?_ | refine blk_alloc ?_ _)); exact BK142.out⟩, ⟨by repeat (first | (with_reducible first | exact HB.out | apply below_alloc | apply pw_below_drewN | apply below_drew1 | refine below_set ?_ GE142.out) | exact HB.out)⟩⟩
  ·replace c6 := Bool.eq_false_iff.mpr c6
   subst c6
   have H1 : (stillagelaw09_ZoneSafe.j0 k l1 true a0_0 a0_1 a0_2 a0_3 a0_4 a0_5 a0_6 a0_7) = some r := by rw [if_neg (show ¬ (false = true) by decide)] at H; exact H
   clear H
   have H := H1
   clear H1
   have H' := Aside0.mk H
   clear H
   go_wp2_with (first | ((with_reducible refine gate_callee (f := 9) rfl ?_); refine goesL_ (some 15) rfl rfl Try.func9 (by kernel_rfl) rfl #[] rfl (by (try simp only [List.map_toArray, List.map_cons, List.map_nil]); first | done | rfl | (simp only [List.length_drop, List.length_take]; rfl)) ?_; (with_reducible refine (stillagelaw09_awake.calls k  false _ A5.out).mono ?_); rintro e w8 ⟨rfl, hb⟩; refine ⟨_, rfl, ?_⟩; have n0_ := Aside0.mk (blk_below (g := gb142) (o := .cells #[.int .i64 a0_0, .int .i64 a0_1, .int .i64 a0_2, .int .i64 a0_3, .int .i64 a0_4, .int .i64 a0_5, .int .i64 a0_6, .int .i64 a0_7] 60 (0, 0)) (by (with_reducible repeat (first | refine blk_drewN ?_ _ | refine blk_drew ?_ | refine blk_alloc ?_ _)); exact BK142.out) hb); have n1_ := Aside0.mk (below_step (by repeat (first | (with_reducible first | exact HB.out | apply below_alloc | apply pw_below_drewN | apply below_drew1 | refine below_set ?_ GE142.out) | exact HB.out)) hb); clear BK142; clear HB; have BK142 := n0_; have HB := n1_; clear n0_ n1_; (try clear hb); (try clear hb2); (try clear hk); (try clear hi)))
   go_meet
   case rel => exact ⟨_, (true), (by first | rfl | (simp; done) | (simp [*]; done)), H', ⟨by first | omega | exact Nat.le_refl _⟩, ⟨by (with_reducible repeat (first | refine blk_drewN ?_ _ | refine blk_drew ?_ | refine blk_alloc ?_ _)); exact BK142.out⟩, ⟨by repeat (first | (with_reducible first | exact HB.out | apply below_alloc | apply pw_below_drewN | apply below_drew1 | refine below_set ?_ GE142.out) | exact HB.out)⟩⟩
 case rest =>
  clear HC3
  try clear c1
  try clear p2
  try clear c6
  try clear c7
  obtain ⟨kq, x21_2, rfl, HA, HJ2, BK142, HB⟩ := hcut
  cases kq with
  | zero => exact absurd HA.out (by simp [stillagelaw09_ZoneSafe.j0])
  | succ kj2 =>
   have H := HA.out
   clear HA
   simp only [stillagelaw09_ZoneSafe.j0] at H
   by_cases c9 : x21_2 = true
   ·subst c9
    have H1 : ((stillagelaw09_awake.f kj2).bind fun t144 => (some t144)) = some r := by rw [if_pos rfl] at H; exact H
    clear H
    have H := H1
    clear H1
    replace H := Option.bind_eq_some_iff.mp H
    obtain ⟨t144, A100, H⟩ := H
    replace H : (some t144) = some r := H
    have A10 := Aside0.mk A100
    clear A100
    obtain rfl := Option.some.inj H
    go_wp2_with (first | ((with_reducible refine gate_callee (f := 9) rfl ?_); refine goesL_ (some 22) rfl rfl Try.func9 (by kernel_rfl) rfl #[] rfl (by (try simp only [List.map_toArray, List.map_cons, List.map_nil]); first | done | rfl | (simp only [List.length_drop, List.length_take]; rfl)) ?_; (with_reducible refine (stillagelaw09_awake.calls kj2  t144 _ A10.out).mono ?_); rintro e w11 ⟨rfl, hb⟩; refine ⟨_, rfl, ?_⟩; have n0_ := Aside0.mk (blk_below (g := gb142) (o := .cells #[.int .i64 a0_0, .int .i64 a0_1, .int .i64 a0_2, .int .i64 a0_3, .int .i64 a0_4, .int .i64 a0_5, .int .i64 a0_6, .int .i64 a0_7] 60 (0, 0)) (by (with_reducible repeat (first | refine blk_drewN ?_ _ | refine blk_drew ?_ | refine blk_alloc ?_ _)); exact BK142.out) hb); have n1_ := Aside0.mk (below_step (by repeat (first | (with_reducible first | exact HB.out | apply below_alloc | apply pw_below_drewN | apply below_drew1 | refine below_set ?_ GE142.out) | exact HB.out)) hb); clear BK142; clear HB; have BK142 := n0_; have HB := n1_; clear n0_ n1_; (try clear hb); (try clear hb2); (try clear hk); (try clear hi)))
    go_ret
    exact ⟨by first | rfl | (simp [errW_none, errW_some] <;> rfl) | (simp [*, errW_none, errW_some] <;> rfl), by repeat (first | (with_reducible first | exact HB.out | apply below_alloc | apply pw_below_drewN | apply below_drew1 | refine below_set ?_ GE142.out) | exact HB.out)⟩
   ·replace c9 := Bool.eq_false_iff.mpr c9
    subst c9
    have H1 : (if 0 ≤ (l1.length : Int) then (if ((l1.length : Int) : Int).toNat ≤ 8796093022208 then (stillagelaw09_ZoneSafe.l0 kj2 l1 (List.replicate ((l1.length : Int) : Int).toNat z62) 0 a0_0 a0_1 a0_2 a0_3 a0_4 a0_5 a0_6 a0_7) else (none)) else (none)) = some r := by rw [if_neg (show ¬ (false = true) by decide)] at H; exact H
    clear H
    have H := H1
    clear H1
    by_cases c12 : 0 ≤ (l1.length : Int)
    ·rw [if_pos c12] at H
     have c12b0 := eq_true c12
     have c12b1 : decide (0 ≤ (l1.length : Int)) = true := decide_eq_true c12
     clear c12
     by_cases c13 : ((l1.length : Int) : Int).toNat ≤ 8796093022208
     ·rw [if_pos c13] at H
      have c13b0 := eq_true c13
      have c13b1 : decide (((l1.length : Int) : Int).toNat ≤ 8796093022208) = true := decide_eq_true c13
      clear c13
      obtain ⟨y145, hy145⟩ : ∃ y_ : List (S62), y_ = (List.replicate ((l1.length : Int) : Int).toNat z62) := ⟨_, rfl⟩
      replace H : (stillagelaw09_ZoneSafe.l0 kj2 l1 y145 0 a0_0 a0_1 a0_2 a0_3 a0_4 a0_5 a0_6 a0_7) = some r := by first | (rw [hy145]; with_reducible exact H) | (have H2_ := (Option.bind_some _ _).symm.trans H; rw [hy145]; with_reducible exact H2_) | (have H2_ := (Option.bind_some _ _).symm.trans H; with_reducible exact H2_) | with_reducible exact H | (rw [hy145]; exact H) | exact H
      have Ny145 := Aside0.mk hy145
      clear hy145
      have H' := Aside0.mk H
      clear H
      go_wp2_with (first | ((with_reducible refine gate_dst (N := 25) rfl ?_); (try (refine gate_guard (by rfl) ?_; dsimp only)); refine Kd.S_make k62 _ 62 rfl (N := 25) rfl 52 _ _ rfl (l1.length : Int) rfl rfl Try.underlying52 (.agg #[(.slice none 0 0), (.int .i64 0)]) 32 info62 rfl (by decide) (by omega) z62 (ok := fun _ => True) (okp := fun _ => True) (k62_mkM _ _ _ z62 (Kd.R_nil _ _ _ _ _)) (fun _ hk => hk) trivial (of_decide_eq_true (by first | (with_reducible assumption) | assumption)) (Nat.le_trans (Nat.mul_le_mul_right _ (of_decide_eq_true (by first | (with_reducible assumption) | assumption) : (l1.length : Int).toNat ≤ 8796093022208)) (by omega)) (Below.refl _ _) (Nat.le_refl _) ?_; intro v146 w14 ho15 hb hg_ hnew_; clear hg_ hnew_; (first | rw [← Ny145.out] at ho15 | (simp only [Int.reduceToNat] at ho15; rw [← Ny145.out] at ho15)); have n0_ := Aside0.mk (Kd.S_lower ho15 (below_size (by repeat (first | (with_reducible first | exact HB.out | apply below_alloc | apply pw_below_drewN | apply below_drew1 | refine below_set ?_ GE142.out) | exact HB.out)))); have n1_ := Aside0.mk (blk_below (g := gb142) (o := .cells #[.int .i64 a0_0, .int .i64 a0_1, .int .i64 a0_2, .int .i64 a0_3, .int .i64 a0_4, .int .i64 a0_5, .int .i64 a0_6, .int .i64 a0_7] 60 (0, 0)) (by (with_reducible repeat (first | refine blk_drewN ?_ _ | refine blk_drew ?_ | refine blk_alloc ?_ _)); exact BK142.out) hb); have n2_ := Aside0.mk (below_step (by repeat (first | (with_reducible first | exact HB.out | apply below_alloc | apply pw_below_drewN | apply below_drew1 | refine below_set ?_ GE142.out) | exact HB.out)) hb); clear BK142; clear HB; have HO147 := n0_; have BK142 := n1_; have HB := n2_; clear n0_ n1_ n2_; clear hb ho15; have hcz16_0 : w14.cell? ⟨gb142, 0, none⟩ = some (.int .i64 a0_0) := (blk_cell BK142.out 0).trans rfl; have hcz16_1 : w14.cell? ⟨gb142, 1, none⟩ = some (.int .i64 a0_1) := (blk_cell BK142.out 1).trans rfl; have hcz16_2 : w14.cell? ⟨gb142, 2, none⟩ = some (.int .i64 a0_2) := (blk_cell BK142.out 2).trans rfl; have hcz16_3 : w14.cell? ⟨gb142, 3, none⟩ = some (.int .i64 a0_3) := (blk_cell BK142.out 3).trans rfl; have hcz16_4 : w14.cell? ⟨gb142, 4, none⟩ = some (.int .i64 a0_4) := (blk_cell BK142.out 4).trans rfl; have hcz16_5 : w14.cell? ⟨gb142, 5, none⟩ = some (.int .i64 a0_5) := (blk_cell BK142.out 5).trans rfl; have hcz16_6 : w14.cell? ⟨gb142, 6, none⟩ = some (.int .i64 a0_6) := (blk_cell BK142.out 6).trans rfl; have hcz16_7 : w14.cell? ⟨gb142, 7, none⟩ = some (.int .i64 a0_7) := (blk_cell BK142.out 7).trans rfl; have hfz16_0 := blk_frozen BK142.out 0; have hfz16_1 := blk_frozen BK142.out 1; have hfz16_2 := blk_frozen BK142.out 2; have hfz16_3 := blk_frozen BK142.out 3; have hfz16_4 := blk_frozen BK142.out 4; have hfz16_5 := blk_frozen BK142.out 5; have hfz16_6 := blk_frozen BK142.out 6; have hfz16_7 := blk_frozen BK142.out 7))
      go_loopg [27] kj2 (fun kq v27 w' => ∃ (x5_2 : List (S62)) (x27_2 : Int), v27 = .int .i64 x27_2 ∧ Aside0 (stillagelaw09_ZoneSafe.l0 kq l1 x5_2 x27_2 a0_0 a0_1 a0_2 a0_3 a0_4 a0_5 a0_6 a0_7 = some r) ∧ Aside0 (kq ≤ kj2) ∧ Aside0 (Kd.S k62 62 w' w.heap.size (fun _ => True) v146 x5_2) ∧ Aside0 (w'.heap[gb142]? = some (.cells #[.int .i64 a0_0, .int .i64 a0_1, .int .i64 a0_2, .int .i64 a0_3, .int .i64 a0_4, .int .i64 a0_5, .int .i64 a0_6, .int .i64 a0_7] 60 (0, 0))) ∧ Aside0 (Below w.heap.size w w'))
      case atStart => exact ⟨(y145), (0), (by first | rfl | (simp; done) | (simp [*]; done)), H', ⟨Nat.le_refl _⟩, ⟨by (with_reducible repeat (first | apply Kd.S_alloc | apply Kd.S_drewN | apply Kd.S_drew)); exact HO147.out⟩, ⟨by (with_reducible repeat (first | refine blk_drewN ?_ _ | refine blk_drew ?_ | refine blk_alloc ?_ _)); exact BK142.out⟩, ⟨by repeat (first | (with_reducible first | exact HB.out | apply below_alloc | apply pw_below_drewN | apply below_drew1 | refine below_set ?_ GE142.out) | exact HB.out)⟩⟩
      case round =>
       clear H'
       try clear c1
       try clear p2
       try clear c6
       try clear c7
       try clear c9
       try clear c12
       try clear c12b0
       try clear c12b1
       try clear c13
       try clear c13b0
       try clear c13b1
       try clear hcz16_0
       try clear hcz16_1
       try clear hcz16_2
       try clear hcz16_3
       try clear hcz16_4
       try clear hcz16_5
       try clear hcz16_6
       try clear hcz16_7
       try clear hfz16_0
       try clear hfz16_1
       try clear hfz16_2
       try clear hfz16_3
       try clear hfz16_4
       try clear hfz16_5
       try clear hfz16_6
       try clear hfz16_7
       try clear p2
       obtain ⟨x5_2, x27_2, rfl, HA, HK2, HO_5, BK142, HB⟩ := hrel
       cases gk with
       | zero => exact absurd HA.out (by simp [stillagelaw09_ZoneSafe.l0])
       | succ k2 =>
        have H := HA.out
        clear HA
        simp only [stillagelaw09_ZoneSafe.l0] at H
        by_cases c17 : x27_2 < 8
        ·rw [if_pos c17] at H
         have c17b0 : decide (x27_2 < 8) = true := decide_eq_true c17
         clear c17
         by_cases c18 : 0 ≤ x27_2
         ·rw [if_pos c18] at H
          have c18b0 : decide (0 ≤ x27_2) = true := decide_eq_true c18
          clear c18
          by_cases c19 : (x5_2.length : Int) > 0
          ·rw [if_pos c19] at H
           have c19b0 : decide (0 < (x5_2.length : Int)) = true := decide_eq_true c19
           have c19b1 : decide (0 < x5_2.length) = true := decide_eq_true (by omega)
           clear c19
           by_cases c20 : (rd [a0_0, a0_1, a0_2, a0_3, a0_4, a0_5, a0_6, a0_7] x27_2) ≥ 0
           ·rw [if_pos c20] at H
            have c20b0 : decide (0 ≤ (rd [a0_0, a0_1, a0_2, a0_3, a0_4, a0_5, a0_6, a0_7] x27_2)) = true := decide_eq_true c20
            clear c20
            by_cases c21 : (x5_2.length : Int) = 0
            ·rw [if_pos c21] at H
             exact absurd H (by simp)
            ·rw [if_neg c21] at H
             have c21b0 : ((x5_2.length : Int) == 0) = false := beq_eq_false_iff_ne.mpr c21
             have c21b1 : ((x5_2.length : Int) != 0) = true := bne_iff_ne.mpr c21
             have c21b2 : ¬ (x5_2 = []) := fun h_ => c21 (by rw [h_]; rfl)
             obtain ⟨ji22, hji22⟩ : ∃ j_ : Int, (Int.tmod (rd [a0_0, a0_1, a0_2, a0_3, a0_4, a0_5, a0_6, a0_7] x27_2) (x5_2.length : Int)) = j_ := ⟨_, rfl⟩
             replace H : (if 0 ≤ (ji22) then (if (ji22) < (x5_2.length : Int) then (if ((rd_T62 x5_2 (ji22)).f0).length < 17592186044416 then (stillagelaw09_ZoneSafe.l0 k2 l1 (x5_2.set ((ji22) : Int).toNat (⟨(((rd_T62 x5_2 (ji22)).f0) ++ [x27_2]), (rd_T62 x5_2 (ji22)).f1⟩ : S62)) (wrap64 (x27_2 + 1)) a0_0 a0_1 a0_2 a0_3 a0_4 a0_5 a0_6 a0_7) else (none)) else (none)) else (none)) = some r := by first | (rw [hji22] at H; exact H) | (simp only [hji22] at H ⊢; exact H)
             by_cases c23 : 0 ≤ (ji22)
             ·rw [if_pos c23] at H
              have c23b0 : decide (0 ≤ (ji22)) = true := decide_eq_true c23
              clear c23
              by_cases c24 : (ji22) < (x5_2.length : Int)
              ·rw [if_pos c24] at H
               have c24b0 : decide ((ji22) < (x5_2.length : Int)) = true := decide_eq_true c24
               clear c24
               by_cases c25 : ((rd_T62 x5_2 (ji22)).f0).length < 17592186044416
               ·rw [if_pos c25] at H
                have LMc25 := Aside0.mk c25
                clear c25
                obtain ⟨y149, hy149⟩ : ∃ y_ : List Int, y_ = (((rd_T62 x5_2 (ji22)).f0) ++ [x27_2]) := ⟨_, rfl⟩
                replace H : (stillagelaw09_ZoneSafe.l0 k2 l1 (x5_2.set ((ji22) : Int).toNat (⟨y149, (rd_T62 x5_2 (ji22)).f1⟩ : S62)) (wrap64 (x27_2 + 1)) a0_0 a0_1 a0_2 a0_3 a0_4 a0_5 a0_6 a0_7) = some r := by first | (rw [hy149]; with_reducible exact H) | (have H2_ := (Option.bind_some _ _).symm.trans H; rw [hy149]; with_reducible exact H2_) | (have H2_ := (Option.bind_some _ _).symm.trans H; with_reducible exact H2_) | with_reducible exact H | (rw [hy149]; exact H) | exact H
                have Ny149 := Aside0.mk hy149
                clear hy149
                obtain ⟨y152, hy152⟩ : ∃ y_ : List (S62), y_ = (x5_2.set ((ji22) : Int).toNat (⟨y149, (rd_T62 x5_2 (ji22)).f1⟩ : S62)) := ⟨_, rfl⟩
                replace H : (stillagelaw09_ZoneSafe.l0 k2 l1 y152 (wrap64 (x27_2 + 1)) a0_0 a0_1 a0_2 a0_3 a0_4 a0_5 a0_6 a0_7) = some r := by first | (rw [hy152]; with_reducible exact H) | (have H2_ := (Option.bind_some _ _).symm.trans H; rw [hy152]; with_reducible exact H2_) | (have H2_ := (Option.bind_some _ _).symm.trans H; with_reducible exact H2_) | with_reducible exact H | (rw [hy152]; exact H) | exact H
                have Ny152 := Aside0.mk hy152
                clear hy152
                have H' := Aside0.mk H
                clear H
                have hia27 : ∀ w : World, (Instr.index 60 (.agg #[.int .i64 a0_0, .int .i64 a0_1, .int .i64 a0_2, .int .i64 a0_3, .int .i64 a0_4, .int .i64 a0_5, .int .i64 a0_6, .int .i64 a0_7]) (.int .i64 x27_2)).run Try.prog w = .ok (.int .i64 (rd [a0_0, a0_1, a0_2, a0_3, a0_4, a0_5, a0_6, a0_7] x27_2)) w := by have h0_ : 0 ≤ (x27_2 : Int) := of_decide_eq_true (by first | (with_reducible assumption) | assumption); have h1_ : (x27_2 : Int) < 8 := of_decide_eq_true (by first | (with_reducible assumption) | assumption); intro w_; rcases (show x27_2 = 0 ∨ x27_2 = 1 ∨ x27_2 = 2 ∨ x27_2 = 3 ∨ x27_2 = 4 ∨ x27_2 = 5 ∨ x27_2 = 6 ∨ x27_2 = 7 by omega) with h_ | h_ | h_ | h_ | h_ | h_ | h_ | h_ <;> rw [h_] <;> kernel_rfl
                obtain ⟨Ao28, co28, eo28⟩ := Kd.S_slice HO_5.out
                subst eo28
                have p148 : 0 ≤ ((ji22) : Int) := of_decide_eq_true (by first | (with_reducible assumption) | assumption)
                have q148 : (ji22) < (x5_2.length : Int) := of_decide_eq_true (by first | (with_reducible assumption) | assumption)
                obtain ⟨ad148, A148_0, c148_0, e148, hx148_0, hx148_1, hl148_0, hi148_0⟩ := at_T62 (Kd.S_reads' HO_5.out).2.2 (ji22) p148 q148
                cases e148
                obtain ⟨ce148, hce148, hMe148, hcc148⟩ := Kd.S_get HO_5.out z62 (ji22) p148 (by first | exact q148 | exact of_decide_eq_true (by first | (with_reducible assumption) | assumption) | (have e_ := (Kd.S_reads' HO_5.out).1; omega))
                obtain ⟨ve148_0, rfl, ge148_0⟩ := k62_openM hMe148
                have hv148_0 := hcc148 0 _ rfl
                rw [Nat.add_zero] at hv148_0
                replace hv148_0 := Option.some.inj (hv148_0.symm.trans hx148_0)
                rw [hv148_0] at ge148_0
                have HL148_0 := Aside0.mk (show Kd.R (Kd.int .i64) 3 _ _ _ _ ((rd_T62 x5_2 (ji22)).f0) from ge148_0)
                clear hv148_0 ge148_0
                have HX148_0 := Aside0.mk hx148_0
                clear hcc148 hce148
                have HR148_0 := Aside0.mk hi148_0
                have HC148_0 := Aside0.mk hl148_0
                clear hi148_0 hl148_0
                replace p148 := eq_true p148
                replace q148 := eq_true q148
                obtain ⟨go29, co29, eo29, gb29, gl29, cl29, HG29⟩ := Kd.S_form HO_5.out (by have h_ : ((ji22) : Int) < ((x5_2.length : Int) : Int) := of_decide_eq_true (by first | (with_reducible assumption) | assumption); have h2_ : 0 ≤ ((ji22) : Int) := (of_decide_eq_true (by first | (with_reducible assumption) | assumption)); omega)
                (first | cases eo29 | (injection eo29 with ea_ en_ ec_; (first | subst ea_ | (injection ea_ with ea_; subst ea_)); subst ec_; clear en_))
                have GB29 := Aside0.mk gb29
                have GG29 := Aside0.mk HG29
                clear gb29 gl29 HG29
                (first | simp only [add_plain] at hx148_0 | skip)
                (first | simp only [add_plain] at hx148_1 | skip)
                obtain ⟨oki29, ce29, hcl29, hM29, hcc29, _, _, hH29⟩ := Kd.S_elem HO_5.out z62 ((ji22) : Int) (of_decide_eq_true (by first | (with_reducible assumption) | assumption)) (by have h_ : ((ji22) : Int) < ((x5_2.length : Int) : Int) := of_decide_eq_true (by first | (with_reducible assumption) | assumption); first | exact h_ | (have e_ := (Kd.S_reads' HO_5.out).1; omega) | simpa using h_)
                obtain ⟨ve29_0, rfl, ge29_0⟩ := k62_openM hM29
                have hv29 := hcc29 0 _ rfl
                have hX29 := HX148_0.out
                (try simp only [add_plain] at hX29)
                (try simp only [Nat.add_zero] at hv29)
                replace hv29 := Option.some.inj (hv29.symm.trans hX29)
                subst hv29
                clear hX29 hcc29 hcl29
                have UU29 := Aside0.mk (show Kd.R (Kd.int .i64) 3 _ w.heap.size oki29 (.slice A148_0 ((rd_T62 x5_2 (ji22)).f0).length c148_0) ((rd_T62 x5_2 (ji22)).f0) from ge29_0)
                have HH29 := Aside0.mk hH29
                have HN29 := Aside0.mk (Kd.S_reads' HO_5.out).1
                clear hH29 ge29_0
                go_wp2_with (first | ((with_reducible refine gate_builtin (b := .append) (xs := #[.tmp 48, .tmp 50]) rfl ?_); (try (refine gate_guard (by rfl) ?_; dsimp only)); at_builtin; refine Kd.R_append (Kd.int .i64) (w0 := w) w.heap.size rfl (.tmp 48) (.tmp 50) 26 3 (.int .i64 0) 8 rfl Try.underlying26 info3 rfl (by decide) (by omega) (.slice A148_0 ((rd_T62 x5_2 (ji22)).f0).length c148_0) ((rd_T62 x5_2 (ji22)).f0) x27_2 [.int .i64 x27_2] (fun k_ => oki29 k_ ∨ ((fun _ => True)) k_ ∧ wr.heap.size ≤ k_) (fun _ => False) rfl rfl ?aP (fun _ hk => hk.elim) ?aF ?aO ?aB ?aS ?aL ?_; (case aP => exact rfl); (case aB => exact (by repeat (first | (with_reducible first | exact HB.out | apply below_alloc | apply pw_below_drewN | apply below_drew1 | refine below_set ?_ GE142.out) | exact HB.out))); (case aF => exact (fun k_ hk => .inr ⟨trivial, hk⟩)); (case aO => exact (by (with_reducible repeat (first | apply Kd.R_alloc | apply Kd.R_drewN | apply Kd.R_drew)); exact Kd.R_mono UU29.out (fun _ hk => .inl hk))); (case aS => exact (below_size (by repeat (first | (with_reducible first | exact HB.out | apply below_alloc | apply pw_below_drewN | apply below_drew1 | refine below_set ?_ GE142.out) | exact HB.out)))); (case aL => have := LMc25.out; omega); intro v150 w30 ho hb hg hat; rw [← Ny149.out] at ho; have n0_ := Aside0.mk (blk_grown (g := gb142) (o := .cells #[.int .i64 a0_0, .int .i64 a0_1, .int .i64 a0_2, .int .i64 a0_3, .int .i64 a0_4, .int .i64 a0_5, .int .i64 a0_6, .int .i64 a0_7] 60 (0, 0)) (by (with_reducible repeat (first | refine blk_drewN ?_ _ | refine blk_drew ?_ | refine blk_alloc ?_ _)); exact BK142.out) hg (Kd.R_ne HL148_0.out BK142.out (by decide))); have n1_ := Aside0.mk (hb); have n2_ := Aside0.mk (Kd.H_grown (Kd.H_widen (by repeat (first | exact HH29.out | refine Kd.H_alloc ?_ _ | refine Kd.H_drewN ?_ _ | refine Kd.H_drew ?_))) hg (fun k_ e_ => .inl (UU29.out.1 k_ e_))); have n3_ := Aside0.mk (ho); clear BK142; clear HB; clear HH29; clear HO_5; clear UU29; clear HL148_0; have BK142 := n0_; have HB := n1_; have HH29 := n2_; have HO151 := n3_; clear n0_ n1_ n2_ n3_; clear ho hb hg hat; have p26 : 0 ≤ ((ji22) : Int) := of_decide_eq_true (by first | (with_reducible assumption) | assumption); have q26 : ((ji22) : Int) < ((x5_2.length : Int) : Int) := of_decide_eq_true (by first | (with_reducible assumption) | assumption); replace p26 := eq_true p26; replace q26 := eq_true q26; obtain ⟨Ao33, co33, eo33⟩ := Kd.R_slice HO151.out; subst eo33; obtain ⟨_, _, hraw31, _, _, hcc31, _⟩ := Kd.H_raw HH29.out (of_decide_eq_true (by first | (with_reducible assumption) | assumption)) (by have h_ : ((ji22) : Int) < ((x5_2.length : Int) : Int) := of_decide_eq_true (by first | (with_reducible assumption) | assumption); first | exact h_ | (have e_ := (HN29.out); omega) | simpa using h_); obtain ⟨_, hfr31⟩ := Kd.H_at HH29.out (of_decide_eq_true (by first | (with_reducible assumption) | assumption)) (by have h_ : ((ji22) : Int) < ((x5_2.length : Int) : Int) := of_decide_eq_true (by first | (with_reducible assumption) | assumption); first | exact h_ | (have e_ := (HN29.out); omega) | simpa using h_); have hx31_0 := hcc31 0 _ rfl; have hf31_0 := hfr31 0; (try simp only [Nat.add_zero] at hx31_0 hf31_0); (try rw [show (k62).sz = 2 from rfl] at hx31_0); (try rw [show (k62).sz = 2 from rfl] at hf31_0); have HP31 := Kd.S_seg0 HH29.out (of_decide_eq_true (by first | (with_reducible assumption) | assumption)) (by have h_ : ((ji22) : Int) < ((x5_2.length : Int) : Int) := of_decide_eq_true (by first | (with_reducible assumption) | assumption); first | exact h_ | (have e_ := (HN29.out); omega) | simpa using h_) (seg := [.slice Ao33 y149.length co33]) (j := 0) (show 1 ≤ 2 from by decide) (x' := (⟨y149, (rd_T62 x5_2 (ji22)).f1⟩ : S62)) (k62_mkM _ _ _ (⟨y149, (rd_T62 x5_2 (ji22)).f1⟩ : S62) HO151.out) (fun _ hk => hk); clear hcc31 hfr31) | ((with_reducible refine gate_store (t := 26) (p := 53) rfl ?_); refine store_event (t := 26) (p := 53) (v := ?vo_w32) (w1 := (w30.setCell ⟨go29, ((ji22) : Int).toNat * 2, none⟩ (.slice Ao33 y149.length co33))) ?hg ?ho ?hn ?hr ?_; (case ho => rfl); (case hg => rfl); (case hn => rfl); (case hr => first | (go_simp; done) | (go_simp; rfl)); intro w32 hw; have hg : w30.grownBy w32 (some go29) := (by rw [hw]; exact HP31.2); have hp_ : Kd.S k62 62 w32 w.heap.size (fun _ => True) (.slice (some ⟨go29, 0, none⟩) x5_2.length co28) y152 := (by rw [hw, Ny152.out]; exact HP31.1); clear HP31; have n0_ := Aside0.mk (blk_grown (g := gb142) (o := .cells #[.int .i64 a0_0, .int .i64 a0_1, .int .i64 a0_2, .int .i64 a0_3, .int .i64 a0_4, .int .i64 a0_5, .int .i64 a0_6, .int .i64 a0_7] 60 (0, 0)) (by (with_reducible repeat (first | refine blk_drewN ?_ _ | refine blk_drew ?_ | refine blk_alloc ?_ _)); exact BK142.out) hg (Kd.R_ne hraw31 BK142.out (by decide))); have n1_ := Aside0.mk ((by rw [hw]; exact below_set HB.out GB29.out : Below w.heap.size w w32)); have n2_ := Aside0.mk (hp_); clear BK142; clear HB; clear HO151; clear HH29; have BK142 := n0_; have HB := n1_; have HO_5 := n2_; clear n0_ n1_ n2_; clear hg hw hp_ hraw31))
                go_roundg k2
                case measure => have := HJ2.out; have := HK2.out; omega
                case rel => exact ⟨(y152), (wrap64 (x27_2 + 1)), (by first | rfl | (simp; done) | (simp [*]; done)), H', ⟨by have := HJ2.out; have := HK2.out; omega⟩, ⟨by (with_reducible repeat (first | apply Kd.S_alloc | apply Kd.S_drewN | apply Kd.S_drew)); exact HO_5.out⟩, ⟨by (with_reducible repeat (first | refine blk_drewN ?_ _ | refine blk_drew ?_ | refine blk_alloc ?_ _)); exact BK142.out⟩, ⟨by repeat (first | (with_reducible first | exact HB.out | apply below_alloc | apply pw_below_drewN | apply below_drew1 | refine below_set ?_ GE142.out) | exact HB.out)⟩⟩
               ·rw [if_neg c25] at H
                exact absurd H (by simp)
              ·rw [if_neg c24] at H
               exact absurd H (by simp)
             ·rw [if_neg c23] at H
              exact absurd H (by simp)
           ·rw [if_neg c20] at H
            have c20b0 : decide (0 ≤ (rd [a0_0, a0_1, a0_2, a0_3, a0_4, a0_5, a0_6, a0_7] x27_2)) = false := decide_eq_false c20
            clear c20
            have H' := Aside0.mk H
            clear H
            have hia34 : ∀ w : World, (Instr.index 60 (.agg #[.int .i64 a0_0, .int .i64 a0_1, .int .i64 a0_2, .int .i64 a0_3, .int .i64 a0_4, .int .i64 a0_5, .int .i64 a0_6, .int .i64 a0_7]) (.int .i64 x27_2)).run Try.prog w = .ok (.int .i64 (rd [a0_0, a0_1, a0_2, a0_3, a0_4, a0_5, a0_6, a0_7] x27_2)) w := by have h0_ : 0 ≤ (x27_2 : Int) := of_decide_eq_true (by first | (with_reducible assumption) | assumption); have h1_ : (x27_2 : Int) < 8 := of_decide_eq_true (by first | (with_reducible assumption) | assumption); intro w_; rcases (show x27_2 = 0 ∨ x27_2 = 1 ∨ x27_2 = 2 ∨ x27_2 = 3 ∨ x27_2 = 4 ∨ x27_2 = 5 ∨ x27_2 = 6 ∨ x27_2 = 7 by omega) with h_ | h_ | h_ | h_ | h_ | h_ | h_ | h_ <;> rw [h_] <;> kernel_rfl
            obtain ⟨Ao35, co35, eo35⟩ := Kd.S_slice HO_5.out
            subst eo35
            go_wp2
            go_roundg k2
            case measure => have := HJ2.out; have := HK2.out; omega
            case rel => exact ⟨(x5_2), (wrap64 (x27_2 + 1)), (by first | rfl | (simp; done) | (simp [*]; done)), H', ⟨by have := HJ2.out; have := HK2.out; omega⟩, ⟨by (with_reducible repeat (first | apply Kd.S_alloc | apply Kd.S_drewN | apply Kd.S_drew)); exact HO_5.out⟩, ⟨by (with_reducible repeat (first | refine blk_drewN ?_ _ | refine blk_drew ?_ | refine blk_alloc ?_ _)); exact BK142.out⟩, ⟨by repeat (first | (with_reducible first | exact HB.out | apply below_alloc | apply pw_below_drewN | apply below_drew1 | refine below_set ?_ GE142.out) | exact HB.out)⟩⟩
          ·rw [if_neg c19] at H
           have c19b0 : decide (0 < (x5_2.length : Int)) = false := decide_eq_false c19
           have c19b1 : decide (0 < x5_2.length) = false := decide_eq_false (by omega)
           clear c19
           have H' := Aside0.mk H
           clear H
           have hia36 : ∀ w : World, (Instr.index 60 (.agg #[.int .i64 a0_0, .int .i64 a0_1, .int .i64 a0_2, .int .i64 a0_3, .int .i64 a0_4, .int .i64 a0_5, .int .i64 a0_6, .int .i64 a0_7]) (.int .i64 x27_2)).run Try.prog w = .ok (.int .i64 (rd [a0_0, a0_1, a0_2, a0_3, a0_4, a0_5, a0_6, a0_7] x27_2)) w := by have h0_ : 0 ≤ (x27_2 : Int) := of_decide_eq_true (by first | (with_reducible assumption) | assumption); have h1_ : (x27_2 : Int) < 8 := of_decide_eq_true (by first | (with_reducible assumption) | assumption); intro w_; rcases (show x27_2 = 0 ∨ x27_2 = 1 ∨ x27_2 = 2 ∨ x27_2 = 3 ∨ x27_2 = 4 ∨ x27_2 = 5 ∨ x27_2 = 6 ∨ x27_2 = 7 by omega) with h_ | h_ | h_ | h_ | h_ | h_ | h_ | h_ <;> rw [h_] <;> kernel_rfl
           obtain ⟨Ao37, co37, eo37⟩ := Kd.S_slice HO_5.out
           subst eo37
           go_wp2
           go_roundg k2
           case measure => have := HJ2.out; have := HK2.out; omega
           case rel => exact ⟨(x5_2), (wrap64 (x27_2 + 1)), (by first | rfl | (simp; done) | (simp [*]; done)), H', ⟨by have := HJ2.out; have := HK2.out; omega⟩, ⟨by (with_reducible repeat (first | apply Kd.S_alloc | apply Kd.S_drewN | apply Kd.S_drew)); exact HO_5.out⟩, ⟨by (with_reducible repeat (first | refine blk_drewN ?_ _ | refine blk_drew ?_ | refine blk_alloc ?_ _)); exact BK142.out⟩, ⟨by repeat (first | (with_reducible first | exact HB.out | apply below_alloc | apply pw_below_drewN | apply below_drew1 | refine below_set ?_ GE142.out) | exact HB.out)⟩⟩
         ·rw [if_neg c18] at H
          exact absurd H (by simp)
        ·rw [if_neg c17] at H
         have c17b0 : decide (x27_2 < 8) = false := decide_eq_false c17
         clear c17
         have H' := Aside0.mk H
         clear H
         obtain ⟨Ao38, co38, eo38⟩ := Kd.S_slice HO_5.out
         subst eo38
         go_wp2
         go_loopg [57] k2 (fun kq v57 w' => ∃ (x5_3 : List (S62)) (x57_3 : Int), v57 = .int .i64 x57_3 ∧ Aside0 (stillagelaw09_ZoneSafe.l1 kq l1 x5_3 (x5_2.length : Int) x57_3 = some r) ∧ Aside0 (kq ≤ k2) ∧ Aside0 (Kd.S k62 62 w' w.heap.size (fun _ => True) (.slice Ao38 x5_2.length co38) x5_3) ∧ Aside0 (w'.heap[gb142]? = some (.cells #[.int .i64 a0_0, .int .i64 a0_1, .int .i64 a0_2, .int .i64 a0_3, .int .i64 a0_4, .int .i64 a0_5, .int .i64 a0_6, .int .i64 a0_7] 60 (0, 0))) ∧ Aside0 (Below w.heap.size w w'))
         case atStart => exact ⟨(x5_2), (0), (by first | rfl | (simp; done) | (simp [*]; done)), H', ⟨Nat.le_refl _⟩, ⟨by (with_reducible repeat (first | apply Kd.S_alloc | apply Kd.S_drewN | apply Kd.S_drew)); exact HO_5.out⟩, ⟨by (with_reducible repeat (first | refine blk_drewN ?_ _ | refine blk_drew ?_ | refine blk_alloc ?_ _)); exact BK142.out⟩, ⟨by repeat (first | (with_reducible first | exact HB.out | apply below_alloc | apply pw_below_drewN | apply below_drew1 | refine below_set ?_ GE142.out) | exact HB.out)⟩⟩
         case round =>
          clear H'
          try clear c1
          try clear p1
          try clear q1
          try clear hx1
          try clear c2
          try clear p2
          try clear q2
          try clear c3
          try clear hx3
          try clear hf3
          try clear c6
          try clear p6
          try clear c7
          try clear c9
          try clear c12
          try clear c12b0
          try clear c12b1
          try clear c13
          try clear c13b0
          try clear c13b1
          try clear c14
          try clear p14
          try clear q14
          try clear hx14
          try clear c17
          try clear c17b0
          try clear c18
          try clear c18b0
          try clear c19
          try clear c19b0
          try clear c19b1
          try clear c20
          try clear c20b0
          try clear c21
          try clear c21b0
          try clear c21b1
          try clear c21b2
          try clear c23
          try clear c23b0
          try clear c24
          try clear c24b0
          try clear c25
          try clear p26
          try clear q26
          try clear c29
          try clear c31
          try clear hx31
          try clear hf31
          try clear hcz16_0
          try clear hcz16_1
          try clear hcz16_2
          try clear hcz16_3
          try clear hcz16_4
          try clear hcz16_5
          try clear hcz16_6
          try clear hcz16_7
          try clear hfz16_0
          try clear hfz16_1
          try clear hfz16_2
          try clear hfz16_3
          try clear hfz16_4
          try clear hfz16_5
          try clear hfz16_6
          try clear hfz16_7
          try clear hx148_0
          try clear hx148_1
          try clear hx31_0
          try clear p148
          try clear p2
          try clear p26
          try clear q148
          try clear q26
          obtain ⟨x5_3, x57_3, rfl, HA, HK3, HO_5, BK142, HB⟩ := hrel
          have hl5_3 := (Kd.S_reads' HO_5.out).1
          rw [hl5_3] at HO_5
          (try simp only [hl5_3])
          (try simp only [hl5_3] at BK142)
          cases gk with
          | zero => exact absurd HA.out (by simp [stillagelaw09_ZoneSafe.l1])
          | succ k3 =>
           have H := HA.out
           clear HA
           simp only [stillagelaw09_ZoneSafe.l1] at H
           by_cases c39 : x57_3 < (x5_2.length : Int)
           ·rw [if_pos c39] at H
            have c39b0 : decide (x57_3 < (x5_2.length : Int)) = true := decide_eq_true c39
            (try (have c39z0 := c39b0; simp only [hl5_3] at c39z0))
            clear c39
            by_cases c40 : 0 ≤ x57_3
            ·rw [if_pos c40] at H
             have c40b0 : decide (0 ≤ x57_3) = true := decide_eq_true c40
             clear c40
             by_cases c41 : x57_3 < (x5_3.length : Int)
             ·rw [if_pos c41] at H
              have c41b0 : decide (x57_3 < (x5_3.length : Int)) = true := decide_eq_true c41
              (try (have c41z0 := c41b0; simp only [hl5_3] at c41z0))
              clear c41
              have H' := Aside0.mk H
              clear H
              have p157 : 0 ≤ (x57_3 : Int) := of_decide_eq_true (by first | (with_reducible assumption) | assumption)
              have q157 : x57_3 < (x5_3.length : Int) := of_decide_eq_true (by first | (with_reducible assumption) | assumption)
              obtain ⟨ad157, A157_0, c157_0, e157, hx157_0, hx157_1, hl157_0, hi157_0⟩ := at_T62 (Kd.S_reads' HO_5.out).2.2 x57_3 p157 q157
              cases e157
              obtain ⟨ce157, hce157, hMe157, hcc157⟩ := Kd.S_get HO_5.out z62 x57_3 p157 (by first | exact q157 | exact of_decide_eq_true (by first | (with_reducible assumption) | assumption) | (have e_ := (Kd.S_reads' HO_5.out).1; omega))
              obtain ⟨ve157_0, rfl, ge157_0⟩ := k62_openM hMe157
              have hv157_0 := hcc157 0 _ rfl
              rw [Nat.add_zero] at hv157_0
              replace hv157_0 := Option.some.inj (hv157_0.symm.trans hx157_0)
              rw [hv157_0] at ge157_0
              have HL157_0 := Aside0.mk (show Kd.R (Kd.int .i64) 3 _ _ _ _ ((rd_T62 x5_3 x57_3).f0) from ge157_0)
              clear hv157_0 ge157_0
              have HX157_0 := Aside0.mk hx157_0
              clear hcc157 hce157
              have HR157_0 := Aside0.mk hi157_0
              have HC157_0 := Aside0.mk hl157_0
              clear hi157_0 hl157_0
              replace p157 := eq_true p157
              replace q157 := eq_true q157
              go_wp2
              go_loopg [10, 66] k3 (fun kq v10 v66 w' => ∃ (x10_4 : Int) (x66_4 : Int), v10 = .int .i64 x10_4 ∧ v66 = .int .i64 x66_4 ∧ Aside0 (stillagelaw09_ZoneSafe.l2 kq l1 x5_3 x57_3 x10_4 (x5_2.length : Int) x57_3 ((rd_T62 x5_3 x57_3).f0) (((rd_T62 x5_3 x57_3).f0).length : Int) x66_4 = some r) ∧ Aside0 (kq ≤ k3) ∧ Aside0 (Kd.S k62 62 w' w.heap.size (fun _ => True) (.slice (some ad157) x5_3.length co38) x5_3) ∧ Aside0 (w'.heap[gb142]? = some (.cells #[.int .i64 a0_0, .int .i64 a0_1, .int .i64 a0_2, .int .i64 a0_3, .int .i64 a0_4, .int .i64 a0_5, .int .i64 a0_6, .int .i64 a0_7] 60 (0, 0))) ∧ Aside0 (Kd.C (Kd.int .i64) w' A157_0 ((rd_T62 x5_3 x57_3).f0).length ((rd_T62 x5_3 x57_3).f0)) ∧ Aside0 (Below w.heap.size w w'))
              case atStart => exact ⟨(0), (0), (by first | rfl | (simp; done) | (simp [*]; done)), (by first | rfl | (simp; done) | (simp [*]; done)), H', ⟨Nat.le_refl _⟩, ⟨by (try simp only [hl5_3]); (with_reducible repeat (first | apply Kd.S_alloc | apply Kd.S_drewN | apply Kd.S_drew)); exact HO_5.out⟩, ⟨by (try simp only [hl5_3]); (with_reducible repeat (first | refine blk_drewN ?_ _ | refine blk_drew ?_ | refine blk_alloc ?_ _)); exact BK142.out⟩, ⟨by repeat (first | (with_reducible exact HR157_0.out) | (with_reducible refine Kd.C_alloc ?_ _) | (with_reducible refine Kd.C_drewN ?_ _) | (with_reducible refine Kd.C_drew ?_) | exact HR157_0.out)⟩, ⟨by repeat (first | (with_reducible first | exact HB.out | apply below_alloc | apply pw_below_drewN | apply below_drew1 | refine below_set ?_ GE142.out) | exact HB.out)⟩⟩
              case round =>
               clear H'
               try clear c1
               try clear p1
               try clear q1
               try clear hx1
               try clear c2
               try clear p2
               try clear q2
               try clear c3
               try clear hx3
               try clear hf3
               try clear c4
               try clear c6
               try clear p6
               try clear c7
               try clear c9
               try clear c12
               try clear c12b0
               try clear c12b1
               try clear c13
               try clear c13b0
               try clear c13b1
               try clear c14
               try clear p14
               try clear q14
               try clear hx14
               try clear c15
               try clear p15
               try clear q15
               try clear hx15
               try clear c17
               try clear c17b0
               try clear c18
               try clear c18b0
               try clear c19
               try clear c19b0
               try clear c19b1
               try clear c20
               try clear c20b0
               try clear c21
               try clear c21b0
               try clear c21b1
               try clear c21b2
               try clear c23
               try clear c23b0
               try clear c24
               try clear c24b0
               try clear c25
               try clear p26
               try clear q26
               try clear c29
               try clear c31
               try clear hx31
               try clear hf31
               try clear c39
               try clear c39b0
               try clear c40
               try clear c40b0
               try clear c41
               try clear c41b0
               try clear hcz16_0
               try clear hcz16_1
               try clear hcz16_2
               try clear hcz16_3
               try clear hcz16_4
               try clear hcz16_5
               try clear hcz16_6
               try clear hcz16_7
               try clear hfz16_0
               try clear hfz16_1
               try clear hfz16_2
               try clear hfz16_3
               try clear hfz16_4
               try clear hfz16_5
               try clear hfz16_6
               try clear hfz16_7
               try clear hx148_0
               try clear hx148_1
               try clear hx157_0
               try clear hx157_1
               try clear hx31_0
               try clear p1
               try clear p14
               try clear p148
               try clear p157
               try clear p2
               try clear p26
               try clear p6
               try clear q1
               try clear q14
               try clear q148
               try clear q157
               try clear q2
               try clear q26
               obtain ⟨x10_4, x66_4, rfl, rfl, HA, HK4, HO_5, BK142, HR157_0, HB⟩ := hrel
               cases gk with
               | zero => exact absurd HA.out (by simp [stillagelaw09_ZoneSafe.l2])
               | succ k4 =>
                have H := HA.out
                clear HA
                simp only [stillagelaw09_ZoneSafe.l2] at H
                by_cases c42 : x66_4 < (((rd_T62 x5_3 x57_3).f0).length : Int)
                ·rw [if_pos c42] at H
                 have c42b0 : decide (x66_4 < (((rd_T62 x5_3 x57_3).f0).length : Int)) = true := decide_eq_true c42
                 (try (have c42z0 := c42b0; simp only [hl5_3] at c42z0))
                 clear c42
                 by_cases c43 : 0 ≤ x66_4
                 ·rw [if_pos c43] at H
                  have c43b0 : decide (0 ≤ x66_4) = true := decide_eq_true c43
                  clear c43
                  by_cases c44 : x66_4 < (((rd_T62 x5_3 x57_3).f0).length : Int)
                  ·rw [if_pos c44] at H
                   have c44b0 : decide (x66_4 < (((rd_T62 x5_3 x57_3).f0).length : Int)) = true := decide_eq_true c44
                   (try (have c44z0 := c44b0; simp only [hl5_3] at c44z0))
                   clear c44
                   obtain ⟨ji45, hji45⟩ : ∃ j_ : Int, (mx x10_4 (wrap64 ((rd ((rd_T62 x5_3 x57_3).f0) x66_4) + 1))) = j_ := ⟨_, rfl⟩
                   replace H : (stillagelaw09_ZoneSafe.l2 k4 l1 x5_3 x57_3 ji45 (x5_2.length : Int) x57_3 ((rd_T62 x5_3 x57_3).f0) (((rd_T62 x5_3 x57_3).f0).length : Int) (wrap64 (x66_4 + 1))) = some r := by first | (rw [hji45] at H; exact H) | (simp only [hji45] at H ⊢; exact H)
                   have hji45_ : (if x10_4 < (wrap64 ((rd ((rd_T62 x5_3 x57_3).f0) x66_4) + 1)) then (wrap64 ((rd ((rd_T62 x5_3 x57_3).f0) x66_4) + 1)) else x10_4) = ji45 := hji45
                   have H' := Aside0.mk H
                   clear H
                   have p158 : 0 ≤ (x66_4 : Int) := of_decide_eq_true (by first | (with_reducible assumption) | assumption)
                   have q158 : x66_4 < (((rd_T62 x5_3 x57_3).f0).length : Int) := of_decide_eq_true (by first | (with_reducible assumption) | assumption)
                   obtain ⟨ad158, e158, hx158_0⟩ := Kd.at_int HR157_0.out x66_4 p158 q158
                   cases e158
                   replace p158 := eq_true p158
                   replace q158 := eq_true q158
                   go_wp2
                   go_roundg k4
                   case measure => have := HJ2.out; have := HK2.out; have := HK3.out; have := HK4.out; omega
                   case rel => exact ⟨(ji45), (wrap64 (x66_4 + 1)), (by first | rfl | (simp; done) | (simp only [← hji45] <;> (first | rfl | simp)) | (simp [*]; done)), (by first | rfl | (simp; done) | (simp [*]; done)), H', ⟨by have := HJ2.out; have := HK2.out; have := HK3.out; have := HK4.out; omega⟩, ⟨by (try simp only [hl5_3]); (with_reducible repeat (first | apply Kd.S_alloc | apply Kd.S_drewN | apply Kd.S_drew)); exact HO_5.out⟩, ⟨by (try simp only [hl5_3]); (with_reducible repeat (first | refine blk_drewN ?_ _ | refine blk_drew ?_ | refine blk_alloc ?_ _)); exact BK142.out⟩, ⟨by repeat (first | (with_reducible exact HR157_0.out) | (with_reducible refine Kd.C_alloc ?_ _) | (with_reducible refine Kd.C_drewN ?_ _) | (with_reducible refine Kd.C_drew ?_) | exact HR157_0.out)⟩, ⟨by repeat (first | (with_reducible first | exact HB.out | apply below_alloc | apply pw_below_drewN | apply below_drew1 | refine below_set ?_ GE142.out) | exact HB.out)⟩⟩
                  ·rw [if_neg c44] at H
                   exact absurd H (by simp)
                 ·rw [if_neg c43] at H
                  exact absurd H (by simp)
                ·rw [if_neg c42] at H
                 have c42b0 : decide (x66_4 < (((rd_T62 x5_3 x57_3).f0).length : Int)) = false := decide_eq_false c42
                 (try (have c42z0 := c42b0; simp only [hl5_3] at c42z0))
                 clear c42
                 by_cases c46 : 0 ≤ x57_3
                 ·rw [if_pos c46] at H
                  have c46b0 : decide (0 ≤ x57_3) = true := decide_eq_true c46
                  clear c46
                  by_cases c47 : x57_3 < (x5_3.length : Int)
                  ·rw [if_pos c47] at H
                   have c47b0 : decide (x57_3 < (x5_3.length : Int)) = true := decide_eq_true c47
                   (try (have c47z0 := c47b0; simp only [hl5_3] at c47z0))
                   clear c47
                   obtain ⟨y159, hy159⟩ : ∃ y_ : List (S62), y_ = (x5_3.set (x57_3 : Int).toNat (⟨(rd_T62 x5_3 x57_3).f0, (-1)⟩ : S62)) := ⟨_, rfl⟩
                   replace H : (if x10_4 < 8 then (if x57_3 < (l1.length : Int) then (if (rd l1 x57_3) ≥ 0 then (if (wrap64 (8 - x10_4)) = 0 then (none) else (stillagelaw09_ZoneSafe.l1 k4 l1 (y159.set (x57_3 : Int).toNat (⟨(rd_T62 y159 x57_3).f0, wrap64 (x10_4 + (Int.tmod (rd l1 x57_3) (wrap64 (8 - x10_4))))⟩ : S62)) (x5_2.length : Int) (wrap64 (x57_3 + 1)))) else (stillagelaw09_ZoneSafe.l1 k4 l1 y159 (x5_2.length : Int) (wrap64 (x57_3 + 1)))) else (none)) else (stillagelaw09_ZoneSafe.l1 k4 l1 y159 (x5_2.length : Int) (wrap64 (x57_3 + 1)))) = some r := by first | (rw [hy159]; with_reducible exact H) | (have H2_ := (Option.bind_some _ _).symm.trans H; rw [hy159]; with_reducible exact H2_) | (have H2_ := (Option.bind_some _ _).symm.trans H; with_reducible exact H2_) | with_reducible exact H | (rw [hy159]; exact H) | exact H
                   have Ny159 := Aside0.mk hy159
                   clear hy159
                   by_cases c49 : x10_4 < 8
                   ·rw [if_pos c49] at H
                    have c49b0 : decide (x10_4 < 8) = true := decide_eq_true c49
                    clear c49
                    by_cases c50 : x57_3 < (l1.length : Int)
                    ·rw [if_pos c50] at H
                     have c50b0 : decide (x57_3 < (l1.length : Int)) = true := decide_eq_true c50
                     (try (have c50z0 := c50b0; simp only [hl5_3] at c50z0))
                     clear c50
                     by_cases c51 : (rd l1 x57_3) ≥ 0
                     ·rw [if_pos c51] at H
                      have c51b0 : decide (0 ≤ (rd l1 x57_3)) = true := decide_eq_true c51
                      clear c51
                      by_cases c52 : (wrap64 (8 - x10_4)) = 0
                      ·rw [if_pos c52] at H
                       exact absurd H (by simp)
                      ·rw [if_neg c52] at H
                       have c52b0 : ((wrap64 (8 - x10_4)) == 0) = false := beq_eq_false_iff_ne.mpr c52
                       have c52b1 : ((wrap64 (8 - x10_4)) != 0) = true := bne_iff_ne.mpr c52
                       obtain ⟨y162, hy162⟩ : ∃ y_ : List (S62), y_ = (y159.set (x57_3 : Int).toNat (⟨(rd_T62 y159 x57_3).f0, wrap64 (x10_4 + (Int.tmod (rd l1 x57_3) (wrap64 (8 - x10_4))))⟩ : S62)) := ⟨_, rfl⟩
                       replace H : (stillagelaw09_ZoneSafe.l1 k4 l1 y162 (x5_2.length : Int) (wrap64 (x57_3 + 1))) = some r := by first | (rw [hy162]; with_reducible exact H) | (have H2_ := (Option.bind_some _ _).symm.trans H; rw [hy162]; with_reducible exact H2_) | (have H2_ := (Option.bind_some _ _).symm.trans H; with_reducible exact H2_) | with_reducible exact H | (rw [hy162]; exact H) | exact H
                       have Ny162 := Aside0.mk hy162
                       clear hy162
                       have H' := Aside0.mk H
                       clear H
                       have p48 : 0 ≤ (x57_3 : Int) := of_decide_eq_true (by first | (with_reducible assumption) | assumption)
                       have q48 : (x57_3 : Int) < ((x5_3.length : Int) : Int) := of_decide_eq_true (by first | (with_reducible assumption) | assumption)
                       obtain ⟨go48, co48, eo48, gb48, gl48, cl48, HG48⟩ := Kd.S_form HO_5.out (by omega)
                       (first | cases eo48 | (injection eo48 with ea_ en_ ec_; (first | subst ea_ | (injection ea_ with ea_; subst ea_)); subst ec_; clear en_))
                       have GB48 := Aside0.mk gb48
                       have GG48 := Aside0.mk HG48
                       clear gb48 gl48 HG48
                       (first | simp only [add_plain] at hx157_0 | skip)
                       (first | simp only [add_plain] at hx157_1 | skip)
                       obtain ⟨_, ce48, hcl48, hM48, hcc48, hfr48, _, _⟩ := Kd.S_elem HO_5.out z62 (x57_3 : Int) p48 q48
                       obtain ⟨ve48_0, rfl, ge48_0⟩ := k62_openM hM48
                       have hx48_0 : wr.cell? ⟨go48, (x57_3 : Int).toNat * 2, none⟩ = some (ve48_0) := hcc48 0 _ rfl
                       have hx48_1 : wr.cell? ⟨go48, (x57_3 : Int).toNat * 2 + 1, none⟩ = some (.int .i64 ((rd_T62 x5_3 x57_3).f1)) := hcc48 1 _ rfl
                       have hf48_0 : wr.frozen? ⟨go48, (x57_3 : Int).toNat * 2, none⟩ = false := hfr48 0
                       have hf48_1 : wr.frozen? ⟨go48, (x57_3 : Int).toNat * 2 + 1, none⟩ = false := hfr48 1
                       clear hcl48 hcc48 hfr48 hM48
                       replace p48 := eq_true p48
                       replace q48 := eq_true q48
                       have HX54 := Aside0.mk (show Kd.S k62 62 wr w.heap.size (fun k_ => ((fun _ => True)) k_ ∧ ¬ ((fun _ => False)) k_) (.slice (some ⟨go48, 0, none⟩) x5_3.length co38) x5_3 from (by (with_reducible repeat (first | apply Kd.S_alloc | apply Kd.S_drewN | apply Kd.S_drew)); exact Kd.S_mono HO_5.out (fun k_ hk => ⟨trivial, fun e_ => e_⟩)))
                       obtain ⟨oki54, ce54, hcl54, hM54, hcc54, hfr54, hoki54, hH54⟩ := Kd.S_elem HX54.out z62 (x57_3 : Int) (of_decide_eq_true (by first | (with_reducible assumption) | assumption)) (by have h_ : (x57_3 : Int) < ((x5_3.length : Int) : Int) := of_decide_eq_true (by first | (with_reducible assumption) | assumption); first | exact h_ | (have e_ := (Kd.S_reads' HO_5.out).1; omega) | simpa using h_)
                       obtain ⟨ve54_0, rfl, ge54_0⟩ := k62_openM hM54
                       have HP54 := Kd.S_seg hH54 (of_decide_eq_true (by first | (with_reducible assumption) | assumption)) (by have h_ : (x57_3 : Int) < ((x5_3.length : Int) : Int) := of_decide_eq_true (by first | (with_reducible assumption) | assumption); first | exact h_ | (have e_ := (Kd.S_reads' HO_5.out).1; omega) | simpa using h_) (seg := [.int .i64 (-1)]) (j := 1) (show 2 ≤ 2 from by decide) (x' := (⟨(rd_T62 x5_3 x57_3).f0, (-1)⟩ : S62)) (k62_mkM _ _ _ (⟨(rd_T62 x5_3 x57_3).f0, (-1)⟩ : S62) (Kd.R_mono ge54_0 (fun _ h_ => Or.inl h_))) (fun _ hk => hk) (fun k_ hk_ => hk_.elim)
                       have hx54_1 := hcc54 1 _ rfl
                       (try simp only [show (k62).sz = 2 from rfl, Nat.mul_one, Nat.add_zero] at hx54_1)
                       have hf54_1 := hfr54 1
                       (try simp only [show (k62).sz = 2 from rfl, Nat.mul_one, Nat.add_zero] at hf54_1)
                       clear hcl54 hcc54 hfr54 hM54 hoki54 hH54
                       go_wp2_with (first | ((with_reducible refine gate_store (t := 3) (p := 78) rfl ?_); refine store_event (t := 3) (p := 78) (v := ?vo_w55) (w1 := (wr.setCell ⟨go48, (x57_3 : Int).toNat * 2 + 1, none⟩ (.int .i64 (-1)))) ?hg ?ho ?hn ?hr ?_; (case ho => rfl); (case hg => rfl); (case hn => rfl); (case hr => first | (go_simp; done) | (go_simp; rfl)); intro w55 hw; have hg : wr.grownBy w55 (some go48) := (by rw [hw]; exact HP54.2); have hp_ : Kd.S k62 62 w55 w.heap.size (fun _ => True) (.slice (some ⟨go48, 0, none⟩) x5_3.length co38) y159 := (by rw [hw, Ny159.out]; exact HP54.1); clear HP54; have n0_ := Aside0.mk (hp_); have n1_ := Aside0.mk (blk_grown (g := gb142) (o := .cells #[.int .i64 a0_0, .int .i64 a0_1, .int .i64 a0_2, .int .i64 a0_3, .int .i64 a0_4, .int .i64 a0_5, .int .i64 a0_6, .int .i64 a0_7] 60 (0, 0)) (by (with_reducible repeat (first | refine blk_drewN ?_ _ | refine blk_drew ?_ | refine blk_alloc ?_ _)); exact BK142.out) hg (Kd.S_ne HO_5.out BK142.out (by decide))); have n2_ := Aside0.mk ((by rw [hw]; exact below_set (HB.out) GB48.out : Below w.heap.size w w55)); clear HO_5; clear BK142; clear HB; have HO_5 := n0_; have BK142 := n1_; have HB := n2_; clear n0_ n1_ n2_; clear hg hw hp_; have p160 : 0 ≤ (x57_3 : Int) := of_decide_eq_true (by first | (with_reducible assumption) | assumption); have q160 : x57_3 < (l1.length : Int) := of_decide_eq_true (by first | (with_reducible assumption) | assumption); obtain ⟨ad160, e160, hx160_0⟩ := Kd.at_int HR1.out x57_3 p160 q160; cases e160; replace hx160_0 := (HB.out.cell (World.block_lt_of_cell? w _ hx160_0)).trans hx160_0; replace p160 := eq_true p160; replace q160 := eq_true q160; have p161 : 0 ≤ (x57_3 : Int) := of_decide_eq_true (by first | (with_reducible assumption) | assumption); have q161 : x57_3 < (l1.length : Int) := of_decide_eq_true (by first | (with_reducible assumption) | assumption); obtain ⟨ad161, e161, hx161_0⟩ := Kd.at_int HR1.out x57_3 p161 q161; obtain rfl : ad160 = ad161 := (by injection e161); replace hx161_0 := (HB.out.cell (World.block_lt_of_cell? w _ hx161_0)).trans hx161_0; replace p161 := eq_true p161; replace q161 := eq_true q161; have p53 : 0 ≤ (x57_3 : Int) := of_decide_eq_true (by first | (with_reducible assumption) | assumption); have q53 : (x57_3 : Int) < ((x5_3.length : Int) : Int) := of_decide_eq_true (by first | (with_reducible assumption) | assumption); obtain ⟨_, ce53, hcl53, hM53, hcc53, hfr53, _, _⟩ := Kd.S_elem HO_5.out z62 (x57_3 : Int) p53 q53; obtain ⟨ve53_0, rfl, ge53_0⟩ := k62_openM hM53; have hx53_0 : w55.cell? ⟨go48, (x57_3 : Int).toNat * 2, none⟩ = some (ve53_0) := hcc53 0 _ rfl; have hx53_1 : w55.cell? ⟨go48, (x57_3 : Int).toNat * 2 + 1, none⟩ = some (.int .i64 ((rd_T62 y159 x57_3).f1)) := hcc53 1 _ rfl; have hf53_0 : w55.frozen? ⟨go48, (x57_3 : Int).toNat * 2, none⟩ = false := hfr53 0; have hf53_1 : w55.frozen? ⟨go48, (x57_3 : Int).toNat * 2 + 1, none⟩ = false := hfr53 1; clear hcl53 hcc53 hfr53 hM53; replace p53 := eq_true p53; replace q53 := eq_true q53; have HX56 := Aside0.mk (show Kd.S k62 62 w55 w.heap.size (fun k_ => ((fun _ => True)) k_ ∧ ¬ ((fun _ => False)) k_) (.slice (some ⟨go48, 0, none⟩) x5_3.length co38) y159 from (by (with_reducible repeat (first | apply Kd.S_alloc | apply Kd.S_drewN | apply Kd.S_drew)); exact Kd.S_mono HO_5.out (fun k_ hk => ⟨trivial, fun e_ => e_⟩))); obtain ⟨oki56, ce56, hcl56, hM56, hcc56, hfr56, hoki56, hH56⟩ := Kd.S_elem HX56.out z62 (x57_3 : Int) (of_decide_eq_true (by first | (with_reducible assumption) | assumption)) (by have h_ : (x57_3 : Int) < ((x5_3.length : Int) : Int) := of_decide_eq_true (by first | (with_reducible assumption) | assumption); first | exact h_ | (have e_ := (Kd.S_reads' HO_5.out).1; omega) | simpa using h_); obtain ⟨ve56_0, rfl, ge56_0⟩ := k62_openM hM56; have HP56 := Kd.S_seg hH56 (of_decide_eq_true (by first | (with_reducible assumption) | assumption)) (by have h_ : (x57_3 : Int) < ((x5_3.length : Int) : Int) := of_decide_eq_true (by first | (with_reducible assumption) | assumption); first | exact h_ | (have e_ := (Kd.S_reads' HO_5.out).1; omega) | simpa using h_) (seg := [.int .i64 (wrap64 (x10_4 + (Int.tmod (rd l1 x57_3) (wrap64 (8 - x10_4)))))]) (j := 1) (show 2 ≤ 2 from by decide) (x' := (⟨(rd_T62 y159 x57_3).f0, wrap64 (x10_4 + (Int.tmod (rd l1 x57_3) (wrap64 (8 - x10_4))))⟩ : S62)) (k62_mkM _ _ _ (⟨(rd_T62 y159 x57_3).f0, wrap64 (x10_4 + (Int.tmod (rd l1 x57_3) (wrap64 (8 - x10_4))))⟩ : S62) (Kd.R_mono ge56_0 (fun _ h_ => Or.inl h_))) (fun _ hk => hk) (fun k_ hk_ => hk_.elim); have hx56_1 := hcc56 1 _ rfl; (try simp only [show (k62).sz = 2 from rfl, Nat.mul_one, Nat.add_zero] at hx56_1); have hf56_1 := hfr56 1; (try simp only [show (k62).sz = 2 from rfl, Nat.mul_one, Nat.add_zero] at hf56_1); clear hcl56 hcc56 hfr56 hM56 hoki56 hH56) | ((with_reducible refine gate_store (t := 3) (p := 100) rfl ?_); refine store_event (t := 3) (p := 100) (v := ?vo_w57) (w1 := (w55.setCell ⟨go48, (x57_3 : Int).toNat * 2 + 1, none⟩ (.int .i64 (wrap64 (x10_4 + (Int.tmod (rd l1 x57_3) (wrap64 (8 - x10_4)))))))) ?hg ?ho ?hn ?hr ?_; (case ho => rfl); (case hg => rfl); (case hn => rfl); (case hr => first | (go_simp; done) | (go_simp; rfl)); intro w57 hw; have hg : w55.grownBy w57 (some go48) := (by rw [hw]; exact HP56.2); have hp_ : Kd.S k62 62 w57 w.heap.size (fun _ => True) (.slice (some ⟨go48, 0, none⟩) x5_3.length co38) y162 := (by rw [hw, Ny162.out]; exact HP56.1); clear HP56; have n0_ := Aside0.mk (hp_); have n1_ := Aside0.mk (blk_grown (g := gb142) (o := .cells #[.int .i64 a0_0, .int .i64 a0_1, .int .i64 a0_2, .int .i64 a0_3, .int .i64 a0_4, .int .i64 a0_5, .int .i64 a0_6, .int .i64 a0_7] 60 (0, 0)) (by (with_reducible repeat (first | refine blk_drewN ?_ _ | refine blk_drew ?_ | refine blk_alloc ?_ _)); exact BK142.out) hg (Kd.S_ne HO_5.out BK142.out (by decide))); have n2_ := Aside0.mk ((by rw [hw]; exact below_set (HB.out) GB48.out : Below w.heap.size w w57)); clear HO_5; clear BK142; clear HB; have HO_5 := n0_; have BK142 := n1_; have HB := n2_; clear n0_ n1_ n2_; clear hg hw hp_))
                       (try simp only [← hl5_3])
                       go_roundg k4
                       case measure => have := HJ2.out; have := HK2.out; have := HK3.out; have := HK4.out; omega
                       case rel => exact ⟨(y162), (wrap64 (x57_3 + 1)), (by first | rfl | (simp; done) | (simp [*]; done)), H', ⟨by have := HJ2.out; have := HK2.out; have := HK3.out; have := HK4.out; omega⟩, ⟨by (try simp only [hl5_3]); (with_reducible repeat (first | apply Kd.S_alloc | apply Kd.S_drewN | apply Kd.S_drew)); exact HO_5.out⟩, ⟨by (try simp only [hl5_3]); (with_reducible repeat (first | refine blk_drewN ?_ _ | refine blk_drew ?_ | refine blk_alloc ?_ _)); exact BK142.out⟩, ⟨by repeat (first | (with_reducible first | exact HB.out | apply below_alloc | apply pw_below_drewN | apply below_drew1 | refine below_set ?_ GE142.out) | exact HB.out)⟩⟩
                     ·rw [if_neg c51] at H
                      have c51b0 : decide (0 ≤ (rd l1 x57_3)) = false := decide_eq_false c51
                      clear c51
                      have H' := Aside0.mk H
                      clear H
                      have p48 : 0 ≤ (x57_3 : Int) := of_decide_eq_true (by first | (with_reducible assumption) | assumption)
                      have q48 : (x57_3 : Int) < ((x5_3.length : Int) : Int) := of_decide_eq_true (by first | (with_reducible assumption) | assumption)
                      obtain ⟨go48, co48, eo48, gb48, gl48, cl48, HG48⟩ := Kd.S_form HO_5.out (by omega)
                      (first | cases eo48 | (injection eo48 with ea_ en_ ec_; (first | subst ea_ | (injection ea_ with ea_; subst ea_)); subst ec_; clear en_))
                      have GB48 := Aside0.mk gb48
                      have GG48 := Aside0.mk HG48
                      clear gb48 gl48 HG48
                      obtain ⟨_, ce48, hcl48, hM48, hcc48, hfr48, _, _⟩ := Kd.S_elem HO_5.out z62 (x57_3 : Int) p48 q48
                      obtain ⟨ve48_0, rfl, ge48_0⟩ := k62_openM hM48
                      have hx48_0 : wr.cell? ⟨go48, (x57_3 : Int).toNat * 2, none⟩ = some (ve48_0) := hcc48 0 _ rfl
                      have hx48_1 : wr.cell? ⟨go48, (x57_3 : Int).toNat * 2 + 1, none⟩ = some (.int .i64 ((rd_T62 x5_3 x57_3).f1)) := hcc48 1 _ rfl
                      have hf48_0 : wr.frozen? ⟨go48, (x57_3 : Int).toNat * 2, none⟩ = false := hfr48 0
                      have hf48_1 : wr.frozen? ⟨go48, (x57_3 : Int).toNat * 2 + 1, none⟩ = false := hfr48 1
                      clear hcl48 hcc48 hfr48 hM48
                      replace p48 := eq_true p48
                      replace q48 := eq_true q48
                      have HX58 := Aside0.mk (show Kd.S k62 62 wr w.heap.size (fun k_ => ((fun _ => True)) k_ ∧ ¬ ((fun _ => False)) k_) (.slice (some ⟨go48, 0, none⟩) x5_3.length co38) x5_3 from (by (with_reducible repeat (first | apply Kd.S_alloc | apply Kd.S_drewN | apply Kd.S_drew)); exact Kd.S_mono HO_5.out (fun k_ hk => ⟨trivial, fun e_ => e_⟩)))
                      obtain ⟨oki58, ce58, hcl58, hM58, hcc58, hfr58, hoki58, hH58⟩ := Kd.S_elem HX58.out z62 (x57_3 : Int) (of_decide_eq_true (by first | (with_reducible assumption) | assumption)) (by have h_ : (x57_3 : Int) < ((x5_3.length : Int) : Int) := of_decide_eq_true (by first | (with_reducible assumption) | assumption); first | exact h_ | (have e_ := (Kd.S_reads' HO_5.out).1; omega) | simpa using h_)
                      obtain ⟨ve58_0, rfl, ge58_0⟩ := k62_openM hM58
                      have HP58 := Kd.S_seg hH58 (of_decide_eq_true (by first | (with_reducible assumption) | assumption)) (by have h_ : (x57_3 : Int) < ((x5_3.length : Int) : Int) := of_decide_eq_true (by first | (with_reducible assumption) | assumption); first | exact h_ | (have e_ := (Kd.S_reads' HO_5.out).1; omega) | simpa using h_) (seg := [.int .i64 (-1)]) (j := 1) (show 2 ≤ 2 from by decide) (x' := (⟨(rd_T62 x5_3 x57_3).f0, (-1)⟩ : S62)) (k62_mkM _ _ _ (⟨(rd_T62 x5_3 x57_3).f0, (-1)⟩ : S62) (Kd.R_mono ge58_0 (fun _ h_ => Or.inl h_))) (fun _ hk => hk) (fun k_ hk_ => hk_.elim)
                      have hx58_1 := hcc58 1 _ rfl
                      (try simp only [show (k62).sz = 2 from rfl, Nat.mul_one, Nat.add_zero] at hx58_1)
                      have hf58_1 := hfr58 1
                      (try simp only [show (k62).sz = 2 from rfl, Nat.mul_one, Nat.add_zero] at hf58_1)
                      clear hcl58 hcc58 hfr58 hM58 hoki58 hH58
                      go_wp2_with (first | ((with_reducible refine gate_store (t := 3) (p := 78) rfl ?_); refine store_event (t := 3) (p := 78) (v := ?vo_w59) (w1 := (wr.setCell ⟨go48, (x57_3 : Int).toNat * 2 + 1, none⟩ (.int .i64 (-1)))) ?hg ?ho ?hn ?hr ?_; (case ho => rfl); (case hg => rfl); (case hn => rfl); (case hr => first | (go_simp; done) | (go_simp; rfl)); intro w59 hw; have hg : wr.grownBy w59 (some go48) := (by rw [hw]; exact HP58.2); have hp_ : Kd.S k62 62 w59 w.heap.size (fun _ => True) (.slice (some ⟨go48, 0, none⟩) x5_3.length co38) y159 := (by rw [hw, Ny159.out]; exact HP58.1); clear HP58; have n0_ := Aside0.mk (hp_); have n1_ := Aside0.mk (blk_grown (g := gb142) (o := .cells #[.int .i64 a0_0, .int .i64 a0_1, .int .i64 a0_2, .int .i64 a0_3, .int .i64 a0_4, .int .i64 a0_5, .int .i64 a0_6, .int .i64 a0_7] 60 (0, 0)) (by (with_reducible repeat (first | refine blk_drewN ?_ _ | refine blk_drew ?_ | refine blk_alloc ?_ _)); exact BK142.out) hg (Kd.S_ne HO_5.out BK142.out (by decide))); have n2_ := Aside0.mk ((by rw [hw]; exact below_set (HB.out) GB48.out : Below w.heap.size w w59)); clear HO_5; clear BK142; clear HB; have HO_5 := n0_; have BK142 := n1_; have HB := n2_; clear n0_ n1_ n2_; clear hg hw hp_; have p160 : 0 ≤ (x57_3 : Int) := of_decide_eq_true (by first | (with_reducible assumption) | assumption); have q160 : x57_3 < (l1.length : Int) := of_decide_eq_true (by first | (with_reducible assumption) | assumption); obtain ⟨ad160, e160, hx160_0⟩ := Kd.at_int HR1.out x57_3 p160 q160; cases e160; replace hx160_0 := (HB.out.cell (World.block_lt_of_cell? w _ hx160_0)).trans hx160_0; replace p160 := eq_true p160; replace q160 := eq_true q160))
                      (try simp only [← hl5_3])
                      go_roundg k4
                      case measure => have := HJ2.out; have := HK2.out; have := HK3.out; have := HK4.out; omega
                      case rel => exact ⟨(y159), (wrap64 (x57_3 + 1)), (by first | rfl | (simp; done) | (simp [*]; done)), H', ⟨by have := HJ2.out; have := HK2.out; have := HK3.out; have := HK4.out; omega⟩, ⟨by (try simp only [hl5_3]); (with_reducible repeat (first | apply Kd.S_alloc | apply Kd.S_drewN | apply Kd.S_drew)); exact HO_5.out⟩, ⟨by (try simp only [hl5_3]); (with_reducible repeat (first | refine blk_drewN ?_ _ | refine blk_drew ?_ | refine blk_alloc ?_ _)); exact BK142.out⟩, ⟨by repeat (first | (with_reducible first | exact HB.out | apply below_alloc | apply pw_below_drewN | apply below_drew1 | refine below_set ?_ GE142.out) | exact HB.out)⟩⟩
                    ·rw [if_neg c50] at H
                     exact absurd H (by simp)
                   ·rw [if_neg c49] at H
                    have c49b0 : decide (x10_4 < 8) = false := decide_eq_false c49
                    clear c49
                    have H' := Aside0.mk H
                    clear H
                    have p48 : 0 ≤ (x57_3 : Int) := of_decide_eq_true (by first | (with_reducible assumption) | assumption)
                    have q48 : (x57_3 : Int) < ((x5_3.length : Int) : Int) := of_decide_eq_true (by first | (with_reducible assumption) | assumption)
                    obtain ⟨go48, co48, eo48, gb48, gl48, cl48, HG48⟩ := Kd.S_form HO_5.out (by omega)
                    (first | cases eo48 | (injection eo48 with ea_ en_ ec_; (first | subst ea_ | (injection ea_ with ea_; subst ea_)); subst ec_; clear en_))
                    have GB48 := Aside0.mk gb48
                    have GG48 := Aside0.mk HG48
                    clear gb48 gl48 HG48
                    obtain ⟨_, ce48, hcl48, hM48, hcc48, hfr48, _, _⟩ := Kd.S_elem HO_5.out z62 (x57_3 : Int) p48 q48
                    obtain ⟨ve48_0, rfl, ge48_0⟩ := k62_openM hM48
                    have hx48_0 : wr.cell? ⟨go48, (x57_3 : Int).toNat * 2, none⟩ = some (ve48_0) := hcc48 0 _ rfl
                    have hx48_1 : wr.cell? ⟨go48, (x57_3 : Int).toNat * 2 + 1, none⟩ = some (.int .i64 ((rd_T62 x5_3 x57_3).f1)) := hcc48 1 _ rfl
                    have hf48_0 : wr.frozen? ⟨go48, (x57_3 : Int).toNat * 2, none⟩ = false := hfr48 0
                    have hf48_1 : wr.frozen? ⟨go48, (x57_3 : Int).toNat * 2 + 1, none⟩ = false := hfr48 1
                    clear hcl48 hcc48 hfr48 hM48
                    replace p48 := eq_true p48
                    replace q48 := eq_true q48
                    have HX60 := Aside0.mk (show Kd.S k62 62 wr w.heap.size (fun k_ => ((fun _ => True)) k_ ∧ ¬ ((fun _ => False)) k_) (.slice (some ⟨go48, 0, none⟩) x5_3.length co38) x5_3 from (by (with_reducible repeat (first | apply Kd.S_alloc | apply Kd.S_drewN | apply Kd.S_drew)); exact Kd.S_mono HO_5.out (fun k_ hk => ⟨trivial, fun e_ => e_⟩)))
                    obtain ⟨oki60, ce60, hcl60, hM60, hcc60, hfr60, hoki60, hH60⟩ := Kd.S_elem HX60.out z62 (x57_3 : Int) (of_decide_eq_true (by first | (with_reducible assumption) | assumption)) (by have h_ : (x57_3 : Int) < ((x5_3.length : Int) : Int) := of_decide_eq_true (by first | (with_reducible assumption) | assumption); first | exact h_ | (have e_ := (Kd.S_reads' HO_5.out).1; omega) | simpa using h_)
                    obtain ⟨ve60_0, rfl, ge60_0⟩ := k62_openM hM60
                    have HP60 := Kd.S_seg hH60 (of_decide_eq_true (by first | (with_reducible assumption) | assumption)) (by have h_ : (x57_3 : Int) < ((x5_3.length : Int) : Int) := of_decide_eq_true (by first | (with_reducible assumption) | assumption); first | exact h_ | (have e_ := (Kd.S_reads' HO_5.out).1; omega) | simpa using h_) (seg := [.int .i64 (-1)]) (j := 1) (show 2 ≤ 2 from by decide) (x' := (⟨(rd_T62 x5_3 x57_3).f0, (-1)⟩ : S62)) (k62_mkM _ _ _ (⟨(rd_T62 x5_3 x57_3).f0, (-1)⟩ : S62) (Kd.R_mono ge60_0 (fun _ h_ => Or.inl h_))) (fun _ hk => hk) (fun k_ hk_ => hk_.elim)
                    have hx60_1 := hcc60 1 _ rfl
                    (try simp only [show (k62).sz = 2 from rfl, Nat.mul_one, Nat.add_zero] at hx60_1)
                    have hf60_1 := hfr60 1
                    (try simp only [show (k62).sz = 2 from rfl, Nat.mul_one, Nat.add_zero] at hf60_1)
                    clear hcl60 hcc60 hfr60 hM60 hoki60 hH60
                    go_wp2_with (first | ((with_reducible refine gate_store (t := 3) (p := 78) rfl ?_); refine store_event (t := 3) (p := 78) (v := ?vo_w61) (w1 := (wr.setCell ⟨go48, (x57_3 : Int).toNat * 2 + 1, none⟩ (.int .i64 (-1)))) ?hg ?ho ?hn ?hr ?_; (case ho => rfl); (case hg => rfl); (case hn => rfl); (case hr => first | (go_simp; done) | (go_simp; rfl)); intro w61 hw; have hg : wr.grownBy w61 (some go48) := (by rw [hw]; exact HP60.2); have hp_ : Kd.S k62 62 w61 w.heap.size (fun _ => True) (.slice (some ⟨go48, 0, none⟩) x5_3.length co38) y159 := (by rw [hw, Ny159.out]; exact HP60.1); clear HP60; have n0_ := Aside0.mk (hp_); have n1_ := Aside0.mk (blk_grown (g := gb142) (o := .cells #[.int .i64 a0_0, .int .i64 a0_1, .int .i64 a0_2, .int .i64 a0_3, .int .i64 a0_4, .int .i64 a0_5, .int .i64 a0_6, .int .i64 a0_7] 60 (0, 0)) (by (with_reducible repeat (first | refine blk_drewN ?_ _ | refine blk_drew ?_ | refine blk_alloc ?_ _)); exact BK142.out) hg (Kd.S_ne HO_5.out BK142.out (by decide))); have n2_ := Aside0.mk ((by rw [hw]; exact below_set (HB.out) GB48.out : Below w.heap.size w w61)); clear HO_5; clear BK142; clear HB; have HO_5 := n0_; have BK142 := n1_; have HB := n2_; clear n0_ n1_ n2_; clear hg hw hp_))
                    (try simp only [← hl5_3])
                    go_roundg k4
                    case measure => have := HJ2.out; have := HK2.out; have := HK3.out; have := HK4.out; omega
                    case rel => exact ⟨(y159), (wrap64 (x57_3 + 1)), (by first | rfl | (simp; done) | (simp [*]; done)), H', ⟨by have := HJ2.out; have := HK2.out; have := HK3.out; have := HK4.out; omega⟩, ⟨by (try simp only [hl5_3]); (with_reducible repeat (first | apply Kd.S_alloc | apply Kd.S_drewN | apply Kd.S_drew)); exact HO_5.out⟩, ⟨by (try simp only [hl5_3]); (with_reducible repeat (first | refine blk_drewN ?_ _ | refine blk_drew ?_ | refine blk_alloc ?_ _)); exact BK142.out⟩, ⟨by repeat (first | (with_reducible first | exact HB.out | apply below_alloc | apply pw_below_drewN | apply below_drew1 | refine below_set ?_ GE142.out) | exact HB.out)⟩⟩
                  ·rw [if_neg c47] at H
                   exact absurd H (by simp)
                 ·rw [if_neg c46] at H
                  exact absurd H (by simp)
             ·rw [if_neg c41] at H
              exact absurd H (by simp)
            ·rw [if_neg c40] at H
             exact absurd H (by simp)
           ·rw [if_neg c39] at H
            have c39b0 : decide (x57_3 < (x5_2.length : Int)) = false := decide_eq_false c39
            (try (have c39z0 := c39b0; simp only [hl5_3] at c39z0))
            clear c39
            replace H := Option.bind_eq_some_iff.mp H
            obtain ⟨⟨t153, t154⟩, A620, H⟩ := H
            replace H : (if t154 = 0 then (some ((t153.length : Int) == 0)) else (some false)) = some r := H
            have A62 := Aside0.mk A620
            clear A620
            by_cases c63 : t154 = 0
            ·rw [if_pos c63] at H
             have c63b0 : (t154 == 0) = true := beq_iff_eq.mpr c63
             have c63b1 : (t154 != 0) = false := bne_eq_false_iff_eq.mpr c63
             clear c63
             obtain rfl := Option.some.inj H
             go_wp2_with (first | ((with_reducible refine gate_callee (f := 24) rfl ?_); refine goesL_ (some 104) rfl rfl Try.func24 (by kernel_rfl) rfl #[.slice Ao38 x5_3.length co38] rfl (by (try simp only [List.map_toArray, List.map_cons, List.map_nil]); first | done | rfl | (simp only [List.length_drop, List.length_take]; rfl)) ?_; (with_reducible refine (zone_Stuck.calls k3 _ _ x5_3 t153 t154 _ ?side1 ?side2 A62.out).mono ?_); (case side1 => repeat (first | exact (Kd.S_reads' HO_5.out).2.2 | (with_reducible refine Kd.C_alloc ?_ _) | (with_reducible refine Kd.C_drewN ?_ _) | (with_reducible refine Kd.C_drew ?_))); (case side2 => exact (Kd.S_reads' HO_5.out).2.1); rintro e w64 ⟨v155, rfl, ho0, hb⟩; refine ⟨_, rfl, ?_⟩; have n0_ := Aside0.mk (Kd.S_elder' (by (with_reducible repeat (first | apply Kd.S_alloc | apply Kd.S_drewN | apply Kd.S_drew)); exact HO_5.out) (Kd.R_base ho0) hb); have n1_ := Aside0.mk (Kd.R_lower ho0 (below_size (by repeat (first | (with_reducible first | exact HB.out | apply below_alloc | apply pw_below_drewN | apply below_drew1 | refine below_set ?_ GE142.out) | exact HB.out)))); have n2_ := Aside0.mk (blk_below (g := gb142) (o := .cells #[.int .i64 a0_0, .int .i64 a0_1, .int .i64 a0_2, .int .i64 a0_3, .int .i64 a0_4, .int .i64 a0_5, .int .i64 a0_6, .int .i64 a0_7] 60 (0, 0)) (by (with_reducible repeat (first | refine blk_drewN ?_ _ | refine blk_drew ?_ | refine blk_alloc ?_ _)); exact BK142.out) hb); have n3_ := Aside0.mk (below_step (by repeat (first | (with_reducible first | exact HB.out | apply below_alloc | apply pw_below_drewN | apply below_drew1 | refine below_set ?_ GE142.out) | exact HB.out)) hb); clear HO_5; clear BK142; clear HB; have HO_5 := n0_; have HO156 := n1_; have BK142 := n2_; have HB := n3_; clear n0_ n1_ n2_ n3_; (try clear hb); (try clear hb2); (try clear hk); (try clear hi); (try clear ho0); obtain ⟨Ao65, co65, eo65⟩ := Kd.R_slice HO156.out; subst eo65))
             go_ret
             exact ⟨by first | rfl | (simp [errW_none, errW_some] <;> rfl) | (simp [*, errW_none, errW_some] <;> rfl), by repeat (first | (with_reducible first | exact HB.out | apply below_alloc | apply pw_below_drewN | apply below_drew1 | refine below_set ?_ GE142.out) | exact HB.out)⟩
            ·rw [if_neg c63] at H
             have c63b0 : (t154 == 0) = false := beq_eq_false_iff_ne.mpr c63
             have c63b1 : (t154 != 0) = true := bne_iff_ne.mpr c63
             obtain rfl := Option.some.inj H
             go_wp2_with (first | ((with_reducible refine gate_callee (f := 24) rfl ?_); refine goesL_ (some 104) rfl rfl Try.func24 (by kernel_rfl) rfl #[.slice Ao38 x5_3.length co38] rfl (by (try simp only [List.map_toArray, List.map_cons, List.map_nil]); first | done | rfl | (simp only [List.length_drop, List.length_take]; rfl)) ?_; (with_reducible refine (zone_Stuck.calls k3 _ _ x5_3 t153 t154 _ ?side1 ?side2 A62.out).mono ?_); (case side1 => repeat (first | exact (Kd.S_reads' HO_5.out).2.2 | (with_reducible refine Kd.C_alloc ?_ _) | (with_reducible refine Kd.C_drewN ?_ _) | (with_reducible refine Kd.C_drew ?_))); (case side2 => exact (Kd.S_reads' HO_5.out).2.1); rintro e w66 ⟨v155, rfl, ho0, hb⟩; refine ⟨_, rfl, ?_⟩; have n0_ := Aside0.mk (Kd.S_elder' (by (with_reducible repeat (first | apply Kd.S_alloc | apply Kd.S_drewN | apply Kd.S_drew)); exact HO_5.out) (Kd.R_base ho0) hb); have n1_ := Aside0.mk (Kd.R_lower ho0 (below_size (by repeat (first | (with_reducible first | exact HB.out | apply below_alloc | apply pw_below_drewN | apply below_drew1 | refine below_set ?_ GE142.out) | exact HB.out)))); have n2_ := Aside0.mk (blk_below (g := gb142) (o := .cells #[.int .i64 a0_0, .int .i64 a0_1, .int .i64 a0_2, .int .i64 a0_3, .int .i64 a0_4, .int .i64 a0_5, .int .i64 a0_6, .int .i64 a0_7] 60 (0, 0)) (by (with_reducible repeat (first | refine blk_drewN ?_ _ | refine blk_drew ?_ | refine blk_alloc ?_ _)); exact BK142.out) hb); have n3_ := Aside0.mk (below_step (by repeat (first | (with_reducible first | exact HB.out | apply below_alloc | apply pw_below_drewN | apply below_drew1 | refine below_set ?_ GE142.out) | exact HB.out)) hb); clear HO_5; clear BK142; clear HB; have HO_5 := n0_; have HO156 := n1_; have BK142 := n2_; have HB := n3_; clear n0_ n1_ n2_ n3_; (try clear hb); (try clear hb2); (try clear hk); (try clear hi); (try clear ho0)))
             go_ret
             exact ⟨by first | rfl | (simp [errW_none, errW_some] <;> rfl) | (simp [*, errW_none, errW_some] <;> rfl), by repeat (first | (with_reducible first | exact HB.out | apply below_alloc | apply pw_below_drewN | apply below_drew1 | refine below_set ?_ GE142.out) | exact HB.out)⟩
     ·rw [if_neg c13] at H
      exact absurd H (by simp)
    ·rw [if_neg c12] at H
     exact absurd H (by simp)

end Go.Proofs.Ytkdfohmceokchaa.PZoneSafe
