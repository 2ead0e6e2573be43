-- Written by a program of this session (wip/oprint): after the pattern of the kit's print, which does not take this law. -- trimmed
import Derived.Test.YtkfoicfbmhalbaaPReachCutsx0
import Derived.Test.YtkfoicfbmhalbaaPReachCutsx8
namespace Go.Proofs.Ytkfoicfbmhalbaa.PReachCuts
open Go.RowKit Go.Proofs.YtkfoicfbmhalbaaW.PrintWords Go.Proofs.YtkfoicfbmhalbaaW.PrintLast Go.Proofs.YtkfoicfbmhalbaaW.PrintMore
attribute [local go_sem] max2_int min2_int max_two min_two max_three min_three max_four min_four   -- for this text's walks alone
set_option linter.unusedVariables false
set_option linter.unusedSimpArgs false

/-! ### stillageref07_Between: function 18 -/
mutual
def stillageref07_Between.l0 : Nat → List Int → Int → List Int → Int → Int → List (S43) → List (S27) → Option (List Int)
 | 0, _, _, _, _, _, _, _ => none
 | k + 1, x1, x2, x7, x18, x19, x262000, x262001 => if x19 < x18 then (if 0 ≤ x19 then (if x19 < (x7.length : Int) then (stillageref07_Between.l0 k x1 x2 (x7.set (x19 : Int).toNat (-1)) x18 (wrap64 (x19 + 1)) x262000 x262001) else (none)) else (none)) else (if 0 ≤ x2 then (if x2 < (x7.length : Int) then (stillageref07_Between.l1 k x1 x2 (x7.set (x2 : Int).toNat 0) true x262000 x262001) else (none)) else (none))
def stillageref07_Between.l1 : Nat → List Int → Int → List Int → Bool → List (S43) → List (S27) → Option (List Int)
 | 0, _, _, _, _, _, _ => none
 | k + 1, x1, x2, x7, x9, x262000, x262001 => if x9 = true then (stillageref07_Between.l2 k x1 x2 x7 false (x262001.length : Int) 0 x262000 x262001) else (some x7)
def stillageref07_Between.l2 : Nat → List Int → Int → List Int → Bool → Int → Int → List (S43) → List (S27) → Option (List Int)
 | 0, _, _, _, _, _, _, _, _ => none
 | k + 1, x1, x2, x7, x9, x32, x33, x262000, x262001 => if x33 < x32 then (if 0 ≤ x33 then (if x33 < (x262001.length : Int) then (if 0 ≤ ((rd_T27 x262001 x33).f0) then (if ((rd_T27 x262001 x33).f0) < (x7.length : Int) then (if (rd x7 ((rd_T27 x262001 x33).f0)) < 0 then (stillageref07_Between.j3 k x1 x2 x7 x9 ((rd_T27 x262001 x33).f0) ((rd_T27 x262001 x33).f1) x32 x33 true x262000 x262001) else (if ((rd_T27 x262001 x33).f0) = x2 then ((stillageref07_Open.f k x1 (wrap64 (x33 + 1))).bind fun t270 => (stillageref07_Between.j3 k x1 x2 x7 x9 ((rd_T27 x262001 x33).f0) ((rd_T27 x262001 x33).f1) x32 x33 (!t270) x262000 x262001)) else (if ((rd_T27 x262001 x33).f0) < (x262000.length : Int) then (if ((rd_T43 x262000 ((rd_T27 x262001 x33).f0)).f1) = 1 then ((stillageref07_Open.f k x1 (wrap64 (x33 + 1))).bind fun t272 => (stillageref07_Between.j3 k x1 x2 x7 x9 ((rd_T27 x262001 x33).f0) ((rd_T27 x262001 x33).f1) x32 x33 (!t272) x262000 x262001)) else (stillageref07_Between.j3 k x1 x2 x7 x9 ((rd_T27 x262001 x33).f0) ((rd_T27 x262001 x33).f1) x32 x33 true x262000 x262001)) else (none)))) else (none)) else (none)) else (none)) else (none)) else (stillageref07_Between.l1 k x1 x2 x7 x9 x262000 x262001)
def stillageref07_Between.j3 : Nat → List Int → Int → List Int → Bool → Int → Int → Int → Int → Bool → List (S43) → List (S27) → Option (List Int)
 | 0, _, _, _, _, _, _, _, _, _, _, _ => none
 | k + 1, x1, x2, x7, x9, x11, x12, x32, x33, x73, x262000, x262001 => if x73 = true then (stillageref07_Between.l2 k x1 x2 x7 x9 x32 (wrap64 (x33 + 1)) x262000 x262001) else (if 0 ≤ x12 then (if x12 < (x7.length : Int) then (if (rd x7 x12) < 0 then (if 0 ≤ x11 then (if x11 < (x7.length : Int) then (stillageref07_Between.l2 k x1 x2 (x7.set (x12 : Int).toNat (wrap64 ((rd x7 x11) + 1))) true x32 (wrap64 (x33 + 1)) x262000 x262001) else (none)) else (none)) else (if 0 ≤ x11 then (if x11 < (x7.length : Int) then (if (wrap64 ((rd x7 x11) + 1)) < (rd x7 x12) then (stillageref07_Between.l2 k x1 x2 (x7.set (x12 : Int).toNat (wrap64 ((rd x7 x11) + 1))) true x32 (wrap64 (x33 + 1)) x262000 x262001) else (stillageref07_Between.l2 k x1 x2 x7 x9 x32 (wrap64 (x33 + 1)) x262000 x262001)) else (none)) else (none))) else (none)) else (none))
end
def stillageref07_Between.f (k : Nat) (l0_0 : List (S43)) (l0_1 : List (S27)) (l1 : List Int) (a2 : Int) : Option (List Int) := if 0 ≤ (l0_0.length : Int) then (if ((l0_0.length : Int) : Int).toNat ≤ 35184372088832 then ((some (List.replicate ((l0_0.length : Int) : Int).toNat 0 : List Int)).bind fun y262 => (stillageref07_Between.l0 k l1 a2 y262 (y262.length : Int) 0 l0_0 l0_1)) else (none)) else (none)
theorem stillageref07_Between.mono_l : ∀ k, (∀ y0 y1 y2 y3 y4 y5 y6, LeO (stillageref07_Between.l0 k y0 y1 y2 y3 y4 y5 y6) (stillageref07_Between.l0 (k + 1) y0 y1 y2 y3 y4 y5 y6)) ∧ (∀ y0 y1 y2 y3 y4 y5, LeO (stillageref07_Between.l1 k y0 y1 y2 y3 y4 y5) (stillageref07_Between.l1 (k + 1) y0 y1 y2 y3 y4 y5)) ∧ (∀ y0 y1 y2 y3 y4 y5 y6 y7, LeO (stillageref07_Between.l2 k y0 y1 y2 y3 y4 y5 y6 y7) (stillageref07_Between.l2 (k + 1) y0 y1 y2 y3 y4 y5 y6 y7)) ∧ (∀ y0 y1 y2 y3 y4 y5 y6 y7 y8 y9 y10, LeO (stillageref07_Between.j3 k y0 y1 y2 y3 y4 y5 y6 y7 y8 y9 y10) (stillageref07_Between.j3 (k + 1) y0 y1 y2 y3 y4 y5 y6 y7 y8 y9 y10))
 | 0 => ⟨fun _ _ _ _ _ _ _ r h => by simp [stillageref07_Between.l0] at h, fun _ _ _ _ _ _ r h => by simp [stillageref07_Between.l1] at h, fun _ _ _ _ _ _ _ _ r h => by simp [stillageref07_Between.l2] at h, fun _ _ _ _ _ _ _ _ _ _ _ r h => by simp [stillageref07_Between.j3] at h⟩
 | k + 1 => by
  obtain ⟨ih0, ih1, ih2, ih3⟩ := stillageref07_Between.mono_l k
  refine ⟨?_, ?_, ?_, ?_⟩
  ·intro y0 y1 y2 y3 y4 y5 y6
   unfold stillageref07_Between.l0
   repeat' first
   | (with_reducible exact ih0 _ _ _ _ _ _ _)
   | (with_reducible exact ih1 _ _ _ _ _ _)
   | (with_reducible exact ih2 _ _ _ _ _ _ _ _)
   | (with_reducible exact ih3 _ _ _ _ _ _ _ _ _ _ _)
   | (with_reducible exact stillageref07_Open.mono _ _ _)
   | (with_reducible exact LeO.refl _)
   | (with_reducible exact LeO.none _)
   | (with_reducible refine LeO.ite ?_ ?_)
   | (with_reducible refine LeO.bind ?_ (fun _ => ?_))
   | exact ih0 _ _ _ _ _ _ _
   | exact ih1 _ _ _ _ _ _
   | exact ih2 _ _ _ _ _ _ _ _
   | exact ih3 _ _ _ _ _ _ _ _ _ _ _
   | exact stillageref07_Open.mono _ _ _
   | exact LeO.none _
   | refine LeO.ite ?_ ?_
   | refine LeO.bind ?_ (fun _ => ?_)
  ·intro y0 y1 y2 y3 y4 y5
   unfold stillageref07_Between.l1
   repeat' first
   | (with_reducible exact ih0 _ _ _ _ _ _ _)
   | (with_reducible exact ih1 _ _ _ _ _ _)
   | (with_reducible exact ih2 _ _ _ _ _ _ _ _)
   | (with_reducible exact ih3 _ _ _ _ _ _ _ _ _ _ _)
   | (with_reducible exact stillageref07_Open.mono _ _ _)
   | (with_reducible exact LeO.refl _)
   | (with_reducible exact LeO.none _)
   | (with_reducible refine LeO.ite ?_ ?_)
   | (with_reducible refine LeO.bind ?_ (fun _ => ?_))
   | exact ih0 _ _ _ _ _ _ _
   | exact ih1 _ _ _ _ _ _
   | exact ih2 _ _ _ _ _ _ _ _
   | exact ih3 _ _ _ _ _ _ _ _ _ _ _
   | exact stillageref07_Open.mono _ _ _
   | exact LeO.none _
   | refine LeO.ite ?_ ?_
   | refine LeO.bind ?_ (fun _ => ?_)
  ·intro y0 y1 y2 y3 y4 y5 y6 y7
   unfold stillageref07_Between.l2
   repeat' first
   | (with_reducible exact ih0 _ _ _ _ _ _ _)
   | (with_reducible exact ih1 _ _ _ _ _ _)
   | (with_reducible exact ih2 _ _ _ _ _ _ _ _)
   | (with_reducible exact ih3 _ _ _ _ _ _ _ _ _ _ _)
   | (with_reducible exact stillageref07_Open.mono _ _ _)
   | (with_reducible exact LeO.refl _)
   | (with_reducible exact LeO.none _)
   | (with_reducible refine LeO.ite ?_ ?_)
   | (with_reducible refine LeO.bind ?_ (fun _ => ?_))
   | exact ih0 _ _ _ _ _ _ _
   | exact ih1 _ _ _ _ _ _
   | exact ih2 _ _ _ _ _ _ _ _
   | exact ih3 _ _ _ _ _ _ _ _ _ _ _
   | exact stillageref07_Open.mono _ _ _
   | exact LeO.none _
   | refine LeO.ite ?_ ?_
   | refine LeO.bind ?_ (fun _ => ?_)
  ·intro y0 y1 y2 y3 y4 y5 y6 y7 y8 y9 y10
   unfold stillageref07_Between.j3
   repeat' first
   | (with_reducible exact ih0 _ _ _ _ _ _ _)
   | (with_reducible exact ih1 _ _ _ _ _ _)
   | (with_reducible exact ih2 _ _ _ _ _ _ _ _)
   | (with_reducible exact ih3 _ _ _ _ _ _ _ _ _ _ _)
   | (with_reducible exact stillageref07_Open.mono _ _ _)
   | (with_reducible exact LeO.refl _)
   | (with_reducible exact LeO.none _)
   | (with_reducible refine LeO.ite ?_ ?_)
   | (with_reducible refine LeO.bind ?_ (fun _ => ?_))
   | exact ih0 _ _ _ _ _ _ _
   | exact ih1 _ _ _ _ _ _
   | exact ih2 _ _ _ _ _ _ _ _
   | exact ih3 _ _ _ _ _ _ _ _ _ _ _
   | exact stillageref07_Open.mono _ _ _
   | exact LeO.none _
   | refine LeO.ite ?_ ?_
   | refine LeO.bind ?_ (fun _ => ?_)
theorem stillageref07_Between.mono : ∀ a0 a1 a2 a3 k, LeO (stillageref07_Between.f k a0 a1 a2 a3) (stillageref07_Between.f (k + 1) a0 a1 a2 a3) := by
 intro a0 a1 a2 a3 k
 obtain ⟨ih0, ih1, ih2, ih3⟩ := stillageref07_Between.mono_l k
 unfold stillageref07_Between.f
 repeat' first
   | (with_reducible exact ih0 _ _ _ _ _ _ _)
   | (with_reducible exact ih1 _ _ _ _ _ _)
   | (with_reducible exact ih2 _ _ _ _ _ _ _ _)
   | (with_reducible exact ih3 _ _ _ _ _ _ _ _ _ _ _)
   | (with_reducible exact stillageref07_Open.mono _ _ _)
   | (with_reducible exact LeO.refl _)
   | (with_reducible exact LeO.none _)
   | (with_reducible refine LeO.ite ?_ ?_)
   | (with_reducible refine LeO.bind ?_ (fun _ => ?_))
   | exact ih0 _ _ _ _ _ _ _
   | exact ih1 _ _ _ _ _ _
   | exact ih2 _ _ _ _ _ _ _ _
   | exact ih3 _ _ _ _ _ _ _ _ _ _ _
   | exact stillageref07_Open.mono _ _ _
   | exact LeO.none _
   | refine LeO.ite ?_ ?_
   | refine LeO.bind ?_ (fun _ => ?_)
set_option maxHeartbeats 8000000 in
set_option maxRecDepth 100000 in
theorem stillageref07_Between.calls (k : Nat) (A0_0 : Option Addr) (c0_0 : Nat) (l0_0 : List (S43)) (A0_1 : Option Addr) (c0_1 : Nat) (l0_1 : List (S27)) (A1 : Option Addr) (c1 : Nat) (l1 : List Int) (a2 : Int) (r : List Int) (w : World) (hr0_0 : Kd.C k43 w A0_0 l0_0.length l0_0) (hc0_0 : l0_0.length ≤ c0_0) (hr0_1 : Kd.C k27 w A0_1 l0_1.length l0_1) (hc0_1 : l0_1.length ≤ c0_1) (hr1 : Kd.C (Kd.int .i64) w A1 l1.length l1) (hc1 : l1.length ≤ c1) (h : stillageref07_Between.f k l0_0 l0_1 l1 a2 = some r) :
  Calls Try.prog 18 #[.agg #[.slice A0_0 l0_0.length c0_0, .slice A0_1 l0_1.length c0_1], .slice A1 l1.length c1, .int .i64 a2] w fun e w' => ∃ v0_ : Value, e = .returned (v0_) ∧ Kd.R (Kd.int .i64) 3 w' w.heap.size (fun _ => True) v0_ r ∧ Below w.heap.size w w' := by
 have hu25 := Try.underlying25
 have HR0_0 := Aside0.mk hr0_0
 have HC0_0 := Aside0.mk hc0_0
 clear hr0_0 hc0_0
 have HR0_1 := Aside0.mk hr0_1
 have HC0_1 := Aside0.mk hc0_1
 clear hr0_1 hc0_1
 have HR1 := Aside0.mk hr1
 have HC1 := Aside0.mk hc1
 clear hr1 hc1
 have HB := Aside0.mk (Below.refl w.heap.size w)
 have H : (if 0 ≤ (l0_0.length : Int) then (if ((l0_0.length : Int) : Int).toNat ≤ 35184372088832 then ((some (List.replicate ((l0_0.length : Int) : Int).toNat 0 : List Int)).bind fun y262 => (stillageref07_Between.l0 k l1 a2 y262 (y262.length : Int) 0 l0_0 l0_1)) else (none)) else (none)) = some r := h
 clear h
 by_cases c4 : 0 ≤ (l0_0.length : Int)
 rotate_left; ·rw [if_neg c4] at H; exact absurd H (by simp)

 rw [if_pos c4] at H
 have c4b0 := eq_true c4
 have c4b1 : decide (0 ≤ (l0_0.length : Int)) = true := decide_eq_true c4
 clear c4
 by_cases c5 : ((l0_0.length : Int) : Int).toNat ≤ 35184372088832
 rotate_left; ·rw [if_neg c5] at H; exact absurd H (by simp)
 rw [if_pos c5] at H
 have c5b0 := eq_true c5
 have c5b1 : decide (((l0_0.length : Int) : Int).toNat ≤ 35184372088832) = true := decide_eq_true c5
 clear c5
 obtain ⟨y262, hy262⟩ : ∃ y_ : List Int, y_ = (List.replicate ((l0_0.length : Int) : Int).toNat 0) := ⟨_, rfl⟩
 replace H : (stillageref07_Between.l0 k l1 a2 y262 (y262.length : Int) 0 l0_0 l0_1) = some r := by first | (rw [hy262]; with_reducible exact H) | (have H2_ := (Option.bind_some _ _).symm.trans H; rw [hy262]; with_reducible exact H2_) | (have H2_ := (Option.bind_some _ _).symm.trans H; with_reducible exact H2_) | with_reducible exact H | (rw [hy262]; exact H) | exact H
 have Ny262 := Aside0.mk hy262
 clear hy262
 have H' := Aside0.mk H; clear H
 go_enter Try.func18, Try.ntmps18
 go_wp2_with (first | ((with_reducible refine gate_dst (N := 3) rfl ?_); refine box_event ?hg (N := 3) ?hd (cs := #[.slice A0_0 l0_0.length c0_0, .slice A0_1 l0_1.length c0_1]) (t := 25) ?hr ?_; (case hd => rfl); (case hg => rfl); (case hr => first | (go_simp; done) | (go_simp; rfl)); intro gb261 hg w6 hbox hb; have BK261 := Aside0.mk (hbox); have GW261 := Aside0.mk ((by rw [hg]; exact (below_size (by repeat (first | (with_reducible first | exact HB.out | apply below_alloc | apply pw_below_drewN | apply below_drew1) | exact HB.out))) : w.heap.size ≤ gb261)); have GE261 := Aside0.mk ((by rw [hg]; exact (below_size (by repeat (first | (with_reducible first | exact HB.out | apply below_alloc | apply pw_below_drewN | apply below_drew1) | exact HB.out))) : w.heap.size ≤ gb261)); replace HB := Aside0.mk (below_step (by repeat (first | (with_reducible first | exact HB.out | apply below_alloc | apply pw_below_drewN | apply below_drew1) | exact HB.out)) hb); clear hb hbox hg; have hcz7_0 : w6.cell? ⟨gb261, 0, none⟩ = some (.slice A0_0 l0_0.length c0_0) := (blk_cell BK261.out 0).trans rfl; have hcz7_1 : w6.cell? ⟨gb261, 1, none⟩ = some (.slice A0_1 l0_1.length c0_1) := (blk_cell BK261.out 1).trans rfl; have hfz7_0 := blk_frozen BK261.out 0; have hfz7_1 := blk_frozen BK261.out 1) | ((with_reducible refine gate_dst (N := 16) rfl ?_); refine Kd.R_make (Kd.int .i64) _ 3 rfl (N := 16) rfl 26 _ _ rfl (l0_0.length : Int) rfl rfl Try.underlying26 (.int .i64 0) 8 info3 rfl (by decide) (by omega) 0 (ok := fun _ => True) (okp := fun _ => True) rfl (fun _ hk => hk) trivial (of_decide_eq_true (by first | (with_reducible assumption) | assumption)) (Nat.le_trans (Nat.mul_le_mul_right _ (of_decide_eq_true (by first | (with_reducible assumption) | assumption) : (l0_0.length : Int).toNat ≤ 35184372088832)) (by omega)) (Below.refl _ _) (Nat.le_refl _) ?_; intro v263 w8 ho9 hb hg_ hnew_; clear hg_ hnew_; (first | rw [← Ny262.out] at ho9 | (simp only [Int.reduceToNat] at ho9; rw [← Ny262.out] at ho9)); have HO264 := Aside0.mk (Kd.R_lower ho9 (below_size (by repeat (first | (with_reducible first | exact HB.out | apply below_alloc | apply pw_below_drewN | apply below_drew1 | refine below_set ?_ GE261.out) | exact HB.out)))); replace BK261 := Aside0.mk (blk_below (g := gb261) (o := .cells #[.slice A0_0 l0_0.length c0_0, .slice A0_1 l0_1.length c0_1] 25 (0, 0)) (by (with_reducible repeat (first | refine blk_drewN ?_ _ | refine blk_drew ?_ | refine blk_alloc ?_ _)); exact BK261.out) hb); replace HB := Aside0.mk (below_step (by repeat (first | (with_reducible first | exact HB.out | apply below_alloc | apply pw_below_drewN | apply below_drew1 | refine below_set ?_ GE261.out) | exact HB.out)) hb); clear hb ho9; obtain ⟨Ao10, co10, eo10⟩ := Kd.R_slice HO264.out; subst eo10))
 repeat (go_quiet (first | ((with_reducible refine gate_dst (N := 3) rfl ?_); refine box_event ?hg (N := 3) ?hd (cs := #[.slice A0_0 l0_0.length c0_0, .slice A0_1 l0_1.length c0_1]) (t := 25) ?hr ?_; (case hd => rfl); (case hg => rfl); (case hr => first | (go_simp; done) | (go_simp; rfl)); intro gb261 hg w6 hbox hb; have BK261 := Aside0.mk (hbox); have GW261 := Aside0.mk ((by rw [hg]; exact (below_size (by repeat (first | (with_reducible first | exact HB.out | apply below_alloc | apply pw_below_drewN | apply below_drew1) | exact HB.out))) : w.heap.size ≤ gb261)); have GE261 := Aside0.mk ((by rw [hg]; exact (below_size (by repeat (first | (with_reducible first | exact HB.out | apply below_alloc | apply pw_below_drewN | apply below_drew1) | exact HB.out))) : w.heap.size ≤ gb261)); replace HB := Aside0.mk (below_step (by repeat (first | (with_reducible first | exact HB.out | apply below_alloc | apply pw_below_drewN | apply below_drew1) | exact HB.out)) hb); clear hb hbox hg; have hcz7_0 : w6.cell? ⟨gb261, 0, none⟩ = some (.slice A0_0 l0_0.length c0_0) := (blk_cell BK261.out 0).trans rfl; have hcz7_1 : w6.cell? ⟨gb261, 1, none⟩ = some (.slice A0_1 l0_1.length c0_1) := (blk_cell BK261.out 1).trans rfl; have hfz7_0 := blk_frozen BK261.out 0; have hfz7_1 := blk_frozen BK261.out 1) | ((with_reducible refine gate_dst (N := 16) rfl ?_); refine Kd.R_make (Kd.int .i64) _ 3 rfl (N := 16) rfl 26 _ _ rfl (l0_0.length : Int) rfl rfl Try.underlying26 (.int .i64 0) 8 info3 rfl (by decide) (by omega) 0 (ok := fun _ => True) (okp := fun _ => True) rfl (fun _ hk => hk) trivial (of_decide_eq_true (by first | (with_reducible assumption) | assumption)) (Nat.le_trans (Nat.mul_le_mul_right _ (of_decide_eq_true (by first | (with_reducible assumption) | assumption) : (l0_0.length : Int).toNat ≤ 35184372088832)) (by omega)) (Below.refl _ _) (Nat.le_refl _) ?_; intro v263 w8 ho9 hb hg_ hnew_; clear hg_ hnew_; (first | rw [← Ny262.out] at ho9 | (simp only [Int.reduceToNat] at ho9; rw [← Ny262.out] at ho9)); have HO264 := Aside0.mk (Kd.R_lower ho9 (below_size (by repeat (first | (with_reducible first | exact HB.out | apply below_alloc | apply pw_below_drewN | apply below_drew1 | refine below_set ?_ GE261.out) | exact HB.out)))); replace BK261 := Aside0.mk (blk_below (g := gb261) (o := .cells #[.slice A0_0 l0_0.length c0_0, .slice A0_1 l0_1.length c0_1] 25 (0, 0)) (by (with_reducible repeat (first | refine blk_drewN ?_ _ | refine blk_drew ?_ | refine blk_alloc ?_ _)); exact BK261.out) hb); replace HB := Aside0.mk (below_step (by repeat (first | (with_reducible first | exact HB.out | apply below_alloc | apply pw_below_drewN | apply below_drew1 | refine below_set ?_ GE261.out) | exact HB.out)) hb); clear hb ho9; obtain ⟨Ao10, co10, eo10⟩ := Kd.R_slice HO264.out; subst eo10)); try go_wp2_with (first | ((with_reducible refine gate_dst (N := 3) rfl ?_); refine box_event ?hg (N := 3) ?hd (cs := #[.slice A0_0 l0_0.length c0_0, .slice A0_1 l0_1.length c0_1]) (t := 25) ?hr ?_; (case hd => rfl); (case hg => rfl); (case hr => first | (go_simp; done) | (go_simp; rfl)); intro gb261 hg w6 hbox hb; have BK261 := Aside0.mk (hbox); have GW261 := Aside0.mk ((by rw [hg]; exact (below_size (by repeat (first | (with_reducible first | exact HB.out | apply below_alloc | apply pw_below_drewN | apply below_drew1) | exact HB.out))) : w.heap.size ≤ gb261)); have GE261 := Aside0.mk ((by rw [hg]; exact (below_size (by repeat (first | (with_reducible first | exact HB.out | apply below_alloc | apply pw_below_drewN | apply below_drew1) | exact HB.out))) : w.heap.size ≤ gb261)); replace HB := Aside0.mk (below_step (by repeat (first | (with_reducible first | exact HB.out | apply below_alloc | apply pw_below_drewN | apply below_drew1) | exact HB.out)) hb); clear hb hbox hg; have hcz7_0 : w6.cell? ⟨gb261, 0, none⟩ = some (.slice A0_0 l0_0.length c0_0) := (blk_cell BK261.out 0).trans rfl; have hcz7_1 : w6.cell? ⟨gb261, 1, none⟩ = some (.slice A0_1 l0_1.length c0_1) := (blk_cell BK261.out 1).trans rfl; have hfz7_0 := blk_frozen BK261.out 0; have hfz7_1 := blk_frozen BK261.out 1) | ((with_reducible refine gate_dst (N := 16) rfl ?_); refine Kd.R_make (Kd.int .i64) _ 3 rfl (N := 16) rfl 26 _ _ rfl (l0_0.length : Int) rfl rfl Try.underlying26 (.int .i64 0) 8 info3 rfl (by decide) (by omega) 0 (ok := fun _ => True) (okp := fun _ => True) rfl (fun _ hk => hk) trivial (of_decide_eq_true (by first | (with_reducible assumption) | assumption)) (Nat.le_trans (Nat.mul_le_mul_right _ (of_decide_eq_true (by first | (with_reducible assumption) | assumption) : (l0_0.length : Int).toNat ≤ 35184372088832)) (by omega)) (Below.refl _ _) (Nat.le_refl _) ?_; intro v263 w8 ho9 hb hg_ hnew_; clear hg_ hnew_; (first | rw [← Ny262.out] at ho9 | (simp only [Int.reduceToNat] at ho9; rw [← Ny262.out] at ho9)); have HO264 := Aside0.mk (Kd.R_lower ho9 (below_size (by repeat (first | (with_reducible first | exact HB.out | apply below_alloc | apply pw_below_drewN | apply below_drew1 | refine below_set ?_ GE261.out) | exact HB.out)))); replace BK261 := Aside0.mk (blk_below (g := gb261) (o := .cells #[.slice A0_0 l0_0.length c0_0, .slice A0_1 l0_1.length c0_1] 25 (0, 0)) (by (with_reducible repeat (first | refine blk_drewN ?_ _ | refine blk_drew ?_ | refine blk_alloc ?_ _)); exact BK261.out) hb); replace HB := Aside0.mk (below_step (by repeat (first | (with_reducible first | exact HB.out | apply below_alloc | apply pw_below_drewN | apply below_drew1 | refine below_set ?_ GE261.out) | exact HB.out)) hb); clear hb ho9; obtain ⟨Ao10, co10, eo10⟩ := Kd.R_slice HO264.out; subst eo10)))
 go_loopg [19] k (fun kq v19 w' => ∃ (x7_1 : List Int) (x19_1 : Int), v19 = .int .i64 x19_1 ∧ Aside0 (stillageref07_Between.l0 kq l1 a2 x7_1 (y262.length : Int) x19_1 l0_0 l0_1 = some r) ∧ Aside0 (kq ≤ k) ∧ Aside0 (Kd.R (Kd.int .i64) 3 w' w.heap.size (fun _ => True) (.slice Ao10 y262.length co10) x7_1) ∧ Aside0 (w'.heap[gb261]? = some (.cells #[(.slice A0_0 l0_0.length c0_0), (.slice A0_1 l0_1.length c0_1)] 25 (0, 0))) ∧ Aside0 (Below w.heap.size w w'))
 case atStart => exact ⟨(y262), (0), (by first | rfl | (simp; done) | (simp [*]; done)), H', ⟨Nat.le_refl _⟩, ⟨by (with_reducible repeat (first | apply Kd.R_alloc | apply Kd.R_drewN | apply Kd.R_drew)); exact HO264.out⟩, ⟨by (with_reducible repeat (first | refine blk_drewN ?_ _ | refine blk_drew ?_ | refine blk_alloc ?_ _)); exact BK261.out⟩, ⟨by repeat (first | (with_reducible first | exact HB.out | apply below_alloc | apply pw_below_drewN | apply below_drew1 | refine below_set ?_ GE261.out) | exact HB.out)⟩⟩
 case round =>
  clear H'
  obtain ⟨x7_1, x19_1, rfl, HA, HK1, HO_7, BK261, HB⟩ := hrel
  have hl7_1 := (Kd.R_reads' HO_7.out).1
  rw [hl7_1] at HO_7
  (try simp only [hl7_1])
  (try simp only [hl7_1] at BK261)
  cases gk with
  | zero => exact absurd HA.out (by simp [stillageref07_Between.l0])
  | succ k1 =>
   have H := HA.out
   clear HA
   simp only [stillageref07_Between.l0] at H
   by_cases c11 : x19_1 < (y262.length : Int)
   ·rw [if_pos c11] at H
    have c11b0 : decide (x19_1 < (y262.length : Int)) = true := decide_eq_true c11
    (try (have c11z0 := c11b0; simp only [hl7_1] at c11z0))
    clear c11
    by_cases c12 : 0 ≤ x19_1
    rotate_left; ·rw [if_neg c12] at H; exact absurd H (by simp)
    rw [if_pos c12] at H
    have c12b0 : decide (0 ≤ x19_1) = true := decide_eq_true c12
    clear c12
    by_cases c13 : x19_1 < (x7_1.length : Int)
    rotate_left; ·rw [if_neg c13] at H; exact absurd H (by simp)
    rw [if_pos c13] at H
    have c13b0 : decide (x19_1 < (x7_1.length : Int)) = true := decide_eq_true c13
    (try (have c13z0 := c13b0; simp only [hl7_1] at c13z0))
    clear c13
    obtain ⟨y265, hy265⟩ : ∃ y_ : List Int, y_ = (x7_1.set (x19_1 : Int).toNat (-1)) := ⟨_, rfl⟩
    replace H : (stillageref07_Between.l0 k1 l1 a2 y265 (y262.length : Int) (wrap64 (x19_1 + 1)) l0_0 l0_1) = some r := by first | (rw [hy265]; with_reducible exact H) | (have H2_ := (Option.bind_some _ _).symm.trans H; rw [hy265]; with_reducible exact H2_) | (have H2_ := (Option.bind_some _ _).symm.trans H; with_reducible exact H2_) | with_reducible exact H | (rw [hy265]; exact H) | exact H
    have Ny265 := Aside0.mk hy265
    clear hy265
    have H' := Aside0.mk H; clear H
    have p14 : 0 ≤ (x19_1 : Int) := of_decide_eq_true (by first | (with_reducible assumption) | assumption)
    have q14 : (x19_1 : Int) < ((x7_1.length : Int) : Int) := of_decide_eq_true (by first | (with_reducible assumption) | assumption)
    obtain ⟨go14, co14, eo14, gb14, gl14, cl14, HG14⟩ := Kd.R_form HO_7.out (by omega)
    (first | cases eo14 | (injection eo14 with ea_ en_ ec_; (first | subst ea_ | (injection ea_ with ea_; subst ea_)); subst ec_; clear en_))
    have GB14 := Aside0.mk gb14
    have GG14 := Aside0.mk HG14
    clear gb14 gl14 HG14
    obtain ⟨hx14_0, hf14_0⟩ := Kd.R_celln 0 HO_7.out (x19_1 : Int) p14 q14
    replace p14 := eq_true p14
    replace q14 := eq_true q14
    have HP15 := Kd.R_putg HO_7.out (x19_1 : Int) (-1)
    go_wp2_with (first | ((with_reducible refine gate_store (t := 3) (p := 24) rfl ?_); (try (rw [drewN_self wr]; generalize hq_ : World.drewN wr _ = wr; have n0_ := Aside0.mk (Kd.R_at hq_ HO_7.out); have n1_ := Aside0.mk (blk_at hq_ BK261.out); have n2_ := Aside0.mk (below_at hq_ HB.out); (try (have hx14_0 := (congrArg (fun z_ => World.cell? z_ _) hq_).symm.trans hx14_0)); (try (have hf14_0 := (congrArg (fun z_ => World.frozen? z_ _) hq_).symm.trans hf14_0)); clear hq_ HO_7 BK261 HB; have HO_7 := n0_; have BK261 := n1_; have HB := n2_; clear n0_ n1_ n2_; (try (have HP15 := Kd.R_putg HO_7.out (x19_1 : Int) (-1))))); refine store_event (t := 3) (p := 24) (v := ?vo_w16) (w1 := (wr.setCell ⟨go14, (x19_1 : Int).toNat, none⟩ (.int .i64 (-1)))) ?hg ?ho ?hn ?hr ?_; (case ho => rfl); (case hg => rfl); (case hn => rfl); (case hr => first | (go_simp; done) | (go_simp; rfl)); intro w16 hw; have hg : wr.grownBy w16 (some go14) := (by rw [hw]; exact HP15.2); have hp_ : Kd.R (Kd.int .i64) 3 w16 w.heap.size (fun _ => True) (.slice (some ⟨go14, 0, none⟩) x7_1.length co10) y265 := (by rw [hw, Ny265.out]; exact HP15.1); clear HP15; replace BK261 := Aside0.mk (blk_grown (g := gb261) (o := .cells #[.slice A0_0 l0_0.length c0_0, .slice A0_1 l0_1.length c0_1] 25 (0, 0)) (by (with_reducible repeat (first | refine blk_drewN ?_ _ | refine blk_drew ?_ | refine blk_alloc ?_ _)); exact BK261.out) hg (Kd.R_ne HO_7.out BK261.out (by decide))); replace HO_7 := Aside0.mk (hp_); replace HB := Aside0.mk ((by rw [hw]; exact below_set (HB.out) GB14.out : Below w.heap.size w w16)); clear hg hw hp_))
    repeat (go_quiet (first | ((with_reducible refine gate_store (t := 3) (p := 24) rfl ?_); (try (rw [drewN_self wr]; generalize hq_ : World.drewN wr _ = wr; have n0_ := Aside0.mk (Kd.R_at hq_ HO_7.out); have n1_ := Aside0.mk (blk_at hq_ BK261.out); have n2_ := Aside0.mk (below_at hq_ HB.out); (try (have hx14_0 := (congrArg (fun z_ => World.cell? z_ _) hq_).symm.trans hx14_0)); (try (have hf14_0 := (congrArg (fun z_ => World.frozen? z_ _) hq_).symm.trans hf14_0)); clear hq_ HO_7 BK261 HB; have HO_7 := n0_; have BK261 := n1_; have HB := n2_; clear n0_ n1_ n2_; (try (have HP15 := Kd.R_putg HO_7.out (x19_1 : Int) (-1))))); refine store_event (t := 3) (p := 24) (v := ?vo_w16) (w1 := (wr.setCell ⟨go14, (x19_1 : Int).toNat, none⟩ (.int .i64 (-1)))) ?hg ?ho ?hn ?hr ?_; (case ho => rfl); (case hg => rfl); (case hn => rfl); (case hr => first | (go_simp; done) | (go_simp; rfl)); intro w16 hw; have hg : wr.grownBy w16 (some go14) := (by rw [hw]; exact HP15.2); have hp_ : Kd.R (Kd.int .i64) 3 w16 w.heap.size (fun _ => True) (.slice (some ⟨go14, 0, none⟩) x7_1.length co10) y265 := (by rw [hw, Ny265.out]; exact HP15.1); clear HP15; replace BK261 := Aside0.mk (blk_grown (g := gb261) (o := .cells #[.slice A0_0 l0_0.length c0_0, .slice A0_1 l0_1.length c0_1] 25 (0, 0)) (by (with_reducible repeat (first | refine blk_drewN ?_ _ | refine blk_drew ?_ | refine blk_alloc ?_ _)); exact BK261.out) hg (Kd.R_ne HO_7.out BK261.out (by decide))); replace HO_7 := Aside0.mk (hp_); replace HB := Aside0.mk ((by rw [hw]; exact below_set (HB.out) GB14.out : Below w.heap.size w w16)); clear hg hw hp_)); try go_wp2_with (first | ((with_reducible refine gate_store (t := 3) (p := 24) rfl ?_); (try (rw [drewN_self wr]; generalize hq_ : World.drewN wr _ = wr; have n0_ := Aside0.mk (Kd.R_at hq_ HO_7.out); have n1_ := Aside0.mk (blk_at hq_ BK261.out); have n2_ := Aside0.mk (below_at hq_ HB.out); (try (have hx14_0 := (congrArg (fun z_ => World.cell? z_ _) hq_).symm.trans hx14_0)); (try (have hf14_0 := (congrArg (fun z_ => World.frozen? z_ _) hq_).symm.trans hf14_0)); clear hq_ HO_7 BK261 HB; have HO_7 := n0_; have BK261 := n1_; have HB := n2_; clear n0_ n1_ n2_; (try (have HP15 := Kd.R_putg HO_7.out (x19_1 : Int) (-1))))); refine store_event (t := 3) (p := 24) (v := ?vo_w16) (w1 := (wr.setCell ⟨go14, (x19_1 : Int).toNat, none⟩ (.int .i64 (-1)))) ?hg ?ho ?hn ?hr ?_; (case ho => rfl); (case hg => rfl); (case hn => rfl); (case hr => first | (go_simp; done) | (go_simp; rfl)); intro w16 hw; have hg : wr.grownBy w16 (some go14) := (by rw [hw]; exact HP15.2); have hp_ : Kd.R (Kd.int .i64) 3 w16 w.heap.size (fun _ => True) (.slice (some ⟨go14, 0, none⟩) x7_1.length co10) y265 := (by rw [hw, Ny265.out]; exact HP15.1); clear HP15; replace BK261 := Aside0.mk (blk_grown (g := gb261) (o := .cells #[.slice A0_0 l0_0.length c0_0, .slice A0_1 l0_1.length c0_1] 25 (0, 0)) (by (with_reducible repeat (first | refine blk_drewN ?_ _ | refine blk_drew ?_ | refine blk_alloc ?_ _)); exact BK261.out) hg (Kd.R_ne HO_7.out BK261.out (by decide))); replace HO_7 := Aside0.mk (hp_); replace HB := Aside0.mk ((by rw [hw]; exact below_set (HB.out) GB14.out : Below w.heap.size w w16)); clear hg hw hp_)))
    (try simp only [← hl7_1])
    go_roundg k1
    case measure => have := HK1.out; omega
    case rel => exact ⟨(y265), (wrap64 (x19_1 + 1)), (by first | rfl | (simp; done) | (simp [*]; done)), H', ⟨by have := HK1.out; omega⟩, ⟨by (try simp only [hl7_1]); (with_reducible repeat (first | apply Kd.R_alloc | apply Kd.R_drewN | apply Kd.R_drew)); exact HO_7.out⟩, ⟨by (try simp only [hl7_1]); (with_reducible repeat (first | refine blk_drewN ?_ _ | refine blk_drew ?_ | refine blk_alloc ?_ _)); exact BK261.out⟩, ⟨by repeat (first | (with_reducible first | exact HB.out | apply below_alloc | apply pw_below_drewN | apply below_drew1 | refine below_set ?_ GE261.out) | exact HB.out)⟩⟩
   rw [if_neg c11] at H
   have c11b0 : decide (x19_1 < (y262.length : Int)) = false := decide_eq_false c11
   (try (have c11z0 := c11b0; simp only [hl7_1] at c11z0))
   clear c11
   by_cases c17 : 0 ≤ a2
   rotate_left; ·rw [if_neg c17] at H; exact absurd H (by simp)
   rw [if_pos c17] at H
   have c17b0 : decide (0 ≤ a2) = true := decide_eq_true c17
   clear c17
   by_cases c18 : a2 < (x7_1.length : Int)
   rotate_left; ·rw [if_neg c18] at H; exact absurd H (by simp)
   rw [if_pos c18] at H
   have c18b0 : decide (a2 < (x7_1.length : Int)) = true := decide_eq_true c18
   (try (have c18z0 := c18b0; simp only [hl7_1] at c18z0))
   clear c18
   obtain ⟨y266, hy266⟩ : ∃ y_ : List Int, y_ = (x7_1.set (a2 : Int).toNat 0) := ⟨_, rfl⟩
   replace H : (stillageref07_Between.l1 k1 l1 a2 y266 true l0_0 l0_1) = some r := by first | (rw [hy266]; with_reducible exact H) | (have H2_ := (Option.bind_some _ _).symm.trans H; rw [hy266]; with_reducible exact H2_) | (have H2_ := (Option.bind_some _ _).symm.trans H; with_reducible exact H2_) | with_reducible exact H | (rw [hy266]; exact H) | exact H
   have Ny266 := Aside0.mk hy266
   clear hy266
   have H' := Aside0.mk H; clear H
   have p19 : 0 ≤ (a2 : Int) := of_decide_eq_true (by first | (with_reducible assumption) | assumption)
   have q19 : (a2 : Int) < ((x7_1.length : Int) : Int) := of_decide_eq_true (by first | (with_reducible assumption) | assumption)
   obtain ⟨go19, co19, eo19, gb19, gl19, cl19, HG19⟩ := Kd.R_form HO_7.out (by omega)
   (first | cases eo19 | (injection eo19 with ea_ en_ ec_; (first | subst ea_ | (injection ea_ with ea_; subst ea_)); subst ec_; clear en_))
   have GB19 := Aside0.mk gb19
   have GG19 := Aside0.mk HG19
   clear gb19 gl19 HG19
   obtain ⟨hx19_0, hf19_0⟩ := Kd.R_celln 0 HO_7.out (a2 : Int) p19 q19
   replace p19 := eq_true p19
   replace q19 := eq_true q19
   have HP20 := Kd.R_putg HO_7.out (a2 : Int) 0
   go_wp2_with (first | ((with_reducible refine gate_store (t := 3) (p := 28) rfl ?_); (try (rw [drewN_self wr]; generalize hq_ : World.drewN wr _ = wr; have n0_ := Aside0.mk (Kd.R_at hq_ HO_7.out); have n1_ := Aside0.mk (blk_at hq_ BK261.out); have n2_ := Aside0.mk (below_at hq_ HB.out); (try (have hx14_0 := (congrArg (fun z_ => World.cell? z_ _) hq_).symm.trans hx14_0)); (try (have hf14_0 := (congrArg (fun z_ => World.frozen? z_ _) hq_).symm.trans hf14_0)); (try (have hx19_0 := (congrArg (fun z_ => World.cell? z_ _) hq_).symm.trans hx19_0)); (try (have hf19_0 := (congrArg (fun z_ => World.frozen? z_ _) hq_).symm.trans hf19_0)); clear hq_ HO_7 BK261 HB; have HO_7 := n0_; have BK261 := n1_; have HB := n2_; clear n0_ n1_ n2_; (try (have HP20 := Kd.R_putg HO_7.out (a2 : Int) 0)))); refine store_event (t := 3) (p := 28) (v := ?vo_w21) (w1 := (wr.setCell ⟨go19, (a2 : Int).toNat, none⟩ (.int .i64 0))) ?hg ?ho ?hn ?hr ?_; (case ho => rfl); (case hg => rfl); (case hn => rfl); (case hr => first | (go_simp; done) | (go_simp; rfl)); intro w21 hw; have hg : wr.grownBy w21 (some go19) := (by rw [hw]; exact HP20.2); have hp_ : Kd.R (Kd.int .i64) 3 w21 w.heap.size (fun _ => True) (.slice (some ⟨go19, 0, none⟩) x7_1.length co10) y266 := (by rw [hw, Ny266.out]; exact HP20.1); clear HP20; replace BK261 := Aside0.mk (blk_grown (g := gb261) (o := .cells #[.slice A0_0 l0_0.length c0_0, .slice A0_1 l0_1.length c0_1] 25 (0, 0)) (by (with_reducible repeat (first | refine blk_drewN ?_ _ | refine blk_drew ?_ | refine blk_alloc ?_ _)); exact BK261.out) hg (Kd.R_ne HO_7.out BK261.out (by decide))); replace HO_7 := Aside0.mk (hp_); replace HB := Aside0.mk ((by rw [hw]; exact below_set (HB.out) GB19.out : Below w.heap.size w w21)); clear hg hw hp_))
   repeat (go_quiet (first | ((with_reducible refine gate_store (t := 3) (p := 28) rfl ?_); (try (rw [drewN_self wr]; generalize hq_ : World.drewN wr _ = wr; have n0_ := Aside0.mk (Kd.R_at hq_ HO_7.out); have n1_ := Aside0.mk (blk_at hq_ BK261.out); have n2_ := Aside0.mk (below_at hq_ HB.out); (try (have hx14_0 := (congrArg (fun z_ => World.cell? z_ _) hq_).symm.trans hx14_0)); (try (have hf14_0 := (congrArg (fun z_ => World.frozen? z_ _) hq_).symm.trans hf14_0)); (try (have hx19_0 := (congrArg (fun z_ => World.cell? z_ _) hq_).symm.trans hx19_0)); (try (have hf19_0 := (congrArg (fun z_ => World.frozen? z_ _) hq_).symm.trans hf19_0)); clear hq_ HO_7 BK261 HB; have HO_7 := n0_; have BK261 := n1_; have HB := n2_; clear n0_ n1_ n2_; (try (have HP20 := Kd.R_putg HO_7.out (a2 : Int) 0)))); refine store_event (t := 3) (p := 28) (v := ?vo_w21) (w1 := (wr.setCell ⟨go19, (a2 : Int).toNat, none⟩ (.int .i64 0))) ?hg ?ho ?hn ?hr ?_; (case ho => rfl); (case hg => rfl); (case hn => rfl); (case hr => first | (go_simp; done) | (go_simp; rfl)); intro w21 hw; have hg : wr.grownBy w21 (some go19) := (by rw [hw]; exact HP20.2); have hp_ : Kd.R (Kd.int .i64) 3 w21 w.heap.size (fun _ => True) (.slice (some ⟨go19, 0, none⟩) x7_1.length co10) y266 := (by rw [hw, Ny266.out]; exact HP20.1); clear HP20; replace BK261 := Aside0.mk (blk_grown (g := gb261) (o := .cells #[.slice A0_0 l0_0.length c0_0, .slice A0_1 l0_1.length c0_1] 25 (0, 0)) (by (with_reducible repeat (first | refine blk_drewN ?_ _ | refine blk_drew ?_ | refine blk_alloc ?_ _)); exact BK261.out) hg (Kd.R_ne HO_7.out BK261.out (by decide))); replace HO_7 := Aside0.mk (hp_); replace HB := Aside0.mk ((by rw [hw]; exact below_set (HB.out) GB19.out : Below w.heap.size w w21)); clear hg hw hp_)); try go_wp2_with (first | ((with_reducible refine gate_store (t := 3) (p := 28) rfl ?_); (try (rw [drewN_self wr]; generalize hq_ : World.drewN wr _ = wr; have n0_ := Aside0.mk (Kd.R_at hq_ HO_7.out); have n1_ := Aside0.mk (blk_at hq_ BK261.out); have n2_ := Aside0.mk (below_at hq_ HB.out); (try (have hx14_0 := (congrArg (fun z_ => World.cell? z_ _) hq_).symm.trans hx14_0)); (try (have hf14_0 := (congrArg (fun z_ => World.frozen? z_ _) hq_).symm.trans hf14_0)); (try (have hx19_0 := (congrArg (fun z_ => World.cell? z_ _) hq_).symm.trans hx19_0)); (try (have hf19_0 := (congrArg (fun z_ => World.frozen? z_ _) hq_).symm.trans hf19_0)); clear hq_ HO_7 BK261 HB; have HO_7 := n0_; have BK261 := n1_; have HB := n2_; clear n0_ n1_ n2_; (try (have HP20 := Kd.R_putg HO_7.out (a2 : Int) 0)))); refine store_event (t := 3) (p := 28) (v := ?vo_w21) (w1 := (wr.setCell ⟨go19, (a2 : Int).toNat, none⟩ (.int .i64 0))) ?hg ?ho ?hn ?hr ?_; (case ho => rfl); (case hg => rfl); (case hn => rfl); (case hr => first | (go_simp; done) | (go_simp; rfl)); intro w21 hw; have hg : wr.grownBy w21 (some go19) := (by rw [hw]; exact HP20.2); have hp_ : Kd.R (Kd.int .i64) 3 w21 w.heap.size (fun _ => True) (.slice (some ⟨go19, 0, none⟩) x7_1.length co10) y266 := (by rw [hw, Ny266.out]; exact HP20.1); clear HP20; replace BK261 := Aside0.mk (blk_grown (g := gb261) (o := .cells #[.slice A0_0 l0_0.length c0_0, .slice A0_1 l0_1.length c0_1] 25 (0, 0)) (by (with_reducible repeat (first | refine blk_drewN ?_ _ | refine blk_drew ?_ | refine blk_alloc ?_ _)); exact BK261.out) hg (Kd.R_ne HO_7.out BK261.out (by decide))); replace HO_7 := Aside0.mk (hp_); replace HB := Aside0.mk ((by rw [hw]; exact below_set (HB.out) GB19.out : Below w.heap.size w w21)); clear hg hw hp_)))
   go_loopg [9] k1 (fun kq v9 w' => ∃ (x7_2 : List Int) (x9_2 : Bool), v9 = .bool x9_2 ∧ Aside0 (stillageref07_Between.l1 kq l1 a2 x7_2 x9_2 l0_0 l0_1 = some r) ∧ Aside0 (kq ≤ k1) ∧ Aside0 (Kd.R (Kd.int .i64) 3 w' w.heap.size (fun _ => True) (.slice (some ⟨go19, 0, none⟩) x7_1.length co10) x7_2) ∧ Aside0 (w'.heap[gb261]? = some (.cells #[(.slice A0_0 l0_0.length c0_0), (.slice A0_1 l0_1.length c0_1)] 25 (0, 0))) ∧ Aside0 (Below w.heap.size w w'))
   case atStart => exact ⟨(y266), (true), (by first | rfl | (simp; done) | (simp [*]; done)), H', ⟨Nat.le_refl _⟩, ⟨by (try simp only [hl7_1]); (with_reducible repeat (first | apply Kd.R_alloc | apply Kd.R_drewN | apply Kd.R_drew)); exact HO_7.out⟩, ⟨by (try simp only [hl7_1]); (with_reducible repeat (first | refine blk_drewN ?_ _ | refine blk_drew ?_ | refine blk_alloc ?_ _)); exact BK261.out⟩, ⟨by repeat (first | (with_reducible first | exact HB.out | apply below_alloc | apply pw_below_drewN | apply below_drew1 | refine below_set ?_ GE261.out) | exact HB.out)⟩⟩
   case round =>
    clear H'
    obtain ⟨x7_2, x9_2, rfl, HA, HK2, HO_7, BK261, HB⟩ := hrel
    have hl7_2 := (Kd.R_reads' HO_7.out).1
    rw [hl7_2] at HO_7
    (try simp only [hl7_2])
    (try simp only [hl7_2] at BK261)
    cases gk with
    | zero => exact absurd HA.out (by simp [stillageref07_Between.l1])
    | succ k2 =>
     have H := HA.out
     clear HA
     simp only [stillageref07_Between.l1] at H
     by_cases c22 : x9_2 = true
     rotate_left
     ·replace c22 := Bool.eq_false_iff.mpr c22
      subst c22
      have H1 : (some x7_2) = some r := by rw [if_neg (show ¬ (false = true) by decide)] at H; exact H
      clear H; have H := H1; clear H1
      obtain rfl := Option.some.inj H
      go_wp2
      repeat (go_quiet (fail); try go_wp2)
      go_ret
      exact ⟨_, by first | rfl | (simp [errW_none, errW_some] <;> rfl) | (simp [*, errW_none, errW_some] <;> rfl), by (with_reducible repeat (first | apply Kd.R_alloc | apply Kd.R_drewN | apply Kd.R_drew)); exact HO_7.out, by repeat (first | (with_reducible first | exact HB.out | apply below_alloc | apply pw_below_drewN | apply below_drew1 | refine below_set ?_ GE261.out) | exact HB.out)⟩
     subst c22
     have H1 : (stillageref07_Between.l2 k2 l1 a2 x7_2 false (l0_1.length : Int) 0 l0_0 l0_1) = some r := by rw [if_pos rfl] at H; exact H
     clear H; have H := H1; clear H1
     have H' := Aside0.mk H; clear H
     have hcz23_0 : wr.cell? ⟨gb261, 0, none⟩ = some (.slice A0_0 l0_0.length c0_0) := (blk_cell BK261.out 0).trans rfl
     have hcz23_1 : wr.cell? ⟨gb261, 1, none⟩ = some (.slice A0_1 l0_1.length c0_1) := (blk_cell BK261.out 1).trans rfl
     have hfz23_0 := blk_frozen BK261.out 0
     have hfz23_1 := blk_frozen BK261.out 1
     go_wp2
     repeat (go_quiet (fail); try go_wp2)
     go_loopg [9, 33] k2 (fun kq v9 v33 w' => ∃ (x7_3 : List Int) (x9_3 : Bool) (x33_3 : Int), v9 = .bool x9_3 ∧ v33 = .int .i64 x33_3 ∧ Aside0 (stillageref07_Between.l2 kq l1 a2 x7_3 x9_3 (l0_1.length : Int) x33_3 l0_0 l0_1 = some r) ∧ Aside0 (kq ≤ k2) ∧ Aside0 (Kd.R (Kd.int .i64) 3 w' w.heap.size (fun _ => True) (.slice (some ⟨go19, 0, none⟩) x7_2.length co10) x7_3) ∧ Aside0 (w'.heap[gb261]? = some (.cells #[(.slice A0_0 l0_0.length c0_0), (.slice A0_1 l0_1.length c0_1)] 25 (0, 0))) ∧ Aside0 (Below w.heap.size w w'))
     case atStart => exact ⟨(x7_2), (false), (0), (by first | rfl | (simp; done) | (simp [*]; done)), (by first | rfl | (simp; done) | (simp [*]; done)), H', ⟨Nat.le_refl _⟩, ⟨by (try simp only [hl7_1]); (try simp only [hl7_2]); (with_reducible repeat (first | apply Kd.R_alloc | apply Kd.R_drewN | apply Kd.R_drew)); exact HO_7.out⟩, ⟨by (try simp only [hl7_1]); (try simp only [hl7_2]); (with_reducible repeat (first | refine blk_drewN ?_ _ | refine blk_drew ?_ | refine blk_alloc ?_ _)); exact BK261.out⟩, ⟨by repeat (first | (with_reducible first | exact HB.out | apply below_alloc | apply pw_below_drewN | apply below_drew1 | refine below_set ?_ GE261.out) | exact HB.out)⟩⟩
     case round =>
      clear H'
      obtain ⟨x7_3, x9_3, x33_3, rfl, rfl, HA, HK3, HO_7, BK261, HB⟩ := hrel
      have hl7_3 := (Kd.R_reads' HO_7.out).1
      rw [hl7_3] at HO_7
      (try simp only [hl7_3])
      (try simp only [hl7_3] at BK261)
      cases gk with
      | zero => exact absurd HA.out (by simp [stillageref07_Between.l2])
      | succ k3 =>
       have H := HA.out
       clear HA
       simp only [stillageref07_Between.l2] at H
       by_cases c24 : x33_3 < (l0_1.length : Int)
       rotate_left
       ·rw [if_neg c24] at H
        have c24b0 : decide (x33_3 < (l0_1.length : Int)) = false := decide_eq_false c24
        (try (have c24z0 := c24b0; simp only [hl7_1, hl7_2, hl7_3] at c24z0))
        clear c24
        have H' := Aside0.mk H; clear H
        go_wp2
        repeat (go_quiet (fail); try go_wp2)
        (try simp only [← hl7_2, ← hl7_3])
        go_roundg k3
        case measure => have := HK1.out; have := HK2.out; have := HK3.out; omega
        case rel => exact ⟨(x7_3), (x9_3), (by first | rfl | (simp; done) | (simp [*]; done)), H', ⟨by have := HK1.out; have := HK2.out; have := HK3.out; omega⟩, ⟨by (try simp only [hl7_1]); (try simp only [hl7_2]); (try simp only [hl7_3]); (with_reducible repeat (first | apply Kd.R_alloc | apply Kd.R_drewN | apply Kd.R_drew)); exact HO_7.out⟩, ⟨by (try simp only [hl7_1]); (try simp only [hl7_2]); (try simp only [hl7_3]); (with_reducible repeat (first | refine blk_drewN ?_ _ | refine blk_drew ?_ | refine blk_alloc ?_ _)); exact BK261.out⟩, ⟨by repeat (first | (with_reducible first | exact HB.out | apply below_alloc | apply pw_below_drewN | apply below_drew1 | refine below_set ?_ GE261.out) | exact HB.out)⟩⟩
       rw [if_pos c24] at H
       have c24b0 : decide (x33_3 < (l0_1.length : Int)) = true := decide_eq_true c24
       (try (have c24z0 := c24b0; simp only [hl7_1, hl7_2, hl7_3] at c24z0))
       clear c24
       by_cases c25 : 0 ≤ x33_3
       rotate_left; ·rw [if_neg c25] at H; exact absurd H (by simp)
       rw [if_pos c25] at H
       have c25b0 : decide (0 ≤ x33_3) = true := decide_eq_true c25
       clear c25
       by_cases c26 : x33_3 < (l0_1.length : Int)
       rotate_left; ·rw [if_neg c26] at H; exact absurd H (by simp)
       rw [if_pos c26] at H
       have c26b0 : decide (x33_3 < (l0_1.length : Int)) = true := decide_eq_true c26
       (try (have c26z0 := c26b0; simp only [hl7_1, hl7_2, hl7_3] at c26z0))
       clear c26
       have HC27 := Aside0.mk H
       clear H
       have hcz28_0 : wr.cell? ⟨gb261, 0, none⟩ = some (.slice A0_0 l0_0.length c0_0) := (blk_cell BK261.out 0).trans rfl
       have hcz28_1 : wr.cell? ⟨gb261, 1, none⟩ = some (.slice A0_1 l0_1.length c0_1) := (blk_cell BK261.out 1).trans rfl
       have hfz28_0 := blk_frozen BK261.out 0
       have hfz28_1 := blk_frozen BK261.out 1
       have p267 : 0 ≤ (x33_3 : Int) := of_decide_eq_true (by first | (with_reducible assumption) | assumption)
       have q267 : x33_3 < (l0_1.length : Int) := of_decide_eq_true (by first | (with_reducible assumption) | assumption)
       obtain ⟨ad267, e267, hx267_0, hx267_1⟩ := at_T27 HR0_1.out x33_3 p267 q267
       cases e267
       replace hx267_0 := (HB.out.cell (World.block_lt_of_cell? w _ hx267_0)).trans hx267_0
       replace hx267_1 := (HB.out.cell (World.block_lt_of_cell? w _ hx267_1)).trans hx267_1
       replace p267 := eq_true p267
       replace q267 := eq_true q267
       have p268 : 0 ≤ (x33_3 : Int) := of_decide_eq_true (by first | (with_reducible assumption) | assumption)
       have q268 : x33_3 < (l0_1.length : Int) := of_decide_eq_true (by first | (with_reducible assumption) | assumption)
       obtain ⟨ad268, e268, hx268_0, hx268_1⟩ := at_T27 HR0_1.out x33_3 p268 q268
       obtain rfl : ad267 = ad268 := (by injection e268)
       replace hx268_0 := (HB.out.cell (World.block_lt_of_cell? w _ hx268_0)).trans hx268_0
       replace hx268_1 := (HB.out.cell (World.block_lt_of_cell? w _ hx268_1)).trans hx268_1
       replace p268 := eq_true p268
       replace q268 := eq_true q268
       go_upto_region 15 with (fail)
       repeat (go_quiet (fail); go_upto_region 15 with (fail))
       go_cut [73] (fun v73 wc => ∃ (kq : Nat) (x73_26 : Bool), v73 = .bool x73_26 ∧ Aside0 (stillageref07_Between.j3 kq l1 a2 x7_3 x9_3 ((rd_T27 l0_1 x33_3).f0) ((rd_T27 l0_1 x33_3).f1) (l0_1.length : Int) x33_3 x73_26 l0_0 l0_1 = some r) ∧ Aside0 (kq ≤ k3) ∧ Aside0 (Kd.R (Kd.int .i64) 3 wc w.heap.size (fun _ => True) (.slice (some ⟨go19, 0, none⟩) x7_3.length co10) x7_3) ∧ Aside0 (wc.heap[gb261]? = some (.cells #[(.slice A0_0 l0_0.length c0_0), (.slice (some ad267) l0_1.length c0_1)] 25 (0, 0))) ∧ Aside0 (Below w.heap.size w wc))
       case first =>
        have H := HC27.out
        clear HC27
        by_cases c29 : 0 ≤ ((rd_T27 l0_1 x33_3).f0)
        rotate_left; ·rw [if_neg c29] at H; exact absurd H (by simp)
        rw [if_pos c29] at H
        have c29b0 : decide (0 ≤ ((rd_T27 l0_1 x33_3).f0)) = true := decide_eq_true c29
        clear c29
        (first | rw [c29b0] | (simp only [i64_w, i32_w]; rw [c29b0]) | skip)
        by_cases c30 : ((rd_T27 l0_1 x33_3).f0) < (x7_3.length : Int)
        rotate_left; ·rw [if_neg c30] at H; exact absurd H (by simp)
        rw [if_pos c30] at H
        have c30b0 : decide (((rd_T27 l0_1 x33_3).f0) < (x7_3.length : Int)) = true := decide_eq_true c30
        (try (have c30z0 := c30b0; simp only [hl7_1, hl7_2, hl7_3] at c30z0))
        clear c30
        by_cases c31 : (rd x7_3 ((rd_T27 l0_1 x33_3).f0)) < 0
        ·rw [if_pos c31] at H
         have c31b0 : decide ((rd x7_3 ((rd_T27 l0_1 x33_3).f0)) < 0) = true := decide_eq_true c31
         clear c31
         have H' := Aside0.mk H; clear H
         have p269 : 0 ≤ (((rd_T27 l0_1 x33_3).f0) : Int) := of_decide_eq_true (by first | (with_reducible assumption) | assumption)
         have q269 : ((rd_T27 l0_1 x33_3).f0) < (x7_3.length : Int) := of_decide_eq_true (by first | (with_reducible assumption) | assumption)
         obtain ⟨ad269, e269, hx269_0⟩ := Kd.at_int (Kd.R_reads' HO_7.out).2.2 ((rd_T27 l0_1 x33_3).f0) p269 q269
         obtain rfl : (⟨go19, 0, none⟩ : Addr) = ad269 := (by injection e269)
         (first | simp only [add_plain] at hx269_0 | simp only [add_at] at hx269_0 | simp only [Addr.add, Nat.zero_add] at hx269_0 | skip)
         replace p269 := eq_true p269
         replace q269 := eq_true q269
         go_wp2
         repeat (go_quiet (fail); try go_wp2)
         go_meet
         case rel => exact ⟨_, (true), (by first | rfl | (simp; done) | (simp [*]; done)), H', ⟨by have := HK1.out; have := HK2.out; have := HK3.out; first | omega | exact Nat.le_refl _⟩, ⟨by (try simp only [hl7_1]); (try simp only [hl7_2]); (try simp only [hl7_3]); (with_reducible repeat (first | apply Kd.R_alloc | apply Kd.R_drewN | apply Kd.R_drew)); exact HO_7.out⟩, ⟨by (try simp only [hl7_1]); (try simp only [hl7_2]); (try simp only [hl7_3]); (with_reducible repeat (first | refine blk_drewN ?_ _ | refine blk_drew ?_ | refine blk_alloc ?_ _)); exact BK261.out⟩, ⟨by repeat (first | (with_reducible first | exact HB.out | apply below_alloc | apply pw_below_drewN | apply below_drew1 | refine below_set ?_ GE261.out) | exact HB.out)⟩⟩
        rw [if_neg c31] at H
        have c31b0 : decide ((rd x7_3 ((rd_T27 l0_1 x33_3).f0)) < 0) = false := decide_eq_false c31
        clear c31
        by_cases c32 : ((rd_T27 l0_1 x33_3).f0) = a2
        ·rw [if_pos c32] at H
         have c32b0 : (((rd_T27 l0_1 x33_3).f0) == a2) = true := beq_iff_eq.mpr c32
         have c32b1 : (((rd_T27 l0_1 x33_3).f0) != a2) = false := bne_eq_false_iff_eq.mpr c32
         clear c32
         replace H := Option.bind_eq_some_iff.mp H; obtain ⟨t270, A330, H⟩ := H
         replace H : (stillageref07_Between.j3 k3 l1 a2 x7_3 x9_3 ((rd_T27 l0_1 x33_3).f0) ((rd_T27 l0_1 x33_3).f1) (l0_1.length : Int) x33_3 (!t270) l0_0 l0_1) = some r := H
         have A33 := Aside0.mk A330
         clear A330
         have H' := Aside0.mk H; clear H
         have p269 : 0 ≤ (((rd_T27 l0_1 x33_3).f0) : Int) := of_decide_eq_true (by first | (with_reducible assumption) | assumption)
         have q269 : ((rd_T27 l0_1 x33_3).f0) < (x7_3.length : Int) := of_decide_eq_true (by first | (with_reducible assumption) | assumption)
         obtain ⟨ad269, e269, hx269_0⟩ := Kd.at_int (Kd.R_reads' HO_7.out).2.2 ((rd_T27 l0_1 x33_3).f0) p269 q269
         obtain rfl : (⟨go19, 0, none⟩ : Addr) = ad269 := (by injection e269)
         (first | simp only [add_plain] at hx269_0 | simp only [add_at] at hx269_0 | simp only [Addr.add, Nat.zero_add] at hx269_0 | skip)
         replace p269 := eq_true p269
         replace q269 := eq_true q269
         go_wp2_with (first | (go_at_call 21; (with_reducible refine (stillageref07_Open.calls k3 _ _ l1 (wrap64 (x33_3 + 1)) t270 _ ?side1 ?side2 A33.out).mono ?_); (case side1 => repeat (first | exact (Kd.C_below HR1.out HB.out) | (with_reducible refine Kd.C_alloc ?_ _) | (with_reducible refine Kd.C_drewN ?_ _) | (with_reducible refine Kd.C_drew ?_))); (case side2 => exact HC1.out); rintro e w' ⟨rfl, ⟨nd, rfl⟩⟩; (try first | exact ⟨rfl, _, World.drewN_drewN _ _ _⟩ | exact ⟨rfl, _, Eq.trans (World.drewN_drewN _ _ _) (congrArg (World.drewN _) (Nat.add_assoc _ _ _))⟩)))
         repeat (go_quiet (first | (go_at_call 21; (with_reducible refine (stillageref07_Open.calls k3 _ _ l1 (wrap64 (x33_3 + 1)) t270 _ ?side1 ?side2 A33.out).mono ?_); (case side1 => repeat (first | exact (Kd.C_below HR1.out HB.out) | (with_reducible refine Kd.C_alloc ?_ _) | (with_reducible refine Kd.C_drewN ?_ _) | (with_reducible refine Kd.C_drew ?_))); (case side2 => exact HC1.out); rintro e w' ⟨rfl, ⟨nd, rfl⟩⟩; (try first | exact ⟨rfl, _, World.drewN_drewN _ _ _⟩ | exact ⟨rfl, _, Eq.trans (World.drewN_drewN _ _ _) (congrArg (World.drewN _) (Nat.add_assoc _ _ _))⟩))); try go_wp2_with (first | (go_at_call 21; (with_reducible refine (stillageref07_Open.calls k3 _ _ l1 (wrap64 (x33_3 + 1)) t270 _ ?side1 ?side2 A33.out).mono ?_); (case side1 => repeat (first | exact (Kd.C_below HR1.out HB.out) | (with_reducible refine Kd.C_alloc ?_ _) | (with_reducible refine Kd.C_drewN ?_ _) | (with_reducible refine Kd.C_drew ?_))); (case side2 => exact HC1.out); rintro e w' ⟨rfl, ⟨nd, rfl⟩⟩; (try first | exact ⟨rfl, _, World.drewN_drewN _ _ _⟩ | exact ⟨rfl, _, Eq.trans (World.drewN_drewN _ _ _) (congrArg (World.drewN _) (Nat.add_assoc _ _ _))⟩))))
         go_meet
         case rel => exact ⟨_, (!t270), (by first | rfl | (simp; done) | (simp [*]; done)), H', ⟨by have := HK1.out; have := HK2.out; have := HK3.out; first | omega | exact Nat.le_refl _⟩, ⟨by (try simp only [hl7_1]); (try simp only [hl7_2]); (try simp only [hl7_3]); (with_reducible repeat (first | apply Kd.R_alloc | apply Kd.R_drewN | apply Kd.R_drew)); exact HO_7.out⟩, ⟨by (try simp only [hl7_1]); (try simp only [hl7_2]); (try simp only [hl7_3]); (with_reducible repeat (first | refine blk_drewN ?_ _ | refine blk_drew ?_ | refine blk_alloc ?_ _)); exact BK261.out⟩, ⟨by repeat (first | (with_reducible first | exact HB.out | apply below_alloc | apply pw_below_drewN | apply below_drew1 | refine below_set ?_ GE261.out) | exact HB.out)⟩⟩
        rw [if_neg c32] at H
        have c32b0 : (((rd_T27 l0_1 x33_3).f0) == a2) = false := beq_eq_false_iff_ne.mpr c32
        have c32b1 : (((rd_T27 l0_1 x33_3).f0) != a2) = true := bne_iff_ne.mpr c32
        by_cases c34 : ((rd_T27 l0_1 x33_3).f0) < (l0_0.length : Int)
        rotate_left; ·rw [if_neg c34] at H; exact absurd H (by simp)
        rw [if_pos c34] at H
        have c34b0 : decide (((rd_T27 l0_1 x33_3).f0) < (l0_0.length : Int)) = true := decide_eq_true c34
        (try (have c34z0 := c34b0; simp only [hl7_1, hl7_2, hl7_3] at c34z0))
        clear c34
        by_cases c35 : ((rd_T43 l0_0 ((rd_T27 l0_1 x33_3).f0)).f1) = 1
        rotate_left
        ·rw [if_neg c35] at H
         have c35b0 : (((rd_T43 l0_0 ((rd_T27 l0_1 x33_3).f0)).f1) == 1) = false := beq_eq_false_iff_ne.mpr c35
         have c35b1 : (((rd_T43 l0_0 ((rd_T27 l0_1 x33_3).f0)).f1) != 1) = true := bne_iff_ne.mpr c35
         have H' := Aside0.mk H; clear H
         have p269 : 0 ≤ (((rd_T27 l0_1 x33_3).f0) : Int) := of_decide_eq_true (by first | (with_reducible assumption) | assumption)
         have q269 : ((rd_T27 l0_1 x33_3).f0) < (x7_3.length : Int) := of_decide_eq_true (by first | (with_reducible assumption) | assumption)
         obtain ⟨ad269, e269, hx269_0⟩ := Kd.at_int (Kd.R_reads' HO_7.out).2.2 ((rd_T27 l0_1 x33_3).f0) p269 q269
         obtain rfl : (⟨go19, 0, none⟩ : Addr) = ad269 := (by injection e269)
         (first | simp only [add_plain] at hx269_0 | simp only [add_at] at hx269_0 | simp only [Addr.add, Nat.zero_add] at hx269_0 | skip)
         replace p269 := eq_true p269
         replace q269 := eq_true q269
         have hcz38_0 : wr.cell? ⟨gb261, 0, none⟩ = some (.slice A0_0 l0_0.length c0_0) := (blk_cell BK261.out 0).trans rfl
         have hcz38_1 : wr.cell? ⟨gb261, 1, none⟩ = some (.slice (some ad267) l0_1.length c0_1) := (blk_cell BK261.out 1).trans rfl
         have hfz38_0 := blk_frozen BK261.out 0
         have hfz38_1 := blk_frozen BK261.out 1
         have p271 : 0 ≤ (((rd_T27 l0_1 x33_3).f0) : Int) := of_decide_eq_true (by first | (with_reducible assumption) | assumption)
         have q271 : ((rd_T27 l0_1 x33_3).f0) < (l0_0.length : Int) := of_decide_eq_true (by first | (with_reducible assumption) | assumption)
         obtain ⟨ad271, e271, hx271_0, hx271_1, hx271_2⟩ := at_T43 HR0_0.out ((rd_T27 l0_1 x33_3).f0) p271 q271
         cases e271
         replace hx271_0 := (HB.out.cell (World.block_lt_of_cell? w _ hx271_0)).trans hx271_0
         replace hx271_1 := (HB.out.cell (World.block_lt_of_cell? w _ hx271_1)).trans hx271_1
         replace hx271_2 := (HB.out.cell (World.block_lt_of_cell? w _ hx271_2)).trans hx271_2
         replace p271 := eq_true p271
         replace q271 := eq_true q271
         go_wp2
         repeat (go_quiet (fail); try go_wp2)
         go_meet
         case rel => exact ⟨_, (true), (by first | rfl | (simp; done) | (simp [*]; done)), H', ⟨by have := HK1.out; have := HK2.out; have := HK3.out; first | omega | exact Nat.le_refl _⟩, ⟨by (try simp only [hl7_1]); (try simp only [hl7_2]); (try simp only [hl7_3]); (with_reducible repeat (first | apply Kd.R_alloc | apply Kd.R_drewN | apply Kd.R_drew)); exact HO_7.out⟩, ⟨by (try simp only [hl7_1]); (try simp only [hl7_2]); (try simp only [hl7_3]); (with_reducible repeat (first | refine blk_drewN ?_ _ | refine blk_drew ?_ | refine blk_alloc ?_ _)); exact BK261.out⟩, ⟨by repeat (first | (with_reducible first | exact HB.out | apply below_alloc | apply pw_below_drewN | apply below_drew1 | refine below_set ?_ GE261.out) | exact HB.out)⟩⟩
        rw [if_pos c35] at H
        have c35b0 : (((rd_T43 l0_0 ((rd_T27 l0_1 x33_3).f0)).f1) == 1) = true := beq_iff_eq.mpr c35
        have c35b1 : (((rd_T43 l0_0 ((rd_T27 l0_1 x33_3).f0)).f1) != 1) = false := bne_eq_false_iff_eq.mpr c35
        clear c35
        replace H := Option.bind_eq_some_iff.mp H; obtain ⟨t272, A360, H⟩ := H
        replace H : (stillageref07_Between.j3 k3 l1 a2 x7_3 x9_3 ((rd_T27 l0_1 x33_3).f0) ((rd_T27 l0_1 x33_3).f1) (l0_1.length : Int) x33_3 (!t272) l0_0 l0_1) = some r := H
        have A36 := Aside0.mk A360
        clear A360
        have H' := Aside0.mk H; clear H
        have p269 : 0 ≤ (((rd_T27 l0_1 x33_3).f0) : Int) := of_decide_eq_true (by first | (with_reducible assumption) | assumption)
        have q269 : ((rd_T27 l0_1 x33_3).f0) < (x7_3.length : Int) := of_decide_eq_true (by first | (with_reducible assumption) | assumption)
        obtain ⟨ad269, e269, hx269_0⟩ := Kd.at_int (Kd.R_reads' HO_7.out).2.2 ((rd_T27 l0_1 x33_3).f0) p269 q269
        obtain rfl : (⟨go19, 0, none⟩ : Addr) = ad269 := (by injection e269)
        (first | simp only [add_plain] at hx269_0 | simp only [add_at] at hx269_0 | simp only [Addr.add, Nat.zero_add] at hx269_0 | skip)
        replace p269 := eq_true p269
        replace q269 := eq_true q269
        have hcz37_0 : wr.cell? ⟨gb261, 0, none⟩ = some (.slice A0_0 l0_0.length c0_0) := (blk_cell BK261.out 0).trans rfl
        have hcz37_1 : wr.cell? ⟨gb261, 1, none⟩ = some (.slice (some ad267) l0_1.length c0_1) := (blk_cell BK261.out 1).trans rfl
        have hfz37_0 := blk_frozen BK261.out 0
        have hfz37_1 := blk_frozen BK261.out 1
        have p271 : 0 ≤ (((rd_T27 l0_1 x33_3).f0) : Int) := of_decide_eq_true (by first | (with_reducible assumption) | assumption)
        have q271 : ((rd_T27 l0_1 x33_3).f0) < (l0_0.length : Int) := of_decide_eq_true (by first | (with_reducible assumption) | assumption)
        obtain ⟨ad271, e271, hx271_0, hx271_1, hx271_2⟩ := at_T43 HR0_0.out ((rd_T27 l0_1 x33_3).f0) p271 q271
        cases e271
        replace hx271_0 := (HB.out.cell (World.block_lt_of_cell? w _ hx271_0)).trans hx271_0
        replace hx271_1 := (HB.out.cell (World.block_lt_of_cell? w _ hx271_1)).trans hx271_1
        replace hx271_2 := (HB.out.cell (World.block_lt_of_cell? w _ hx271_2)).trans hx271_2
        replace p271 := eq_true p271
        replace q271 := eq_true q271
        go_wp2_with (first | (go_at_call 21; (with_reducible refine (stillageref07_Open.calls k3 _ _ l1 (wrap64 (x33_3 + 1)) t272 _ ?side1 ?side2 A36.out).mono ?_); (case side1 => repeat (first | exact (Kd.C_below HR1.out HB.out) | (with_reducible refine Kd.C_alloc ?_ _) | (with_reducible refine Kd.C_drewN ?_ _) | (with_reducible refine Kd.C_drew ?_))); (case side2 => exact HC1.out); rintro e w' ⟨rfl, ⟨nd, rfl⟩⟩; (try first | exact ⟨rfl, _, World.drewN_drewN _ _ _⟩ | exact ⟨rfl, _, Eq.trans (World.drewN_drewN _ _ _) (congrArg (World.drewN _) (Nat.add_assoc _ _ _))⟩)))
        repeat (go_quiet (first | (go_at_call 21; (with_reducible refine (stillageref07_Open.calls k3 _ _ l1 (wrap64 (x33_3 + 1)) t272 _ ?side1 ?side2 A36.out).mono ?_); (case side1 => repeat (first | exact (Kd.C_below HR1.out HB.out) | (with_reducible refine Kd.C_alloc ?_ _) | (with_reducible refine Kd.C_drewN ?_ _) | (with_reducible refine Kd.C_drew ?_))); (case side2 => exact HC1.out); rintro e w' ⟨rfl, ⟨nd, rfl⟩⟩; (try first | exact ⟨rfl, _, World.drewN_drewN _ _ _⟩ | exact ⟨rfl, _, Eq.trans (World.drewN_drewN _ _ _) (congrArg (World.drewN _) (Nat.add_assoc _ _ _))⟩))); try go_wp2_with (first | (go_at_call 21; (with_reducible refine (stillageref07_Open.calls k3 _ _ l1 (wrap64 (x33_3 + 1)) t272 _ ?side1 ?side2 A36.out).mono ?_); (case side1 => repeat (first | exact (Kd.C_below HR1.out HB.out) | (with_reducible refine Kd.C_alloc ?_ _) | (with_reducible refine Kd.C_drewN ?_ _) | (with_reducible refine Kd.C_drew ?_))); (case side2 => exact HC1.out); rintro e w' ⟨rfl, ⟨nd, rfl⟩⟩; (try first | exact ⟨rfl, _, World.drewN_drewN _ _ _⟩ | exact ⟨rfl, _, Eq.trans (World.drewN_drewN _ _ _) (congrArg (World.drewN _) (Nat.add_assoc _ _ _))⟩))))
        go_meet
        case rel => exact ⟨_, (!t272), (by first | rfl | (simp; done) | (simp [*]; done)), H', ⟨by have := HK1.out; have := HK2.out; have := HK3.out; first | omega | exact Nat.le_refl _⟩, ⟨by (try simp only [hl7_1]); (try simp only [hl7_2]); (try simp only [hl7_3]); (with_reducible repeat (first | apply Kd.R_alloc | apply Kd.R_drewN | apply Kd.R_drew)); exact HO_7.out⟩, ⟨by (try simp only [hl7_1]); (try simp only [hl7_2]); (try simp only [hl7_3]); (with_reducible repeat (first | refine blk_drewN ?_ _ | refine blk_drew ?_ | refine blk_alloc ?_ _)); exact BK261.out⟩, ⟨by repeat (first | (with_reducible first | exact HB.out | apply below_alloc | apply pw_below_drewN | apply below_drew1 | refine below_set ?_ GE261.out) | exact HB.out)⟩⟩
       case rest =>
        clear HC27
        obtain ⟨kq, x73_26, rfl, HA, HJ26, HO_7, BK261, HB⟩ := hcut
        cases kq with
        | zero => exact absurd HA.out (by simp [stillageref07_Between.j3])
        | succ kj26 =>
         have H := HA.out
         clear HA
         simp only [stillageref07_Between.j3] at H
         by_cases c39 : x73_26 = true
         ·subst c39
          have H1 : (stillageref07_Between.l2 kj26 l1 a2 x7_3 x9_3 (l0_1.length : Int) (wrap64 (x33_3 + 1)) l0_0 l0_1) = some r := by rw [if_pos rfl] at H; exact H
          clear H; have H := H1; clear H1
          have H' := Aside0.mk H; clear H
          go_wp2
          repeat (go_quiet (fail); try go_wp2)
          (try simp only [← hl7_3])
          go_roundg kj26
          case measure => have := HK1.out; have := HK2.out; have := HK3.out; have := HJ26.out; omega
          case rel => exact ⟨(x7_3), (x9_3), (wrap64 (x33_3 + 1)), (by first | rfl | (simp; done) | (simp [*]; done)), (by first | rfl | (simp; done) | (simp [*]; done)), H', ⟨by have := HK1.out; have := HK2.out; have := HK3.out; have := HJ26.out; omega⟩, ⟨by (try simp only [hl7_1]); (try simp only [hl7_2]); (try simp only [hl7_3]); (with_reducible repeat (first | apply Kd.R_alloc | apply Kd.R_drewN | apply Kd.R_drew)); exact HO_7.out⟩, ⟨by (try simp only [hl7_1]); (try simp only [hl7_2]); (try simp only [hl7_3]); (with_reducible repeat (first | refine blk_drewN ?_ _ | refine blk_drew ?_ | refine blk_alloc ?_ _)); exact BK261.out⟩, ⟨by repeat (first | (with_reducible first | exact HB.out | apply below_alloc | apply pw_below_drewN | apply below_drew1 | refine below_set ?_ GE261.out) | exact HB.out)⟩⟩
         replace c39 := Bool.eq_false_iff.mpr c39
         subst c39
         have H1 : (if 0 ≤ ((rd_T27 l0_1 x33_3).f1) then (if ((rd_T27 l0_1 x33_3).f1) < (x7_3.length : Int) then (if (rd x7_3 ((rd_T27 l0_1 x33_3).f1)) < 0 then (if 0 ≤ ((rd_T27 l0_1 x33_3).f0) then (if ((rd_T27 l0_1 x33_3).f0) < (x7_3.length : Int) then (stillageref07_Between.l2 kj26 l1 a2 (x7_3.set (((rd_T27 l0_1 x33_3).f1) : Int).toNat (wrap64 ((rd x7_3 ((rd_T27 l0_1 x33_3).f0)) + 1))) true (l0_1.length : Int) (wrap64 (x33_3 + 1)) l0_0 l0_1) else (none)) else (none)) else (if 0 ≤ ((rd_T27 l0_1 x33_3).f0) then (if ((rd_T27 l0_1 x33_3).f0) < (x7_3.length : Int) then (if (wrap64 ((rd x7_3 ((rd_T27 l0_1 x33_3).f0)) + 1)) < (rd x7_3 ((rd_T27 l0_1 x33_3).f1)) then (stillageref07_Between.l2 kj26 l1 a2 (x7_3.set (((rd_T27 l0_1 x33_3).f1) : Int).toNat (wrap64 ((rd x7_3 ((rd_T27 l0_1 x33_3).f0)) + 1))) true (l0_1.length : Int) (wrap64 (x33_3 + 1)) l0_0 l0_1) else (stillageref07_Between.l2 kj26 l1 a2 x7_3 x9_3 (l0_1.length : Int) (wrap64 (x33_3 + 1)) l0_0 l0_1)) else (none)) else (none))) else (none)) else (none)) = some r := by rw [if_neg (show ¬ (false = true) by decide)] at H; exact H
         clear H; have H := H1; clear H1
         by_cases c40 : 0 ≤ ((rd_T27 l0_1 x33_3).f1)
         rotate_left; ·rw [if_neg c40] at H; exact absurd H (by simp)
         rw [if_pos c40] at H
         have c40b0 : decide (0 ≤ ((rd_T27 l0_1 x33_3).f1)) = true := decide_eq_true c40
         clear c40
         by_cases c41 : ((rd_T27 l0_1 x33_3).f1) < (x7_3.length : Int)
         rotate_left; ·rw [if_neg c41] at H; exact absurd H (by simp)
         rw [if_pos c41] at H
         have c41b0 : decide (((rd_T27 l0_1 x33_3).f1) < (x7_3.length : Int)) = true := decide_eq_true c41
         (try (have c41z0 := c41b0; simp only [hl7_1, hl7_2, hl7_3] at c41z0))
         clear c41
         by_cases c42 : (rd x7_3 ((rd_T27 l0_1 x33_3).f1)) < 0
         ·rw [if_pos c42] at H
          have c42b0 : decide ((rd x7_3 ((rd_T27 l0_1 x33_3).f1)) < 0) = true := decide_eq_true c42
          clear c42
          by_cases c43 : 0 ≤ ((rd_T27 l0_1 x33_3).f0)
          rotate_left; ·rw [if_neg c43] at H; exact absurd H (by simp)
          rw [if_pos c43] at H
          have c43b0 : decide (0 ≤ ((rd_T27 l0_1 x33_3).f0)) = true := decide_eq_true c43
          clear c43
          by_cases c44 : ((rd_T27 l0_1 x33_3).f0) < (x7_3.length : Int)
          rotate_left; ·rw [if_neg c44] at H; exact absurd H (by simp)
          rw [if_pos c44] at H
          have c44b0 : decide (((rd_T27 l0_1 x33_3).f0) < (x7_3.length : Int)) = true := decide_eq_true c44
          (try (have c44z0 := c44b0; simp only [hl7_1, hl7_2, hl7_3] at c44z0))
          clear c44
          obtain ⟨y275, hy275⟩ : ∃ y_ : List Int, y_ = (x7_3.set (((rd_T27 l0_1 x33_3).f1) : Int).toNat (wrap64 ((rd x7_3 ((rd_T27 l0_1 x33_3).f0)) + 1))) := ⟨_, rfl⟩
          replace H : (stillageref07_Between.l2 kj26 l1 a2 y275 true (l0_1.length : Int) (wrap64 (x33_3 + 1)) l0_0 l0_1) = some r := by first | (rw [hy275]; with_reducible exact H) | (have H2_ := (Option.bind_some _ _).symm.trans H; rw [hy275]; with_reducible exact H2_) | (have H2_ := (Option.bind_some _ _).symm.trans H; with_reducible exact H2_) | with_reducible exact H | (rw [hy275]; exact H) | exact H
          have Ny275 := Aside0.mk hy275
          clear hy275
          have H' := Aside0.mk H; clear H
          have p273 : 0 ≤ (((rd_T27 l0_1 x33_3).f1) : Int) := of_decide_eq_true (by first | (with_reducible assumption) | assumption)
          have q273 : ((rd_T27 l0_1 x33_3).f1) < (x7_3.length : Int) := of_decide_eq_true (by first | (with_reducible assumption) | assumption)
          obtain ⟨ad273, e273, hx273_0⟩ := Kd.at_int (Kd.R_reads' HO_7.out).2.2 ((rd_T27 l0_1 x33_3).f1) p273 q273
          obtain rfl : (⟨go19, 0, none⟩ : Addr) = ad273 := (by injection e273)
          (first | simp only [add_plain] at hx273_0 | simp only [add_at] at hx273_0 | simp only [Addr.add, Nat.zero_add] at hx273_0 | skip)
          replace p273 := eq_true p273
          replace q273 := eq_true q273
          have p274 : 0 ≤ (((rd_T27 l0_1 x33_3).f0) : Int) := of_decide_eq_true (by first | (with_reducible assumption) | assumption)
          have q274 : ((rd_T27 l0_1 x33_3).f0) < (x7_3.length : Int) := of_decide_eq_true (by first | (with_reducible assumption) | assumption)
          obtain ⟨ad274, e274, hx274_0⟩ := Kd.at_int (Kd.R_reads' HO_7.out).2.2 ((rd_T27 l0_1 x33_3).f0) p274 q274
          obtain rfl : (⟨go19, 0, none⟩ : Addr) = ad274 := (by injection e274)
          (first | simp only [add_plain] at hx274_0 | simp only [add_at] at hx274_0 | simp only [Addr.add, Nat.zero_add] at hx274_0 | skip)
          replace p274 := eq_true p274
          replace q274 := eq_true q274
          have p45 : 0 ≤ (((rd_T27 l0_1 x33_3).f1) : Int) := of_decide_eq_true (by first | (with_reducible assumption) | assumption)
          have q45 : (((rd_T27 l0_1 x33_3).f1) : Int) < ((x7_3.length : Int) : Int) := of_decide_eq_true (by first | (with_reducible assumption) | assumption)
          obtain ⟨hx45_0, hf45_0⟩ := Kd.R_celln 0 HO_7.out (((rd_T27 l0_1 x33_3).f1) : Int) p45 q45
          replace p45 := eq_true p45
          replace q45 := eq_true q45
          have HP46 := Kd.R_putg HO_7.out (((rd_T27 l0_1 x33_3).f1) : Int) (wrap64 ((rd x7_3 ((rd_T27 l0_1 x33_3).f0)) + 1))
          go_wp2_with (first | ((with_reducible refine gate_store (t := 3) (p := 98) rfl ?_); (try (rw [drewN_self wc]; generalize hq_ : World.drewN wc _ = wc; have n0_ := Aside0.mk (Kd.R_at hq_ HO_7.out); have n1_ := Aside0.mk (blk_at hq_ BK261.out); have n2_ := Aside0.mk (below_at hq_ HB.out); (try (have hx14_0 := (congrArg (fun z_ => World.cell? z_ _) hq_).symm.trans hx14_0)); (try (have hf14_0 := (congrArg (fun z_ => World.frozen? z_ _) hq_).symm.trans hf14_0)); (try (have hx19_0 := (congrArg (fun z_ => World.cell? z_ _) hq_).symm.trans hx19_0)); (try (have hf19_0 := (congrArg (fun z_ => World.frozen? z_ _) hq_).symm.trans hf19_0)); (try (have hx45_0 := (congrArg (fun z_ => World.cell? z_ _) hq_).symm.trans hx45_0)); (try (have hf45_0 := (congrArg (fun z_ => World.frozen? z_ _) hq_).symm.trans hf45_0)); clear hq_ HO_7 BK261 HB; have HO_7 := n0_; have BK261 := n1_; have HB := n2_; clear n0_ n1_ n2_; (try (have HP46 := Kd.R_putg HO_7.out (((rd_T27 l0_1 x33_3).f1) : Int) (wrap64 ((rd x7_3 ((rd_T27 l0_1 x33_3).f0)) + 1)))))); refine store_event (t := 3) (p := 98) (v := ?vo_w47) (w1 := (wc.setCell ⟨go19, (((rd_T27 l0_1 x33_3).f1) : Int).toNat, none⟩ (.int .i64 (wrap64 ((rd x7_3 ((rd_T27 l0_1 x33_3).f0)) + 1))))) ?hg ?ho ?hn ?hr ?_; (case ho => rfl); (case hg => rfl); (case hn => rfl); (case hr => first | (go_simp; done) | (go_simp; rfl)); intro w47 hw; have hg : wc.grownBy w47 (some go19) := (by rw [hw]; exact HP46.2); have hp_ : Kd.R (Kd.int .i64) 3 w47 w.heap.size (fun _ => True) (.slice (some ⟨go19, 0, none⟩) x7_3.length co10) y275 := (by rw [hw, Ny275.out]; exact HP46.1); clear HP46; replace BK261 := Aside0.mk (blk_grown (g := gb261) (o := .cells #[.slice A0_0 l0_0.length c0_0, .slice (some ad267) l0_1.length c0_1] 25 (0, 0)) (by (with_reducible repeat (first | refine blk_drewN ?_ _ | refine blk_drew ?_ | refine blk_alloc ?_ _)); exact BK261.out) hg (Kd.R_ne HO_7.out BK261.out (by decide))); replace HO_7 := Aside0.mk (hp_); replace HB := Aside0.mk ((by rw [hw]; exact below_set (HB.out) GB19.out : Below w.heap.size w w47)); clear hg hw hp_))
          repeat (go_quiet (first | ((with_reducible refine gate_store (t := 3) (p := 98) rfl ?_); (try (rw [drewN_self wc]; generalize hq_ : World.drewN wc _ = wc; have n0_ := Aside0.mk (Kd.R_at hq_ HO_7.out); have n1_ := Aside0.mk (blk_at hq_ BK261.out); have n2_ := Aside0.mk (below_at hq_ HB.out); (try (have hx14_0 := (congrArg (fun z_ => World.cell? z_ _) hq_).symm.trans hx14_0)); (try (have hf14_0 := (congrArg (fun z_ => World.frozen? z_ _) hq_).symm.trans hf14_0)); (try (have hx19_0 := (congrArg (fun z_ => World.cell? z_ _) hq_).symm.trans hx19_0)); (try (have hf19_0 := (congrArg (fun z_ => World.frozen? z_ _) hq_).symm.trans hf19_0)); (try (have hx45_0 := (congrArg (fun z_ => World.cell? z_ _) hq_).symm.trans hx45_0)); (try (have hf45_0 := (congrArg (fun z_ => World.frozen? z_ _) hq_).symm.trans hf45_0)); clear hq_ HO_7 BK261 HB; have HO_7 := n0_; have BK261 := n1_; have HB := n2_; clear n0_ n1_ n2_; (try (have HP46 := Kd.R_putg HO_7.out (((rd_T27 l0_1 x33_3).f1) : Int) (wrap64 ((rd x7_3 ((rd_T27 l0_1 x33_3).f0)) + 1)))))); refine store_event (t := 3) (p := 98) (v := ?vo_w47) (w1 := (wc.setCell ⟨go19, (((rd_T27 l0_1 x33_3).f1) : Int).toNat, none⟩ (.int .i64 (wrap64 ((rd x7_3 ((rd_T27 l0_1 x33_3).f0)) + 1))))) ?hg ?ho ?hn ?hr ?_; (case ho => rfl); (case hg => rfl); (case hn => rfl); (case hr => first | (go_simp; done) | (go_simp; rfl)); intro w47 hw; have hg : wc.grownBy w47 (some go19) := (by rw [hw]; exact HP46.2); have hp_ : Kd.R (Kd.int .i64) 3 w47 w.heap.size (fun _ => True) (.slice (some ⟨go19, 0, none⟩) x7_3.length co10) y275 := (by rw [hw, Ny275.out]; exact HP46.1); clear HP46; replace BK261 := Aside0.mk (blk_grown (g := gb261) (o := .cells #[.slice A0_0 l0_0.length c0_0, .slice (some ad267) l0_1.length c0_1] 25 (0, 0)) (by (with_reducible repeat (first | refine blk_drewN ?_ _ | refine blk_drew ?_ | refine blk_alloc ?_ _)); exact BK261.out) hg (Kd.R_ne HO_7.out BK261.out (by decide))); replace HO_7 := Aside0.mk (hp_); replace HB := Aside0.mk ((by rw [hw]; exact below_set (HB.out) GB19.out : Below w.heap.size w w47)); clear hg hw hp_)); try go_wp2_with (first | ((with_reducible refine gate_store (t := 3) (p := 98) rfl ?_); (try (rw [drewN_self wc]; generalize hq_ : World.drewN wc _ = wc; have n0_ := Aside0.mk (Kd.R_at hq_ HO_7.out); have n1_ := Aside0.mk (blk_at hq_ BK261.out); have n2_ := Aside0.mk (below_at hq_ HB.out); (try (have hx14_0 := (congrArg (fun z_ => World.cell? z_ _) hq_).symm.trans hx14_0)); (try (have hf14_0 := (congrArg (fun z_ => World.frozen? z_ _) hq_).symm.trans hf14_0)); (try (have hx19_0 := (congrArg (fun z_ => World.cell? z_ _) hq_).symm.trans hx19_0)); (try (have hf19_0 := (congrArg (fun z_ => World.frozen? z_ _) hq_).symm.trans hf19_0)); (try (have hx45_0 := (congrArg (fun z_ => World.cell? z_ _) hq_).symm.trans hx45_0)); (try (have hf45_0 := (congrArg (fun z_ => World.frozen? z_ _) hq_).symm.trans hf45_0)); clear hq_ HO_7 BK261 HB; have HO_7 := n0_; have BK261 := n1_; have HB := n2_; clear n0_ n1_ n2_; (try (have HP46 := Kd.R_putg HO_7.out (((rd_T27 l0_1 x33_3).f1) : Int) (wrap64 ((rd x7_3 ((rd_T27 l0_1 x33_3).f0)) + 1)))))); refine store_event (t := 3) (p := 98) (v := ?vo_w47) (w1 := (wc.setCell ⟨go19, (((rd_T27 l0_1 x33_3).f1) : Int).toNat, none⟩ (.int .i64 (wrap64 ((rd x7_3 ((rd_T27 l0_1 x33_3).f0)) + 1))))) ?hg ?ho ?hn ?hr ?_; (case ho => rfl); (case hg => rfl); (case hn => rfl); (case hr => first | (go_simp; done) | (go_simp; rfl)); intro w47 hw; have hg : wc.grownBy w47 (some go19) := (by rw [hw]; exact HP46.2); have hp_ : Kd.R (Kd.int .i64) 3 w47 w.heap.size (fun _ => True) (.slice (some ⟨go19, 0, none⟩) x7_3.length co10) y275 := (by rw [hw, Ny275.out]; exact HP46.1); clear HP46; replace BK261 := Aside0.mk (blk_grown (g := gb261) (o := .cells #[.slice A0_0 l0_0.length c0_0, .slice (some ad267) l0_1.length c0_1] 25 (0, 0)) (by (with_reducible repeat (first | refine blk_drewN ?_ _ | refine blk_drew ?_ | refine blk_alloc ?_ _)); exact BK261.out) hg (Kd.R_ne HO_7.out BK261.out (by decide))); replace HO_7 := Aside0.mk (hp_); replace HB := Aside0.mk ((by rw [hw]; exact below_set (HB.out) GB19.out : Below w.heap.size w w47)); clear hg hw hp_)))
          (try simp only [← hl7_3])
          go_roundg kj26
          case measure => have := HK1.out; have := HK2.out; have := HK3.out; have := HJ26.out; omega
          case rel => exact ⟨(y275), (true), (wrap64 (x33_3 + 1)), (by first | rfl | (simp; done) | (simp [*]; done)), (by first | rfl | (simp; done) | (simp [*]; done)), H', ⟨by have := HK1.out; have := HK2.out; have := HK3.out; have := HJ26.out; omega⟩, ⟨by (try simp only [hl7_1]); (try simp only [hl7_2]); (try simp only [hl7_3]); (with_reducible repeat (first | apply Kd.R_alloc | apply Kd.R_drewN | apply Kd.R_drew)); exact HO_7.out⟩, ⟨by (try simp only [hl7_1]); (try simp only [hl7_2]); (try simp only [hl7_3]); (with_reducible repeat (first | refine blk_drewN ?_ _ | refine blk_drew ?_ | refine blk_alloc ?_ _)); exact BK261.out⟩, ⟨by repeat (first | (with_reducible first | exact HB.out | apply below_alloc | apply pw_below_drewN | apply below_drew1 | refine below_set ?_ GE261.out) | exact HB.out)⟩⟩
         rw [if_neg c42] at H
         have c42b0 : decide ((rd x7_3 ((rd_T27 l0_1 x33_3).f1)) < 0) = false := decide_eq_false c42
         clear c42
         by_cases c48 : 0 ≤ ((rd_T27 l0_1 x33_3).f0)
         rotate_left; ·rw [if_neg c48] at H; exact absurd H (by simp)
         rw [if_pos c48] at H
         have c48b0 : decide (0 ≤ ((rd_T27 l0_1 x33_3).f0)) = true := decide_eq_true c48
         clear c48
         by_cases c49 : ((rd_T27 l0_1 x33_3).f0) < (x7_3.length : Int)
         rotate_left; ·rw [if_neg c49] at H; exact absurd H (by simp)
         rw [if_pos c49] at H
         have c49b0 : decide (((rd_T27 l0_1 x33_3).f0) < (x7_3.length : Int)) = true := decide_eq_true c49
         (try (have c49z0 := c49b0; simp only [hl7_1, hl7_2, hl7_3] at c49z0))
         clear c49
         by_cases c50 : (wrap64 ((rd x7_3 ((rd_T27 l0_1 x33_3).f0)) + 1)) < (rd x7_3 ((rd_T27 l0_1 x33_3).f1))
         rotate_left
         ·rw [if_neg c50] at H
          have c50b0 : decide ((wrap64 ((rd x7_3 ((rd_T27 l0_1 x33_3).f0)) + 1)) < (rd x7_3 ((rd_T27 l0_1 x33_3).f1))) = false := decide_eq_false c50
          clear c50
          have H' := Aside0.mk H; clear H
          have p273 : 0 ≤ (((rd_T27 l0_1 x33_3).f1) : Int) := of_decide_eq_true (by first | (with_reducible assumption) | assumption)
          have q273 : ((rd_T27 l0_1 x33_3).f1) < (x7_3.length : Int) := of_decide_eq_true (by first | (with_reducible assumption) | assumption)
          obtain ⟨ad273, e273, hx273_0⟩ := Kd.at_int (Kd.R_reads' HO_7.out).2.2 ((rd_T27 l0_1 x33_3).f1) p273 q273
          obtain rfl : (⟨go19, 0, none⟩ : Addr) = ad273 := (by injection e273)
          (first | simp only [add_plain] at hx273_0 | simp only [add_at] at hx273_0 | simp only [Addr.add, Nat.zero_add] at hx273_0 | skip)
          replace p273 := eq_true p273
          replace q273 := eq_true q273
          have p276 : 0 ≤ (((rd_T27 l0_1 x33_3).f0) : Int) := of_decide_eq_true (by first | (with_reducible assumption) | assumption)
          have q276 : ((rd_T27 l0_1 x33_3).f0) < (x7_3.length : Int) := of_decide_eq_true (by first | (with_reducible assumption) | assumption)
          obtain ⟨ad276, e276, hx276_0⟩ := Kd.at_int (Kd.R_reads' HO_7.out).2.2 ((rd_T27 l0_1 x33_3).f0) p276 q276
          obtain rfl : (⟨go19, 0, none⟩ : Addr) = ad276 := (by injection e276)
          (first | simp only [add_plain] at hx276_0 | simp only [add_at] at hx276_0 | simp only [Addr.add, Nat.zero_add] at hx276_0 | skip)
          replace p276 := eq_true p276
          replace q276 := eq_true q276
          have p277 : 0 ≤ (((rd_T27 l0_1 x33_3).f1) : Int) := of_decide_eq_true (by first | (with_reducible assumption) | assumption)
          have q277 : ((rd_T27 l0_1 x33_3).f1) < (x7_3.length : Int) := of_decide_eq_true (by first | (with_reducible assumption) | assumption)
          obtain ⟨ad277, e277, hx277_0⟩ := Kd.at_int (Kd.R_reads' HO_7.out).2.2 ((rd_T27 l0_1 x33_3).f1) p277 q277
          obtain rfl : (⟨go19, 0, none⟩ : Addr) = ad277 := (by injection e277)
          (first | simp only [add_plain] at hx277_0 | simp only [add_at] at hx277_0 | simp only [Addr.add, Nat.zero_add] at hx277_0 | skip)
          replace p277 := eq_true p277
          replace q277 := eq_true q277
          go_wp2
          repeat (go_quiet (fail); try go_wp2)
          (try simp only [← hl7_3])
          go_roundg kj26
          case measure => have := HK1.out; have := HK2.out; have := HK3.out; have := HJ26.out; omega
          case rel => exact ⟨(x7_3), (x9_3), (wrap64 (x33_3 + 1)), (by first | rfl | (simp; done) | (simp [*]; done)), (by first | rfl | (simp; done) | (simp [*]; done)), H', ⟨by have := HK1.out; have := HK2.out; have := HK3.out; have := HJ26.out; omega⟩, ⟨by (try simp only [hl7_1]); (try simp only [hl7_2]); (try simp only [hl7_3]); (with_reducible repeat (first | apply Kd.R_alloc | apply Kd.R_drewN | apply Kd.R_drew)); exact HO_7.out⟩, ⟨by (try simp only [hl7_1]); (try simp only [hl7_2]); (try simp only [hl7_3]); (with_reducible repeat (first | refine blk_drewN ?_ _ | refine blk_drew ?_ | refine blk_alloc ?_ _)); exact BK261.out⟩, ⟨by repeat (first | (with_reducible first | exact HB.out | apply below_alloc | apply pw_below_drewN | apply below_drew1 | refine below_set ?_ GE261.out) | exact HB.out)⟩⟩
         rw [if_pos c50] at H
         have c50b0 : decide ((wrap64 ((rd x7_3 ((rd_T27 l0_1 x33_3).f0)) + 1)) < (rd x7_3 ((rd_T27 l0_1 x33_3).f1))) = true := decide_eq_true c50
         clear c50
         obtain ⟨y279, hy279⟩ : ∃ y_ : List Int, y_ = (x7_3.set (((rd_T27 l0_1 x33_3).f1) : Int).toNat (wrap64 ((rd x7_3 ((rd_T27 l0_1 x33_3).f0)) + 1))) := ⟨_, rfl⟩
         replace H : (stillageref07_Between.l2 kj26 l1 a2 y279 true (l0_1.length : Int) (wrap64 (x33_3 + 1)) l0_0 l0_1) = some r := by first | (rw [hy279]; with_reducible exact H) | (have H2_ := (Option.bind_some _ _).symm.trans H; rw [hy279]; with_reducible exact H2_) | (have H2_ := (Option.bind_some _ _).symm.trans H; with_reducible exact H2_) | with_reducible exact H | (rw [hy279]; exact H) | exact H
         have Ny279 := Aside0.mk hy279
         clear hy279
         have H' := Aside0.mk H; clear H
         have p273 : 0 ≤ (((rd_T27 l0_1 x33_3).f1) : Int) := of_decide_eq_true (by first | (with_reducible assumption) | assumption)
         have q273 : ((rd_T27 l0_1 x33_3).f1) < (x7_3.length : Int) := of_decide_eq_true (by first | (with_reducible assumption) | assumption)
         obtain ⟨ad273, e273, hx273_0⟩ := Kd.at_int (Kd.R_reads' HO_7.out).2.2 ((rd_T27 l0_1 x33_3).f1) p273 q273
         obtain rfl : (⟨go19, 0, none⟩ : Addr) = ad273 := (by injection e273)
         (first | simp only [add_plain] at hx273_0 | simp only [add_at] at hx273_0 | simp only [Addr.add, Nat.zero_add] at hx273_0 | skip)
         replace p273 := eq_true p273
         replace q273 := eq_true q273
         have p276 : 0 ≤ (((rd_T27 l0_1 x33_3).f0) : Int) := of_decide_eq_true (by first | (with_reducible assumption) | assumption)
         have q276 : ((rd_T27 l0_1 x33_3).f0) < (x7_3.length : Int) := of_decide_eq_true (by first | (with_reducible assumption) | assumption)
         obtain ⟨ad276, e276, hx276_0⟩ := Kd.at_int (Kd.R_reads' HO_7.out).2.2 ((rd_T27 l0_1 x33_3).f0) p276 q276
         obtain rfl : (⟨go19, 0, none⟩ : Addr) = ad276 := (by injection e276)
         (first | simp only [add_plain] at hx276_0 | simp only [add_at] at hx276_0 | simp only [Addr.add, Nat.zero_add] at hx276_0 | skip)
         replace p276 := eq_true p276
         replace q276 := eq_true q276
         have p277 : 0 ≤ (((rd_T27 l0_1 x33_3).f1) : Int) := of_decide_eq_true (by first | (with_reducible assumption) | assumption)
         have q277 : ((rd_T27 l0_1 x33_3).f1) < (x7_3.length : Int) := of_decide_eq_true (by first | (with_reducible assumption) | assumption)
         obtain ⟨ad277, e277, hx277_0⟩ := Kd.at_int (Kd.R_reads' HO_7.out).2.2 ((rd_T27 l0_1 x33_3).f1) p277 q277
         obtain rfl : (⟨go19, 0, none⟩ : Addr) = ad277 := (by injection e277)
         (first | simp only [add_plain] at hx277_0 | simp only [add_at] at hx277_0 | simp only [Addr.add, Nat.zero_add] at hx277_0 | skip)
         replace p277 := eq_true p277
         replace q277 := eq_true q277
         have p278 : 0 ≤ (((rd_T27 l0_1 x33_3).f0) : Int) := of_decide_eq_true (by first | (with_reducible assumption) | assumption)
         have q278 : ((rd_T27 l0_1 x33_3).f0) < (x7_3.length : Int) := of_decide_eq_true (by first | (with_reducible assumption) | assumption)
         obtain ⟨ad278, e278, hx278_0⟩ := Kd.at_int (Kd.R_reads' HO_7.out).2.2 ((rd_T27 l0_1 x33_3).f0) p278 q278
         obtain rfl : (⟨go19, 0, none⟩ : Addr) = ad278 := (by injection e278)
         (first | simp only [add_plain] at hx278_0 | simp only [add_at] at hx278_0 | simp only [Addr.add, Nat.zero_add] at hx278_0 | skip)
         replace p278 := eq_true p278
         replace q278 := eq_true q278
         have p51 : 0 ≤ (((rd_T27 l0_1 x33_3).f1) : Int) := of_decide_eq_true (by first | (with_reducible assumption) | assumption)
         have q51 : (((rd_T27 l0_1 x33_3).f1) : Int) < ((x7_3.length : Int) : Int) := of_decide_eq_true (by first | (with_reducible assumption) | assumption)
         obtain ⟨hx51_0, hf51_0⟩ := Kd.R_celln 0 HO_7.out (((rd_T27 l0_1 x33_3).f1) : Int) p51 q51
         replace p51 := eq_true p51
         replace q51 := eq_true q51
         have HP52 := Kd.R_putg HO_7.out (((rd_T27 l0_1 x33_3).f1) : Int) (wrap64 ((rd x7_3 ((rd_T27 l0_1 x33_3).f0)) + 1))
         go_wp2_with (first | ((with_reducible refine gate_store (t := 3) (p := 98) rfl ?_); (try (rw [drewN_self wc]; generalize hq_ : World.drewN wc _ = wc; have n0_ := Aside0.mk (Kd.R_at hq_ HO_7.out); have n1_ := Aside0.mk (blk_at hq_ BK261.out); have n2_ := Aside0.mk (below_at hq_ HB.out); (try (have hx14_0 := (congrArg (fun z_ => World.cell? z_ _) hq_).symm.trans hx14_0)); (try (have hf14_0 := (congrArg (fun z_ => World.frozen? z_ _) hq_).symm.trans hf14_0)); (try (have hx19_0 := (congrArg (fun z_ => World.cell? z_ _) hq_).symm.trans hx19_0)); (try (have hf19_0 := (congrArg (fun z_ => World.frozen? z_ _) hq_).symm.trans hf19_0)); (try (have hx45_0 := (congrArg (fun z_ => World.cell? z_ _) hq_).symm.trans hx45_0)); (try (have hf45_0 := (congrArg (fun z_ => World.frozen? z_ _) hq_).symm.trans hf45_0)); (try (have hx51_0 := (congrArg (fun z_ => World.cell? z_ _) hq_).symm.trans hx51_0)); (try (have hf51_0 := (congrArg (fun z_ => World.frozen? z_ _) hq_).symm.trans hf51_0)); clear hq_ HO_7 BK261 HB; have HO_7 := n0_; have BK261 := n1_; have HB := n2_; clear n0_ n1_ n2_; (try (have HP52 := Kd.R_putg HO_7.out (((rd_T27 l0_1 x33_3).f1) : Int) (wrap64 ((rd x7_3 ((rd_T27 l0_1 x33_3).f0)) + 1)))))); refine store_event (t := 3) (p := 98) (v := ?vo_w53) (w1 := (wc.setCell ⟨go19, (((rd_T27 l0_1 x33_3).f1) : Int).toNat, none⟩ (.int .i64 (wrap64 ((rd x7_3 ((rd_T27 l0_1 x33_3).f0)) + 1))))) ?hg ?ho ?hn ?hr ?_; (case ho => rfl); (case hg => rfl); (case hn => rfl); (case hr => first | (go_simp; done) | (go_simp; rfl)); intro w53 hw; have hg : wc.grownBy w53 (some go19) := (by rw [hw]; exact HP52.2); have hp_ : Kd.R (Kd.int .i64) 3 w53 w.heap.size (fun _ => True) (.slice (some ⟨go19, 0, none⟩) x7_3.length co10) y279 := (by rw [hw, Ny279.out]; exact HP52.1); clear HP52; replace BK261 := Aside0.mk (blk_grown (g := gb261) (o := .cells #[.slice A0_0 l0_0.length c0_0, .slice (some ad267) l0_1.length c0_1] 25 (0, 0)) (by (with_reducible repeat (first | refine blk_drewN ?_ _ | refine blk_drew ?_ | refine blk_alloc ?_ _)); exact BK261.out) hg (Kd.R_ne HO_7.out BK261.out (by decide))); replace HO_7 := Aside0.mk (hp_); replace HB := Aside0.mk ((by rw [hw]; exact below_set (HB.out) GB19.out : Below w.heap.size w w53)); clear hg hw hp_))
         repeat (go_quiet (first | ((with_reducible refine gate_store (t := 3) (p := 98) rfl ?_); (try (rw [drewN_self wc]; generalize hq_ : World.drewN wc _ = wc; have n0_ := Aside0.mk (Kd.R_at hq_ HO_7.out); have n1_ := Aside0.mk (blk_at hq_ BK261.out); have n2_ := Aside0.mk (below_at hq_ HB.out); (try (have hx14_0 := (congrArg (fun z_ => World.cell? z_ _) hq_).symm.trans hx14_0)); (try (have hf14_0 := (congrArg (fun z_ => World.frozen? z_ _) hq_).symm.trans hf14_0)); (try (have hx19_0 := (congrArg (fun z_ => World.cell? z_ _) hq_).symm.trans hx19_0)); (try (have hf19_0 := (congrArg (fun z_ => World.frozen? z_ _) hq_).symm.trans hf19_0)); (try (have hx45_0 := (congrArg (fun z_ => World.cell? z_ _) hq_).symm.trans hx45_0)); (try (have hf45_0 := (congrArg (fun z_ => World.frozen? z_ _) hq_).symm.trans hf45_0)); (try (have hx51_0 := (congrArg (fun z_ => World.cell? z_ _) hq_).symm.trans hx51_0)); (try (have hf51_0 := (congrArg (fun z_ => World.frozen? z_ _) hq_).symm.trans hf51_0)); clear hq_ HO_7 BK261 HB; have HO_7 := n0_; have BK261 := n1_; have HB := n2_; clear n0_ n1_ n2_; (try (have HP52 := Kd.R_putg HO_7.out (((rd_T27 l0_1 x33_3).f1) : Int) (wrap64 ((rd x7_3 ((rd_T27 l0_1 x33_3).f0)) + 1)))))); refine store_event (t := 3) (p := 98) (v := ?vo_w53) (w1 := (wc.setCell ⟨go19, (((rd_T27 l0_1 x33_3).f1) : Int).toNat, none⟩ (.int .i64 (wrap64 ((rd x7_3 ((rd_T27 l0_1 x33_3).f0)) + 1))))) ?hg ?ho ?hn ?hr ?_; (case ho => rfl); (case hg => rfl); (case hn => rfl); (case hr => first | (go_simp; done) | (go_simp; rfl)); intro w53 hw; have hg : wc.grownBy w53 (some go19) := (by rw [hw]; exact HP52.2); have hp_ : Kd.R (Kd.int .i64) 3 w53 w.heap.size (fun _ => True) (.slice (some ⟨go19, 0, none⟩) x7_3.length co10) y279 := (by rw [hw, Ny279.out]; exact HP52.1); clear HP52; replace BK261 := Aside0.mk (blk_grown (g := gb261) (o := .cells #[.slice A0_0 l0_0.length c0_0, .slice (some ad267) l0_1.length c0_1] 25 (0, 0)) (by (with_reducible repeat (first | refine blk_drewN ?_ _ | refine blk_drew ?_ | refine blk_alloc ?_ _)); exact BK261.out) hg (Kd.R_ne HO_7.out BK261.out (by decide))); replace HO_7 := Aside0.mk (hp_); replace HB := Aside0.mk ((by rw [hw]; exact below_set (HB.out) GB19.out : Below w.heap.size w w53)); clear hg hw hp_)); try go_wp2_with (first | ((with_reducible refine gate_store (t := 3) (p := 98) rfl ?_); (try (rw [drewN_self wc]; generalize hq_ : World.drewN wc _ = wc; have n0_ := Aside0.mk (Kd.R_at hq_ HO_7.out); have n1_ := Aside0.mk (blk_at hq_ BK261.out); have n2_ := Aside0.mk (below_at hq_ HB.out); (try (have hx14_0 := (congrArg (fun z_ => World.cell? z_ _) hq_).symm.trans hx14_0)); (try (have hf14_0 := (congrArg (fun z_ => World.frozen? z_ _) hq_).symm.trans hf14_0)); (try (have hx19_0 := (congrArg (fun z_ => World.cell? z_ _) hq_).symm.trans hx19_0)); (try (have hf19_0 := (congrArg (fun z_ => World.frozen? z_ _) hq_).symm.trans hf19_0)); (try (have hx45_0 := (congrArg (fun z_ => World.cell? z_ _) hq_).symm.trans hx45_0)); (try (have hf45_0 := (congrArg (fun z_ => World.frozen? z_ _) hq_).symm.trans hf45_0)); (try (have hx51_0 := (congrArg (fun z_ => World.cell? z_ _) hq_).symm.trans hx51_0)); (try (have hf51_0 := (congrArg (fun z_ => World.frozen? z_ _) hq_).symm.trans hf51_0)); clear hq_ HO_7 BK261 HB; have HO_7 := n0_; have BK261 := n1_; have HB := n2_; clear n0_ n1_ n2_; (try (have HP52 := Kd.R_putg HO_7.out (((rd_T27 l0_1 x33_3).f1) : Int) (wrap64 ((rd x7_3 ((rd_T27 l0_1 x33_3).f0)) + 1)))))); refine store_event (t := 3) (p := 98) (v := ?vo_w53) (w1 := (wc.setCell ⟨go19, (((rd_T27 l0_1 x33_3).f1) : Int).toNat, none⟩ (.int .i64 (wrap64 ((rd x7_3 ((rd_T27 l0_1 x33_3).f0)) + 1))))) ?hg ?ho ?hn ?hr ?_; (case ho => rfl); (case hg => rfl); (case hn => rfl); (case hr => first | (go_simp; done) | (go_simp; rfl)); intro w53 hw; have hg : wc.grownBy w53 (some go19) := (by rw [hw]; exact HP52.2); have hp_ : Kd.R (Kd.int .i64) 3 w53 w.heap.size (fun _ => True) (.slice (some ⟨go19, 0, none⟩) x7_3.length co10) y279 := (by rw [hw, Ny279.out]; exact HP52.1); clear HP52; replace BK261 := Aside0.mk (blk_grown (g := gb261) (o := .cells #[.slice A0_0 l0_0.length c0_0, .slice (some ad267) l0_1.length c0_1] 25 (0, 0)) (by (with_reducible repeat (first | refine blk_drewN ?_ _ | refine blk_drew ?_ | refine blk_alloc ?_ _)); exact BK261.out) hg (Kd.R_ne HO_7.out BK261.out (by decide))); replace HO_7 := Aside0.mk (hp_); replace HB := Aside0.mk ((by rw [hw]; exact below_set (HB.out) GB19.out : Below w.heap.size w w53)); clear hg hw hp_)))
         (try simp only [← hl7_3])
         go_roundg kj26
         case measure => have := HK1.out; have := HK2.out; have := HK3.out; have := HJ26.out; omega
         case rel => exact ⟨(y279), (true), (wrap64 (x33_3 + 1)), (by first | rfl | (simp; done) | (simp [*]; done)), (by first | rfl | (simp; done) | (simp [*]; done)), H', ⟨by have := HK1.out; have := HK2.out; have := HK3.out; have := HJ26.out; omega⟩, ⟨by (try simp only [hl7_1]); (try simp only [hl7_2]); (try simp only [hl7_3]); (with_reducible repeat (first | apply Kd.R_alloc | apply Kd.R_drewN | apply Kd.R_drew)); exact HO_7.out⟩, ⟨by (try simp only [hl7_1]); (try simp only [hl7_2]); (try simp only [hl7_3]); (with_reducible repeat (first | refine blk_drewN ?_ _ | refine blk_drew ?_ | refine blk_alloc ?_ _)); exact BK261.out⟩, ⟨by repeat (first | (with_reducible first | exact HB.out | apply below_alloc | apply pw_below_drewN | apply below_drew1 | refine below_set ?_ GE261.out) | exact HB.out)⟩⟩
end Go.Proofs.Ytkfoicfbmhalbaa.PReachCuts
