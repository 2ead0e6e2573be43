-- Written by a program of this session (wip/oprint): after the pattern of the kit's print, which does not take this law. -- trimmed
import Derived.Test.YtbbdgndaaajejaaPRoutePathsx0
import Derived.Test.YtbbdgndaaajejaaPRoutePathsx11
namespace Go.Proofs.Ytbbdgndaaajejaa.PRoutePaths
open Go.RowKit Go.Proofs.YtbbdgndaaajejaaW.PrintWords Go.Proofs.YtbbdgndaaajejaaW.PrintLast Go.Proofs.YtbbdgndaaajejaaW.PrintMore
attribute [local go_sem] max2_int min2_int max_two min_two max_three min_three max_four min_four   -- for this text's walks alone
set_option linter.unusedVariables false
set_option linter.unusedSimpArgs false

/-! ### stillageref07_Between: function 49 -/
mutual
def stillageref07_Between.l0 : Nat → List Int → Int → List Int → Int → Int → List (S47) → List (S38) → Option (List Int)
 | 0, _, _, _, _, _, _, _ => none
 | k + 1, x1, x2, x7, x18, x19, x328000, x328001 => if x19 < x18 then (if 0 ≤ x19 then (if x19 < (x7.length : Int) then (stillageref07_Between.l0 k x1 x2 (x7.set (x19 : Int).toNat (-1)) x18 (wrap64 (x19 + 1)) x328000 x328001) else (none)) else (none)) else (if 0 ≤ x2 then (if x2 < (x7.length : Int) then (stillageref07_Between.l1 k x1 x2 (x7.set (x2 : Int).toNat 0) true x328000 x328001) else (none)) else (none))
def stillageref07_Between.l1 : Nat → List Int → Int → List Int → Bool → List (S47) → List (S38) → Option (List Int)
 | 0, _, _, _, _, _, _ => none
 | k + 1, x1, x2, x7, x9, x328000, x328001 => if x9 = true then (stillageref07_Between.l2 k x1 x2 x7 false (x328001.length : Int) 0 x328000 x328001) else (some x7)
def stillageref07_Between.l2 : Nat → List Int → Int → List Int → Bool → Int → Int → List (S47) → List (S38) → Option (List Int)
 | 0, _, _, _, _, _, _, _, _ => none
 | k + 1, x1, x2, x7, x9, x32, x33, x328000, x328001 => if x33 < x32 then (if 0 ≤ x33 then (if x33 < (x328001.length : Int) then (if 0 ≤ ((rd_T38 x328001 x33).f0) then (if ((rd_T38 x328001 x33).f0) < (x7.length : Int) then (if (rd x7 ((rd_T38 x328001 x33).f0)) < 0 then (stillageref07_Between.j3 k x1 x2 x7 x9 ((rd_T38 x328001 x33).f0) ((rd_T38 x328001 x33).f1) x32 x33 true x328000 x328001) else (if ((rd_T38 x328001 x33).f0) = x2 then ((stillageref07_Open.f k x1 (wrap64 (x33 + 1))).bind fun t336 => (stillageref07_Between.j3 k x1 x2 x7 x9 ((rd_T38 x328001 x33).f0) ((rd_T38 x328001 x33).f1) x32 x33 (!t336) x328000 x328001)) else (if ((rd_T38 x328001 x33).f0) < (x328000.length : Int) then (if ((rd_T47 x328000 ((rd_T38 x328001 x33).f0)).f1) = 1 then ((stillageref07_Open.f k x1 (wrap64 (x33 + 1))).bind fun t338 => (stillageref07_Between.j3 k x1 x2 x7 x9 ((rd_T38 x328001 x33).f0) ((rd_T38 x328001 x33).f1) x32 x33 (!t338) x328000 x328001)) else (stillageref07_Between.j3 k x1 x2 x7 x9 ((rd_T38 x328001 x33).f0) ((rd_T38 x328001 x33).f1) x32 x33 true x328000 x328001)) else (none)))) else (none)) else (none)) else (none)) else (none)) else (stillageref07_Between.l1 k x1 x2 x7 x9 x328000 x328001)
def stillageref07_Between.j3 : Nat → List Int → Int → List Int → Bool → Int → Int → Int → Int → Bool → List (S47) → List (S38) → Option (List Int)
 | 0, _, _, _, _, _, _, _, _, _, _, _ => none
 | k + 1, x1, x2, x7, x9, x11, x12, x32, x33, x73, x328000, x328001 => if x73 = true then (stillageref07_Between.l2 k x1 x2 x7 x9 x32 (wrap64 (x33 + 1)) x328000 x328001) else (if 0 ≤ x12 then (if x12 < (x7.length : Int) then (if (rd x7 x12) < 0 then (if 0 ≤ x11 then (if x11 < (x7.length : Int) then (stillageref07_Between.l2 k x1 x2 (x7.set (x12 : Int).toNat (wrap64 ((rd x7 x11) + 1))) true x32 (wrap64 (x33 + 1)) x328000 x328001) else (none)) else (none)) else (if 0 ≤ x11 then (if x11 < (x7.length : Int) then (if (wrap64 ((rd x7 x11) + 1)) < (rd x7 x12) then (stillageref07_Between.l2 k x1 x2 (x7.set (x12 : Int).toNat (wrap64 ((rd x7 x11) + 1))) true x32 (wrap64 (x33 + 1)) x328000 x328001) else (stillageref07_Between.l2 k x1 x2 x7 x9 x32 (wrap64 (x33 + 1)) x328000 x328001)) else (none)) else (none))) else (none)) else (none))
end
def stillageref07_Between.f (k : Nat) (l0_0 : List (S47)) (l0_1 : List (S38)) (l1 : List Int) (a2 : Int) : Option (List Int) := if 0 ≤ (l0_0.length : Int) then (if ((l0_0.length : Int) : Int).toNat ≤ 35184372088832 then ((some (List.replicate ((l0_0.length : Int) : Int).toNat 0 : List Int)).bind fun y328 => (stillageref07_Between.l0 k l1 a2 y328 (y328.length : Int) 0 l0_0 l0_1)) else (none)) else (none)
theorem stillageref07_Between.mono_l : ∀ k, (∀ y0 y1 y2 y3 y4 y5 y6, LeO (stillageref07_Between.l0 k y0 y1 y2 y3 y4 y5 y6) (stillageref07_Between.l0 (k + 1) y0 y1 y2 y3 y4 y5 y6)) ∧ (∀ y0 y1 y2 y3 y4 y5, LeO (stillageref07_Between.l1 k y0 y1 y2 y3 y4 y5) (stillageref07_Between.l1 (k + 1) y0 y1 y2 y3 y4 y5)) ∧ (∀ y0 y1 y2 y3 y4 y5 y6 y7, LeO (stillageref07_Between.l2 k y0 y1 y2 y3 y4 y5 y6 y7) (stillageref07_Between.l2 (k + 1) y0 y1 y2 y3 y4 y5 y6 y7)) ∧ (∀ y0 y1 y2 y3 y4 y5 y6 y7 y8 y9 y10, LeO (stillageref07_Between.j3 k y0 y1 y2 y3 y4 y5 y6 y7 y8 y9 y10) (stillageref07_Between.j3 (k + 1) y0 y1 y2 y3 y4 y5 y6 y7 y8 y9 y10))
 | 0 => ⟨fun _ _ _ _ _ _ _ r h => by simp [stillageref07_Between.l0] at h, fun _ _ _ _ _ _ r h => by simp [stillageref07_Between.l1] at h, fun _ _ _ _ _ _ _ _ r h => by simp [stillageref07_Between.l2] at h, fun _ _ _ _ _ _ _ _ _ _ _ r h => by simp [stillageref07_Between.j3] at h⟩
 | k + 1 => by
  obtain ⟨ih0, ih1, ih2, ih3⟩ := stillageref07_Between.mono_l k
  refine ⟨?_, ?_, ?_, ?_⟩
  ·intro y0 y1 y2 y3 y4 y5 y6
   unfold stillageref07_Between.l0
   repeat' first
   | (with_reducible exact ih0 _ _ _ _ _ _ _)
   | (with_reducible exact ih1 _ _ _ _ _ _)
   | (with_reducible exact ih2 _ _ _ _ _ _ _ _)
   | (with_reducible exact ih3 _ _ _ _ _ _ _ _ _ _ _)
   | (with_reducible exact stillageref07_Open.mono _ _ _)
   | (with_reducible exact LeO.refl _)
   | (with_reducible exact LeO.none _)
   | (with_reducible refine LeO.ite ?_ ?_)
   | (with_reducible refine LeO.bind ?_ (fun _ => ?_))
   | exact ih0 _ _ _ _ _ _ _
   | exact ih1 _ _ _ _ _ _
   | exact ih2 _ _ _ _ _ _ _ _
   | exact ih3 _ _ _ _ _ _ _ _ _ _ _
   | exact stillageref07_Open.mono _ _ _
   | exact LeO.none _
   | refine LeO.ite ?_ ?_
   | refine LeO.bind ?_ (fun _ => ?_)
  ·intro y0 y1 y2 y3 y4 y5
   unfold stillageref07_Between.l1
   repeat' first
   | (with_reducible exact ih0 _ _ _ _ _ _ _)
   | (with_reducible exact ih1 _ _ _ _ _ _)
   | (with_reducible exact ih2 _ _ _ _ _ _ _ _)
   | (with_reducible exact ih3 _ _ _ _ _ _ _ _ _ _ _)
   | (with_reducible exact stillageref07_Open.mono _ _ _)
   | (with_reducible exact LeO.refl _)
   | (with_reducible exact LeO.none _)
   | (with_reducible refine LeO.ite ?_ ?_)
   | (with_reducible refine LeO.bind ?_ (fun _ => ?_))
   | exact ih0 _ _ _ _ _ _ _
   | exact ih1 _ _ _ _ _ _
   | exact ih2 _ _ _ _ _ _ _ _
   | exact ih3 _ _ _ _ _ _ _ _ _ _ _
   | exact stillageref07_Open.mono _ _ _
   | exact LeO.none _
   | refine LeO.ite ?_ ?_
   | refine LeO.bind ?_ (fun _ => ?_)
  ·intro y0 y1 y2 y3 y4 y5 y6 y7
   unfold stillageref07_Between.l2
   repeat' first
   | (with_reducible exact ih0 _ _ _ _ _ _ _)
   | (with_reducible exact ih1 _ _ _ _ _ _)
   | (with_reducible exact ih2 _ _ _ _ _ _ _ _)
   | (with_reducible exact ih3 _ _ _ _ _ _ _ _ _ _ _)
   | (with_reducible exact stillageref07_Open.mono _ _ _)
   | (with_reducible exact LeO.refl _)
   | (with_reducible exact LeO.none _)
   | (with_reducible refine LeO.ite ?_ ?_)
   | (with_reducible refine LeO.bind ?_ (fun _ => ?_))
   | exact ih0 _ _ _ _ _ _ _
   | exact ih1 _ _ _ _ _ _
   | exact ih2 _ _ _ _ _ _ _ _
   | exact ih3 _ _ _ _ _ _ _ _ _ _ _
   | exact stillageref07_Open.mono _ _ _
   | exact LeO.none _
   | refine LeO.ite ?_ ?_
   | refine LeO.bind ?_ (fun _ => ?_)
  ·intro y0 y1 y2 y3 y4 y5 y6 y7 y8 y9 y10
   unfold stillageref07_Between.j3
   repeat' first
   | (with_reducible exact ih0 _ _ _ _ _ _ _)
   | (with_reducible exact ih1 _ _ _ _ _ _)
   | (with_reducible exact ih2 _ _ _ _ _ _ _ _)
   | (with_reducible exact ih3 _ _ _ _ _ _ _ _ _ _ _)
   | (with_reducible exact stillageref07_Open.mono _ _ _)
   | (with_reducible exact LeO.refl _)
   | (with_reducible exact LeO.none _)
   | (with_reducible refine LeO.ite ?_ ?_)
   | (with_reducible refine LeO.bind ?_ (fun _ => ?_))
   | exact ih0 _ _ _ _ _ _ _
   | exact ih1 _ _ _ _ _ _
   | exact ih2 _ _ _ _ _ _ _ _
   | exact ih3 _ _ _ _ _ _ _ _ _ _ _
   | exact stillageref07_Open.mono _ _ _
   | exact LeO.none _
   | refine LeO.ite ?_ ?_
   | refine LeO.bind ?_ (fun _ => ?_)
theorem stillageref07_Between.mono : ∀ a0 a1 a2 a3 k, LeO (stillageref07_Between.f k a0 a1 a2 a3) (stillageref07_Between.f (k + 1) a0 a1 a2 a3) := by
 intro a0 a1 a2 a3 k
 obtain ⟨ih0, ih1, ih2, ih3⟩ := stillageref07_Between.mono_l k
 unfold stillageref07_Between.f
 repeat' first
   | (with_reducible exact ih0 _ _ _ _ _ _ _)
   | (with_reducible exact ih1 _ _ _ _ _ _)
   | (with_reducible exact ih2 _ _ _ _ _ _ _ _)
   | (with_reducible exact ih3 _ _ _ _ _ _ _ _ _ _ _)
   | (with_reducible exact stillageref07_Open.mono _ _ _)
   | (with_reducible exact LeO.refl _)
   | (with_reducible exact LeO.none _)
   | (with_reducible refine LeO.ite ?_ ?_)
   | (with_reducible refine LeO.bind ?_ (fun _ => ?_))
   | exact ih0 _ _ _ _ _ _ _
   | exact ih1 _ _ _ _ _ _
   | exact ih2 _ _ _ _ _ _ _ _
   | exact ih3 _ _ _ _ _ _ _ _ _ _ _
   | exact stillageref07_Open.mono _ _ _
   | exact LeO.none _
   | refine LeO.ite ?_ ?_
   | refine LeO.bind ?_ (fun _ => ?_)
set_option maxHeartbeats 8000000 in
set_option maxRecDepth 100000 in
theorem stillageref07_Between.calls (k : Nat) (A0_0 : Option Addr) (c0_0 : Nat) (l0_0 : List (S47)) (A0_1 : Option Addr) (c0_1 : Nat) (l0_1 : List (S38)) (A1 : Option Addr) (c1 : Nat) (l1 : List Int) (a2 : Int) (r : List Int) (w : World) (hr0_0 : Kd.C k47 w A0_0 l0_0.length l0_0) (hc0_0 : l0_0.length ≤ c0_0) (hr0_1 : Kd.C k38 w A0_1 l0_1.length l0_1) (hc0_1 : l0_1.length ≤ c0_1) (hr1 : Kd.C (Kd.int .i64) w A1 l1.length l1) (hc1 : l1.length ≤ c1) (h : stillageref07_Between.f k l0_0 l0_1 l1 a2 = some r) :
  Calls Try.prog 49 #[.agg #[.slice A0_0 l0_0.length c0_0, .slice A0_1 l0_1.length c0_1], .slice A1 l1.length c1, .int .i64 a2] w fun e w' => ∃ v0_ : Value, e = .returned (v0_) ∧ Kd.R (Kd.int .i64) 3 w' w.heap.size (fun _ => True) v0_ r ∧ Below w.heap.size w w' := by
 have hu25 := Try.underlying25
 have HR0_0 := Aside0.mk hr0_0
 have HC0_0 := Aside0.mk hc0_0
 clear hr0_0 hc0_0
 have HR0_1 := Aside0.mk hr0_1
 have HC0_1 := Aside0.mk hc0_1
 clear hr0_1 hc0_1
 have HR1 := Aside0.mk hr1
 have HC1 := Aside0.mk hc1
 clear hr1 hc1
 have HB := Aside0.mk (Below.refl w.heap.size w)
 have H : (if 0 ≤ (l0_0.length : Int) then (if ((l0_0.length : Int) : Int).toNat ≤ 35184372088832 then ((some (List.replicate ((l0_0.length : Int) : Int).toNat 0 : List Int)).bind fun y328 => (stillageref07_Between.l0 k l1 a2 y328 (y328.length : Int) 0 l0_0 l0_1)) else (none)) else (none)) = some r := h
 clear h
 by_cases c4 : 0 ≤ (l0_0.length : Int)
 rotate_left; ·rw [if_neg c4] at H; exact absurd H (by simp)

 rw [if_pos c4] at H
 have c4b0 := eq_true c4
 have c4b1 : decide (0 ≤ (l0_0.length : Int)) = true := decide_eq_true c4
 clear c4
 by_cases c5 : ((l0_0.length : Int) : Int).toNat ≤ 35184372088832
 rotate_left; ·rw [if_neg c5] at H; exact absurd H (by simp)
 rw [if_pos c5] at H
 have c5b0 := eq_true c5
 have c5b1 : decide (((l0_0.length : Int) : Int).toNat ≤ 35184372088832) = true := decide_eq_true c5
 clear c5
 obtain ⟨y328, hy328⟩ : ∃ y_ : List Int, y_ = (List.replicate ((l0_0.length : Int) : Int).toNat 0) := ⟨_, rfl⟩
 replace H : (stillageref07_Between.l0 k l1 a2 y328 (y328.length : Int) 0 l0_0 l0_1) = some r := by first | (rw [hy328]; with_reducible exact H) | (have H2_ := (Option.bind_some _ _).symm.trans H; rw [hy328]; with_reducible exact H2_) | (have H2_ := (Option.bind_some _ _).symm.trans H; with_reducible exact H2_) | with_reducible exact H | (rw [hy328]; exact H) | exact H
 have Ny328 := Aside0.mk hy328
 clear hy328
 have H' := Aside0.mk H; clear H
 go_enter Try.func49, Try.ntmps49
 go_wp2_with (first | ((with_reducible refine gate_dst (N := 3) rfl ?_); refine box_event ?hg (N := 3) ?hd (cs := #[.slice A0_0 l0_0.length c0_0, .slice A0_1 l0_1.length c0_1]) (t := 25) ?hr ?_; (case hd => rfl); (case hg => rfl); (case hr => first | (go_simp; done) | (go_simp; rfl)); intro gb327 hg w6 hbox hb; have BK327 := Aside0.mk (hbox); have GW327 := Aside0.mk ((by rw [hg]; exact (below_size (zb0 HB.out)) : w.heap.size ≤ gb327)); have GE327 := Aside0.mk ((by rw [hg]; exact (below_size (zb0 HB.out)) : w.heap.size ≤ gb327)); replace HB := Aside0.mk (below_step (zb0 HB.out) hb); clear hb hbox hg; have hcz7_0 : w6.cell? ⟨gb327, 0, none⟩ = some (.slice A0_0 l0_0.length c0_0) := (blk_cell BK327.out 0).trans rfl; have hcz7_1 : w6.cell? ⟨gb327, 1, none⟩ = some (.slice A0_1 l0_1.length c0_1) := (blk_cell BK327.out 1).trans rfl; have hfz7_0 := blk_frozen BK327.out 0; have hfz7_1 := blk_frozen BK327.out 1) | ((with_reducible refine gate_dst (N := 16) rfl ?_); refine Kd.R_make (Kd.int .i64) _ 3 rfl (N := 16) rfl 26 _ _ rfl (l0_0.length : Int) rfl rfl Try.underlying26 (.int .i64 0) 8 info3 rfl (by decide) (by omega) 0 (ok := fun _ => True) (okp := fun _ => True) rfl (fun _ hk => hk) trivial (oda) (Nat.le_trans (Nat.mul_le_mul_right _ (oda : (l0_0.length : Int).toNat ≤ 35184372088832)) (by omega)) (Below.refl _ _) (Nat.le_refl _) ?_; intro v329 w8 ho9 hb hg_ hnew_; clear hg_ hnew_; (first | rw [← Ny328.out] at ho9 | (simp only [Int.reduceToNat] at ho9; rw [← Ny328.out] at ho9)); have HO330 := Aside0.mk (Kd.R_lower ho9 (below_size (zb1 HB.out GE327.out))); replace BK327 := Aside0.mk (blk_below (g := gb327) (o := .cells #[.slice A0_0 l0_0.length c0_0, .slice A0_1 l0_1.length c0_1] 25 (0, 0)) (zk BK327.out) hb); replace HB := Aside0.mk (below_step (zb1 HB.out GE327.out) hb); clear hb ho9; obtain ⟨Ao10, co10, eo10⟩ := Kd.R_slice HO330.out; subst eo10))
 repeat (go_quiet (first | ((with_reducible refine gate_dst (N := 3) rfl ?_); refine box_event ?hg (N := 3) ?hd (cs := #[.slice A0_0 l0_0.length c0_0, .slice A0_1 l0_1.length c0_1]) (t := 25) ?hr ?_; (case hd => rfl); (case hg => rfl); (case hr => first | (go_simp; done) | (go_simp; rfl)); intro gb327 hg w6 hbox hb; have BK327 := Aside0.mk (hbox); have GW327 := Aside0.mk ((by rw [hg]; exact (below_size (zb0 HB.out)) : w.heap.size ≤ gb327)); have GE327 := Aside0.mk ((by rw [hg]; exact (below_size (zb0 HB.out)) : w.heap.size ≤ gb327)); replace HB := Aside0.mk (below_step (zb0 HB.out) hb); clear hb hbox hg; have hcz7_0 : w6.cell? ⟨gb327, 0, none⟩ = some (.slice A0_0 l0_0.length c0_0) := (blk_cell BK327.out 0).trans rfl; have hcz7_1 : w6.cell? ⟨gb327, 1, none⟩ = some (.slice A0_1 l0_1.length c0_1) := (blk_cell BK327.out 1).trans rfl; have hfz7_0 := blk_frozen BK327.out 0; have hfz7_1 := blk_frozen BK327.out 1) | ((with_reducible refine gate_dst (N := 16) rfl ?_); refine Kd.R_make (Kd.int .i64) _ 3 rfl (N := 16) rfl 26 _ _ rfl (l0_0.length : Int) rfl rfl Try.underlying26 (.int .i64 0) 8 info3 rfl (by decide) (by omega) 0 (ok := fun _ => True) (okp := fun _ => True) rfl (fun _ hk => hk) trivial (oda) (Nat.le_trans (Nat.mul_le_mul_right _ (oda : (l0_0.length : Int).toNat ≤ 35184372088832)) (by omega)) (Below.refl _ _) (Nat.le_refl _) ?_; intro v329 w8 ho9 hb hg_ hnew_; clear hg_ hnew_; (first | rw [← Ny328.out] at ho9 | (simp only [Int.reduceToNat] at ho9; rw [← Ny328.out] at ho9)); have HO330 := Aside0.mk (Kd.R_lower ho9 (below_size (zb1 HB.out GE327.out))); replace BK327 := Aside0.mk (blk_below (g := gb327) (o := .cells #[.slice A0_0 l0_0.length c0_0, .slice A0_1 l0_1.length c0_1] 25 (0, 0)) (zk BK327.out) hb); replace HB := Aside0.mk (below_step (zb1 HB.out GE327.out) hb); clear hb ho9; obtain ⟨Ao10, co10, eo10⟩ := Kd.R_slice HO330.out; subst eo10)); try go_wp2_with (first | ((with_reducible refine gate_dst (N := 3) rfl ?_); refine box_event ?hg (N := 3) ?hd (cs := #[.slice A0_0 l0_0.length c0_0, .slice A0_1 l0_1.length c0_1]) (t := 25) ?hr ?_; (case hd => rfl); (case hg => rfl); (case hr => first | (go_simp; done) | (go_simp; rfl)); intro gb327 hg w6 hbox hb; have BK327 := Aside0.mk (hbox); have GW327 := Aside0.mk ((by rw [hg]; exact (below_size (zb0 HB.out)) : w.heap.size ≤ gb327)); have GE327 := Aside0.mk ((by rw [hg]; exact (below_size (zb0 HB.out)) : w.heap.size ≤ gb327)); replace HB := Aside0.mk (below_step (zb0 HB.out) hb); clear hb hbox hg; have hcz7_0 : w6.cell? ⟨gb327, 0, none⟩ = some (.slice A0_0 l0_0.length c0_0) := (blk_cell BK327.out 0).trans rfl; have hcz7_1 : w6.cell? ⟨gb327, 1, none⟩ = some (.slice A0_1 l0_1.length c0_1) := (blk_cell BK327.out 1).trans rfl; have hfz7_0 := blk_frozen BK327.out 0; have hfz7_1 := blk_frozen BK327.out 1) | ((with_reducible refine gate_dst (N := 16) rfl ?_); refine Kd.R_make (Kd.int .i64) _ 3 rfl (N := 16) rfl 26 _ _ rfl (l0_0.length : Int) rfl rfl Try.underlying26 (.int .i64 0) 8 info3 rfl (by decide) (by omega) 0 (ok := fun _ => True) (okp := fun _ => True) rfl (fun _ hk => hk) trivial (oda) (Nat.le_trans (Nat.mul_le_mul_right _ (oda : (l0_0.length : Int).toNat ≤ 35184372088832)) (by omega)) (Below.refl _ _) (Nat.le_refl _) ?_; intro v329 w8 ho9 hb hg_ hnew_; clear hg_ hnew_; (first | rw [← Ny328.out] at ho9 | (simp only [Int.reduceToNat] at ho9; rw [← Ny328.out] at ho9)); have HO330 := Aside0.mk (Kd.R_lower ho9 (below_size (zb1 HB.out GE327.out))); replace BK327 := Aside0.mk (blk_below (g := gb327) (o := .cells #[.slice A0_0 l0_0.length c0_0, .slice A0_1 l0_1.length c0_1] 25 (0, 0)) (zk BK327.out) hb); replace HB := Aside0.mk (below_step (zb1 HB.out GE327.out) hb); clear hb ho9; obtain ⟨Ao10, co10, eo10⟩ := Kd.R_slice HO330.out; subst eo10)))
 go_loopg [19] k (fun kq v19 w' => ∃ (x7_1 : List Int) (x19_1 : Int), v19 = .int .i64 x19_1 ∧ Aside0 (stillageref07_Between.l0 kq l1 a2 x7_1 (y328.length : Int) x19_1 l0_0 l0_1 = some r) ∧ Aside0 (kq ≤ k) ∧ Aside0 (Kd.R (Kd.int .i64) 3 w' w.heap.size (fun _ => True) (.slice Ao10 y328.length co10) x7_1) ∧ Aside0 (w'.heap[gb327]? = some (.cells #[(.slice A0_0 l0_0.length c0_0), (.slice A0_1 l0_1.length c0_1)] 25 (0, 0))) ∧ Aside0 (Below w.heap.size w w'))
 case atStart => exact ⟨(y328), (0), rs, H', ⟨Nat.le_refl _⟩, ⟨zr HO330.out⟩, ⟨zk BK327.out⟩, ⟨zb1 HB.out GE327.out⟩⟩
 case round =>
  clear H'
  obtain ⟨x7_1, x19_1, rfl, HA, HK1, HO_7, BK327, HB⟩ := hrel
  have hl7_1 := (Kd.R_reads' HO_7.out).1
  rw [hl7_1] at HO_7
  (try simp only [hl7_1])
  (try simp only [hl7_1] at BK327)
  cases gk with
  | zero => exact absurd HA.out (by simp [stillageref07_Between.l0])
  | succ k1 =>
   have H := HA.out
   clear HA
   simp only [stillageref07_Between.l0] at H
   by_cases c11 : x19_1 < (y328.length : Int)
   ·rw [if_pos c11] at H
    have c11b0 : decide (x19_1 < (y328.length : Int)) = true := decide_eq_true c11
    (try (have c11z0 := c11b0; simp only [hl7_1] at c11z0))
    clear c11
    by_cases c12 : 0 ≤ x19_1
    rotate_left; ·rw [if_neg c12] at H; exact absurd H (by simp)
    rw [if_pos c12] at H
    have c12b0 : decide (0 ≤ x19_1) = true := decide_eq_true c12
    clear c12
    by_cases c13 : x19_1 < (x7_1.length : Int)
    rotate_left; ·rw [if_neg c13] at H; exact absurd H (by simp)
    rw [if_pos c13] at H
    have c13b0 : decide (x19_1 < (x7_1.length : Int)) = true := decide_eq_true c13
    (try (have c13z0 := c13b0; simp only [hl7_1] at c13z0))
    clear c13
    obtain ⟨y331, hy331⟩ : ∃ y_ : List Int, y_ = (x7_1.set (x19_1 : Int).toNat (-1)) := ⟨_, rfl⟩
    replace H : (stillageref07_Between.l0 k1 l1 a2 y331 (y328.length : Int) (wrap64 (x19_1 + 1)) l0_0 l0_1) = some r := by first | (rw [hy331]; with_reducible exact H) | (have H2_ := (Option.bind_some _ _).symm.trans H; rw [hy331]; with_reducible exact H2_) | (have H2_ := (Option.bind_some _ _).symm.trans H; with_reducible exact H2_) | with_reducible exact H | (rw [hy331]; exact H) | exact H
    have Ny331 := Aside0.mk hy331
    clear hy331
    have H' := Aside0.mk H; clear H
    have p14 : 0 ≤ (x19_1 : Int) := oda
    have q14 : (x19_1 : Int) < ((x7_1.length : Int) : Int) := oda
    obtain ⟨go14, co14, eo14, gb14, gl14, cl14, HG14⟩ := Kd.R_form HO_7.out (by omega)
    (first | cases eo14 | (injection eo14 with ea_ en_ ec_; (first | subst ea_ | (injection ea_ with ea_; subst ea_)); subst ec_; clear en_))
    have GB14 := Aside0.mk gb14
    have GG14 := Aside0.mk HG14
    clear gb14 gl14 HG14
    obtain ⟨hx14_0, hf14_0⟩ := Kd.R_celln 0 HO_7.out (x19_1 : Int) p14 q14
    replace p14 := eq_true p14
    replace q14 := eq_true q14
    have HP15 := Kd.R_putg HO_7.out (x19_1 : Int) (-1)
    go_wp2_with (first | ((with_reducible refine gate_store (t := 3) (p := 24) rfl ?_); (try (rw [drewN_self wr]; generalize hq_ : World.drewN wr _ = wr; have n0_ := Aside0.mk (Kd.R_at hq_ HO_7.out); have n1_ := Aside0.mk (blk_at hq_ BK327.out); have n2_ := Aside0.mk (below_at hq_ HB.out); (try (have hx14_0 := (congrArg (fun z_ => World.cell? z_ _) hq_).symm.trans hx14_0)); (try (have hf14_0 := (congrArg (fun z_ => World.frozen? z_ _) hq_).symm.trans hf14_0)); clear hq_ HO_7 BK327 HB; have HO_7 := n0_; have BK327 := n1_; have HB := n2_; clear n0_ n1_ n2_; (try (have HP15 := Kd.R_putg HO_7.out (x19_1 : Int) (-1))))); refine store_event (t := 3) (p := 24) (v := ?vo_w16) (w1 := (wr.setCell ⟨go14, (x19_1 : Int).toNat, none⟩ (.int .i64 (-1)))) ?hg ?ho ?hn ?hr ?_; (case ho => rfl); (case hg => rfl); (case hn => rfl); (case hr => first | (go_simp; done) | (go_simp; rfl)); intro w16 hw; have hg : wr.grownBy w16 (some go14) := (by rw [hw]; exact HP15.2); have hp_ : Kd.R (Kd.int .i64) 3 w16 w.heap.size (fun _ => True) (.slice (some ⟨go14, 0, none⟩) x7_1.length co10) y331 := (by rw [hw, Ny331.out]; exact HP15.1); clear HP15; replace BK327 := Aside0.mk (blk_grown (g := gb327) (o := .cells #[.slice A0_0 l0_0.length c0_0, .slice A0_1 l0_1.length c0_1] 25 (0, 0)) (zk BK327.out) hg (Kd.R_ne HO_7.out BK327.out (by decide))); replace HO_7 := Aside0.mk (hp_); replace HB := Aside0.mk ((by rw [hw]; exact below_set (HB.out) GB14.out : Below w.heap.size w w16)); clear hg hw hp_))
    repeat (go_quiet (first | ((with_reducible refine gate_store (t := 3) (p := 24) rfl ?_); (try (rw [drewN_self wr]; generalize hq_ : World.drewN wr _ = wr; have n0_ := Aside0.mk (Kd.R_at hq_ HO_7.out); have n1_ := Aside0.mk (blk_at hq_ BK327.out); have n2_ := Aside0.mk (below_at hq_ HB.out); (try (have hx14_0 := (congrArg (fun z_ => World.cell? z_ _) hq_).symm.trans hx14_0)); (try (have hf14_0 := (congrArg (fun z_ => World.frozen? z_ _) hq_).symm.trans hf14_0)); clear hq_ HO_7 BK327 HB; have HO_7 := n0_; have BK327 := n1_; have HB := n2_; clear n0_ n1_ n2_; (try (have HP15 := Kd.R_putg HO_7.out (x19_1 : Int) (-1))))); refine store_event (t := 3) (p := 24) (v := ?vo_w16) (w1 := (wr.setCell ⟨go14, (x19_1 : Int).toNat, none⟩ (.int .i64 (-1)))) ?hg ?ho ?hn ?hr ?_; (case ho => rfl); (case hg => rfl); (case hn => rfl); (case hr => first | (go_simp; done) | (go_simp; rfl)); intro w16 hw; have hg : wr.grownBy w16 (some go14) := (by rw [hw]; exact HP15.2); have hp_ : Kd.R (Kd.int .i64) 3 w16 w.heap.size (fun _ => True) (.slice (some ⟨go14, 0, none⟩) x7_1.length co10) y331 := (by rw [hw, Ny331.out]; exact HP15.1); clear HP15; replace BK327 := Aside0.mk (blk_grown (g := gb327) (o := .cells #[.slice A0_0 l0_0.length c0_0, .slice A0_1 l0_1.length c0_1] 25 (0, 0)) (zk BK327.out) hg (Kd.R_ne HO_7.out BK327.out (by decide))); replace HO_7 := Aside0.mk (hp_); replace HB := Aside0.mk ((by rw [hw]; exact below_set (HB.out) GB14.out : Below w.heap.size w w16)); clear hg hw hp_)); try go_wp2_with (first | ((with_reducible refine gate_store (t := 3) (p := 24) rfl ?_); (try (rw [drewN_self wr]; generalize hq_ : World.drewN wr _ = wr; have n0_ := Aside0.mk (Kd.R_at hq_ HO_7.out); have n1_ := Aside0.mk (blk_at hq_ BK327.out); have n2_ := Aside0.mk (below_at hq_ HB.out); (try (have hx14_0 := (congrArg (fun z_ => World.cell? z_ _) hq_).symm.trans hx14_0)); (try (have hf14_0 := (congrArg (fun z_ => World.frozen? z_ _) hq_).symm.trans hf14_0)); clear hq_ HO_7 BK327 HB; have HO_7 := n0_; have BK327 := n1_; have HB := n2_; clear n0_ n1_ n2_; (try (have HP15 := Kd.R_putg HO_7.out (x19_1 : Int) (-1))))); refine store_event (t := 3) (p := 24) (v := ?vo_w16) (w1 := (wr.setCell ⟨go14, (x19_1 : Int).toNat, none⟩ (.int .i64 (-1)))) ?hg ?ho ?hn ?hr ?_; (case ho => rfl); (case hg => rfl); (case hn => rfl); (case hr => first | (go_simp; done) | (go_simp; rfl)); intro w16 hw; have hg : wr.grownBy w16 (some go14) := (by rw [hw]; exact HP15.2); have hp_ : Kd.R (Kd.int .i64) 3 w16 w.heap.size (fun _ => True) (.slice (some ⟨go14, 0, none⟩) x7_1.length co10) y331 := (by rw [hw, Ny331.out]; exact HP15.1); clear HP15; replace BK327 := Aside0.mk (blk_grown (g := gb327) (o := .cells #[.slice A0_0 l0_0.length c0_0, .slice A0_1 l0_1.length c0_1] 25 (0, 0)) (zk BK327.out) hg (Kd.R_ne HO_7.out BK327.out (by decide))); replace HO_7 := Aside0.mk (hp_); replace HB := Aside0.mk ((by rw [hw]; exact below_set (HB.out) GB14.out : Below w.heap.size w w16)); clear hg hw hp_)))
    (try simp only [← hl7_1])
    go_roundg k1
    case measure => have := HK1.out; omega
    case rel => exact ⟨(y331), (wrap64 (x19_1 + 1)), rs, H', ⟨by have := HK1.out; omega⟩, ⟨by (try simp only [hl7_1]); (with_reducible repeat (first | apply Kd.R_alloc | apply Kd.R_drewN | apply Kd.R_drew)); exact HO_7.out⟩, ⟨by (try simp only [hl7_1]); (with_reducible repeat (first | refine blk_drewN ?_ _ | refine blk_drew ?_ | refine blk_alloc ?_ _)); exact BK327.out⟩, ⟨zb1 HB.out GE327.out⟩⟩
   rw [if_neg c11] at H
   have c11b0 : decide (x19_1 < (y328.length : Int)) = false := decide_eq_false c11
   (try (have c11z0 := c11b0; simp only [hl7_1] at c11z0))
   clear c11
   by_cases c17 : 0 ≤ a2
   rotate_left; ·rw [if_neg c17] at H; exact absurd H (by simp)
   rw [if_pos c17] at H
   have c17b0 : decide (0 ≤ a2) = true := decide_eq_true c17
   clear c17
   by_cases c18 : a2 < (x7_1.length : Int)
   rotate_left; ·rw [if_neg c18] at H; exact absurd H (by simp)
   rw [if_pos c18] at H
   have c18b0 : decide (a2 < (x7_1.length : Int)) = true := decide_eq_true c18
   (try (have c18z0 := c18b0; simp only [hl7_1] at c18z0))
   clear c18
   obtain ⟨y332, hy332⟩ : ∃ y_ : List Int, y_ = (x7_1.set (a2 : Int).toNat 0) := ⟨_, rfl⟩
   replace H : (stillageref07_Between.l1 k1 l1 a2 y332 true l0_0 l0_1) = some r := by first | (rw [hy332]; with_reducible exact H) | (have H2_ := (Option.bind_some _ _).symm.trans H; rw [hy332]; with_reducible exact H2_) | (have H2_ := (Option.bind_some _ _).symm.trans H; with_reducible exact H2_) | with_reducible exact H | (rw [hy332]; exact H) | exact H
   have Ny332 := Aside0.mk hy332
   clear hy332
   have H' := Aside0.mk H; clear H
   have p19 : 0 ≤ (a2 : Int) := oda
   have q19 : (a2 : Int) < ((x7_1.length : Int) : Int) := oda
   obtain ⟨go19, co19, eo19, gb19, gl19, cl19, HG19⟩ := Kd.R_form HO_7.out (by omega)
   (first | cases eo19 | (injection eo19 with ea_ en_ ec_; (first | subst ea_ | (injection ea_ with ea_; subst ea_)); subst ec_; clear en_))
   have GB19 := Aside0.mk gb19
   have GG19 := Aside0.mk HG19
   clear gb19 gl19 HG19
   obtain ⟨hx19_0, hf19_0⟩ := Kd.R_celln 0 HO_7.out (a2 : Int) p19 q19
   replace p19 := eq_true p19
   replace q19 := eq_true q19
   have HP20 := Kd.R_putg HO_7.out (a2 : Int) 0
   go_wp2_with (first | ((with_reducible refine gate_store (t := 3) (p := 28) rfl ?_); (try (rw [drewN_self wr]; generalize hq_ : World.drewN wr _ = wr; have n0_ := Aside0.mk (Kd.R_at hq_ HO_7.out); have n1_ := Aside0.mk (blk_at hq_ BK327.out); have n2_ := Aside0.mk (below_at hq_ HB.out); (try (have hx14_0 := (congrArg (fun z_ => World.cell? z_ _) hq_).symm.trans hx14_0)); (try (have hf14_0 := (congrArg (fun z_ => World.frozen? z_ _) hq_).symm.trans hf14_0)); (try (have hx19_0 := (congrArg (fun z_ => World.cell? z_ _) hq_).symm.trans hx19_0)); (try (have hf19_0 := (congrArg (fun z_ => World.frozen? z_ _) hq_).symm.trans hf19_0)); clear hq_ HO_7 BK327 HB; have HO_7 := n0_; have BK327 := n1_; have HB := n2_; clear n0_ n1_ n2_; (try (have HP20 := Kd.R_putg HO_7.out (a2 : Int) 0)))); refine store_event (t := 3) (p := 28) (v := ?vo_w21) (w1 := (wr.setCell ⟨go19, (a2 : Int).toNat, none⟩ (.int .i64 0))) ?hg ?ho ?hn ?hr ?_; (case ho => rfl); (case hg => rfl); (case hn => rfl); (case hr => first | (go_simp; done) | (go_simp; rfl)); intro w21 hw; have hg : wr.grownBy w21 (some go19) := (by rw [hw]; exact HP20.2); have hp_ : Kd.R (Kd.int .i64) 3 w21 w.heap.size (fun _ => True) (.slice (some ⟨go19, 0, none⟩) x7_1.length co10) y332 := (by rw [hw, Ny332.out]; exact HP20.1); clear HP20; replace BK327 := Aside0.mk (blk_grown (g := gb327) (o := .cells #[.slice A0_0 l0_0.length c0_0, .slice A0_1 l0_1.length c0_1] 25 (0, 0)) (zk BK327.out) hg (Kd.R_ne HO_7.out BK327.out (by decide))); replace HO_7 := Aside0.mk (hp_); replace HB := Aside0.mk ((by rw [hw]; exact below_set (HB.out) GB19.out : Below w.heap.size w w21)); clear hg hw hp_))
   repeat (go_quiet (first | ((with_reducible refine gate_store (t := 3) (p := 28) rfl ?_); (try (rw [drewN_self wr]; generalize hq_ : World.drewN wr _ = wr; have n0_ := Aside0.mk (Kd.R_at hq_ HO_7.out); have n1_ := Aside0.mk (blk_at hq_ BK327.out); have n2_ := Aside0.mk (below_at hq_ HB.out); (try (have hx14_0 := (congrArg (fun z_ => World.cell? z_ _) hq_).symm.trans hx14_0)); (try (have hf14_0 := (congrArg (fun z_ => World.frozen? z_ _) hq_).symm.trans hf14_0)); (try (have hx19_0 := (congrArg (fun z_ => World.cell? z_ _) hq_).symm.trans hx19_0)); (try (have hf19_0 := (congrArg (fun z_ => World.frozen? z_ _) hq_).symm.trans hf19_0)); clear hq_ HO_7 BK327 HB; have HO_7 := n0_; have BK327 := n1_; have HB := n2_; clear n0_ n1_ n2_; (try (have HP20 := Kd.R_putg HO_7.out (a2 : Int) 0)))); refine store_event (t := 3) (p := 28) (v := ?vo_w21) (w1 := (wr.setCell ⟨go19, (a2 : Int).toNat, none⟩ (.int .i64 0))) ?hg ?ho ?hn ?hr ?_; (case ho => rfl); (case hg => rfl); (case hn => rfl); (case hr => first | (go_simp; done) | (go_simp; rfl)); intro w21 hw; have hg : wr.grownBy w21 (some go19) := (by rw [hw]; exact HP20.2); have hp_ : Kd.R (Kd.int .i64) 3 w21 w.heap.size (fun _ => True) (.slice (some ⟨go19, 0, none⟩) x7_1.length co10) y332 := (by rw [hw, Ny332.out]; exact HP20.1); clear HP20; replace BK327 := Aside0.mk (blk_grown (g := gb327) (o := .cells #[.slice A0_0 l0_0.length c0_0, .slice A0_1 l0_1.length c0_1] 25 (0, 0)) (zk BK327.out) hg (Kd.R_ne HO_7.out BK327.out (by decide))); replace HO_7 := Aside0.mk (hp_); replace HB := Aside0.mk ((by rw [hw]; exact below_set (HB.out) GB19.out : Below w.heap.size w w21)); clear hg hw hp_)); try go_wp2_with (first | ((with_reducible refine gate_store (t := 3) (p := 28) rfl ?_); (try (rw [drewN_self wr]; generalize hq_ : World.drewN wr _ = wr; have n0_ := Aside0.mk (Kd.R_at hq_ HO_7.out); have n1_ := Aside0.mk (blk_at hq_ BK327.out); have n2_ := Aside0.mk (below_at hq_ HB.out); (try (have hx14_0 := (congrArg (fun z_ => World.cell? z_ _) hq_).symm.trans hx14_0)); (try (have hf14_0 := (congrArg (fun z_ => World.frozen? z_ _) hq_).symm.trans hf14_0)); (try (have hx19_0 := (congrArg (fun z_ => World.cell? z_ _) hq_).symm.trans hx19_0)); (try (have hf19_0 := (congrArg (fun z_ => World.frozen? z_ _) hq_).symm.trans hf19_0)); clear hq_ HO_7 BK327 HB; have HO_7 := n0_; have BK327 := n1_; have HB := n2_; clear n0_ n1_ n2_; (try (have HP20 := Kd.R_putg HO_7.out (a2 : Int) 0)))); refine store_event (t := 3) (p := 28) (v := ?vo_w21) (w1 := (wr.setCell ⟨go19, (a2 : Int).toNat, none⟩ (.int .i64 0))) ?hg ?ho ?hn ?hr ?_; (case ho => rfl); (case hg => rfl); (case hn => rfl); (case hr => first | (go_simp; done) | (go_simp; rfl)); intro w21 hw; have hg : wr.grownBy w21 (some go19) := (by rw [hw]; exact HP20.2); have hp_ : Kd.R (Kd.int .i64) 3 w21 w.heap.size (fun _ => True) (.slice (some ⟨go19, 0, none⟩) x7_1.length co10) y332 := (by rw [hw, Ny332.out]; exact HP20.1); clear HP20; replace BK327 := Aside0.mk (blk_grown (g := gb327) (o := .cells #[.slice A0_0 l0_0.length c0_0, .slice A0_1 l0_1.length c0_1] 25 (0, 0)) (zk BK327.out) hg (Kd.R_ne HO_7.out BK327.out (by decide))); replace HO_7 := Aside0.mk (hp_); replace HB := Aside0.mk ((by rw [hw]; exact below_set (HB.out) GB19.out : Below w.heap.size w w21)); clear hg hw hp_)))
   go_loopg [9] k1 (fun kq v9 w' => ∃ (x7_2 : List Int) (x9_2 : Bool), v9 = .bool x9_2 ∧ Aside0 (stillageref07_Between.l1 kq l1 a2 x7_2 x9_2 l0_0 l0_1 = some r) ∧ Aside0 (kq ≤ k1) ∧ Aside0 (Kd.R (Kd.int .i64) 3 w' w.heap.size (fun _ => True) (.slice (some ⟨go19, 0, none⟩) x7_1.length co10) x7_2) ∧ Aside0 (w'.heap[gb327]? = some (.cells #[(.slice A0_0 l0_0.length c0_0), (.slice A0_1 l0_1.length c0_1)] 25 (0, 0))) ∧ Aside0 (Below w.heap.size w w'))
   case atStart => exact ⟨(y332), (true), rs, H', ⟨Nat.le_refl _⟩, ⟨by (try simp only [hl7_1]); (with_reducible repeat (first | apply Kd.R_alloc | apply Kd.R_drewN | apply Kd.R_drew)); exact HO_7.out⟩, ⟨by (try simp only [hl7_1]); (with_reducible repeat (first | refine blk_drewN ?_ _ | refine blk_drew ?_ | refine blk_alloc ?_ _)); exact BK327.out⟩, ⟨zb1 HB.out GE327.out⟩⟩
   case round =>
    clear H'
    obtain ⟨x7_2, x9_2, rfl, HA, HK2, HO_7, BK327, HB⟩ := hrel
    have hl7_2 := (Kd.R_reads' HO_7.out).1
    rw [hl7_2] at HO_7
    (try simp only [hl7_2])
    (try simp only [hl7_2] at BK327)
    cases gk with
    | zero => exact absurd HA.out (by simp [stillageref07_Between.l1])
    | succ k2 =>
     have H := HA.out
     clear HA
     simp only [stillageref07_Between.l1] at H
     by_cases c22 : x9_2 = true
     rotate_left
     ·replace c22 := Bool.eq_false_iff.mpr c22
      subst c22
      have H1 : (some x7_2) = some r := by rw [if_neg (show ¬ (false = true) by decide)] at H; exact H
      clear H; have H := H1; clear H1
      obtain rfl := Option.some.inj H
      go_wp2
      repeat (go_quiet (fail); try go_wp2)
      go_ret
      exact ⟨_, by first | rfl | (simp [errW_none, errW_some] <;> rfl) | (simp [*, errW_none, errW_some] <;> rfl), by (with_reducible repeat (first | apply Kd.R_alloc | apply Kd.R_drewN | apply Kd.R_drew)); exact HO_7.out, zb1 HB.out GE327.out⟩
     subst c22
     have H1 : (stillageref07_Between.l2 k2 l1 a2 x7_2 false (l0_1.length : Int) 0 l0_0 l0_1) = some r := by rw [if_pos rfl] at H; exact H
     clear H; have H := H1; clear H1
     have H' := Aside0.mk H; clear H
     have hcz23_0 : wr.cell? ⟨gb327, 0, none⟩ = some (.slice A0_0 l0_0.length c0_0) := (blk_cell BK327.out 0).trans rfl
     have hcz23_1 : wr.cell? ⟨gb327, 1, none⟩ = some (.slice A0_1 l0_1.length c0_1) := (blk_cell BK327.out 1).trans rfl
     have hfz23_0 := blk_frozen BK327.out 0
     have hfz23_1 := blk_frozen BK327.out 1
     go_wp2
     repeat (go_quiet (fail); try go_wp2)
     go_loopg [9, 33] k2 (fun kq v9 v33 w' => ∃ (x7_3 : List Int) (x9_3 : Bool) (x33_3 : Int), v9 = .bool x9_3 ∧ v33 = .int .i64 x33_3 ∧ Aside0 (stillageref07_Between.l2 kq l1 a2 x7_3 x9_3 (l0_1.length : Int) x33_3 l0_0 l0_1 = some r) ∧ Aside0 (kq ≤ k2) ∧ Aside0 (Kd.R (Kd.int .i64) 3 w' w.heap.size (fun _ => True) (.slice (some ⟨go19, 0, none⟩) x7_2.length co10) x7_3) ∧ Aside0 (w'.heap[gb327]? = some (.cells #[(.slice A0_0 l0_0.length c0_0), (.slice A0_1 l0_1.length c0_1)] 25 (0, 0))) ∧ Aside0 (Below w.heap.size w w'))
     case atStart => exact ⟨(x7_2), (false), (0), rs, rs, H', ⟨Nat.le_refl _⟩, ⟨by (try simp only [hl7_1]); (try simp only [hl7_2]); (with_reducible repeat (first | apply Kd.R_alloc | apply Kd.R_drewN | apply Kd.R_drew)); exact HO_7.out⟩, ⟨by (try simp only [hl7_1]); (try simp only [hl7_2]); (with_reducible repeat (first | refine blk_drewN ?_ _ | refine blk_drew ?_ | refine blk_alloc ?_ _)); exact BK327.out⟩, ⟨zb1 HB.out GE327.out⟩⟩
     case round =>
      clear H'
      obtain ⟨x7_3, x9_3, x33_3, rfl, rfl, HA, HK3, HO_7, BK327, HB⟩ := hrel
      have hl7_3 := (Kd.R_reads' HO_7.out).1
      rw [hl7_3] at HO_7
      (try simp only [hl7_3])
      (try simp only [hl7_3] at BK327)
      cases gk with
      | zero => exact absurd HA.out (by simp [stillageref07_Between.l2])
      | succ k3 =>
       have H := HA.out
       clear HA
       simp only [stillageref07_Between.l2] at H
       by_cases c24 : x33_3 < (l0_1.length : Int)
       rotate_left
       ·rw [if_neg c24] at H
        have c24b0 : decide (x33_3 < (l0_1.length : Int)) = false := decide_eq_false c24
        (try (have c24z0 := c24b0; simp only [hl7_1, hl7_2, hl7_3] at c24z0))
        clear c24
        have H' := Aside0.mk H; clear H
        go_wp2
        repeat (go_quiet (fail); try go_wp2)
        (try simp only [← hl7_2, ← hl7_3])
        go_roundg k3
        case measure => have := HK1.out; have := HK2.out; have := HK3.out; omega
        case rel => exact ⟨(x7_3), (x9_3), rs, H', ⟨by have := HK1.out; have := HK2.out; have := HK3.out; omega⟩, ⟨by (try simp only [hl7_1]); (try simp only [hl7_2]); (try simp only [hl7_3]); (with_reducible repeat (first | apply Kd.R_alloc | apply Kd.R_drewN | apply Kd.R_drew)); exact HO_7.out⟩, ⟨by (try simp only [hl7_1]); (try simp only [hl7_2]); (try simp only [hl7_3]); (with_reducible repeat (first | refine blk_drewN ?_ _ | refine blk_drew ?_ | refine blk_alloc ?_ _)); exact BK327.out⟩, ⟨zb1 HB.out GE327.out⟩⟩
       rw [if_pos c24] at H
       have c24b0 : decide (x33_3 < (l0_1.length : Int)) = true := decide_eq_true c24
       (try (have c24z0 := c24b0; simp only [hl7_1, hl7_2, hl7_3] at c24z0))
       clear c24
       by_cases c25 : 0 ≤ x33_3
       rotate_left; ·rw [if_neg c25] at H; exact absurd H (by simp)
       rw [if_pos c25] at H
       have c25b0 : decide (0 ≤ x33_3) = true := decide_eq_true c25
       clear c25
       by_cases c26 : x33_3 < (l0_1.length : Int)
       rotate_left; ·rw [if_neg c26] at H; exact absurd H (by simp)
       rw [if_pos c26] at H
       have c26b0 : decide (x33_3 < (l0_1.length : Int)) = true := decide_eq_true c26
       (try (have c26z0 := c26b0; simp only [hl7_1, hl7_2, hl7_3] at c26z0))
       clear c26
       have HC27 := Aside0.mk H
       clear H
       have hcz28_0 : wr.cell? ⟨gb327, 0, none⟩ = some (.slice A0_0 l0_0.length c0_0) := (blk_cell BK327.out 0).trans rfl
       have hcz28_1 : wr.cell? ⟨gb327, 1, none⟩ = some (.slice A0_1 l0_1.length c0_1) := (blk_cell BK327.out 1).trans rfl
       have hfz28_0 := blk_frozen BK327.out 0
       have hfz28_1 := blk_frozen BK327.out 1
       have p333 : 0 ≤ (x33_3 : Int) := oda
       have q333 : x33_3 < (l0_1.length : Int) := oda
       obtain ⟨ad333, e333, hx333_0, hx333_1⟩ := at_T38 HR0_1.out x33_3 p333 q333
       cases e333
       replace hx333_0 := zx HB.out hx333_0
       replace hx333_1 := zx HB.out hx333_1
       replace p333 := eq_true p333
       replace q333 := eq_true q333
       have p334 : 0 ≤ (x33_3 : Int) := oda
       have q334 : x33_3 < (l0_1.length : Int) := oda
       obtain ⟨ad334, e334, hx334_0, hx334_1⟩ := at_T38 HR0_1.out x33_3 p334 q334
       obtain rfl : ad333 = ad334 := (by injection e334)
       replace hx334_0 := zx HB.out hx334_0
       replace hx334_1 := zx HB.out hx334_1
       replace p334 := eq_true p334
       replace q334 := eq_true q334
       go_upto_region 15 with (fail)
       repeat (go_quiet (fail); go_upto_region 15 with (fail))
       go_cut [73] (fun v73 wc => ∃ (kq : Nat) (x73_26 : Bool), v73 = .bool x73_26 ∧ Aside0 (stillageref07_Between.j3 kq l1 a2 x7_3 x9_3 ((rd_T38 l0_1 x33_3).f0) ((rd_T38 l0_1 x33_3).f1) (l0_1.length : Int) x33_3 x73_26 l0_0 l0_1 = some r) ∧ Aside0 (kq ≤ k3) ∧ Aside0 (Kd.R (Kd.int .i64) 3 wc w.heap.size (fun _ => True) (.slice (some ⟨go19, 0, none⟩) x7_3.length co10) x7_3) ∧ Aside0 (wc.heap[gb327]? = some (.cells #[(.slice A0_0 l0_0.length c0_0), (.slice (some ad333) l0_1.length c0_1)] 25 (0, 0))) ∧ Aside0 (Below w.heap.size w wc))
       case first =>
        have H := HC27.out
        clear HC27
        by_cases c29 : 0 ≤ ((rd_T38 l0_1 x33_3).f0)
        rotate_left; ·rw [if_neg c29] at H; exact absurd H (by simp)
        rw [if_pos c29] at H
        have c29b0 : decide (0 ≤ ((rd_T38 l0_1 x33_3).f0)) = true := decide_eq_true c29
        clear c29
        (first | rw [c29b0] | (simp only [i64_w, i32_w]; rw [c29b0]) | skip)
        by_cases c30 : ((rd_T38 l0_1 x33_3).f0) < (x7_3.length : Int)
        rotate_left; ·rw [if_neg c30] at H; exact absurd H (by simp)
        rw [if_pos c30] at H
        have c30b0 : decide (((rd_T38 l0_1 x33_3).f0) < (x7_3.length : Int)) = true := decide_eq_true c30
        (try (have c30z0 := c30b0; simp only [hl7_1, hl7_2, hl7_3] at c30z0))
        clear c30
        by_cases c31 : (rd x7_3 ((rd_T38 l0_1 x33_3).f0)) < 0
        ·rw [if_pos c31] at H
         have c31b0 : decide ((rd x7_3 ((rd_T38 l0_1 x33_3).f0)) < 0) = true := decide_eq_true c31
         clear c31
         have H' := Aside0.mk H; clear H
         have p335 : 0 ≤ (((rd_T38 l0_1 x33_3).f0) : Int) := oda
         have q335 : ((rd_T38 l0_1 x33_3).f0) < (x7_3.length : Int) := oda
         obtain ⟨ad335, e335, hx335_0⟩ := Kd.at_int (Kd.R_reads' HO_7.out).2.2 ((rd_T38 l0_1 x33_3).f0) p335 q335
         obtain rfl : (⟨go19, 0, none⟩ : Addr) = ad335 := (by injection e335)
         (first | simp only [add_plain] at hx335_0 | simp only [add_at] at hx335_0 | simp only [Addr.add, Nat.zero_add] at hx335_0 | skip)
         replace p335 := eq_true p335
         replace q335 := eq_true q335
         go_wp2
         repeat (go_quiet (fail); try go_wp2)
         go_meet
         case rel => exact ⟨_, (true), rs, H', ⟨by have := HK1.out; have := HK2.out; have := HK3.out; first | omega | exact Nat.le_refl _⟩, ⟨by (try simp only [hl7_1]); (try simp only [hl7_2]); (try simp only [hl7_3]); (with_reducible repeat (first | apply Kd.R_alloc | apply Kd.R_drewN | apply Kd.R_drew)); exact HO_7.out⟩, ⟨by (try simp only [hl7_1]); (try simp only [hl7_2]); (try simp only [hl7_3]); (with_reducible repeat (first | refine blk_drewN ?_ _ | refine blk_drew ?_ | refine blk_alloc ?_ _)); exact BK327.out⟩, ⟨zb1 HB.out GE327.out⟩⟩
        rw [if_neg c31] at H
        have c31b0 : decide ((rd x7_3 ((rd_T38 l0_1 x33_3).f0)) < 0) = false := decide_eq_false c31
        clear c31
        by_cases c32 : ((rd_T38 l0_1 x33_3).f0) = a2
        ·rw [if_pos c32] at H
         have c32b0 : (((rd_T38 l0_1 x33_3).f0) == a2) = true := beq_iff_eq.mpr c32
         have c32b1 : (((rd_T38 l0_1 x33_3).f0) != a2) = false := bne_eq_false_iff_eq.mpr c32
         clear c32
         replace H := Option.bind_eq_some_iff.mp H; obtain ⟨t336, A330, H⟩ := H
         replace H : (stillageref07_Between.j3 k3 l1 a2 x7_3 x9_3 ((rd_T38 l0_1 x33_3).f0) ((rd_T38 l0_1 x33_3).f1) (l0_1.length : Int) x33_3 (!t336) l0_0 l0_1) = some r := H
         have A33 := Aside0.mk A330
         clear A330
         have H' := Aside0.mk H; clear H
         have p335 : 0 ≤ (((rd_T38 l0_1 x33_3).f0) : Int) := oda
         have q335 : ((rd_T38 l0_1 x33_3).f0) < (x7_3.length : Int) := oda
         obtain ⟨ad335, e335, hx335_0⟩ := Kd.at_int (Kd.R_reads' HO_7.out).2.2 ((rd_T38 l0_1 x33_3).f0) p335 q335
         obtain rfl : (⟨go19, 0, none⟩ : Addr) = ad335 := (by injection e335)
         (first | simp only [add_plain] at hx335_0 | simp only [add_at] at hx335_0 | simp only [Addr.add, Nat.zero_add] at hx335_0 | skip)
         replace p335 := eq_true p335
         replace q335 := eq_true q335
         go_wp2_with (first | (go_at_call 44; (with_reducible refine (stillageref07_Open.calls k3 _ _ l1 (wrap64 (x33_3 + 1)) t336 _ ?side1 ?side2 A33.out).mono ?_); (case side1 => exact zc HR1.out HB.out); (case side2 => exact HC1.out); rintro e w' ⟨rfl, ⟨nd, rfl⟩⟩; (try first | exact ⟨rfl, _, World.drewN_drewN _ _ _⟩ | exact ⟨rfl, _, Eq.trans (World.drewN_drewN _ _ _) (congrArg (World.drewN _) (Nat.add_assoc _ _ _))⟩)))
         repeat (go_quiet (first | (go_at_call 44; (with_reducible refine (stillageref07_Open.calls k3 _ _ l1 (wrap64 (x33_3 + 1)) t336 _ ?side1 ?side2 A33.out).mono ?_); (case side1 => exact zc HR1.out HB.out); (case side2 => exact HC1.out); rintro e w' ⟨rfl, ⟨nd, rfl⟩⟩; (try first | exact ⟨rfl, _, World.drewN_drewN _ _ _⟩ | exact ⟨rfl, _, Eq.trans (World.drewN_drewN _ _ _) (congrArg (World.drewN _) (Nat.add_assoc _ _ _))⟩))); try go_wp2_with (first | (go_at_call 44; (with_reducible refine (stillageref07_Open.calls k3 _ _ l1 (wrap64 (x33_3 + 1)) t336 _ ?side1 ?side2 A33.out).mono ?_); (case side1 => exact zc HR1.out HB.out); (case side2 => exact HC1.out); rintro e w' ⟨rfl, ⟨nd, rfl⟩⟩; (try first | exact ⟨rfl, _, World.drewN_drewN _ _ _⟩ | exact ⟨rfl, _, Eq.trans (World.drewN_drewN _ _ _) (congrArg (World.drewN _) (Nat.add_assoc _ _ _))⟩))))
         go_meet
         case rel => exact ⟨_, (!t336), rs, H', ⟨by have := HK1.out; have := HK2.out; have := HK3.out; first | omega | exact Nat.le_refl _⟩, ⟨by (try simp only [hl7_1]); (try simp only [hl7_2]); (try simp only [hl7_3]); (with_reducible repeat (first | apply Kd.R_alloc | apply Kd.R_drewN | apply Kd.R_drew)); exact HO_7.out⟩, ⟨by (try simp only [hl7_1]); (try simp only [hl7_2]); (try simp only [hl7_3]); (with_reducible repeat (first | refine blk_drewN ?_ _ | refine blk_drew ?_ | refine blk_alloc ?_ _)); exact BK327.out⟩, ⟨zb1 HB.out GE327.out⟩⟩
        rw [if_neg c32] at H
        have c32b0 : (((rd_T38 l0_1 x33_3).f0) == a2) = false := beq_eq_false_iff_ne.mpr c32
        have c32b1 : (((rd_T38 l0_1 x33_3).f0) != a2) = true := bne_iff_ne.mpr c32
        by_cases c34 : ((rd_T38 l0_1 x33_3).f0) < (l0_0.length : Int)
        rotate_left; ·rw [if_neg c34] at H; exact absurd H (by simp)
        rw [if_pos c34] at H
        have c34b0 : decide (((rd_T38 l0_1 x33_3).f0) < (l0_0.length : Int)) = true := decide_eq_true c34
        (try (have c34z0 := c34b0; simp only [hl7_1, hl7_2, hl7_3] at c34z0))
        clear c34
        by_cases c35 : ((rd_T47 l0_0 ((rd_T38 l0_1 x33_3).f0)).f1) = 1
        rotate_left
        ·rw [if_neg c35] at H
         have c35b0 : (((rd_T47 l0_0 ((rd_T38 l0_1 x33_3).f0)).f1) == 1) = false := beq_eq_false_iff_ne.mpr c35
         have c35b1 : (((rd_T47 l0_0 ((rd_T38 l0_1 x33_3).f0)).f1) != 1) = true := bne_iff_ne.mpr c35
         have H' := Aside0.mk H; clear H
         have p335 : 0 ≤ (((rd_T38 l0_1 x33_3).f0) : Int) := oda
         have q335 : ((rd_T38 l0_1 x33_3).f0) < (x7_3.length : Int) := oda
         obtain ⟨ad335, e335, hx335_0⟩ := Kd.at_int (Kd.R_reads' HO_7.out).2.2 ((rd_T38 l0_1 x33_3).f0) p335 q335
         obtain rfl : (⟨go19, 0, none⟩ : Addr) = ad335 := (by injection e335)
         (first | simp only [add_plain] at hx335_0 | simp only [add_at] at hx335_0 | simp only [Addr.add, Nat.zero_add] at hx335_0 | skip)
         replace p335 := eq_true p335
         replace q335 := eq_true q335
         have hcz38_0 : wr.cell? ⟨gb327, 0, none⟩ = some (.slice A0_0 l0_0.length c0_0) := (blk_cell BK327.out 0).trans rfl
         have hcz38_1 : wr.cell? ⟨gb327, 1, none⟩ = some (.slice (some ad333) l0_1.length c0_1) := (blk_cell BK327.out 1).trans rfl
         have hfz38_0 := blk_frozen BK327.out 0
         have hfz38_1 := blk_frozen BK327.out 1
         have p337 : 0 ≤ (((rd_T38 l0_1 x33_3).f0) : Int) := oda
         have q337 : ((rd_T38 l0_1 x33_3).f0) < (l0_0.length : Int) := oda
         obtain ⟨ad337, e337, hx337_0, hx337_1, hx337_2⟩ := at_T47 HR0_0.out ((rd_T38 l0_1 x33_3).f0) p337 q337
         cases e337
         replace hx337_0 := zx HB.out hx337_0
         replace hx337_1 := zx HB.out hx337_1
         replace hx337_2 := zx HB.out hx337_2
         replace p337 := eq_true p337
         replace q337 := eq_true q337
         go_wp2
         repeat (go_quiet (fail); try go_wp2)
         go_meet
         case rel => exact ⟨_, (true), rs, H', ⟨by have := HK1.out; have := HK2.out; have := HK3.out; first | omega | exact Nat.le_refl _⟩, ⟨by (try simp only [hl7_1]); (try simp only [hl7_2]); (try simp only [hl7_3]); (with_reducible repeat (first | apply Kd.R_alloc | apply Kd.R_drewN | apply Kd.R_drew)); exact HO_7.out⟩, ⟨by (try simp only [hl7_1]); (try simp only [hl7_2]); (try simp only [hl7_3]); (with_reducible repeat (first | refine blk_drewN ?_ _ | refine blk_drew ?_ | refine blk_alloc ?_ _)); exact BK327.out⟩, ⟨zb1 HB.out GE327.out⟩⟩
        rw [if_pos c35] at H
        have c35b0 : (((rd_T47 l0_0 ((rd_T38 l0_1 x33_3).f0)).f1) == 1) = true := beq_iff_eq.mpr c35
        have c35b1 : (((rd_T47 l0_0 ((rd_T38 l0_1 x33_3).f0)).f1) != 1) = false := bne_eq_false_iff_eq.mpr c35
        clear c35
        replace H := Option.bind_eq_some_iff.mp H; obtain ⟨t338, A360, H⟩ := H
        replace H : (stillageref07_Between.j3 k3 l1 a2 x7_3 x9_3 ((rd_T38 l0_1 x33_3).f0) ((rd_T38 l0_1 x33_3).f1) (l0_1.length : Int) x33_3 (!t338) l0_0 l0_1) = some r := H
        have A36 := Aside0.mk A360
        clear A360
        have H' := Aside0.mk H; clear H
        have p335 : 0 ≤ (((rd_T38 l0_1 x33_3).f0) : Int) := oda
        have q335 : ((rd_T38 l0_1 x33_3).f0) < (x7_3.length : Int) := oda
        obtain ⟨ad335, e335, hx335_0⟩ := Kd.at_int (Kd.R_reads' HO_7.out).2.2 ((rd_T38 l0_1 x33_3).f0) p335 q335
        obtain rfl : (⟨go19, 0, none⟩ : Addr) = ad335 := (by injection e335)
        (first | simp only [add_plain] at hx335_0 | simp only [add_at] at hx335_0 | simp only [Addr.add, Nat.zero_add] at hx335_0 | skip)
        replace p335 := eq_true p335
        replace q335 := eq_true q335
        have hcz37_0 : wr.cell? ⟨gb327, 0, none⟩ = some (.slice A0_0 l0_0.length c0_0) := (blk_cell BK327.out 0).trans rfl
        have hcz37_1 : wr.cell? ⟨gb327, 1, none⟩ = some (.slice (some ad333) l0_1.length c0_1) := (blk_cell BK327.out 1).trans rfl
        have hfz37_0 := blk_frozen BK327.out 0
        have hfz37_1 := blk_frozen BK327.out 1
        have p337 : 0 ≤ (((rd_T38 l0_1 x33_3).f0) : Int) := oda
        have q337 : ((rd_T38 l0_1 x33_3).f0) < (l0_0.length : Int) := oda
        obtain ⟨ad337, e337, hx337_0, hx337_1, hx337_2⟩ := at_T47 HR0_0.out ((rd_T38 l0_1 x33_3).f0) p337 q337
        cases e337
        replace hx337_0 := zx HB.out hx337_0
        replace hx337_1 := zx HB.out hx337_1
        replace hx337_2 := zx HB.out hx337_2
        replace p337 := eq_true p337
        replace q337 := eq_true q337
        go_wp2_with (first | (go_at_call 44; (with_reducible refine (stillageref07_Open.calls k3 _ _ l1 (wrap64 (x33_3 + 1)) t338 _ ?side1 ?side2 A36.out).mono ?_); (case side1 => exact zc HR1.out HB.out); (case side2 => exact HC1.out); rintro e w' ⟨rfl, ⟨nd, rfl⟩⟩; (try first | exact ⟨rfl, _, World.drewN_drewN _ _ _⟩ | exact ⟨rfl, _, Eq.trans (World.drewN_drewN _ _ _) (congrArg (World.drewN _) (Nat.add_assoc _ _ _))⟩)))
        repeat (go_quiet (first | (go_at_call 44; (with_reducible refine (stillageref07_Open.calls k3 _ _ l1 (wrap64 (x33_3 + 1)) t338 _ ?side1 ?side2 A36.out).mono ?_); (case side1 => exact zc HR1.out HB.out); (case side2 => exact HC1.out); rintro e w' ⟨rfl, ⟨nd, rfl⟩⟩; (try first | exact ⟨rfl, _, World.drewN_drewN _ _ _⟩ | exact ⟨rfl, _, Eq.trans (World.drewN_drewN _ _ _) (congrArg (World.drewN _) (Nat.add_assoc _ _ _))⟩))); try go_wp2_with (first | (go_at_call 44; (with_reducible refine (stillageref07_Open.calls k3 _ _ l1 (wrap64 (x33_3 + 1)) t338 _ ?side1 ?side2 A36.out).mono ?_); (case side1 => exact zc HR1.out HB.out); (case side2 => exact HC1.out); rintro e w' ⟨rfl, ⟨nd, rfl⟩⟩; (try first | exact ⟨rfl, _, World.drewN_drewN _ _ _⟩ | exact ⟨rfl, _, Eq.trans (World.drewN_drewN _ _ _) (congrArg (World.drewN _) (Nat.add_assoc _ _ _))⟩))))
        go_meet
        case rel => exact ⟨_, (!t338), rs, H', ⟨by have := HK1.out; have := HK2.out; have := HK3.out; first | omega | exact Nat.le_refl _⟩, ⟨by (try simp only [hl7_1]); (try simp only [hl7_2]); (try simp only [hl7_3]); (with_reducible repeat (first | apply Kd.R_alloc | apply Kd.R_drewN | apply Kd.R_drew)); exact HO_7.out⟩, ⟨by (try simp only [hl7_1]); (try simp only [hl7_2]); (try simp only [hl7_3]); (with_reducible repeat (first | refine blk_drewN ?_ _ | refine blk_drew ?_ | refine blk_alloc ?_ _)); exact BK327.out⟩, ⟨zb1 HB.out GE327.out⟩⟩
       case rest =>
        clear HC27
        obtain ⟨kq, x73_26, rfl, HA, HJ26, HO_7, BK327, HB⟩ := hcut
        cases kq with
        | zero => exact absurd HA.out (by simp [stillageref07_Between.j3])
        | succ kj26 =>
         have H := HA.out
         clear HA
         simp only [stillageref07_Between.j3] at H
         by_cases c39 : x73_26 = true
         ·subst c39
          have H1 : (stillageref07_Between.l2 kj26 l1 a2 x7_3 x9_3 (l0_1.length : Int) (wrap64 (x33_3 + 1)) l0_0 l0_1) = some r := by rw [if_pos rfl] at H; exact H
          clear H; have H := H1; clear H1
          have H' := Aside0.mk H; clear H
          go_wp2
          repeat (go_quiet (fail); try go_wp2)
          (try simp only [← hl7_3])
          go_roundg kj26
          case measure => have := HK1.out; have := HK2.out; have := HK3.out; have := HJ26.out; omega
          case rel => exact ⟨(x7_3), (x9_3), (wrap64 (x33_3 + 1)), rs, rs, H', ⟨by have := HK1.out; have := HK2.out; have := HK3.out; have := HJ26.out; omega⟩, ⟨by (try simp only [hl7_1]); (try simp only [hl7_2]); (try simp only [hl7_3]); (with_reducible repeat (first | apply Kd.R_alloc | apply Kd.R_drewN | apply Kd.R_drew)); exact HO_7.out⟩, ⟨by (try simp only [hl7_1]); (try simp only [hl7_2]); (try simp only [hl7_3]); (with_reducible repeat (first | refine blk_drewN ?_ _ | refine blk_drew ?_ | refine blk_alloc ?_ _)); exact BK327.out⟩, ⟨zb1 HB.out GE327.out⟩⟩
         replace c39 := Bool.eq_false_iff.mpr c39
         subst c39
         have H1 : (if 0 ≤ ((rd_T38 l0_1 x33_3).f1) then (if ((rd_T38 l0_1 x33_3).f1) < (x7_3.length : Int) then (if (rd x7_3 ((rd_T38 l0_1 x33_3).f1)) < 0 then (if 0 ≤ ((rd_T38 l0_1 x33_3).f0) then (if ((rd_T38 l0_1 x33_3).f0) < (x7_3.length : Int) then (stillageref07_Between.l2 kj26 l1 a2 (x7_3.set (((rd_T38 l0_1 x33_3).f1) : Int).toNat (wrap64 ((rd x7_3 ((rd_T38 l0_1 x33_3).f0)) + 1))) true (l0_1.length : Int) (wrap64 (x33_3 + 1)) l0_0 l0_1) else (none)) else (none)) else (if 0 ≤ ((rd_T38 l0_1 x33_3).f0) then (if ((rd_T38 l0_1 x33_3).f0) < (x7_3.length : Int) then (if (wrap64 ((rd x7_3 ((rd_T38 l0_1 x33_3).f0)) + 1)) < (rd x7_3 ((rd_T38 l0_1 x33_3).f1)) then (stillageref07_Between.l2 kj26 l1 a2 (x7_3.set (((rd_T38 l0_1 x33_3).f1) : Int).toNat (wrap64 ((rd x7_3 ((rd_T38 l0_1 x33_3).f0)) + 1))) true (l0_1.length : Int) (wrap64 (x33_3 + 1)) l0_0 l0_1) else (stillageref07_Between.l2 kj26 l1 a2 x7_3 x9_3 (l0_1.length : Int) (wrap64 (x33_3 + 1)) l0_0 l0_1)) else (none)) else (none))) else (none)) else (none)) = some r := by rw [if_neg (show ¬ (false = true) by decide)] at H; exact H
         clear H; have H := H1; clear H1
         by_cases c40 : 0 ≤ ((rd_T38 l0_1 x33_3).f1)
         rotate_left; ·rw [if_neg c40] at H; exact absurd H (by simp)
         rw [if_pos c40] at H
         have c40b0 : decide (0 ≤ ((rd_T38 l0_1 x33_3).f1)) = true := decide_eq_true c40
         clear c40
         by_cases c41 : ((rd_T38 l0_1 x33_3).f1) < (x7_3.length : Int)
         rotate_left; ·rw [if_neg c41] at H; exact absurd H (by simp)
         rw [if_pos c41] at H
         have c41b0 : decide (((rd_T38 l0_1 x33_3).f1) < (x7_3.length : Int)) = true := decide_eq_true c41
         (try (have c41z0 := c41b0; simp only [hl7_1, hl7_2, hl7_3] at c41z0))
         clear c41
         by_cases c42 : (rd x7_3 ((rd_T38 l0_1 x33_3).f1)) < 0
         ·rw [if_pos c42] at H
          have c42b0 : decide ((rd x7_3 ((rd_T38 l0_1 x33_3).f1)) < 0) = true := decide_eq_true c42
          clear c42
          by_cases c43 : 0 ≤ ((rd_T38 l0_1 x33_3).f0)
          rotate_left; ·rw [if_neg c43] at H; exact absurd H (by simp)
          rw [if_pos c43] at H
          have c43b0 : decide (0 ≤ ((rd_T38 l0_1 x33_3).f0)) = true := decide_eq_true c43
          clear c43
          by_cases c44 : ((rd_T38 l0_1 x33_3).f0) < (x7_3.length : Int)
          rotate_left; ·rw [if_neg c44] at H; exact absurd H (by simp)
          rw [if_pos c44] at H
          have c44b0 : decide (((rd_T38 l0_1 x33_3).f0) < (x7_3.length : Int)) = true := decide_eq_true c44
          (try (have c44z0 := c44b0; simp only [hl7_1, hl7_2, hl7_3] at c44z0))
          clear c44
          obtain ⟨y341, hy341⟩ : ∃ y_ : List Int, y_ = (x7_3.set (((rd_T38 l0_1 x33_3).f1) : Int).toNat (wrap64 ((rd x7_3 ((rd_T38 l0_1 x33_3).f0)) + 1))) := ⟨_, rfl⟩
          replace H : (stillageref07_Between.l2 kj26 l1 a2 y341 true (l0_1.length : Int) (wrap64 (x33_3 + 1)) l0_0 l0_1) = some r := by first | (rw [hy341]; with_reducible exact H) | (have H2_ := (Option.bind_some _ _).symm.trans H; rw [hy341]; with_reducible exact H2_) | (have H2_ := (Option.bind_some _ _).symm.trans H; with_reducible exact H2_) | with_reducible exact H | (rw [hy341]; exact H) | exact H
          have Ny341 := Aside0.mk hy341
          clear hy341
          have H' := Aside0.mk H; clear H
          have p339 : 0 ≤ (((rd_T38 l0_1 x33_3).f1) : Int) := oda
          have q339 : ((rd_T38 l0_1 x33_3).f1) < (x7_3.length : Int) := oda
          obtain ⟨ad339, e339, hx339_0⟩ := Kd.at_int (Kd.R_reads' HO_7.out).2.2 ((rd_T38 l0_1 x33_3).f1) p339 q339
          obtain rfl : (⟨go19, 0, none⟩ : Addr) = ad339 := (by injection e339)
          (first | simp only [add_plain] at hx339_0 | simp only [add_at] at hx339_0 | simp only [Addr.add, Nat.zero_add] at hx339_0 | skip)
          replace p339 := eq_true p339
          replace q339 := eq_true q339
          have p340 : 0 ≤ (((rd_T38 l0_1 x33_3).f0) : Int) := oda
          have q340 : ((rd_T38 l0_1 x33_3).f0) < (x7_3.length : Int) := oda
          obtain ⟨ad340, e340, hx340_0⟩ := Kd.at_int (Kd.R_reads' HO_7.out).2.2 ((rd_T38 l0_1 x33_3).f0) p340 q340
          obtain rfl : (⟨go19, 0, none⟩ : Addr) = ad340 := (by injection e340)
          (first | simp only [add_plain] at hx340_0 | simp only [add_at] at hx340_0 | simp only [Addr.add, Nat.zero_add] at hx340_0 | skip)
          replace p340 := eq_true p340
          replace q340 := eq_true q340
          have p45 : 0 ≤ (((rd_T38 l0_1 x33_3).f1) : Int) := oda
          have q45 : (((rd_T38 l0_1 x33_3).f1) : Int) < ((x7_3.length : Int) : Int) := oda
          obtain ⟨hx45_0, hf45_0⟩ := Kd.R_celln 0 HO_7.out (((rd_T38 l0_1 x33_3).f1) : Int) p45 q45
          replace p45 := eq_true p45
          replace q45 := eq_true q45
          have HP46 := Kd.R_putg HO_7.out (((rd_T38 l0_1 x33_3).f1) : Int) (wrap64 ((rd x7_3 ((rd_T38 l0_1 x33_3).f0)) + 1))
          go_wp2_with (first | ((with_reducible refine gate_store (t := 3) (p := 98) rfl ?_); (try (rw [drewN_self wc]; generalize hq_ : World.drewN wc _ = wc; have n0_ := Aside0.mk (Kd.R_at hq_ HO_7.out); have n1_ := Aside0.mk (blk_at hq_ BK327.out); have n2_ := Aside0.mk (below_at hq_ HB.out); (try (have hx14_0 := (congrArg (fun z_ => World.cell? z_ _) hq_).symm.trans hx14_0)); (try (have hf14_0 := (congrArg (fun z_ => World.frozen? z_ _) hq_).symm.trans hf14_0)); (try (have hx19_0 := (congrArg (fun z_ => World.cell? z_ _) hq_).symm.trans hx19_0)); (try (have hf19_0 := (congrArg (fun z_ => World.frozen? z_ _) hq_).symm.trans hf19_0)); (try (have hx45_0 := (congrArg (fun z_ => World.cell? z_ _) hq_).symm.trans hx45_0)); (try (have hf45_0 := (congrArg (fun z_ => World.frozen? z_ _) hq_).symm.trans hf45_0)); clear hq_ HO_7 BK327 HB; have HO_7 := n0_; have BK327 := n1_; have HB := n2_; clear n0_ n1_ n2_; (try (have HP46 := Kd.R_putg HO_7.out (((rd_T38 l0_1 x33_3).f1) : Int) (wrap64 ((rd x7_3 ((rd_T38 l0_1 x33_3).f0)) + 1)))))); refine store_event (t := 3) (p := 98) (v := ?vo_w47) (w1 := (wc.setCell ⟨go19, (((rd_T38 l0_1 x33_3).f1) : Int).toNat, none⟩ (.int .i64 (wrap64 ((rd x7_3 ((rd_T38 l0_1 x33_3).f0)) + 1))))) ?hg ?ho ?hn ?hr ?_; (case ho => rfl); (case hg => rfl); (case hn => rfl); (case hr => first | (go_simp; done) | (go_simp; rfl)); intro w47 hw; have hg : wc.grownBy w47 (some go19) := (by rw [hw]; exact HP46.2); have hp_ : Kd.R (Kd.int .i64) 3 w47 w.heap.size (fun _ => True) (.slice (some ⟨go19, 0, none⟩) x7_3.length co10) y341 := (by rw [hw, Ny341.out]; exact HP46.1); clear HP46; replace BK327 := Aside0.mk (blk_grown (g := gb327) (o := .cells #[.slice A0_0 l0_0.length c0_0, .slice (some ad333) l0_1.length c0_1] 25 (0, 0)) (zk BK327.out) hg (Kd.R_ne HO_7.out BK327.out (by decide))); replace HO_7 := Aside0.mk (hp_); replace HB := Aside0.mk ((by rw [hw]; exact below_set (HB.out) GB19.out : Below w.heap.size w w47)); clear hg hw hp_))
          repeat (go_quiet (first | ((with_reducible refine gate_store (t := 3) (p := 98) rfl ?_); (try (rw [drewN_self wc]; generalize hq_ : World.drewN wc _ = wc; have n0_ := Aside0.mk (Kd.R_at hq_ HO_7.out); have n1_ := Aside0.mk (blk_at hq_ BK327.out); have n2_ := Aside0.mk (below_at hq_ HB.out); (try (have hx14_0 := (congrArg (fun z_ => World.cell? z_ _) hq_).symm.trans hx14_0)); (try (have hf14_0 := (congrArg (fun z_ => World.frozen? z_ _) hq_).symm.trans hf14_0)); (try (have hx19_0 := (congrArg (fun z_ => World.cell? z_ _) hq_).symm.trans hx19_0)); (try (have hf19_0 := (congrArg (fun z_ => World.frozen? z_ _) hq_).symm.trans hf19_0)); (try (have hx45_0 := (congrArg (fun z_ => World.cell? z_ _) hq_).symm.trans hx45_0)); (try (have hf45_0 := (congrArg (fun z_ => World.frozen? z_ _) hq_).symm.trans hf45_0)); clear hq_ HO_7 BK327 HB; have HO_7 := n0_; have BK327 := n1_; have HB := n2_; clear n0_ n1_ n2_; (try (have HP46 := Kd.R_putg HO_7.out (((rd_T38 l0_1 x33_3).f1) : Int) (wrap64 ((rd x7_3 ((rd_T38 l0_1 x33_3).f0)) + 1)))))); refine store_event (t := 3) (p := 98) (v := ?vo_w47) (w1 := (wc.setCell ⟨go19, (((rd_T38 l0_1 x33_3).f1) : Int).toNat, none⟩ (.int .i64 (wrap64 ((rd x7_3 ((rd_T38 l0_1 x33_3).f0)) + 1))))) ?hg ?ho ?hn ?hr ?_; (case ho => rfl); (case hg => rfl); (case hn => rfl); (case hr => first | (go_simp; done) | (go_simp; rfl)); intro w47 hw; have hg : wc.grownBy w47 (some go19) := (by rw [hw]; exact HP46.2); have hp_ : Kd.R (Kd.int .i64) 3 w47 w.heap.size (fun _ => True) (.slice (some ⟨go19, 0, none⟩) x7_3.length co10) y341 := (by rw [hw, Ny341.out]; exact HP46.1); clear HP46; replace BK327 := Aside0.mk (blk_grown (g := gb327) (o := .cells #[.slice A0_0 l0_0.length c0_0, .slice (some ad333) l0_1.length c0_1] 25 (0, 0)) (zk BK327.out) hg (Kd.R_ne HO_7.out BK327.out (by decide))); replace HO_7 := Aside0.mk (hp_); replace HB := Aside0.mk ((by rw [hw]; exact below_set (HB.out) GB19.out : Below w.heap.size w w47)); clear hg hw hp_)); try go_wp2_with (first | ((with_reducible refine gate_store (t := 3) (p := 98) rfl ?_); (try (rw [drewN_self wc]; generalize hq_ : World.drewN wc _ = wc; have n0_ := Aside0.mk (Kd.R_at hq_ HO_7.out); have n1_ := Aside0.mk (blk_at hq_ BK327.out); have n2_ := Aside0.mk (below_at hq_ HB.out); (try (have hx14_0 := (congrArg (fun z_ => World.cell? z_ _) hq_).symm.trans hx14_0)); (try (have hf14_0 := (congrArg (fun z_ => World.frozen? z_ _) hq_).symm.trans hf14_0)); (try (have hx19_0 := (congrArg (fun z_ => World.cell? z_ _) hq_).symm.trans hx19_0)); (try (have hf19_0 := (congrArg (fun z_ => World.frozen? z_ _) hq_).symm.trans hf19_0)); (try (have hx45_0 := (congrArg (fun z_ => World.cell? z_ _) hq_).symm.trans hx45_0)); (try (have hf45_0 := (congrArg (fun z_ => World.frozen? z_ _) hq_).symm.trans hf45_0)); clear hq_ HO_7 BK327 HB; have HO_7 := n0_; have BK327 := n1_; have HB := n2_; clear n0_ n1_ n2_; (try (have HP46 := Kd.R_putg HO_7.out (((rd_T38 l0_1 x33_3).f1) : Int) (wrap64 ((rd x7_3 ((rd_T38 l0_1 x33_3).f0)) + 1)))))); refine store_event (t := 3) (p := 98) (v := ?vo_w47) (w1 := (wc.setCell ⟨go19, (((rd_T38 l0_1 x33_3).f1) : Int).toNat, none⟩ (.int .i64 (wrap64 ((rd x7_3 ((rd_T38 l0_1 x33_3).f0)) + 1))))) ?hg ?ho ?hn ?hr ?_; (case ho => rfl); (case hg => rfl); (case hn => rfl); (case hr => first | (go_simp; done) | (go_simp; rfl)); intro w47 hw; have hg : wc.grownBy w47 (some go19) := (by rw [hw]; exact HP46.2); have hp_ : Kd.R (Kd.int .i64) 3 w47 w.heap.size (fun _ => True) (.slice (some ⟨go19, 0, none⟩) x7_3.length co10) y341 := (by rw [hw, Ny341.out]; exact HP46.1); clear HP46; replace BK327 := Aside0.mk (blk_grown (g := gb327) (o := .cells #[.slice A0_0 l0_0.length c0_0, .slice (some ad333) l0_1.length c0_1] 25 (0, 0)) (zk BK327.out) hg (Kd.R_ne HO_7.out BK327.out (by decide))); replace HO_7 := Aside0.mk (hp_); replace HB := Aside0.mk ((by rw [hw]; exact below_set (HB.out) GB19.out : Below w.heap.size w w47)); clear hg hw hp_)))
          (try simp only [← hl7_3])
          go_roundg kj26
          case measure => have := HK1.out; have := HK2.out; have := HK3.out; have := HJ26.out; omega
          case rel => exact ⟨(y341), (true), (wrap64 (x33_3 + 1)), rs, rs, H', ⟨by have := HK1.out; have := HK2.out; have := HK3.out; have := HJ26.out; omega⟩, ⟨by (try simp only [hl7_1]); (try simp only [hl7_2]); (try simp only [hl7_3]); (with_reducible repeat (first | apply Kd.R_alloc | apply Kd.R_drewN | apply Kd.R_drew)); exact HO_7.out⟩, ⟨by (try simp only [hl7_1]); (try simp only [hl7_2]); (try simp only [hl7_3]); (with_reducible repeat (first | refine blk_drewN ?_ _ | refine blk_drew ?_ | refine blk_alloc ?_ _)); exact BK327.out⟩, ⟨zb1 HB.out GE327.out⟩⟩
         rw [if_neg c42] at H
         have c42b0 : decide ((rd x7_3 ((rd_T38 l0_1 x33_3).f1)) < 0) = false := decide_eq_false c42
         clear c42
         by_cases c48 : 0 ≤ ((rd_T38 l0_1 x33_3).f0)
         rotate_left; ·rw [if_neg c48] at H; exact absurd H (by simp)
         rw [if_pos c48] at H
         have c48b0 : decide (0 ≤ ((rd_T38 l0_1 x33_3).f0)) = true := decide_eq_true c48
         clear c48
         by_cases c49 : ((rd_T38 l0_1 x33_3).f0) < (x7_3.length : Int)
         rotate_left; ·rw [if_neg c49] at H; exact absurd H (by simp)
         rw [if_pos c49] at H
         have c49b0 : decide (((rd_T38 l0_1 x33_3).f0) < (x7_3.length : Int)) = true := decide_eq_true c49
         (try (have c49z0 := c49b0; simp only [hl7_1, hl7_2, hl7_3] at c49z0))
         clear c49
         by_cases c50 : (wrap64 ((rd x7_3 ((rd_T38 l0_1 x33_3).f0)) + 1)) < (rd x7_3 ((rd_T38 l0_1 x33_3).f1))
         rotate_left
         ·rw [if_neg c50] at H
          have c50b0 : decide ((wrap64 ((rd x7_3 ((rd_T38 l0_1 x33_3).f0)) + 1)) < (rd x7_3 ((rd_T38 l0_1 x33_3).f1))) = false := decide_eq_false c50
          clear c50
          have H' := Aside0.mk H; clear H
          have p339 : 0 ≤ (((rd_T38 l0_1 x33_3).f1) : Int) := oda
          have q339 : ((rd_T38 l0_1 x33_3).f1) < (x7_3.length : Int) := oda
          obtain ⟨ad339, e339, hx339_0⟩ := Kd.at_int (Kd.R_reads' HO_7.out).2.2 ((rd_T38 l0_1 x33_3).f1) p339 q339
          obtain rfl : (⟨go19, 0, none⟩ : Addr) = ad339 := (by injection e339)
          (first | simp only [add_plain] at hx339_0 | simp only [add_at] at hx339_0 | simp only [Addr.add, Nat.zero_add] at hx339_0 | skip)
          replace p339 := eq_true p339
          replace q339 := eq_true q339
          have p342 : 0 ≤ (((rd_T38 l0_1 x33_3).f0) : Int) := oda
          have q342 : ((rd_T38 l0_1 x33_3).f0) < (x7_3.length : Int) := oda
          obtain ⟨ad342, e342, hx342_0⟩ := Kd.at_int (Kd.R_reads' HO_7.out).2.2 ((rd_T38 l0_1 x33_3).f0) p342 q342
          obtain rfl : (⟨go19, 0, none⟩ : Addr) = ad342 := (by injection e342)
          (first | simp only [add_plain] at hx342_0 | simp only [add_at] at hx342_0 | simp only [Addr.add, Nat.zero_add] at hx342_0 | skip)
          replace p342 := eq_true p342
          replace q342 := eq_true q342
          have p343 : 0 ≤ (((rd_T38 l0_1 x33_3).f1) : Int) := oda
          have q343 : ((rd_T38 l0_1 x33_3).f1) < (x7_3.length : Int) := oda
          obtain ⟨ad343, e343, hx343_0⟩ := Kd.at_int (Kd.R_reads' HO_7.out).2.2 ((rd_T38 l0_1 x33_3).f1) p343 q343
          obtain rfl : (⟨go19, 0, none⟩ : Addr) = ad343 := (by injection e343)
          (first | simp only [add_plain] at hx343_0 | simp only [add_at] at hx343_0 | simp only [Addr.add, Nat.zero_add] at hx343_0 | skip)
          replace p343 := eq_true p343
          replace q343 := eq_true q343
          go_wp2
          repeat (go_quiet (fail); try go_wp2)
          (try simp only [← hl7_3])
          go_roundg kj26
          case measure => have := HK1.out; have := HK2.out; have := HK3.out; have := HJ26.out; omega
          case rel => exact ⟨(x7_3), (x9_3), (wrap64 (x33_3 + 1)), rs, rs, H', ⟨by have := HK1.out; have := HK2.out; have := HK3.out; have := HJ26.out; omega⟩, ⟨by (try simp only [hl7_1]); (try simp only [hl7_2]); (try simp only [hl7_3]); (with_reducible repeat (first | apply Kd.R_alloc | apply Kd.R_drewN | apply Kd.R_drew)); exact HO_7.out⟩, ⟨by (try simp only [hl7_1]); (try simp only [hl7_2]); (try simp only [hl7_3]); (with_reducible repeat (first | refine blk_drewN ?_ _ | refine blk_drew ?_ | refine blk_alloc ?_ _)); exact BK327.out⟩, ⟨zb1 HB.out GE327.out⟩⟩
         rw [if_pos c50] at H
         have c50b0 : decide ((wrap64 ((rd x7_3 ((rd_T38 l0_1 x33_3).f0)) + 1)) < (rd x7_3 ((rd_T38 l0_1 x33_3).f1))) = true := decide_eq_true c50
         clear c50
         obtain ⟨y345, hy345⟩ : ∃ y_ : List Int, y_ = (x7_3.set (((rd_T38 l0_1 x33_3).f1) : Int).toNat (wrap64 ((rd x7_3 ((rd_T38 l0_1 x33_3).f0)) + 1))) := ⟨_, rfl⟩
         replace H : (stillageref07_Between.l2 kj26 l1 a2 y345 true (l0_1.length : Int) (wrap64 (x33_3 + 1)) l0_0 l0_1) = some r := by first | (rw [hy345]; with_reducible exact H) | (have H2_ := (Option.bind_some _ _).symm.trans H; rw [hy345]; with_reducible exact H2_) | (have H2_ := (Option.bind_some _ _).symm.trans H; with_reducible exact H2_) | with_reducible exact H | (rw [hy345]; exact H) | exact H
         have Ny345 := Aside0.mk hy345
         clear hy345
         have H' := Aside0.mk H; clear H
         have p339 : 0 ≤ (((rd_T38 l0_1 x33_3).f1) : Int) := oda
         have q339 : ((rd_T38 l0_1 x33_3).f1) < (x7_3.length : Int) := oda
         obtain ⟨ad339, e339, hx339_0⟩ := Kd.at_int (Kd.R_reads' HO_7.out).2.2 ((rd_T38 l0_1 x33_3).f1) p339 q339
         obtain rfl : (⟨go19, 0, none⟩ : Addr) = ad339 := (by injection e339)
         (first | simp only [add_plain] at hx339_0 | simp only [add_at] at hx339_0 | simp only [Addr.add, Nat.zero_add] at hx339_0 | skip)
         replace p339 := eq_true p339
         replace q339 := eq_true q339
         have p342 : 0 ≤ (((rd_T38 l0_1 x33_3).f0) : Int) := oda
         have q342 : ((rd_T38 l0_1 x33_3).f0) < (x7_3.length : Int) := oda
         obtain ⟨ad342, e342, hx342_0⟩ := Kd.at_int (Kd.R_reads' HO_7.out).2.2 ((rd_T38 l0_1 x33_3).f0) p342 q342
         obtain rfl : (⟨go19, 0, none⟩ : Addr) = ad342 := (by injection e342)
         (first | simp only [add_plain] at hx342_0 | simp only [add_at] at hx342_0 | simp only [Addr.add, Nat.zero_add] at hx342_0 | skip)
         replace p342 := eq_true p342
         replace q342 := eq_true q342
         have p343 : 0 ≤ (((rd_T38 l0_1 x33_3).f1) : Int) := oda
         have q343 : ((rd_T38 l0_1 x33_3).f1) < (x7_3.length : Int) := oda
         obtain ⟨ad343, e343, hx343_0⟩ := Kd.at_int (Kd.R_reads' HO_7.out).2.2 ((rd_T38 l0_1 x33_3).f1) p343 q343
         obtain rfl : (⟨go19, 0, none⟩ : Addr) = ad343 := (by injection e343)
         (first | simp only [add_plain] at hx343_0 | simp only [add_at] at hx343_0 | simp only [Addr.add, Nat.zero_add] at hx343_0 | skip)
         replace p343 := eq_true p343
         replace q343 := eq_true q343
         have p344 : 0 ≤ (((rd_T38 l0_1 x33_3).f0) : Int) := oda
         have q344 : ((rd_T38 l0_1 x33_3).f0) < (x7_3.length : Int) := oda
         obtain ⟨ad344, e344, hx344_0⟩ := Kd.at_int (Kd.R_reads' HO_7.out).2.2 ((rd_T38 l0_1 x33_3).f0) p344 q344
         obtain rfl : (⟨go19, 0, none⟩ : Addr) = ad344 := (by injection e344)
         (first | simp only [add_plain] at hx344_0 | simp only [add_at] at hx344_0 | simp only [Addr.add, Nat.zero_add] at hx344_0 | skip)
         replace p344 := eq_true p344
         replace q344 := eq_true q344
         have p51 : 0 ≤ (((rd_T38 l0_1 x33_3).f1) : Int) := oda
         have q51 : (((rd_T38 l0_1 x33_3).f1) : Int) < ((x7_3.length : Int) : Int) := oda
         obtain ⟨hx51_0, hf51_0⟩ := Kd.R_celln 0 HO_7.out (((rd_T38 l0_1 x33_3).f1) : Int) p51 q51
         replace p51 := eq_true p51
         replace q51 := eq_true q51
         have HP52 := Kd.R_putg HO_7.out (((rd_T38 l0_1 x33_3).f1) : Int) (wrap64 ((rd x7_3 ((rd_T38 l0_1 x33_3).f0)) + 1))
         go_wp2_with (first | ((with_reducible refine gate_store (t := 3) (p := 98) rfl ?_); (try (rw [drewN_self wc]; generalize hq_ : World.drewN wc _ = wc; have n0_ := Aside0.mk (Kd.R_at hq_ HO_7.out); have n1_ := Aside0.mk (blk_at hq_ BK327.out); have n2_ := Aside0.mk (below_at hq_ HB.out); (try (have hx14_0 := (congrArg (fun z_ => World.cell? z_ _) hq_).symm.trans hx14_0)); (try (have hf14_0 := (congrArg (fun z_ => World.frozen? z_ _) hq_).symm.trans hf14_0)); (try (have hx19_0 := (congrArg (fun z_ => World.cell? z_ _) hq_).symm.trans hx19_0)); (try (have hf19_0 := (congrArg (fun z_ => World.frozen? z_ _) hq_).symm.trans hf19_0)); (try (have hx45_0 := (congrArg (fun z_ => World.cell? z_ _) hq_).symm.trans hx45_0)); (try (have hf45_0 := (congrArg (fun z_ => World.frozen? z_ _) hq_).symm.trans hf45_0)); (try (have hx51_0 := (congrArg (fun z_ => World.cell? z_ _) hq_).symm.trans hx51_0)); (try (have hf51_0 := (congrArg (fun z_ => World.frozen? z_ _) hq_).symm.trans hf51_0)); clear hq_ HO_7 BK327 HB; have HO_7 := n0_; have BK327 := n1_; have HB := n2_; clear n0_ n1_ n2_; (try (have HP52 := Kd.R_putg HO_7.out (((rd_T38 l0_1 x33_3).f1) : Int) (wrap64 ((rd x7_3 ((rd_T38 l0_1 x33_3).f0)) + 1)))))); refine store_event (t := 3) (p := 98) (v := ?vo_w53) (w1 := (wc.setCell ⟨go19, (((rd_T38 l0_1 x33_3).f1) : Int).toNat, none⟩ (.int .i64 (wrap64 ((rd x7_3 ((rd_T38 l0_1 x33_3).f0)) + 1))))) ?hg ?ho ?hn ?hr ?_; (case ho => rfl); (case hg => rfl); (case hn => rfl); (case hr => first | (go_simp; done) | (go_simp; rfl)); intro w53 hw; have hg : wc.grownBy w53 (some go19) := (by rw [hw]; exact HP52.2); have hp_ : Kd.R (Kd.int .i64) 3 w53 w.heap.size (fun _ => True) (.slice (some ⟨go19, 0, none⟩) x7_3.length co10) y345 := (by rw [hw, Ny345.out]; exact HP52.1); clear HP52; replace BK327 := Aside0.mk (blk_grown (g := gb327) (o := .cells #[.slice A0_0 l0_0.length c0_0, .slice (some ad333) l0_1.length c0_1] 25 (0, 0)) (zk BK327.out) hg (Kd.R_ne HO_7.out BK327.out (by decide))); replace HO_7 := Aside0.mk (hp_); replace HB := Aside0.mk ((by rw [hw]; exact below_set (HB.out) GB19.out : Below w.heap.size w w53)); clear hg hw hp_))
         repeat (go_quiet (first | ((with_reducible refine gate_store (t := 3) (p := 98) rfl ?_); (try (rw [drewN_self wc]; generalize hq_ : World.drewN wc _ = wc; have n0_ := Aside0.mk (Kd.R_at hq_ HO_7.out); have n1_ := Aside0.mk (blk_at hq_ BK327.out); have n2_ := Aside0.mk (below_at hq_ HB.out); (try (have hx14_0 := (congrArg (fun z_ => World.cell? z_ _) hq_).symm.trans hx14_0)); (try (have hf14_0 := (congrArg (fun z_ => World.frozen? z_ _) hq_).symm.trans hf14_0)); (try (have hx19_0 := (congrArg (fun z_ => World.cell? z_ _) hq_).symm.trans hx19_0)); (try (have hf19_0 := (congrArg (fun z_ => World.frozen? z_ _) hq_).symm.trans hf19_0)); (try (have hx45_0 := (congrArg (fun z_ => World.cell? z_ _) hq_).symm.trans hx45_0)); (try (have hf45_0 := (congrArg (fun z_ => World.frozen? z_ _) hq_).symm.trans hf45_0)); (try (have hx51_0 := (congrArg (fun z_ => World.cell? z_ _) hq_).symm.trans hx51_0)); (try (have hf51_0 := (congrArg (fun z_ => World.frozen? z_ _) hq_).symm.trans hf51_0)); clear hq_ HO_7 BK327 HB; have HO_7 := n0_; have BK327 := n1_; have HB := n2_; clear n0_ n1_ n2_; (try (have HP52 := Kd.R_putg HO_7.out (((rd_T38 l0_1 x33_3).f1) : Int) (wrap64 ((rd x7_3 ((rd_T38 l0_1 x33_3).f0)) + 1)))))); refine store_event (t := 3) (p := 98) (v := ?vo_w53) (w1 := (wc.setCell ⟨go19, (((rd_T38 l0_1 x33_3).f1) : Int).toNat, none⟩ (.int .i64 (wrap64 ((rd x7_3 ((rd_T38 l0_1 x33_3).f0)) + 1))))) ?hg ?ho ?hn ?hr ?_; (case ho => rfl); (case hg => rfl); (case hn => rfl); (case hr => first | (go_simp; done) | (go_simp; rfl)); intro w53 hw; have hg : wc.grownBy w53 (some go19) := (by rw [hw]; exact HP52.2); have hp_ : Kd.R (Kd.int .i64) 3 w53 w.heap.size (fun _ => True) (.slice (some ⟨go19, 0, none⟩) x7_3.length co10) y345 := (by rw [hw, Ny345.out]; exact HP52.1); clear HP52; replace BK327 := Aside0.mk (blk_grown (g := gb327) (o := .cells #[.slice A0_0 l0_0.length c0_0, .slice (some ad333) l0_1.length c0_1] 25 (0, 0)) (zk BK327.out) hg (Kd.R_ne HO_7.out BK327.out (by decide))); replace HO_7 := Aside0.mk (hp_); replace HB := Aside0.mk ((by rw [hw]; exact below_set (HB.out) GB19.out : Below w.heap.size w w53)); clear hg hw hp_)); try go_wp2_with (first | ((with_reducible refine gate_store (t := 3) (p := 98) rfl ?_); (try (rw [drewN_self wc]; generalize hq_ : World.drewN wc _ = wc; have n0_ := Aside0.mk (Kd.R_at hq_ HO_7.out); have n1_ := Aside0.mk (blk_at hq_ BK327.out); have n2_ := Aside0.mk (below_at hq_ HB.out); (try (have hx14_0 := (congrArg (fun z_ => World.cell? z_ _) hq_).symm.trans hx14_0)); (try (have hf14_0 := (congrArg (fun z_ => World.frozen? z_ _) hq_).symm.trans hf14_0)); (try (have hx19_0 := (congrArg (fun z_ => World.cell? z_ _) hq_).symm.trans hx19_0)); (try (have hf19_0 := (congrArg (fun z_ => World.frozen? z_ _) hq_).symm.trans hf19_0)); (try (have hx45_0 := (congrArg (fun z_ => World.cell? z_ _) hq_).symm.trans hx45_0)); (try (have hf45_0 := (congrArg (fun z_ => World.frozen? z_ _) hq_).symm.trans hf45_0)); (try (have hx51_0 := (congrArg (fun z_ => World.cell? z_ _) hq_).symm.trans hx51_0)); (try (have hf51_0 := (congrArg (fun z_ => World.frozen? z_ _) hq_).symm.trans hf51_0)); clear hq_ HO_7 BK327 HB; have HO_7 := n0_; have BK327 := n1_; have HB := n2_; clear n0_ n1_ n2_; (try (have HP52 := Kd.R_putg HO_7.out (((rd_T38 l0_1 x33_3).f1) : Int) (wrap64 ((rd x7_3 ((rd_T38 l0_1 x33_3).f0)) + 1)))))); refine store_event (t := 3) (p := 98) (v := ?vo_w53) (w1 := (wc.setCell ⟨go19, (((rd_T38 l0_1 x33_3).f1) : Int).toNat, none⟩ (.int .i64 (wrap64 ((rd x7_3 ((rd_T38 l0_1 x33_3).f0)) + 1))))) ?hg ?ho ?hn ?hr ?_; (case ho => rfl); (case hg => rfl); (case hn => rfl); (case hr => first | (go_simp; done) | (go_simp; rfl)); intro w53 hw; have hg : wc.grownBy w53 (some go19) := (by rw [hw]; exact HP52.2); have hp_ : Kd.R (Kd.int .i64) 3 w53 w.heap.size (fun _ => True) (.slice (some ⟨go19, 0, none⟩) x7_3.length co10) y345 := (by rw [hw, Ny345.out]; exact HP52.1); clear HP52; replace BK327 := Aside0.mk (blk_grown (g := gb327) (o := .cells #[.slice A0_0 l0_0.length c0_0, .slice (some ad333) l0_1.length c0_1] 25 (0, 0)) (zk BK327.out) hg (Kd.R_ne HO_7.out BK327.out (by decide))); replace HO_7 := Aside0.mk (hp_); replace HB := Aside0.mk ((by rw [hw]; exact below_set (HB.out) GB19.out : Below w.heap.size w w53)); clear hg hw hp_)))
         (try simp only [← hl7_3])
         go_roundg kj26
         case measure => have := HK1.out; have := HK2.out; have := HK3.out; have := HJ26.out; omega
         case rel => exact ⟨(y345), (true), (wrap64 (x33_3 + 1)), rs, rs, H', ⟨by have := HK1.out; have := HK2.out; have := HK3.out; have := HJ26.out; omega⟩, ⟨by (try simp only [hl7_1]); (try simp only [hl7_2]); (try simp only [hl7_3]); (with_reducible repeat (first | apply Kd.R_alloc | apply Kd.R_drewN | apply Kd.R_drew)); exact HO_7.out⟩, ⟨by (try simp only [hl7_1]); (try simp only [hl7_2]); (try simp only [hl7_3]); (with_reducible repeat (first | refine blk_drewN ?_ _ | refine blk_drew ?_ | refine blk_alloc ?_ _)); exact BK327.out⟩, ⟨zb1 HB.out GE327.out⟩⟩
end Go.Proofs.Ytbbdgndaaajejaa.PRoutePaths
