-- Written by a program of this session (wip/oprint): after the pattern of the kit's print, which does not take this law. -- trimmed
import Derived.Test.YtbbdgndaaajejaaPRoutePathsx0
import Derived.Test.YtbbdgndaaajejaaPRoutePathsx4
import Derived.Test.YtbbdgndaaajejaaPRoutePathsx6
import Derived.Test.YtbbdgndaaajejaaPRoutePathsx7
namespace Go.Proofs.Ytbbdgndaaajejaa.PRoutePaths
open Go.RowKit Go.Proofs.YtbbdgndaaajejaaW.PrintWords Go.Proofs.YtbbdgndaaajejaaW.PrintLast Go.Proofs.YtbbdgndaaajejaaW.PrintMore
attribute [local go_sem] max2_int min2_int max_two min_two max_three min_three max_four min_four   -- for this text's walks alone
set_option linter.unusedVariables false
set_option linter.unusedSimpArgs false

/-! ### route_Loop: function 20 -/
mutual
def route_Loop.l0 : Nat → List Int → Int → List Int → Int → List Int → Int → Int → List (S47) → List (S38) → Option (List Int × Int)
 | 0, _, _, _, _, _, _, _, _, _ => none
 | k + 1, x1, x2, x8, x10, x29, x30, x31, x244000, x244001 => if x31 < x30 then (if 0 ≤ x31 then (if x31 < (x29.length : Int) then (if 0 ≤ (wrap64 ((rd x29 x31) - 1)) then (if (wrap64 ((rd x29 x31) - 1)) < (x244001.length : Int) then ((slices_Contains_int_int.f k x1 (rd x29 x31)).bind fun t257 => (if t257 = true then (route_Loop.j1 k x1 x2 x8 x10 (rd x29 x31) ((rd_T38 x244001 (wrap64 ((rd x29 x31) - 1))).f1) x29 x30 x31 true x244000 x244001) else (if 0 ≤ ((rd_T38 x244001 (wrap64 ((rd x29 x31) - 1))).f1) then (if ((rd_T38 x244001 (wrap64 ((rd x29 x31) - 1))).f1) < (x8.length : Int) then (if (rd x8 ((rd_T38 x244001 (wrap64 ((rd x29 x31) - 1))).f1)) < 0 then (route_Loop.j1 k x1 x2 x8 x10 (rd x29 x31) ((rd_T38 x244001 (wrap64 ((rd x29 x31) - 1))).f1) x29 x30 x31 true x244000 x244001) else (if ((rd_T38 x244001 (wrap64 ((rd x29 x31) - 1))).f1) < (x244000.length : Int) then (route_Loop.j1 k x1 x2 x8 x10 (rd x29 x31) ((rd_T38 x244001 (wrap64 ((rd x29 x31) - 1))).f1) x29 x30 x31 (((rd_T47 x244000 ((rd_T38 x244001 (wrap64 ((rd x29 x31) - 1))).f1)).f1) != 1) x244000 x244001) else (none))) else (none)) else (none)))) else (none)) else (none)) else (none)) else (none)) else (if x10 = 0 then (some (([] : List Int), 80)) else (if 0 ≤ (wrap64 (x10 - 1)) then (if (wrap64 (x10 - 1)) < (x244001.length : Int) then ((route_Path.f k x244000 x244001 x1 ((rd_T38 x244001 (wrap64 (x10 - 1))).f1) x2).bind fun bt264 => ((slices_Concat_int_int.f k (([(([x10] : List Int)), bt264.1] : List (List Int)))).bind fun t274 => (some (t274, bt264.2)))) else (none)) else (none)))
def route_Loop.j1 : Nat → List Int → Int → List Int → Int → Int → Int → List Int → Int → Int → Bool → List (S47) → List (S38) → Option (List Int × Int)
 | 0, _, _, _, _, _, _, _, _, _, _, _, _ => none
 | k + 1, x1, x2, x8, x10, x12, x13, x29, x30, x31, x60, x244000, x244001 => if x60 = true then (route_Loop.l0 k x1 x2 x8 x10 x29 x30 (wrap64 (x31 + 1)) x244000 x244001) else (if x10 = 0 then (route_Loop.l0 k x1 x2 x8 x12 x29 x30 (wrap64 (x31 + 1)) x244000 x244001) else (if 0 ≤ x13 then (if x13 < (x8.length : Int) then (if 0 ≤ (wrap64 (x10 - 1)) then (if (wrap64 (x10 - 1)) < (x244001.length : Int) then (if 0 ≤ ((rd_T38 x244001 (wrap64 (x10 - 1))).f1) then (if ((rd_T38 x244001 (wrap64 (x10 - 1))).f1) < (x8.length : Int) then (if (rd x8 x13) < (rd x8 ((rd_T38 x244001 (wrap64 (x10 - 1))).f1)) then (route_Loop.l0 k x1 x2 x8 x12 x29 x30 (wrap64 (x31 + 1)) x244000 x244001) else (route_Loop.l0 k x1 x2 x8 x10 x29 x30 (wrap64 (x31 + 1)) x244000 x244001)) else (none)) else (none)) else (none)) else (none)) else (none)) else (none)))
end
def route_Loop.f (k : Nat) (l0_0 : List (S47)) (l0_1 : List (S38)) (l1 : List Int) (a2 : Int) : Option (List Int × Int) := (route_out.f l0_0 l0_1 (([a2] : List Int))).bind fun t247 => (if t247 = true then (some (([] : List Int), 1)) else ((reach_To.f k l0_0 l0_1 l1 a2).bind fun bt248 => ((layout_Out.f k l0_0 l0_1 a2).bind fun t252 => (route_Loop.l0 k l1 a2 bt248.1 0 t252 (t252.length : Int) 0 l0_0 l0_1))))
theorem route_Loop.mono_l : ∀ k, (∀ y0 y1 y2 y3 y4 y5 y6 y7 y8, LeO (route_Loop.l0 k y0 y1 y2 y3 y4 y5 y6 y7 y8) (route_Loop.l0 (k + 1) y0 y1 y2 y3 y4 y5 y6 y7 y8)) ∧ (∀ y0 y1 y2 y3 y4 y5 y6 y7 y8 y9 y10 y11, LeO (route_Loop.j1 k y0 y1 y2 y3 y4 y5 y6 y7 y8 y9 y10 y11) (route_Loop.j1 (k + 1) y0 y1 y2 y3 y4 y5 y6 y7 y8 y9 y10 y11))
 | 0 => ⟨fun _ _ _ _ _ _ _ _ _ r h => by simp [route_Loop.l0] at h, fun _ _ _ _ _ _ _ _ _ _ _ _ r h => by simp [route_Loop.j1] at h⟩
 | k + 1 => by
  obtain ⟨ih0, ih1⟩ := route_Loop.mono_l k
  refine ⟨?_, ?_⟩
  ·intro y0 y1 y2 y3 y4 y5 y6 y7 y8
   unfold route_Loop.l0
   repeat' first
   | (with_reducible exact ih0 _ _ _ _ _ _ _ _ _)
   | (with_reducible exact ih1 _ _ _ _ _ _ _ _ _ _ _ _)
   | (with_reducible exact layout_Out.mono _ _ _ _)
   | (with_reducible exact reach_To.mono _ _ _ _ _)
   | (with_reducible exact route_Path.mono _ _ _ _ _ _)
   | (with_reducible exact slices_Concat_int_int.mono _ _)
   | (with_reducible exact slices_Contains_int_int.mono _ _ _)
   | (with_reducible exact LeO.refl _)
   | (with_reducible exact LeO.none _)
   | (with_reducible refine LeO.ite ?_ ?_)
   | (with_reducible refine LeO.bind ?_ (fun _ => ?_))
   | exact ih0 _ _ _ _ _ _ _ _ _
   | exact ih1 _ _ _ _ _ _ _ _ _ _ _ _
   | exact layout_Out.mono _ _ _ _
   | exact reach_To.mono _ _ _ _ _
   | exact route_Path.mono _ _ _ _ _ _
   | exact slices_Concat_int_int.mono _ _
   | exact slices_Contains_int_int.mono _ _ _
   | exact LeO.none _
   | refine LeO.ite ?_ ?_
   | refine LeO.bind ?_ (fun _ => ?_)
  ·intro y0 y1 y2 y3 y4 y5 y6 y7 y8 y9 y10 y11
   unfold route_Loop.j1
   repeat' first
   | (with_reducible exact ih0 _ _ _ _ _ _ _ _ _)
   | (with_reducible exact ih1 _ _ _ _ _ _ _ _ _ _ _ _)
   | (with_reducible exact layout_Out.mono _ _ _ _)
   | (with_reducible exact reach_To.mono _ _ _ _ _)
   | (with_reducible exact route_Path.mono _ _ _ _ _ _)
   | (with_reducible exact slices_Concat_int_int.mono _ _)
   | (with_reducible exact slices_Contains_int_int.mono _ _ _)
   | (with_reducible exact LeO.refl _)
   | (with_reducible exact LeO.none _)
   | (with_reducible refine LeO.ite ?_ ?_)
   | (with_reducible refine LeO.bind ?_ (fun _ => ?_))
   | exact ih0 _ _ _ _ _ _ _ _ _
   | exact ih1 _ _ _ _ _ _ _ _ _ _ _ _
   | exact layout_Out.mono _ _ _ _
   | exact reach_To.mono _ _ _ _ _
   | exact route_Path.mono _ _ _ _ _ _
   | exact slices_Concat_int_int.mono _ _
   | exact slices_Contains_int_int.mono _ _ _
   | exact LeO.none _
   | refine LeO.ite ?_ ?_
   | refine LeO.bind ?_ (fun _ => ?_)
theorem route_Loop.mono : ∀ a0 a1 a2 a3 k, LeO (route_Loop.f k a0 a1 a2 a3) (route_Loop.f (k + 1) a0 a1 a2 a3) := by
 intro a0 a1 a2 a3 k
 obtain ⟨ih0, ih1⟩ := route_Loop.mono_l k
 unfold route_Loop.f
 repeat' first
   | (with_reducible exact ih0 _ _ _ _ _ _ _ _ _)
   | (with_reducible exact ih1 _ _ _ _ _ _ _ _ _ _ _ _)
   | (with_reducible exact layout_Out.mono _ _ _ _)
   | (with_reducible exact reach_To.mono _ _ _ _ _)
   | (with_reducible exact route_Path.mono _ _ _ _ _ _)
   | (with_reducible exact slices_Concat_int_int.mono _ _)
   | (with_reducible exact slices_Contains_int_int.mono _ _ _)
   | (with_reducible exact LeO.refl _)
   | (with_reducible exact LeO.none _)
   | (with_reducible refine LeO.ite ?_ ?_)
   | (with_reducible refine LeO.bind ?_ (fun _ => ?_))
   | exact ih0 _ _ _ _ _ _ _ _ _
   | exact ih1 _ _ _ _ _ _ _ _ _ _ _ _
   | exact layout_Out.mono _ _ _ _
   | exact reach_To.mono _ _ _ _ _
   | exact route_Path.mono _ _ _ _ _ _
   | exact slices_Concat_int_int.mono _ _
   | exact slices_Contains_int_int.mono _ _ _
   | exact LeO.none _
   | refine LeO.ite ?_ ?_
   | refine LeO.bind ?_ (fun _ => ?_)
def route_Loop.T10 : Bool × List (List Nat × List Nat) := (true, [([], []), ([0], [0]), ([1], [1]), ([2], [2]), ([2], [2]), ([3, 4, 2], [2, 3, 4]), ([5, 2], [2, 5]), ([2], [2]), ([2], [2]), ([8, 2], [2, 8]), ([2], [2]), ([10, 2], [2, 10]), ([9, 11, 2], [2, 9, 11]), ([12, 2], [2, 12]), ([13, 2], [2, 13]), ([7, 14, 2], [2, 7, 14]), ([15, 2], [2, 15]), ([6, 16, 2], [2, 6, 16]), ([2, 17], [2, 17])])
def route_Loop.B10 : List Nat := [0, 1, 3, 7, 7, 31, 63, 7, 7, 263, 7, 1031, 3847, 7943, 16135, 32647, 65415, 131071, 262143]
theorem route_Loop.tab10 : rtab .any (opsOf Try.f20 10) = route_Loop.T10 := by kernel_rfl
theorem route_Loop.bits10 : waitsOk route_Loop.T10.2 route_Loop.B10 = true := by kernel_rfl
def route_Loop.T15 : Bool × List (List Nat × List Nat) := (true, [([], []), ([], []), ([], []), ([2], [2]), ([], []), ([4], [4]), ([3, 5], [3, 5]), ([6], [6]), ([7], [7]), ([], []), ([0, 1, 8, 9], [0, 1, 8, 9]), ([10], [10]), ([11], [11]), ([11], [11]), ([12, 10, 0, 1, 2, 3, 4, 5, 6, 7, 8, 9, 10, 11, 12], [12]), ([13, 14, 0, 1, 2, 3, 4, 5, 6, 7, 8, 9, 10, 11, 12, 13, 14], [13])])
def route_Loop.B15 : List Nat := [0, 0, 0, 4, 0, 16, 60, 124, 252, 0, 1023, 2047, 4095, 4095, 8191, 32767]
theorem route_Loop.tab15 : rtab .any (opsOf Try.f20 15) = route_Loop.T15 := by kernel_rfl
theorem route_Loop.bits15 : waitsOk route_Loop.T15.2 route_Loop.B15 = true := by kernel_rfl
set_option maxHeartbeats 8000000 in
set_option maxRecDepth 100000 in
theorem route_Loop.calls (k : Nat) (A0_0 : Option Addr) (c0_0 : Nat) (l0_0 : List (S47)) (A0_1 : Option Addr) (c0_1 : Nat) (l0_1 : List (S38)) (A1 : Option Addr) (c1 : Nat) (l1 : List Int) (a2 : Int) (r1 : List Int) (r2 : Int) (w : World) (hr0_0 : Kd.C k47 w A0_0 l0_0.length l0_0) (hc0_0 : l0_0.length ≤ c0_0) (hr0_1 : Kd.C k38 w A0_1 l0_1.length l0_1) (hc0_1 : l0_1.length ≤ c0_1) (hr1 : Kd.C (Kd.int .i64) w A1 l1.length l1) (hc1 : l1.length ≤ c1) (h : route_Loop.f k l0_0 l0_1 l1 a2 = some (r1, r2)) :
  Calls Try.prog 20 #[.agg #[.slice A0_0 l0_0.length c0_0, .slice A0_1 l0_1.length c0_1], .slice A1 l1.length c1, .int .i64 a2] w fun e w' => ∃ v0_ : Value, e = .returned (.tuple #[v0_, .int .i64 r2]) ∧ Kd.R (Kd.int .i64) 3 w' w.heap.size (fun _ => True) v0_ r1 ∧ Below w.heap.size w w' := by
 have hu25 := Try.underlying25
 have HR0_0 := Aside0.mk hr0_0
 have HC0_0 := Aside0.mk hc0_0
 clear hr0_0 hc0_0
 have HR0_1 := Aside0.mk hr0_1
 have HC0_1 := Aside0.mk hc0_1
 clear hr0_1 hc0_1
 have HR1 := Aside0.mk hr1
 have HC1 := Aside0.mk hc1
 clear hr1 hc1
 have HB := Aside0.mk (Below.refl w.heap.size w)
 have H : ((route_out.f l0_0 l0_1 (([a2] : List Int))).bind fun t247 => (if t247 = true then (some (([] : List Int), 1)) else ((reach_To.f k l0_0 l0_1 l1 a2).bind fun bt248 => ((layout_Out.f k l0_0 l0_1 a2).bind fun t252 => (route_Loop.l0 k l1 a2 bt248.1 0 t252 (t252.length : Int) 0 l0_0 l0_1))))) = some (r1, r2) := h
 clear h
 obtain ⟨y244, hy244⟩ : ∃ y_ : List Int, y_ = (([a2] : List Int)) := ⟨_, rfl⟩
 replace H : ((route_out.f l0_0 l0_1 y244).bind fun t247 => (if t247 = true then (some (([] : List Int), 1)) else ((reach_To.f k l0_0 l0_1 l1 a2).bind fun bt248 => ((layout_Out.f k l0_0 l0_1 a2).bind fun t252 => (route_Loop.l0 k l1 a2 bt248.1 0 t252 (t252.length : Int) 0 l0_0 l0_1))))) = some (r1, r2) := by first | (rw [hy244]; with_reducible exact H) | (have H2_ := (Option.bind_some _ _).symm.trans H; rw [hy244]; with_reducible exact H2_) | (have H2_ := (Option.bind_some _ _).symm.trans H; with_reducible exact H2_) | with_reducible exact H | (rw [hy244]; exact H) | exact H
 have Ny244 := Aside0.mk hy244
 clear hy244
 replace H := Option.bind_eq_some_iff.mp H; obtain ⟨t247, A40, H⟩ := H
 replace H : (if t247 = true then (some (([] : List Int), 1)) else ((reach_To.f k l0_0 l0_1 l1 a2).bind fun bt248 => ((layout_Out.f k l0_0 l0_1 a2).bind fun t252 => (route_Loop.l0 k l1 a2 bt248.1 0 t252 (t252.length : Int) 0 l0_0 l0_1)))) = some (r1, r2) := H
 have A4 := Aside0.mk A40
 clear A40
 by_cases c5 : t247 = true
 ·subst c5
  have H1 : (some (([] : List Int), 1)) = some (r1, r2) := by rw [if_pos rfl] at H; exact H
  clear H; have H := H1; clear H1
  simp only [Option.some.injEq, Prod.mk.injEq] at H
  obtain ⟨rfl, rfl⟩ := H
  go_enter Try.func20, Try.ntmps20
  go_wp2_with (first | ((with_reducible refine gate_dst (N := 3) rfl ?_); refine box_event ?hg (N := 3) ?hd (cs := #[.slice A0_0 l0_0.length c0_0, .slice A0_1 l0_1.length c0_1]) (t := 25) ?hr ?_; (case hd => rfl); (case hg => rfl); (case hr => first | (go_simp; done) | (go_simp; rfl)); intro gb243 hg w6 hbox hb; have BK243 := Aside0.mk (hbox); have GW243 := Aside0.mk ((by rw [hg]; exact (below_size (zb0 HB.out)) : w.heap.size ≤ gb243)); have GE243 := Aside0.mk ((by rw [hg]; exact (below_size (zb0 HB.out)) : w.heap.size ≤ gb243)); replace HB := Aside0.mk (below_step (zb0 HB.out) hb); clear hb hbox hg; have hcz7_0 : w6.cell? ⟨gb243, 0, none⟩ = some (.slice A0_0 l0_0.length c0_0) := (blk_cell BK243.out 0).trans rfl; have hcz7_1 : w6.cell? ⟨gb243, 1, none⟩ = some (.slice A0_1 l0_1.length c0_1) := (blk_cell BK243.out 1).trans rfl; have hfz7_0 := blk_frozen BK243.out 0; have hfz7_1 := blk_frozen BK243.out 1) | ((with_reducible refine gate_dst (N := 18) rfl ?_); refine Kd.R_lit (Kd.int .i64) _ 3 ?hg (N := 18) ?hd (xs := ([a2] : List Int)) (inner := [.int .i64 a2]) (ok := fun _ => True) (okp := fun _ => True) ?hr ?hp (fun _ hk => hk) trivial (Below.refl _ _) (Nat.le_refl _) (by simp) ?_; (case hd => rfl); (case hg => rfl); (case hr => first | (go_simp; done) | (go_simp; rfl)); (case hp => exact (Reps.one (show Kd.M (Kd.int .i64) _ _ _ a2 [.int .i64 a2] from rfl) (Reps.none _ _))); intro v245 w8 ho9 hb hg_ hnew_; clear hg_ hnew_; (first | rw [← Ny244.out] at ho9 | (simp only [Int.reduceToNat] at ho9; rw [← Ny244.out] at ho9)); have HO246 := Aside0.mk (Kd.R_lower ho9 (below_size (zb1 HB.out GE243.out))); replace BK243 := Aside0.mk (blk_below (g := gb243) (o := .cells #[.slice A0_0 l0_0.length c0_0, .slice A0_1 l0_1.length c0_1] 25 (0, 0)) (zk BK243.out) hb); replace HB := Aside0.mk (below_step (zb1 HB.out GE243.out) hb); clear hb ho9; obtain ⟨Ao10, co10, eo10⟩ := Kd.R_slice HO246.out; subst eo10) | ((with_reducible refine gate_callee (f := 30) rfl ?_); refine goesL_ (some 19) rfl rfl Try.func30 (by kernel_rfl) rfl #[.agg #[.slice A0_0 l0_0.length c0_0, .slice A0_1 l0_1.length c0_1], .slice Ao10 y244.length co10] rfl am ?_; (with_reducible refine (route_out.calls _ _ l0_0 _ _ l0_1 _ _ y244 true _ ?side1 ?side2 ?side3 ?side4 ?side5 ?side6 A4.out).mono ?_); (case side1 => exact zc HR0_0.out HB.out); (case side2 => exact HC0_0.out); (case side3 => exact zc HR0_1.out HB.out); (case side4 => exact HC0_1.out); (case side5 => exact zd (Kd.R_reads' HO246.out).2.2); (case side6 => exact (Kd.R_reads' HO246.out).2.1); rintro e w11 ⟨rfl, hb⟩; refine ⟨_, rfl, ?_⟩; replace HO246 := Aside0.mk (Kd.R_below (zr HO246.out) hb); replace BK243 := Aside0.mk (blk_below (g := gb243) (o := .cells #[.slice A0_0 l0_0.length c0_0, .slice A0_1 l0_1.length c0_1] 25 (0, 0)) (zk BK243.out) hb); replace HB := Aside0.mk (below_step (zb1 HB.out GE243.out) hb); (try clear hb)))
  go_ret2
  exact ⟨_, by first | rfl | (simp [errW_none, errW_some] <;> rfl) | (simp [*, errW_none, errW_some] <;> rfl), by first | exact Kd.R_nil _ _ _ _ _ | exact Kd.N_nil _ _ _ _ _ | exact Kd.V_nil _ _ _ _ _ | exact Kd.Q_nil _ _ _ _ _ | exact Kd.S_nil _ _ _ _ _, zb1 HB.out GE243.out⟩
 replace c5 := Bool.eq_false_iff.mpr c5
 subst c5
 have H1 : ((reach_To.f k l0_0 l0_1 l1 a2).bind fun bt248 => ((layout_Out.f k l0_0 l0_1 a2).bind fun t252 => (route_Loop.l0 k l1 a2 bt248.1 0 t252 (t252.length : Int) 0 l0_0 l0_1))) = some (r1, r2) := by rw [if_neg (show ¬ (false = true) by decide)] at H; exact H
 clear H; have H := H1; clear H1
 replace H := Option.bind_eq_some_iff.mp H; obtain ⟨⟨t248, t251⟩, A120, H⟩ := H
 replace H : ((layout_Out.f k l0_0 l0_1 a2).bind fun t252 => (route_Loop.l0 k l1 a2 t248 0 t252 (t252.length : Int) 0 l0_0 l0_1)) = some (r1, r2) := H
 have A12 := Aside0.mk A120
 clear A120
 replace H := Option.bind_eq_some_iff.mp H; obtain ⟨t252, A130, H⟩ := H
 replace H : (route_Loop.l0 k l1 a2 t248 0 t252 (t252.length : Int) 0 l0_0 l0_1) = some (r1, r2) := H
 have A13 := Aside0.mk A130
 clear A130
 have H' := Aside0.mk H; clear H
 go_enter Try.func20, Try.ntmps20
 go_wp2_with (first | ((with_reducible refine gate_dst (N := 3) rfl ?_); refine box_event ?hg (N := 3) ?hd (cs := #[.slice A0_0 l0_0.length c0_0, .slice A0_1 l0_1.length c0_1]) (t := 25) ?hr ?_; (case hd => rfl); (case hg => rfl); (case hr => first | (go_simp; done) | (go_simp; rfl)); intro gb243 hg w14 hbox hb; have BK243 := Aside0.mk (hbox); have GW243 := Aside0.mk ((by rw [hg]; exact (below_size (zb0 HB.out)) : w.heap.size ≤ gb243)); have GE243 := Aside0.mk ((by rw [hg]; exact (below_size (zb0 HB.out)) : w.heap.size ≤ gb243)); replace HB := Aside0.mk (below_step (zb0 HB.out) hb); clear hb hbox hg; have hcz15_0 : w14.cell? ⟨gb243, 0, none⟩ = some (.slice A0_0 l0_0.length c0_0) := (blk_cell BK243.out 0).trans rfl; have hcz15_1 : w14.cell? ⟨gb243, 1, none⟩ = some (.slice A0_1 l0_1.length c0_1) := (blk_cell BK243.out 1).trans rfl; have hfz15_0 := blk_frozen BK243.out 0; have hfz15_1 := blk_frozen BK243.out 1) | ((with_reducible refine gate_dst (N := 18) rfl ?_); refine Kd.R_lit (Kd.int .i64) _ 3 ?hg (N := 18) ?hd (xs := ([a2] : List Int)) (inner := [.int .i64 a2]) (ok := fun _ => True) (okp := fun _ => True) ?hr ?hp (fun _ hk => hk) trivial (Below.refl _ _) (Nat.le_refl _) (by simp) ?_; (case hd => rfl); (case hg => rfl); (case hr => first | (go_simp; done) | (go_simp; rfl)); (case hp => exact (Reps.one (show Kd.M (Kd.int .i64) _ _ _ a2 [.int .i64 a2] from rfl) (Reps.none _ _))); intro v245 w16 ho17 hb hg_ hnew_; clear hg_ hnew_; (first | rw [← Ny244.out] at ho17 | (simp only [Int.reduceToNat] at ho17; rw [← Ny244.out] at ho17)); have HO246 := Aside0.mk (Kd.R_lower ho17 (below_size (zb1 HB.out GE243.out))); replace BK243 := Aside0.mk (blk_below (g := gb243) (o := .cells #[.slice A0_0 l0_0.length c0_0, .slice A0_1 l0_1.length c0_1] 25 (0, 0)) (zk BK243.out) hb); replace HB := Aside0.mk (below_step (zb1 HB.out GE243.out) hb); clear hb ho17; obtain ⟨Ao18, co18, eo18⟩ := Kd.R_slice HO246.out; subst eo18) | ((with_reducible refine gate_callee (f := 30) rfl ?_); refine goesL_ (some 19) rfl rfl Try.func30 (by kernel_rfl) rfl #[.agg #[.slice A0_0 l0_0.length c0_0, .slice A0_1 l0_1.length c0_1], .slice Ao18 y244.length co18] rfl am ?_; (with_reducible refine (route_out.calls _ _ l0_0 _ _ l0_1 _ _ y244 false _ ?side1 ?side2 ?side3 ?side4 ?side5 ?side6 A4.out).mono ?_); (case side1 => exact zc HR0_0.out HB.out); (case side2 => exact HC0_0.out); (case side3 => exact zc HR0_1.out HB.out); (case side4 => exact HC0_1.out); (case side5 => exact zd (Kd.R_reads' HO246.out).2.2); (case side6 => exact (Kd.R_reads' HO246.out).2.1); rintro e w19 ⟨rfl, hb⟩; refine ⟨_, rfl, ?_⟩; replace HO246 := Aside0.mk (Kd.R_below (zr HO246.out) hb); replace BK243 := Aside0.mk (blk_below (g := gb243) (o := .cells #[.slice A0_0 l0_0.length c0_0, .slice A0_1 l0_1.length c0_1] 25 (0, 0)) (zk BK243.out) hb); replace HB := Aside0.mk (below_step (zb1 HB.out GE243.out) hb); (try clear hb); have hcz20_0 : w19.cell? ⟨gb243, 0, none⟩ = some (.slice A0_0 l0_0.length c0_0) := (blk_cell BK243.out 0).trans rfl; have hcz20_1 : w19.cell? ⟨gb243, 1, none⟩ = some (.slice A0_1 l0_1.length c0_1) := (blk_cell BK243.out 1).trans rfl; have hfz20_0 := blk_frozen BK243.out 0; have hfz20_1 := blk_frozen BK243.out 1) | ((with_reducible refine gate_callee (f := 28) rfl ?_); refine goesL_ (some 24) rfl rfl Try.func28 (by kernel_rfl) rfl #[.agg #[.slice A0_0 l0_0.length c0_0, .slice A0_1 l0_1.length c0_1], .slice A1 l1.length c1, .int .i64 a2] rfl am ?_; (with_reducible refine (reach_To.calls k _ _ l0_0 _ _ l0_1 _ _ l1 a2 t248 t251 _ ?side1 ?side2 ?side3 ?side4 ?side5 ?side6 A12.out).mono ?_); (case side1 => exact zc HR0_0.out HB.out); (case side2 => exact HC0_0.out); (case side3 => exact zc HR0_1.out HB.out); (case side4 => exact HC0_1.out); (case side5 => exact zc HR1.out HB.out); (case side6 => exact HC1.out); rintro e w21 ⟨v249, rfl, ho0, hb⟩; refine ⟨_, rfl, ?_⟩; have HO250 := Aside0.mk (Kd.R_lower (Kd.R_new' ho0 (Kd.R_lt (zr HO246.out))) (below_size (zb1 HB.out GE243.out))); replace HO246 := Aside0.mk (Kd.R_elder' (zr HO246.out) (Kd.R_base ho0) hb); replace BK243 := Aside0.mk (blk_below (g := gb243) (o := .cells #[.slice A0_0 l0_0.length c0_0, .slice A0_1 l0_1.length c0_1] 25 (0, 0)) (zk BK243.out) hb); replace HB := Aside0.mk (below_step (zb1 HB.out GE243.out) hb); (try clear hb); (try clear ho0); have hcz22_0 : w21.cell? ⟨gb243, 0, none⟩ = some (.slice A0_0 l0_0.length c0_0) := (blk_cell BK243.out 0).trans rfl; have hcz22_1 : w21.cell? ⟨gb243, 1, none⟩ = some (.slice A0_1 l0_1.length c0_1) := (blk_cell BK243.out 1).trans rfl; have hfz22_0 := blk_frozen BK243.out 0; have hfz22_1 := blk_frozen BK243.out 1) | ((with_reducible refine gate_callee (f := 33) rfl ?_); refine goesL_ (some 29) rfl rfl Try.func33 (by kernel_rfl) rfl #[.agg #[.slice A0_0 l0_0.length c0_0, .slice A0_1 l0_1.length c0_1], .int .i64 a2] rfl am ?_; (with_reducible refine (layout_Out.calls k _ _ l0_0 _ _ l0_1 a2 t252 _ ?side1 ?side2 ?side3 ?side4 A13.out).mono ?_); (case side1 => exact zc HR0_0.out HB.out); (case side2 => exact HC0_0.out); (case side3 => exact zc HR0_1.out HB.out); (case side4 => exact HC0_1.out); rintro e w23 ⟨v253, rfl, ho0, hb⟩; refine ⟨_, rfl, ?_⟩; have HO254 := Aside0.mk (Kd.R_lower (Kd.R_new' (Kd.R_new' ho0 (Kd.R_lt (zr HO246.out))) (Kd.R_lt (zr HO250.out))) (below_size (zb1 HB.out GE243.out))); replace HO246 := Aside0.mk (Kd.R_elder' (zr HO246.out) (Kd.R_base ho0) hb); replace HO250 := Aside0.mk (Kd.R_elder' (zr HO250.out) (Kd.R_base ho0) hb); replace BK243 := Aside0.mk (blk_below (g := gb243) (o := .cells #[.slice A0_0 l0_0.length c0_0, .slice A0_1 l0_1.length c0_1] 25 (0, 0)) (zk BK243.out) hb); replace HB := Aside0.mk (below_step (zb1 HB.out GE243.out) hb); (try clear hb); (try clear ho0); obtain ⟨Ao24, co24, eo24⟩ := Kd.R_slice HO254.out; subst eo24))
 go_loopg [10, 31] k (fun kq v10 v31 w' => ∃ (x10_1 : Int) (x31_1 : Int), v10 = .int .i64 x10_1 ∧ v31 = .int .i64 x31_1 ∧ Aside0 (route_Loop.l0 kq l1 a2 t248 x10_1 t252 (t252.length : Int) x31_1 l0_0 l0_1 = some (r1, r2)) ∧ Aside0 (kq ≤ k) ∧ Aside0 (Kd.R (Kd.int .i64) 3 w' w.heap.size (fun k_ => some k_ ≠ ((.slice Ao24 t252.length co24) : Value).ownBlock) v249 t248) ∧ Aside0 (Kd.R (Kd.int .i64) 3 w' w.heap.size (fun k_ => some k_ ≠ (v249 : Value).ownBlock) (.slice Ao24 t252.length co24) t252) ∧ Aside0 (w'.heap[gb243]? = some (.cells #[(.slice A0_0 l0_0.length c0_0), (.slice A0_1 l0_1.length c0_1)] 25 (0, 0))) ∧ Aside0 (Below w.heap.size w w'))
 case atStart => exact ⟨(0), (0), rs, rs, H', ⟨Nat.le_refl _⟩, ⟨by (with_reducible repeat (first | apply Kd.R_alloc | apply Kd.R_drewN | apply Kd.R_drew)); exact Kd.R_mono HO250.out (fun _ hk => hk.2)⟩, ⟨by (with_reducible repeat (first | apply Kd.R_alloc | apply Kd.R_drewN | apply Kd.R_drew)); exact Kd.R_mono HO254.out (fun _ hk => hk.2)⟩, ⟨zk BK243.out⟩, ⟨zb1 HB.out GE243.out⟩⟩
 case round =>
  clear H'
  obtain ⟨x10_1, x31_1, rfl, rfl, HA, HK1, HO_8, HO_29, BK243, HB⟩ := hrel
  cases gk with
  | zero => exact absurd HA.out (by simp [route_Loop.l0])
  | succ k1 =>
   have H := HA.out
   clear HA
   simp only [route_Loop.l0] at H
   by_cases c25 : x31_1 < (t252.length : Int)
   rotate_left
   ·rw [if_neg c25] at H
    have c25b0 : decide (x31_1 < (t252.length : Int)) = false := decide_eq_false c25
    clear c25
    by_cases c57 : x10_1 = 0
    ·rw [if_pos c57] at H
     have c57b0 : (x10_1 == 0) = true := beq_iff_eq.mpr c57
     have c57b1 : (x10_1 != 0) = false := bne_eq_false_iff_eq.mpr c57
     clear c57
     simp only [Option.some.injEq, Prod.mk.injEq] at H
     obtain ⟨rfl, rfl⟩ := H
     go_wp2
     go_ret2
     exact ⟨_, by first | rfl | (simp [errW_none, errW_some] <;> rfl) | (simp [*, errW_none, errW_some] <;> rfl), by first | exact Kd.R_nil _ _ _ _ _ | exact Kd.N_nil _ _ _ _ _ | exact Kd.V_nil _ _ _ _ _ | exact Kd.Q_nil _ _ _ _ _ | exact Kd.S_nil _ _ _ _ _, zb1 HB.out GE243.out⟩
    rw [if_neg c57] at H
    have c57b0 : (x10_1 == 0) = false := beq_eq_false_iff_ne.mpr c57
    have c57b1 : (x10_1 != 0) = true := bne_iff_ne.mpr c57
    obtain ⟨ji58, hji58⟩ : ∃ j_ : Int, (wrap64 (x10_1 - 1)) = j_ := ⟨_, rfl⟩
    replace H : (if 0 ≤ (ji58) then (if (ji58) < (l0_1.length : Int) then ((route_Path.f k1 l0_0 l0_1 l1 ((rd_T38 l0_1 (ji58)).f1) a2).bind fun bt264 => ((slices_Concat_int_int.f k1 (([(([x10_1] : List Int)), bt264.1] : List (List Int)))).bind fun t274 => (some (t274, bt264.2)))) else (none)) else (none)) = some (r1, r2) := by first | (rw [hji58] at H; exact H) | (simp only [hji58] at H ⊢; exact H)
    have hji58w : (IntKind.i64.wrap (x10_1 - 1)) = ji58 := (i64_w _).trans hji58
    by_cases c59 : 0 ≤ (ji58)
    rotate_left; ·rw [if_neg c59] at H; exact absurd H (by simp)

    rw [if_pos c59] at H
    have c59b0 : decide (0 ≤ (ji58)) = true := decide_eq_true c59
    clear c59
    by_cases c60 : (ji58) < (l0_1.length : Int)
    rotate_left; ·rw [if_neg c60] at H; exact absurd H (by simp)
    rw [if_pos c60] at H
    have c60b0 : decide ((ji58) < (l0_1.length : Int)) = true := decide_eq_true c60
    clear c60
    replace H := Option.bind_eq_some_iff.mp H; obtain ⟨⟨t264, t267⟩, A610, H⟩ := H
    replace H : ((slices_Concat_int_int.f k1 (([(([x10_1] : List Int)), t264] : List (List Int)))).bind fun t274 => (some (t274, t267))) = some (r1, r2) := H
    have A61 := Aside0.mk A610
    clear A610
    obtain ⟨y268, hy268⟩ : ∃ y_ : List Int, y_ = (([x10_1] : List Int)) := ⟨_, rfl⟩
    replace H : ((slices_Concat_int_int.f k1 (([y268, t264] : List (List Int)))).bind fun t274 => (some (t274, t267))) = some (r1, r2) := by first | (rw [hy268]; with_reducible exact H) | (have H2_ := (Option.bind_some _ _).symm.trans H; rw [hy268]; with_reducible exact H2_) | (have H2_ := (Option.bind_some _ _).symm.trans H; with_reducible exact H2_) | with_reducible exact H | (rw [hy268]; exact H) | exact H
    have Ny268 := Aside0.mk hy268
    clear hy268
    obtain ⟨y271, hy271⟩ : ∃ y_ : List (List Int), y_ = (([y268, t264] : List (List Int))) := ⟨_, rfl⟩
    replace H : ((slices_Concat_int_int.f k1 y271).bind fun t274 => (some (t274, t267))) = some (r1, r2) := by first | (rw [hy271]; with_reducible exact H) | (have H2_ := (Option.bind_some _ _).symm.trans H; rw [hy271]; with_reducible exact H2_) | (have H2_ := (Option.bind_some _ _).symm.trans H; with_reducible exact H2_) | with_reducible exact H | (rw [hy271]; exact H) | exact H
    have Ny271 := Aside0.mk hy271
    clear hy271
    replace H := Option.bind_eq_some_iff.mp H; obtain ⟨t274, A620, H⟩ := H
    replace H : (some (t274, t267)) = some (r1, r2) := H
    have A62 := Aside0.mk A620
    clear A620
    simp only [Option.some.injEq, Prod.mk.injEq] at H
    obtain ⟨rfl, rfl⟩ := H
    try go_wp2
    have n0_ := Aside0.mk (Kd.R_drew HO_8.out)
    have n1_ := Aside0.mk (Kd.R_drew HO_29.out)
    have n2_ := Aside0.mk (blk_drew BK243.out)
    have n3_ := Aside0.mk (below_drew1 HB.out)
    clear HO_8
    clear HO_29
    clear BK243
    clear HB
    have HO_8 := n0_
    have HO_29 := n1_
    have BK243 := n2_
    have HB := n3_
    clear n0_ n1_ n2_ n3_
    have p263 : 0 ≤ ((ji58) : Int) := oda
    have q263 : (ji58) < (l0_1.length : Int) := oda
    obtain ⟨ad263, e263, hx263_0, hx263_1⟩ := at_T38 HR0_1.out (ji58) p263 q263
    have hw263_1 := hx263_1
    have hw263_0 := hx263_0
    cases e263
    replace hx263_0 := zx HB.out hx263_0
    replace hx263_1 := zx HB.out hx263_1
    replace p263 := eq_true p263
    replace q263 := eq_true q263
    refine start_ (n := 16) (S := fun w' => w'.cell? ⟨gb243, 0, none⟩ = some (.slice A0_0 l0_0.length c0_0) ∧ w'.cell? ⟨gb243, 1, none⟩ = some (.slice (some ad263) l0_1.length c0_1) ∧ w'.cell? (ad263.add (((ji58)).toNat * 2)) = some (.int .i64 ((rd_T38 l0_1 (ji58)).f0)) ∧ w'.cell? ⟨(ad263.add (((ji58)).toNat * 2)).block, (ad263.add (((ji58)).toNat * 2)).off + 1, none⟩ = some (.int .i64 ((rd_T38 l0_1 (ji58)).f1))) (ds := []) bq43 (by kernel_rfl) rfl rfl ⟨(blk_cell BK243.out 0).trans rfl, (blk_cell BK243.out 1).trans rfl, ((HB.out.cell (World.block_lt_of_cell? w _ hw263_0)).trans hw263_0), ((HB.out.cell (World.block_lt_of_cell? w _ hw263_1)).trans hw263_1)⟩ (fun hHeld => ?_); refine with_tabW route_Loop.tab15 route_Loop.bits15 (fun HT_ HW_ => ?_)
    generalize wr.drew = w63 at HO_8 HO_29 BK243 HB hx263_0 hx263_1 hHeld ⊢
    refine pp_ 1 86 (v := ?_) (a' := ?_) bq44 HT_ rfl rfl ?_ ?_ ?_
    rotate_left; ·intro w'; go_simp; with_reducible rfl
    rotate_left; ·simp only [Act.put, sa, sz, ss, i64_w, i32_w]; rfl
    refine pp_ 2 87 (v := ?_) (a' := ?_) bq45 HT_ rfl rfl ?_ ?_ ?_
    rotate_left; ·intro w'; go_simp; with_reducible rfl
    rotate_left; ·simp only [Act.put, sa, sz, ss, i64_w, i32_w]; rfl
    refine pp_ 4 89 (v := ?_) (a' := ?_) bq46 HT_ rfl rfl ?_ ?_ ?_
    rotate_left; ·intro w'; go_simp; with_reducible rfl
    rotate_left; ·simp only [Act.put, sa, sz, ss, i64_w, i32_w]; rfl
    refine pp_ 5 90 (v := ?_) (a' := ?_) bq47 HT_ rfl rfl ?_ ?_ ?_
    rotate_left; ·intro w'; go_simp; with_reducible rfl
    rotate_left; ·simp only [Act.put, sa, sz, ss, i64_w, i32_w]; rfl
    refine pp_ 9 94 (v := ?_) (a' := ?_) bq48 HT_ rfl rfl ?_ ?_ ?_
    rotate_left; ·intro w'; go_simp; with_reducible rfl
    rotate_left; ·simp only [Act.put, sa, sz, ss, i64_w, i32_w]; rfl
    refine take_ (i := 0) (N := some 85) (v := ?_) (a' := ?_) bq49 rfl rfl (take_ofW HT_.out HW_.out (by kernel_rfl)) (fun _ _ _ h => h) (Or.inl ⟨by rfl, ?_⟩) hHeld ?_ ?_
    rotate_left
    ·rintro w' ⟨s0, s1, s2, s3⟩
     go_simp
     with_reducible rfl
    rotate_left; ·simp only [Act.put, sa, sz, ss, i64_w, i32_w]; rfl
    refine take_ (i := 3) (N := some 88) (v := ?_) (a' := ?_) bq50 rfl rfl (take_ofW HT_.out HW_.out (by kernel_rfl)) (fun _ _ _ h => h) (Or.inl ⟨by rfl, ?_⟩) hHeld ?_ ?_
    rotate_left
    ·rintro w' ⟨s0, s1, s2, s3⟩
     go_simp
     with_reducible rfl
    rotate_left; ·simp only [Act.put, sa, sz, ss, i64_w, i32_w]; rfl
    refine pp_ 6 91 (v := ?_) (a' := ?_) bq51 HT_ rfl rfl ?_ ?_ ?_
    rotate_left; ·intro w'; go_simp; with_reducible rfl
    rotate_left; ·simp only [Act.put, sa, sz, ss, i64_w, i32_w]; rfl
    refine pp_ 7 92 (v := ?_) (a' := ?_) bq52 HT_ rfl rfl ?_ ?_ ?_
    rotate_left; ·intro w'; go_simp; with_reducible rfl
    rotate_left; ·simp only [Act.put, sa, sz, ss, i64_w, i32_w]; rfl
    refine take_ (i := 8) (N := some 93) (v := ?_) (a' := ?_) bq53 rfl rfl (take_ofW HT_.out HW_.out (by kernel_rfl)) (fun _ _ _ h => h) (Or.inl ⟨by rfl, ?_⟩) hHeld ?_ ?_
    rotate_left
    ·rintro w' ⟨s0, s1, s2, s3⟩
     go_simp
     with_reducible rfl
    rotate_left; ·simp only [Act.put, sa, sz, ss, i64_w, i32_w]; rfl
    refine one_ (i := 10) (N := some 95) bq54 rfl rfl (one_of HT_.out (by kernel_rfl)) (by decide) (fun K hK => ?_)
    refine goes_ Try.func18 (by kernel_rfl) rfl #[.agg #[.slice A0_0 l0_0.length c0_0, .slice (some ad263) l0_1.length c0_1], .slice A1 l1.length c1, .int .i64 ((rd_T38 l0_1 (ji58)).f1), .int .i64 a2] (by rfl) rfl rfl (by (try simp only [List.map_toArray, List.map_cons, List.map_nil]); first | done | (simp only [hji58]; rfl) | rfl | (simp only [List.length_drop, List.length_take]; rfl)) ?_
    with_reducible refine (route_Path.calls k1 _ _ l0_0 _ _ l0_1 _ _ l1 ((rd_T38 l0_1 (ji58)).f1) a2 t264 t267 _ ?side1 ?side2 ?side3 ?side4 ?side5 ?side6 A61.out).mono ?_
    (case side1 => exact zc HR0_0.out HB.out)
    (case side2 => exact HC0_0.out)
    (case side3 => exact zc HR0_1.out HB.out)
    (case side4 => exact HC0_1.out)
    (case side5 => exact zc HR1.out HB.out)
    (case side6 => exact HC1.out)
    rintro e w64 ⟨v265, rfl, ho0, hb⟩
    refine ⟨_, rfl, ?_⟩
    have n0_ := Aside0.mk (Kd.R_elder' (zr HO_8.out) (Kd.R_base ho0) hb)
    have n1_ := Aside0.mk (Kd.R_elder' (zr HO_29.out) (Kd.R_base ho0) hb)
    have n2_ := Aside0.mk (Kd.R_lower (Kd.R_new' (Kd.R_new' ho0 (Kd.R_lt (zr HO_8.out))) (Kd.R_lt (zr HO_29.out))) (below_size (zb1 HB.out GE243.out)))
    have n3_ := Aside0.mk (blk_below (g := gb243) (o := .cells #[.slice A0_0 l0_0.length c0_0, .slice (some ad263) l0_1.length c0_1] 25 (0, 0)) (zk BK243.out) hb)
    have n4_ := Aside0.mk (below_step (zb1 HB.out GE243.out) hb)
    clear HO_8
    clear HO_29
    clear BK243
    clear HB
    have HO_8 := n0_
    have HO_29 := n1_
    have HO266 := n2_
    have BK243 := n3_
    have HB := n4_
    clear n0_ n1_ n2_ n3_ n4_
    refine hK.out _ _ ⟨(blk_cell BK243.out 0).trans rfl, (blk_cell BK243.out 1).trans rfl, ((HB.out.cell (World.block_lt_of_cell? w _ hw263_0)).trans hw263_0), ((HB.out.cell (World.block_lt_of_cell? w _ hw263_1)).trans hw263_1)⟩ (fun hHeld => ?_)
    clear hK K
    refine norm_ (a' := ?_) ?_ ?_
    rotate_left
    ·show Act.put _ (some 95) _ = _
     simp only [Act.put, sa, sz, ss, i64_w, i32_w]
     rfl
    refine pp_ 11 84 (v := ?_) (a' := ?_) bq55 HT_ rfl rfl ?_ ?_ ?_
    rotate_left; ·intro w'; go_simp; with_reducible rfl
    rotate_left; ·simp only [Act.put, sa, sz, ss, i64_w, i32_w]; rfl
    refine pp_ 12 96 (v := ?_) (a' := ?_) bq56 HT_ rfl rfl ?_ ?_ ?_
    rotate_left; ·intro w'; go_simp; with_reducible rfl
    rotate_left; ·simp only [Act.put, sa, sz, ss, i64_w, i32_w]; rfl
    refine pp_ 13 97 (v := ?_) (a' := ?_) bq57 HT_ rfl rfl ?_ ?_ ?_
    rotate_left; ·intro w'; go_simp; with_reducible rfl
    rotate_left; ·simp only [Act.put, sa, sz, ss, i64_w, i32_w]; rfl
    refine pp_ 14 14 (v := ?_) (a' := ?_) bq58 HT_ rfl rfl ?_ ?_ ?_
    rotate_left; ·intro w'; go_simp; with_reducible rfl
    rotate_left; ·simp only [Act.put, sa, sz, ss, i64_w, i32_w]; rfl
    refine pp_ 15 15 (v := ?_) (a' := ?_) bq59 HT_ rfl rfl ?_ ?_ ?_
    rotate_left; ·intro w'; go_simp; with_reducible rfl
    rotate_left; ·simp only [Act.put, sa, sz, ss, i64_w, i32_w]; rfl
    refine done_ (done_of HT_.out (by kernel_rfl)) ?_
    try go_wp2_with (first | ((with_reducible refine gate_dst (N := 99) rfl ?_); refine Kd.R_lit (Kd.int .i64) _ 3 ?hg (N := 99) ?hd (xs := ([x10_1] : List Int)) (inner := [.int .i64 x10_1]) (ok := fun _ => True) (okp := fun _ => True) ?hr ?hp (fun _ hk => hk) trivial (Below.refl _ _) (Nat.le_refl _) (by simp) ?_; (case hd => rfl); (case hg => rfl); (case hr => first | (go_simp; done) | (go_simp; rfl)); (case hp => exact (Reps.one (show Kd.M (Kd.int .i64) _ _ _ x10_1 [.int .i64 x10_1] from rfl) (Reps.none _ _))); intro v269 w65 ho66 hb hg_ hnew_; clear hg_ hnew_; (first | rw [← Ny268.out] at ho66 | (simp only [Int.reduceToNat] at ho66; rw [← Ny268.out] at ho66)); have HO270 := Aside0.mk (Kd.R_lower (Kd.R_new' (Kd.R_new' (Kd.R_new' ho66 (Kd.R_lt (zr HO_8.out))) (Kd.R_lt (zr HO_29.out))) (Kd.R_lt (zr HO266.out))) (below_size (zb1 HB.out GE243.out))); replace HO_8 := Aside0.mk (Kd.R_elder' (zr HO_8.out) (Kd.R_base ho66) hb); replace HO_29 := Aside0.mk (Kd.R_elder' (zr HO_29.out) (Kd.R_base ho66) hb); replace HO266 := Aside0.mk (Kd.R_elder' (zr HO266.out) (Kd.R_base ho66) hb); replace BK243 := Aside0.mk (blk_below (g := gb243) (o := .cells #[.slice A0_0 l0_0.length c0_0, .slice (some ad263) l0_1.length c0_1] 25 (0, 0)) (zk BK243.out) hb); replace HB := Aside0.mk (below_step (zb1 HB.out GE243.out) hb); clear hb ho66; obtain ⟨Ao67, co67, eo67⟩ := Kd.R_slice HO270.out; subst eo67; obtain ⟨Ao68, co68, eo68⟩ := Kd.R_slice HO266.out; subst eo68) | ((with_reducible refine gate_dst (N := 101) rfl ?_); refine Kd.N_lit (Kd.slice 3 (Kd.int .i64)) _ 26 ?hg (N' := 101) ?hd (xs := ([y268, t264] : List (List Int))) (inner := [.slice Ao67 y268.length co67, .slice Ao68 t264.length co68]) (ok := (fun k_ => some k_ ≠ (v249 : Value).ownBlock ∧ some k_ ≠ (.slice Ao24 t252.length co24 : Value).ownBlock ∧ k_ ≠ gb243)) (okp := (fun k_ => some k_ ≠ (v249 : Value).ownBlock ∧ some k_ ≠ (.slice Ao24 t252.length co24 : Value).ownBlock ∧ k_ ≠ gb243)) ?hr ?hp (fun _ hk => hk) ((show ∀ k_, w65.heap.size ≤ k_ → (fun k_ => some k_ ≠ (v249 : Value).ownBlock ∧ some k_ ≠ (.slice Ao24 t252.length co24 : Value).ownBlock ∧ k_ ≠ gb243) k_ from fun k_ hk => ⟨Kd.fresh' (Kd.R_lt (zr HO_8.out)) k_ hk, Kd.fresh' (Kd.R_lt (zr HO_29.out)) k_ hk, Kd.freshB (g := gb243) (o := .cells #[.slice A0_0 l0_0.length c0_0, .slice (some ad263) l0_1.length c0_1] 25 (0, 0)) (zk BK243.out) k_ hk⟩) _ (Nat.le_refl _)) (Below.refl _ _) (Nat.le_refl _) (by simp) ?_; (case hd => rfl); (case hg => rfl); (case hr => first | (go_simp; done) | (go_simp; rfl)); (case hp => exact (Reps.one (show Kd.FK (Kd.slice 3 (Kd.int .i64)) _ _ y268 [.slice Ao67 y268.length co67] from (Kd.FK_slice_mk (Kd.R_reads' (Kd.R_mono (ok' := (fun k_ => some k_ ≠ (v249 : Value).ownBlock ∧ some k_ ≠ (.slice Ao24 t252.length co24 : Value).ownBlock ∧ k_ ≠ gb243)) (Kd.R_types (HO270.out) BK243.out (by decide)) (fun k_ hk => ⟨hk.1.1.1.2, ⟨hk.1.1.2, hk.2⟩⟩))).2.1 (Kd.R_F (Kd.R_mono (ok' := (fun k_ => some k_ ≠ (v249 : Value).ownBlock ∧ some k_ ≠ (.slice Ao24 t252.length co24 : Value).ownBlock ∧ k_ ≠ gb243)) (Kd.R_types (HO270.out) BK243.out (by decide)) (fun k_ hk => ⟨hk.1.1.1.2, ⟨hk.1.1.2, hk.2⟩⟩))))) (Reps.one (show Kd.FK (Kd.slice 3 (Kd.int .i64)) _ _ t264 [.slice Ao68 t264.length co68] from (Kd.FK_slice_mk (Kd.R_reads' (Kd.R_mono (ok' := (fun k_ => some k_ ≠ (v249 : Value).ownBlock ∧ some k_ ≠ (.slice Ao24 t252.length co24 : Value).ownBlock ∧ k_ ≠ gb243)) (Kd.R_types (HO266.out) BK243.out (by decide)) (fun k_ hk => ⟨hk.1.1.1.2, ⟨hk.1.1.2, hk.2⟩⟩))).2.1 (Kd.R_F (Kd.R_mono (ok' := (fun k_ => some k_ ≠ (v249 : Value).ownBlock ∧ some k_ ≠ (.slice Ao24 t252.length co24 : Value).ownBlock ∧ k_ ≠ gb243)) (Kd.R_types (HO266.out) BK243.out (by decide)) (fun k_ hk => ⟨hk.1.1.1.2, ⟨hk.1.1.2, hk.2⟩⟩))))) (Reps.none _ _)))); intro v272 w69 ho70 hb hg_ hnew_; clear hg_ hnew_; (first | rw [← Ny271.out] at ho70 | (simp only [Int.reduceToNat] at ho70; rw [← Ny271.out] at ho70)); replace HO_8 := Aside0.mk (Kd.R_below (zr HO_8.out) hb); replace HO_29 := Aside0.mk (Kd.R_below (zr HO_29.out) hb); have HO273 := Aside0.mk (Kd.N_lower ho70 (below_size (zb1 HB.out GE243.out))); replace BK243 := Aside0.mk (blk_below (g := gb243) (o := .cells #[.slice A0_0 l0_0.length c0_0, .slice (some ad263) l0_1.length c0_1] 25 (0, 0)) (zk BK243.out) hb); replace HB := Aside0.mk (below_step (zb1 HB.out GE243.out) hb); clear HO266 HO270; clear hb ho70; obtain ⟨Ao71, co71, eo71⟩ := Kd.N_slice HO273.out; subst eo71) | ((with_reducible refine gate_callee (f := 34) rfl ?_); refine goesL_ (some 102) rfl rfl Try.func34 (by kernel_rfl) rfl #[.slice Ao71 y271.length co71] rfl am ?_; (with_reducible refine (slices_Concat_int_int.calls k1 _ _ y271 t274 _ ?side1 ?side2 A62.out).mono ?_); (case side1 => repeat (first | exact (Kd.N_reads' HO273.out).2.2 | (with_reducible refine Kd.C_alloc ?_ _) | (with_reducible refine Kd.C_drewN ?_ _) | (with_reducible refine Kd.C_drew ?_))); (case side2 => exact (Kd.N_reads' HO273.out).2.1); rintro e w72 ⟨v275, rfl, ho0, hb⟩; refine ⟨_, rfl, ?_⟩; replace HO273 := Aside0.mk (Kd.N_elder' (by (with_reducible repeat (first | apply Kd.N_alloc | apply Kd.N_drewN | apply Kd.N_drew)); exact HO273.out) (Kd.R_base ho0) hb); have HO276 := Aside0.mk (Kd.R_lower (Kd.R_new' (Kd.R_new' ho0 (Kd.R_lt (zr HO_8.out))) (Kd.R_lt (zr HO_29.out))) (below_size (zb1 HB.out GE243.out))); replace HO_8 := Aside0.mk (Kd.R_elder' (zr HO_8.out) (Kd.R_base ho0) hb); replace HO_29 := Aside0.mk (Kd.R_elder' (zr HO_29.out) (Kd.R_base ho0) hb); replace BK243 := Aside0.mk (blk_below (g := gb243) (o := .cells #[.slice A0_0 l0_0.length c0_0, .slice (some ad263) l0_1.length c0_1] 25 (0, 0)) (zk BK243.out) hb); replace HB := Aside0.mk (below_step (zb1 HB.out GE243.out) hb); (try clear hb); (try clear ho0)))
    go_ret2
    exact ⟨_, by first | rfl | (simp [errW_none, errW_some] <;> rfl) | (simp only [← hji58]; first | rfl | (simp [errW_none, errW_some] <;> rfl)) | (simp [*, errW_none, errW_some] <;> rfl), by (with_reducible repeat (first | apply Kd.R_alloc | apply Kd.R_drewN | apply Kd.R_drew)); exact Kd.R_mono HO276.out (fun _ hk => trivial), zb1 HB.out GE243.out⟩
   rw [if_pos c25] at H
   have c25b0 : decide (x31_1 < (t252.length : Int)) = true := decide_eq_true c25
   clear c25
   by_cases c26 : 0 ≤ x31_1
   rotate_left; ·rw [if_neg c26] at H; exact absurd H (by simp)
   rw [if_pos c26] at H
   have c26b0 : decide (0 ≤ x31_1) = true := decide_eq_true c26
   clear c26
   by_cases c27 : x31_1 < (t252.length : Int)
   rotate_left; ·rw [if_neg c27] at H; exact absurd H (by simp)
   rw [if_pos c27] at H
   have c27b0 : decide (x31_1 < (t252.length : Int)) = true := decide_eq_true c27
   clear c27
   obtain ⟨ji28, hji28⟩ : ∃ j_ : Int, (wrap64 ((rd t252 x31_1) - 1)) = j_ := ⟨_, rfl⟩
   replace H : (if 0 ≤ (ji28) then (if (ji28) < (l0_1.length : Int) then ((slices_Contains_int_int.f k1 l1 (rd t252 x31_1)).bind fun t257 => (if t257 = true then (route_Loop.j1 k1 l1 a2 t248 x10_1 (rd t252 x31_1) ((rd_T38 l0_1 (ji28)).f1) t252 (t252.length : Int) x31_1 true l0_0 l0_1) else (if 0 ≤ ((rd_T38 l0_1 (ji28)).f1) then (if ((rd_T38 l0_1 (ji28)).f1) < (t248.length : Int) then (if (rd t248 ((rd_T38 l0_1 (ji28)).f1)) < 0 then (route_Loop.j1 k1 l1 a2 t248 x10_1 (rd t252 x31_1) ((rd_T38 l0_1 (ji28)).f1) t252 (t252.length : Int) x31_1 true l0_0 l0_1) else (if ((rd_T38 l0_1 (ji28)).f1) < (l0_0.length : Int) then (route_Loop.j1 k1 l1 a2 t248 x10_1 (rd t252 x31_1) ((rd_T38 l0_1 (ji28)).f1) t252 (t252.length : Int) x31_1 (((rd_T47 l0_0 ((rd_T38 l0_1 (ji28)).f1)).f1) != 1) l0_0 l0_1) else (none))) else (none)) else (none)))) else (none)) else (none)) = some (r1, r2) := by first | (rw [hji28] at H; exact H) | (simp only [hji28] at H ⊢; exact H)
   have hji28w : (IntKind.i64.wrap ((rd t252 x31_1) - 1)) = ji28 := (i64_w _).trans hji28
   by_cases c29 : 0 ≤ (ji28)
   rotate_left; ·rw [if_neg c29] at H; exact absurd H (by simp)
   rw [if_pos c29] at H
   have c29b0 : decide (0 ≤ (ji28)) = true := decide_eq_true c29
   clear c29
   by_cases c30 : (ji28) < (l0_1.length : Int)
   rotate_left; ·rw [if_neg c30] at H; exact absurd H (by simp)
   rw [if_pos c30] at H
   have c30b0 : decide ((ji28) < (l0_1.length : Int)) = true := decide_eq_true c30
   clear c30
   have HC31 := Aside0.mk H
   clear H
   have p255 : 0 ≤ (x31_1 : Int) := oda
   have q255 : x31_1 < (t252.length : Int) := oda
   obtain ⟨ad255, e255, hx255_0⟩ := Kd.at_int (Kd.R_reads' HO_29.out).2.2 x31_1 p255 q255
   cases e255
   replace p255 := eq_true p255
   replace q255 := eq_true q255
   have hcz32_0 : wr.cell? ⟨gb243, 0, none⟩ = some (.slice A0_0 l0_0.length c0_0) := (blk_cell BK243.out 0).trans rfl
   have hcz32_1 : wr.cell? ⟨gb243, 1, none⟩ = some (.slice A0_1 l0_1.length c0_1) := (blk_cell BK243.out 1).trans rfl
   have hfz32_0 := blk_frozen BK243.out 0
   have hfz32_1 := blk_frozen BK243.out 1
   have p256 : 0 ≤ ((ji28) : Int) := oda
   have q256 : (ji28) < (l0_1.length : Int) := oda
   obtain ⟨ad256, e256, hx256_0, hx256_1⟩ := at_T38 HR0_1.out (ji28) p256 q256
   cases e256
   replace hx256_0 := zx HB.out hx256_0
   replace hx256_1 := zx HB.out hx256_1
   replace p256 := eq_true p256
   replace q256 := eq_true q256
   go_upto_region 9 with (fail)
   go_cut [60] (fun v60 wc => ∃ (kq : Nat) (x60_30 : Bool), v60 = .bool x60_30 ∧ Aside0 (route_Loop.j1 kq l1 a2 t248 x10_1 (rd t252 x31_1) ((rd_T38 l0_1 (ji28)).f1) t252 (t252.length : Int) x31_1 x60_30 l0_0 l0_1 = some (r1, r2)) ∧ Aside0 (kq ≤ k1) ∧ Aside0 (Kd.R (Kd.int .i64) 3 wc w.heap.size (fun k_ => some k_ ≠ ((.slice (some ad255) t252.length co24) : Value).ownBlock) v249 t248) ∧ Aside0 (Kd.R (Kd.int .i64) 3 wc w.heap.size (fun k_ => some k_ ≠ (v249 : Value).ownBlock) (.slice (some ad255) t252.length co24) t252) ∧ Aside0 (wc.heap[gb243]? = some (.cells #[(.slice A0_0 l0_0.length c0_0), (.slice (some ad256) l0_1.length c0_1)] 25 (0, 0))) ∧ Aside0 (Below w.heap.size w wc))
   case first =>
    have H := HC31.out
    clear HC31
    replace H := Option.bind_eq_some_iff.mp H; obtain ⟨t257, A330, H⟩ := H
    replace H : (if t257 = true then (route_Loop.j1 k1 l1 a2 t248 x10_1 (rd t252 x31_1) ((rd_T38 l0_1 (ji28)).f1) t252 (t252.length : Int) x31_1 true l0_0 l0_1) else (if 0 ≤ ((rd_T38 l0_1 (ji28)).f1) then (if ((rd_T38 l0_1 (ji28)).f1) < (t248.length : Int) then (if (rd t248 ((rd_T38 l0_1 (ji28)).f1)) < 0 then (route_Loop.j1 k1 l1 a2 t248 x10_1 (rd t252 x31_1) ((rd_T38 l0_1 (ji28)).f1) t252 (t252.length : Int) x31_1 true l0_0 l0_1) else (if ((rd_T38 l0_1 (ji28)).f1) < (l0_0.length : Int) then (route_Loop.j1 k1 l1 a2 t248 x10_1 (rd t252 x31_1) ((rd_T38 l0_1 (ji28)).f1) t252 (t252.length : Int) x31_1 (((rd_T47 l0_0 ((rd_T38 l0_1 (ji28)).f1)).f1) != 1) l0_0 l0_1) else (none))) else (none)) else (none))) = some (r1, r2) := H
    have A33 := Aside0.mk A330
    clear A330
    by_cases c34 : t257 = true
    ·subst c34
     have H1 : (route_Loop.j1 k1 l1 a2 t248 x10_1 (rd t252 x31_1) ((rd_T38 l0_1 (ji28)).f1) t252 (t252.length : Int) x31_1 true l0_0 l0_1) = some (r1, r2) := by rw [if_pos rfl] at H; exact H
     clear H; have H := H1; clear H1
     have H' := Aside0.mk H; clear H
     go_wp2_with (first | ((with_reducible refine gate_callee (f := 32) rfl ?_); refine goesL_ (some 44) rfl rfl Try.func32 (by kernel_rfl) rfl #[.slice A1 l1.length c1, .int .i64 (rd t252 x31_1)] rfl am ?_; (with_reducible refine (slices_Contains_int_int.calls k1 _ _ l1 (rd t252 x31_1) true _ ?side1 ?side2 A33.out).mono ?_); (case side1 => exact zc HR1.out HB.out); (case side2 => exact HC1.out); rintro e w' ⟨rfl, ⟨nd, rfl⟩⟩; refine ⟨_, rfl, ?_⟩))
     go_meet
     case rel => exact ⟨_, (true), rs, H', ⟨by have := HK1.out; first | omega | exact Nat.le_refl _⟩, ⟨zr HO_8.out⟩, ⟨zr HO_29.out⟩, ⟨zk BK243.out⟩, ⟨zb1 HB.out GE243.out⟩⟩
    replace c34 := Bool.eq_false_iff.mpr c34
    subst c34
    have H1 : (if 0 ≤ ((rd_T38 l0_1 (ji28)).f1) then (if ((rd_T38 l0_1 (ji28)).f1) < (t248.length : Int) then (if (rd t248 ((rd_T38 l0_1 (ji28)).f1)) < 0 then (route_Loop.j1 k1 l1 a2 t248 x10_1 (rd t252 x31_1) ((rd_T38 l0_1 (ji28)).f1) t252 (t252.length : Int) x31_1 true l0_0 l0_1) else (if ((rd_T38 l0_1 (ji28)).f1) < (l0_0.length : Int) then (route_Loop.j1 k1 l1 a2 t248 x10_1 (rd t252 x31_1) ((rd_T38 l0_1 (ji28)).f1) t252 (t252.length : Int) x31_1 (((rd_T47 l0_0 ((rd_T38 l0_1 (ji28)).f1)).f1) != 1) l0_0 l0_1) else (none))) else (none)) else (none)) = some (r1, r2) := by rw [if_neg (show ¬ (false = true) by decide)] at H; exact H
    clear H; have H := H1; clear H1
    by_cases c35 : 0 ≤ ((rd_T38 l0_1 (ji28)).f1)
    rotate_left; ·rw [if_neg c35] at H; exact absurd H (by simp)
    rw [if_pos c35] at H
    have c35b0 : decide (0 ≤ ((rd_T38 l0_1 (ji28)).f1)) = true := decide_eq_true c35
    clear c35
    (first | rw [c35b0] | (simp only [i64_w, i32_w]; rw [c35b0]) | skip)
    by_cases c36 : ((rd_T38 l0_1 (ji28)).f1) < (t248.length : Int)
    rotate_left; ·rw [if_neg c36] at H; exact absurd H (by simp)
    rw [if_pos c36] at H
    have c36b0 : decide (((rd_T38 l0_1 (ji28)).f1) < (t248.length : Int)) = true := decide_eq_true c36
    clear c36
    by_cases c37 : (rd t248 ((rd_T38 l0_1 (ji28)).f1)) < 0
    ·rw [if_pos c37] at H
     have c37b0 : decide ((rd t248 ((rd_T38 l0_1 (ji28)).f1)) < 0) = true := decide_eq_true c37
     clear c37
     have H' := Aside0.mk H; clear H
     go_wp2_with (first | ((with_reducible refine gate_callee (f := 32) rfl ?_); refine goesL_ (some 44) rfl rfl Try.func32 (by kernel_rfl) rfl #[.slice A1 l1.length c1, .int .i64 (rd t252 x31_1)] rfl am ?_; (with_reducible refine (slices_Contains_int_int.calls k1 _ _ l1 (rd t252 x31_1) false _ ?side1 ?side2 A33.out).mono ?_); (case side1 => exact zc HR1.out HB.out); (case side2 => exact HC1.out); rintro e w' ⟨rfl, ⟨nd, rfl⟩⟩; refine ⟨_, rfl, ?_⟩; obtain ⟨Ao38, co38, eo38⟩ := Kd.R_slice HO_8.out; subst eo38; have p258 : 0 ≤ (((rd_T38 l0_1 (ji28)).f1) : Int) := oda; have q258 : ((rd_T38 l0_1 (ji28)).f1) < (t248.length : Int) := oda; obtain ⟨ad258, e258, hx258_0⟩ := Kd.at_int (Kd.R_reads' HO_8.out).2.2 ((rd_T38 l0_1 (ji28)).f1) p258 q258; cases e258; replace p258 := eq_true p258; replace q258 := eq_true q258))
     go_meet
     case rel => exact ⟨_, (true), rs, H', ⟨by have := HK1.out; first | omega | exact Nat.le_refl _⟩, ⟨zr HO_8.out⟩, ⟨zr HO_29.out⟩, ⟨zk BK243.out⟩, ⟨zb1 HB.out GE243.out⟩⟩
    rw [if_neg c37] at H
    have c37b0 : decide ((rd t248 ((rd_T38 l0_1 (ji28)).f1)) < 0) = false := decide_eq_false c37
    clear c37
    by_cases c39 : ((rd_T38 l0_1 (ji28)).f1) < (l0_0.length : Int)
    rotate_left; ·rw [if_neg c39] at H; exact absurd H (by simp)
    rw [if_pos c39] at H
    have c39b0 : decide (((rd_T38 l0_1 (ji28)).f1) < (l0_0.length : Int)) = true := decide_eq_true c39
    clear c39
    have H' := Aside0.mk H; clear H
    go_wp2_with (first | ((with_reducible refine gate_callee (f := 32) rfl ?_); refine goesL_ (some 44) rfl rfl Try.func32 (by kernel_rfl) rfl #[.slice A1 l1.length c1, .int .i64 (rd t252 x31_1)] rfl am ?_; (with_reducible refine (slices_Contains_int_int.calls k1 _ _ l1 (rd t252 x31_1) false _ ?side1 ?side2 A33.out).mono ?_); (case side1 => exact zc HR1.out HB.out); (case side2 => exact HC1.out); rintro e w' ⟨rfl, ⟨nd, rfl⟩⟩; refine ⟨_, rfl, ?_⟩; obtain ⟨Ao40, co40, eo40⟩ := Kd.R_slice HO_8.out; subst eo40; have p258 : 0 ≤ (((rd_T38 l0_1 (ji28)).f1) : Int) := oda; have q258 : ((rd_T38 l0_1 (ji28)).f1) < (t248.length : Int) := oda; obtain ⟨ad258, e258, hx258_0⟩ := Kd.at_int (Kd.R_reads' HO_8.out).2.2 ((rd_T38 l0_1 (ji28)).f1) p258 q258; cases e258; replace p258 := eq_true p258; replace q258 := eq_true q258; have hcz41_0 : wr.cell? ⟨gb243, 0, none⟩ = some (.slice A0_0 l0_0.length c0_0) := (blk_cell BK243.out 0).trans rfl; have hcz41_1 : wr.cell? ⟨gb243, 1, none⟩ = some (.slice (some ad256) l0_1.length c0_1) := (blk_cell BK243.out 1).trans rfl; have hfz41_0 := blk_frozen BK243.out 0; have hfz41_1 := blk_frozen BK243.out 1; have p259 : 0 ≤ (((rd_T38 l0_1 (ji28)).f1) : Int) := oda; have q259 : ((rd_T38 l0_1 (ji28)).f1) < (l0_0.length : Int) := oda; obtain ⟨ad259, e259, hx259_0, hx259_1, hx259_2⟩ := at_T47 HR0_0.out ((rd_T38 l0_1 (ji28)).f1) p259 q259; cases e259; replace hx259_0 := zx HB.out hx259_0; replace hx259_1 := zx HB.out hx259_1; replace hx259_2 := zx HB.out hx259_2; replace p259 := eq_true p259; replace q259 := eq_true q259))
    go_meet
    case rel => exact ⟨_, ((((rd_T47 l0_0 ((rd_T38 l0_1 (ji28)).f1)).f1) != 1)), (by first | rfl | (simp; done) | (simp only [← hji28] <;> (first | rfl | (simp; done))) | (simp [*]; done)), H', ⟨by have := HK1.out; first | omega | exact Nat.le_refl _⟩, ⟨zr HO_8.out⟩, ⟨zr HO_29.out⟩, ⟨zk BK243.out⟩, ⟨zb1 HB.out GE243.out⟩⟩
   case rest =>
    clear HC31
    obtain ⟨kq, x60_30, rfl, HA, HJ30, HO_8, HO_29, BK243, HB⟩ := hcut
    cases kq with
    | zero => exact absurd HA.out (by simp [route_Loop.j1])
    | succ kj30 =>
     have H := HA.out
     clear HA
     simp only [route_Loop.j1] at H
     by_cases c42 : x60_30 = true
     ·subst c42
      have H1 : (route_Loop.l0 kj30 l1 a2 t248 x10_1 t252 (t252.length : Int) (wrap64 (x31_1 + 1)) l0_0 l0_1) = some (r1, r2) := by rw [if_pos rfl] at H; exact H
      clear H; have H := H1; clear H1
      have H' := Aside0.mk H; clear H
      go_wp2
      go_roundg kj30
      case measure => have := HK1.out; have := HJ30.out; omega
      case rel => exact ⟨(x10_1), (wrap64 (x31_1 + 1)), rs, rs, H', ⟨by have := HK1.out; have := HJ30.out; omega⟩, ⟨zr HO_8.out⟩, ⟨zr HO_29.out⟩, ⟨zk BK243.out⟩, ⟨zb1 HB.out GE243.out⟩⟩
     replace c42 := Bool.eq_false_iff.mpr c42
     subst c42
     have H1 : (if x10_1 = 0 then (route_Loop.l0 kj30 l1 a2 t248 (rd t252 x31_1) t252 (t252.length : Int) (wrap64 (x31_1 + 1)) l0_0 l0_1) else (if 0 ≤ ((rd_T38 l0_1 (ji28)).f1) then (if ((rd_T38 l0_1 (ji28)).f1) < (t248.length : Int) then (if 0 ≤ (wrap64 (x10_1 - 1)) then (if (wrap64 (x10_1 - 1)) < (l0_1.length : Int) then (if 0 ≤ ((rd_T38 l0_1 (wrap64 (x10_1 - 1))).f1) then (if ((rd_T38 l0_1 (wrap64 (x10_1 - 1))).f1) < (t248.length : Int) then (if (rd t248 ((rd_T38 l0_1 (ji28)).f1)) < (rd t248 ((rd_T38 l0_1 (wrap64 (x10_1 - 1))).f1)) then (route_Loop.l0 kj30 l1 a2 t248 (rd t252 x31_1) t252 (t252.length : Int) (wrap64 (x31_1 + 1)) l0_0 l0_1) else (route_Loop.l0 kj30 l1 a2 t248 x10_1 t252 (t252.length : Int) (wrap64 (x31_1 + 1)) l0_0 l0_1)) else (none)) else (none)) else (none)) else (none)) else (none)) else (none))) = some (r1, r2) := by rw [if_neg (show ¬ (false = true) by decide)] at H; exact H
     clear H; have H := H1; clear H1
     by_cases c43 : x10_1 = 0
     ·rw [if_pos c43] at H
      have c43b0 : (x10_1 == 0) = true := beq_iff_eq.mpr c43
      have c43b1 : (x10_1 != 0) = false := bne_eq_false_iff_eq.mpr c43
      clear c43
      have H' := Aside0.mk H; clear H
      try go_wp2
      have n0_ := Aside0.mk (Kd.R_drew HO_8.out)
      have n1_ := Aside0.mk (Kd.R_drew HO_29.out)
      have n2_ := Aside0.mk (blk_drew BK243.out)
      have n3_ := Aside0.mk (below_drew1 HB.out)
      clear HO_8
      clear HO_29
      clear BK243
      clear HB
      have HO_8 := n0_
      have HO_29 := n1_
      have BK243 := n2_
      have HB := n3_
      clear n0_ n1_ n2_ n3_
      refine start_ (n := 19) (S := fun w' => True) (ds := []) bq60 (by kernel_rfl) rfl rfl trivial (fun hHeld => ?_); refine with_tabW route_Loop.tab10 route_Loop.bits10 (fun HT_ HW_ => ?_)
      generalize wc.drew = w44 at HO_8 HO_29 BK243 HB hHeld ⊢
      refine pp_ 0 61 (v := ?_) (a' := ?_) bq61 HT_ rfl rfl ?_ ?_ ?_
      rotate_left; ·intro w'; go_simp; with_reducible rfl
      rotate_left; ·simp only [Act.put, sa, sz, ss, i64_w, i32_w]; rfl
      refine pp_ 1 62 (v := ?_) (a' := ?_) bq62 HT_ rfl rfl ?_ ?_ ?_
      rotate_left; ·intro w'; go_simp; with_reducible rfl
      rotate_left; ·simp only [Act.put, sa, sz, ss, i64_w, i32_w]; rfl
      refine pp_ 2 63 (v := ?_) (a' := ?_) bq63 HT_ rfl rfl ?_ ?_ ?_
      rotate_left; ·intro w'; go_simp; with_reducible rfl
      rotate_left; ·simp only [Act.put, sa, sz, ss, i64_w, i32_w]; rfl
      refine pu_ 3 64 (a' := ?_) bq64 HT_ rfl rfl ?_ ?_
      rotate_left; ·simp only [Act.put, sa, sz, ss, i64_w, i32_w]; rfl
      refine pu_ 4 65 (a' := ?_) bq65 HT_ rfl rfl ?_ ?_
      rotate_left; ·simp only [Act.put, sa, sz, ss, i64_w, i32_w]; rfl
      refine pu_ 5 66 (a' := ?_) bq66 HT_ rfl rfl ?_ ?_
      rotate_left; ·simp only [Act.put, sa, sz, ss, i64_w, i32_w]; rfl
      refine pu_ 6 67 (a' := ?_) bq67 HT_ rfl rfl ?_ ?_
      rotate_left; ·simp only [Act.put, sa, sz, ss, i64_w, i32_w]; rfl
      refine pu_ 7 68 (a' := ?_) bq68 HT_ rfl rfl ?_ ?_
      rotate_left; ·simp only [Act.put, sa, sz, ss, i64_w, i32_w]; rfl
      refine pu_ 8 69 (a' := ?_) bq69 HT_ rfl rfl ?_ ?_
      rotate_left; ·simp only [Act.put, sa, sz, ss, i64_w, i32_w]; rfl
      refine pu_ 9 70 (a' := ?_) bq70 HT_ rfl rfl ?_ ?_
      rotate_left; ·simp only [Act.put, sa, sz, ss, i64_w, i32_w]; rfl
      refine pu_ 10 71 (a' := ?_) bq71 HT_ rfl rfl ?_ ?_
      rotate_left; ·simp only [Act.put, sa, sz, ss, i64_w, i32_w]; rfl
      refine pu_ 11 72 (a' := ?_) bq72 HT_ rfl rfl ?_ ?_
      rotate_left; ·simp only [Act.put, sa, sz, ss, i64_w, i32_w]; rfl
      refine pu_ 12 73 (a' := ?_) bq73 HT_ rfl rfl ?_ ?_
      rotate_left; ·simp only [Act.put, sa, sz, ss, i64_w, i32_w]; rfl
      refine pu_ 13 74 (a' := ?_) bq74 HT_ rfl rfl ?_ ?_
      rotate_left; ·simp only [Act.put, sa, sz, ss, i64_w, i32_w]; rfl
      refine pu_ 14 75 (a' := ?_) bq75 HT_ rfl rfl ?_ ?_
      rotate_left; ·simp only [Act.put, sa, sz, ss, i64_w, i32_w]; rfl
      refine pu_ 15 76 (a' := ?_) bq76 HT_ rfl rfl ?_ ?_
      rotate_left; ·simp only [Act.put, sa, sz, ss, i64_w, i32_w]; rfl
      refine pu_ 16 77 (a' := ?_) bq77 HT_ rfl rfl ?_ ?_
      rotate_left; ·simp only [Act.put, sa, sz, ss, i64_w, i32_w]; rfl
      refine pu_ 17 78 (a' := ?_) bq78 HT_ rfl rfl ?_ ?_
      rotate_left; ·simp only [Act.put, sa, sz, ss, i64_w, i32_w]; rfl
      refine pp_ 18 79 (v := ?_) (a' := ?_) bq79 HT_ rfl rfl ?_ ?_ ?_
      rotate_left; ·intro w'; go_simp; with_reducible rfl
      rotate_left; ·simp only [Act.put, sa, sz, ss, i64_w, i32_w]; rfl
      refine done_ (done_of HT_.out (by kernel_rfl)) ?_
      try go_wp2
      go_roundg kj30
      case measure => have := HK1.out; have := HJ30.out; omega
      case rel => exact ⟨((rd t252 x31_1)), (wrap64 (x31_1 + 1)), rs, rs, H', ⟨by have := HK1.out; have := HJ30.out; omega⟩, ⟨zr HO_8.out⟩, ⟨zr HO_29.out⟩, ⟨zk BK243.out⟩, ⟨zb1 HB.out GE243.out⟩⟩
     rw [if_neg c43] at H
     have c43b0 : (x10_1 == 0) = false := beq_eq_false_iff_ne.mpr c43
     have c43b1 : (x10_1 != 0) = true := bne_iff_ne.mpr c43
     by_cases c45 : 0 ≤ ((rd_T38 l0_1 (ji28)).f1)
     rotate_left; ·rw [if_neg c45] at H; exact absurd H (by simp)
     rw [if_pos c45] at H
     have c45b0 : decide (0 ≤ ((rd_T38 l0_1 (ji28)).f1)) = true := decide_eq_true c45
     clear c45
     by_cases c46 : ((rd_T38 l0_1 (ji28)).f1) < (t248.length : Int)
     rotate_left; ·rw [if_neg c46] at H; exact absurd H (by simp)
     rw [if_pos c46] at H
     have c46b0 : decide (((rd_T38 l0_1 (ji28)).f1) < (t248.length : Int)) = true := decide_eq_true c46
     clear c46
     obtain ⟨ji47, hji47⟩ : ∃ j_ : Int, (wrap64 (x10_1 - 1)) = j_ := ⟨_, rfl⟩
     replace H : (if 0 ≤ (ji47) then (if (ji47) < (l0_1.length : Int) then (if 0 ≤ ((rd_T38 l0_1 (ji47)).f1) then (if ((rd_T38 l0_1 (ji47)).f1) < (t248.length : Int) then (if (rd t248 ((rd_T38 l0_1 (ji28)).f1)) < (rd t248 ((rd_T38 l0_1 (ji47)).f1)) then (route_Loop.l0 kj30 l1 a2 t248 (rd t252 x31_1) t252 (t252.length : Int) (wrap64 (x31_1 + 1)) l0_0 l0_1) else (route_Loop.l0 kj30 l1 a2 t248 x10_1 t252 (t252.length : Int) (wrap64 (x31_1 + 1)) l0_0 l0_1)) else (none)) else (none)) else (none)) else (none)) = some (r1, r2) := by first | (rw [hji47] at H; exact H) | (simp only [hji47] at H ⊢; exact H)
     have hji47w : (IntKind.i64.wrap (x10_1 - 1)) = ji47 := (i64_w _).trans hji47
     by_cases c48 : 0 ≤ (ji47)
     rotate_left; ·rw [if_neg c48] at H; exact absurd H (by simp)
     rw [if_pos c48] at H
     have c48b0 : decide (0 ≤ (ji47)) = true := decide_eq_true c48
     clear c48
     by_cases c49 : (ji47) < (l0_1.length : Int)
     rotate_left; ·rw [if_neg c49] at H; exact absurd H (by simp)
     rw [if_pos c49] at H
     have c49b0 : decide ((ji47) < (l0_1.length : Int)) = true := decide_eq_true c49
     clear c49
     by_cases c50 : 0 ≤ ((rd_T38 l0_1 (ji47)).f1)
     rotate_left; ·rw [if_neg c50] at H; exact absurd H (by simp)
     rw [if_pos c50] at H
     have c50b0 : decide (0 ≤ ((rd_T38 l0_1 (ji47)).f1)) = true := decide_eq_true c50
     clear c50
     by_cases c51 : ((rd_T38 l0_1 (ji47)).f1) < (t248.length : Int)
     rotate_left; ·rw [if_neg c51] at H; exact absurd H (by simp)
     rw [if_pos c51] at H
     have c51b0 : decide (((rd_T38 l0_1 (ji47)).f1) < (t248.length : Int)) = true := decide_eq_true c51
     clear c51
     by_cases c52 : (rd t248 ((rd_T38 l0_1 (ji28)).f1)) < (rd t248 ((rd_T38 l0_1 (ji47)).f1))
     rotate_left
     ·rw [if_neg c52] at H
      have c52b0 : decide ((rd t248 ((rd_T38 l0_1 (ji28)).f1)) < (rd t248 ((rd_T38 l0_1 (ji47)).f1))) = false := decide_eq_false c52
      clear c52
      have H' := Aside0.mk H; clear H
      try go_wp2
      have n0_ := Aside0.mk (Kd.R_drew HO_8.out)
      have n1_ := Aside0.mk (Kd.R_drew HO_29.out)
      have n2_ := Aside0.mk (blk_drew BK243.out)
      have n3_ := Aside0.mk (below_drew1 HB.out)
      clear HO_8
      clear HO_29
      clear BK243
      clear HB
      have HO_8 := n0_
      have HO_29 := n1_
      have BK243 := n2_
      have HB := n3_
      clear n0_ n1_ n2_ n3_
      obtain ⟨Ao56, co56, eo56⟩ := Kd.R_slice HO_8.out
      (first | subst eo56 | (injection eo56 with f1_ f2_ f3_; have f4_ := f1_.symm; have f5_ := f3_.symm; clear f1_ f2_ f3_; subst f4_; subst f5_))
      have p260 : 0 ≤ (((rd_T38 l0_1 (ji28)).f1) : Int) := oda
      have q260 : ((rd_T38 l0_1 (ji28)).f1) < (t248.length : Int) := oda
      obtain ⟨ad260, e260, hx260_0⟩ := Kd.at_int (Kd.R_reads' HO_8.out).2.2 ((rd_T38 l0_1 (ji28)).f1) p260 q260
      cases e260
      replace p260 := eq_true p260
      replace q260 := eq_true q260
      have p261 : 0 ≤ ((ji47) : Int) := oda
      have q261 : (ji47) < (l0_1.length : Int) := oda
      obtain ⟨ad261, e261, hx261_0, hx261_1⟩ := at_T38 HR0_1.out (ji47) p261 q261
      have hw261_1 := hx261_1
      have hw261_0 := hx261_0
      obtain rfl : ad256 = ad261 := (by injection e261)
      replace hx261_0 := zx HB.out hx261_0
      replace hx261_1 := zx HB.out hx261_1
      replace p261 := eq_true p261
      replace q261 := eq_true q261
      have p262 : 0 ≤ (((rd_T38 l0_1 (ji47)).f1) : Int) := oda
      have q262 : ((rd_T38 l0_1 (ji47)).f1) < (t248.length : Int) := oda
      obtain ⟨ad262, e262, hx262_0⟩ := Kd.at_int (Kd.R_reads' HO_8.out).2.2 ((rd_T38 l0_1 (ji47)).f1) p262 q262
      obtain rfl : ad260 = ad262 := (by injection e262)
      replace p262 := eq_true p262
      replace q262 := eq_true q262
      refine start_ (n := 19) (S := fun w' => w'.cell? ⟨gb243, 0, none⟩ = some (.slice A0_0 l0_0.length c0_0) ∧ w'.cell? ⟨gb243, 1, none⟩ = some (.slice (some ad256) l0_1.length c0_1) ∧ w'.cell? (ad260.add (((rd_T38 l0_1 (ji28)).f1)).toNat) = some (.int .i64 (rd t248 ((rd_T38 l0_1 (ji28)).f1))) ∧ w'.cell? (ad256.add (((ji47)).toNat * 2)) = some (.int .i64 ((rd_T38 l0_1 (ji47)).f0)) ∧ w'.cell? ⟨(ad256.add (((ji47)).toNat * 2)).block, (ad256.add (((ji47)).toNat * 2)).off + 1, none⟩ = some (.int .i64 ((rd_T38 l0_1 (ji47)).f1)) ∧ w'.cell? (ad260.add (((rd_T38 l0_1 (ji47)).f1)).toNat) = some (.int .i64 (rd t248 ((rd_T38 l0_1 (ji47)).f1)))) (ds := []) bq60 (by kernel_rfl) rfl rfl ⟨(blk_cell BK243.out 0).trans rfl, (blk_cell BK243.out 1).trans rfl, hx260_0, ((HB.out.cell (World.block_lt_of_cell? w _ hw261_0)).trans hw261_0), ((HB.out.cell (World.block_lt_of_cell? w _ hw261_1)).trans hw261_1), hx262_0⟩ (fun hHeld => ?_); refine with_tabW route_Loop.tab10 route_Loop.bits10 (fun HT_ HW_ => ?_)
      generalize wc.drew = w55 at HO_8 HO_29 BK243 HB hx260_0 hx261_0 hx261_1 hx262_0 hHeld ⊢
      refine pp_ 0 61 (v := ?_) (a' := ?_) bq61 HT_ rfl rfl ?_ ?_ ?_
      rotate_left; ·intro w'; go_simp; with_reducible rfl
      rotate_left; ·simp only [Act.put, sa, sz, ss, i64_w, i32_w]; rfl
      refine pp_ 1 62 (v := ?_) (a' := ?_) bq62 HT_ rfl rfl ?_ ?_ ?_
      rotate_left; ·intro w'; go_simp; with_reducible rfl
      rotate_left; ·simp only [Act.put, sa, sz, ss, i64_w, i32_w]; rfl
      refine pp_ 2 63 (v := ?_) (a' := ?_) bq63 HT_ rfl rfl ?_ ?_ ?_
      rotate_left; ·intro w'; go_simp; with_reducible rfl
      rotate_left; ·simp only [Act.put, sa, sz, ss, i64_w, i32_w]; rfl
      refine pp_ 3 64 (v := ?_) (a' := ?_) bq64 HT_ rfl rfl ?_ ?_ ?_
      rotate_left; ·intro w'; go_simp; with_reducible rfl
      rotate_left; ·simp only [Act.put, sa, sz, ss, i64_w, i32_w]; rfl
      refine pp_ 4 65 (v := ?_) (a' := ?_) bq65 HT_ rfl rfl ?_ ?_ ?_
      rotate_left; ·intro w'; go_simp; with_reducible rfl
      rotate_left; ·simp only [Act.put, sa, sz, ss, i64_w, i32_w]; rfl
      refine pp_ 5 66 (v := ?_) (a' := ?_) bq66 HT_ rfl rfl ?_ ?_ ?_
      rotate_left; ·intro w'; go_simp; with_reducible rfl
      rotate_left; ·simp only [Act.put, sa, sz, ss, i64_w, i32_w]; rfl
      refine pp_ 7 68 (v := ?_) (a' := ?_) bq80 HT_ rfl rfl ?_ ?_ ?_
      rotate_left; ·intro w'; go_simp; with_reducible rfl
      rotate_left; ·simp only [Act.put, sa, sz, ss, i64_w, i32_w]; rfl
      refine pp_ 8 69 (v := ?_) (a' := ?_) bq81 HT_ rfl rfl ?_ ?_ ?_
      rotate_left; ·intro w'; go_simp; with_reducible rfl
      rotate_left; ·simp only [Act.put, sa, sz, ss, i64_w, i32_w]; rfl
      refine pp_ 10 71 (v := ?_) (a' := ?_) bq82 HT_ rfl rfl ?_ ?_ ?_
      rotate_left; ·intro w'; go_simp; with_reducible rfl
      rotate_left; ·simp only [Act.put, sa, sz, ss, i64_w, i32_w]; rfl
      refine pp_ 11 72 (v := ?_) (a' := ?_) bq83 HT_ rfl rfl ?_ ?_ ?_
      rotate_left; ·intro w'; go_simp; with_reducible rfl
      rotate_left; ·simp only [Act.put, sa, sz, ss, i64_w, i32_w]; rfl
      refine take_ (i := 6) (N := some 67) (v := ?_) (a' := ?_) bq84 rfl rfl (take_ofW HT_.out HW_.out (by kernel_rfl)) (fun _ _ _ h => h) (Or.inl ⟨by rfl, ?_⟩) hHeld ?_ ?_
      rotate_left
      ·rintro w' ⟨s0, s1, s2, s3, s4, s5⟩
       go_simp
       with_reducible rfl
      rotate_left; ·simp only [Act.put, sa, sz, ss, i64_w, i32_w]; rfl
      refine take_ (i := 9) (N := some 70) (v := ?_) (a' := ?_) bq72 rfl rfl (take_ofW HT_.out HW_.out (by kernel_rfl)) (fun _ _ _ h => h) (Or.inl ⟨by rfl, ?_⟩) hHeld ?_ ?_
      rotate_left
      ·rintro w' ⟨s0, s1, s2, s3, s4, s5⟩
       go_simp
       with_reducible rfl
      rotate_left; ·simp only [Act.put, sa, sz, ss, i64_w, i32_w]; rfl
      refine pp_ 12 73 (v := ?_) (a' := ?_) bq73 HT_ rfl rfl ?_ ?_ ?_
      rotate_left; ·intro w'; go_simp; with_reducible rfl
      rotate_left; ·simp only [Act.put, sa, sz, ss, i64_w, i32_w]; rfl
      refine pp_ 13 74 (v := ?_) (a' := ?_) bq74 HT_ rfl rfl ?_ ?_ ?_
      rotate_left; ·intro w'; go_simp; with_reducible rfl
      rotate_left; ·simp only [Act.put, sa, sz, ss, i64_w, i32_w]; rfl
      refine take_ (i := 14) (N := some 75) (v := ?_) (a' := ?_) bq75 rfl rfl (take_ofW HT_.out HW_.out (by kernel_rfl)) (fun _ _ _ h => h) (Or.inl ⟨by rfl, ?_⟩) hHeld ?_ ?_
      rotate_left
      ·rintro w' ⟨s0, s1, s2, s3, s4, s5⟩
       go_simp
       with_reducible rfl
      rotate_left; ·simp only [Act.put, sa, sz, ss, i64_w, i32_w]; rfl
      refine pp_ 15 76 (v := ?_) (a' := ?_) bq76 HT_ rfl rfl ?_ ?_ ?_
      rotate_left; ·intro w'; go_simp; with_reducible rfl
      rotate_left; ·simp only [Act.put, sa, sz, ss, i64_w, i32_w]; rfl
      refine take_ (i := 16) (N := some 77) (v := ?_) (a' := ?_) bq77 rfl rfl (take_ofW HT_.out HW_.out (by kernel_rfl)) (fun _ _ _ h => h) (Or.inl ⟨by rfl, ?_⟩) hHeld ?_ ?_
      rotate_left
      ·rintro w' ⟨s0, s1, s2, s3, s4, s5⟩
       go_simp
       with_reducible rfl
      rotate_left; ·simp only [Act.put, sa, sz, ss, i64_w, i32_w]; rfl
      refine pp_ 17 78 (v := ?_) (a' := ?_) bq78 HT_ rfl rfl ?_ ?_ ?_
      rotate_left; ·intro w'; go_simp; with_reducible rfl
      rotate_left; ·simp only [Act.put, sa, sz, ss, i64_w, i32_w]; rfl
      refine pp_ 18 79 (v := ?_) (a' := ?_) bq79 HT_ rfl rfl ?_ ?_ ?_
      rotate_left; ·intro w'; go_simp; with_reducible rfl
      rotate_left; ·simp only [Act.put, sa, sz, ss, i64_w, i32_w]; rfl
      refine done_ (done_of HT_.out (by kernel_rfl)) ?_
      try go_wp2
      go_roundg kj30
      case measure => have := HK1.out; have := HJ30.out; omega
      case rel => exact ⟨(x10_1), (wrap64 (x31_1 + 1)), rs, rs, H', ⟨by have := HK1.out; have := HJ30.out; omega⟩, ⟨zr HO_8.out⟩, ⟨zr HO_29.out⟩, ⟨zk BK243.out⟩, ⟨zb1 HB.out GE243.out⟩⟩
     rw [if_pos c52] at H
     have c52b0 : decide ((rd t248 ((rd_T38 l0_1 (ji28)).f1)) < (rd t248 ((rd_T38 l0_1 (ji47)).f1))) = true := decide_eq_true c52
     clear c52
     have H' := Aside0.mk H; clear H
     try go_wp2
     have n0_ := Aside0.mk (Kd.R_drew HO_8.out)
     have n1_ := Aside0.mk (Kd.R_drew HO_29.out)
     have n2_ := Aside0.mk (blk_drew BK243.out)
     have n3_ := Aside0.mk (below_drew1 HB.out)
     clear HO_8
     clear HO_29
     clear BK243
     clear HB
     have HO_8 := n0_
     have HO_29 := n1_
     have BK243 := n2_
     have HB := n3_
     clear n0_ n1_ n2_ n3_
     obtain ⟨Ao54, co54, eo54⟩ := Kd.R_slice HO_8.out
     (first | subst eo54 | (injection eo54 with f1_ f2_ f3_; have f4_ := f1_.symm; have f5_ := f3_.symm; clear f1_ f2_ f3_; subst f4_; subst f5_))
     have p260 : 0 ≤ (((rd_T38 l0_1 (ji28)).f1) : Int) := oda
     have q260 : ((rd_T38 l0_1 (ji28)).f1) < (t248.length : Int) := oda
     obtain ⟨ad260, e260, hx260_0⟩ := Kd.at_int (Kd.R_reads' HO_8.out).2.2 ((rd_T38 l0_1 (ji28)).f1) p260 q260
     cases e260
     replace p260 := eq_true p260
     replace q260 := eq_true q260
     have p261 : 0 ≤ ((ji47) : Int) := oda
     have q261 : (ji47) < (l0_1.length : Int) := oda
     obtain ⟨ad261, e261, hx261_0, hx261_1⟩ := at_T38 HR0_1.out (ji47) p261 q261
     have hw261_1 := hx261_1
     have hw261_0 := hx261_0
     obtain rfl : ad256 = ad261 := (by injection e261)
     replace hx261_0 := zx HB.out hx261_0
     replace hx261_1 := zx HB.out hx261_1
     replace p261 := eq_true p261
     replace q261 := eq_true q261
     have p262 : 0 ≤ (((rd_T38 l0_1 (ji47)).f1) : Int) := oda
     have q262 : ((rd_T38 l0_1 (ji47)).f1) < (t248.length : Int) := oda
     obtain ⟨ad262, e262, hx262_0⟩ := Kd.at_int (Kd.R_reads' HO_8.out).2.2 ((rd_T38 l0_1 (ji47)).f1) p262 q262
     obtain rfl : ad260 = ad262 := (by injection e262)
     replace p262 := eq_true p262
     replace q262 := eq_true q262
     refine start_ (n := 19) (S := fun w' => w'.cell? ⟨gb243, 0, none⟩ = some (.slice A0_0 l0_0.length c0_0) ∧ w'.cell? ⟨gb243, 1, none⟩ = some (.slice (some ad256) l0_1.length c0_1) ∧ w'.cell? (ad260.add (((rd_T38 l0_1 (ji28)).f1)).toNat) = some (.int .i64 (rd t248 ((rd_T38 l0_1 (ji28)).f1))) ∧ w'.cell? (ad256.add (((ji47)).toNat * 2)) = some (.int .i64 ((rd_T38 l0_1 (ji47)).f0)) ∧ w'.cell? ⟨(ad256.add (((ji47)).toNat * 2)).block, (ad256.add (((ji47)).toNat * 2)).off + 1, none⟩ = some (.int .i64 ((rd_T38 l0_1 (ji47)).f1)) ∧ w'.cell? (ad260.add (((rd_T38 l0_1 (ji47)).f1)).toNat) = some (.int .i64 (rd t248 ((rd_T38 l0_1 (ji47)).f1)))) (ds := []) bq60 (by kernel_rfl) rfl rfl ⟨(blk_cell BK243.out 0).trans rfl, (blk_cell BK243.out 1).trans rfl, hx260_0, ((HB.out.cell (World.block_lt_of_cell? w _ hw261_0)).trans hw261_0), ((HB.out.cell (World.block_lt_of_cell? w _ hw261_1)).trans hw261_1), hx262_0⟩ (fun hHeld => ?_); refine with_tabW route_Loop.tab10 route_Loop.bits10 (fun HT_ HW_ => ?_)
     generalize wc.drew = w53 at HO_8 HO_29 BK243 HB hx260_0 hx261_0 hx261_1 hx262_0 hHeld ⊢
     refine pp_ 0 61 (v := ?_) (a' := ?_) bq61 HT_ rfl rfl ?_ ?_ ?_
     rotate_left; ·intro w'; go_simp; with_reducible rfl
     rotate_left; ·simp only [Act.put, sa, sz, ss, i64_w, i32_w]; rfl
     refine pp_ 1 62 (v := ?_) (a' := ?_) bq62 HT_ rfl rfl ?_ ?_ ?_
     rotate_left; ·intro w'; go_simp; with_reducible rfl
     rotate_left; ·simp only [Act.put, sa, sz, ss, i64_w, i32_w]; rfl
     refine pp_ 2 63 (v := ?_) (a' := ?_) bq63 HT_ rfl rfl ?_ ?_ ?_
     rotate_left; ·intro w'; go_simp; with_reducible rfl
     rotate_left; ·simp only [Act.put, sa, sz, ss, i64_w, i32_w]; rfl
     refine pp_ 3 64 (v := ?_) (a' := ?_) bq64 HT_ rfl rfl ?_ ?_ ?_
     rotate_left; ·intro w'; go_simp; with_reducible rfl
     rotate_left; ·simp only [Act.put, sa, sz, ss, i64_w, i32_w]; rfl
     refine pp_ 4 65 (v := ?_) (a' := ?_) bq65 HT_ rfl rfl ?_ ?_ ?_
     rotate_left; ·intro w'; go_simp; with_reducible rfl
     rotate_left; ·simp only [Act.put, sa, sz, ss, i64_w, i32_w]; rfl
     refine pp_ 5 66 (v := ?_) (a' := ?_) bq66 HT_ rfl rfl ?_ ?_ ?_
     rotate_left; ·intro w'; go_simp; with_reducible rfl
     rotate_left; ·simp only [Act.put, sa, sz, ss, i64_w, i32_w]; rfl
     refine pp_ 7 68 (v := ?_) (a' := ?_) bq80 HT_ rfl rfl ?_ ?_ ?_
     rotate_left; ·intro w'; go_simp; with_reducible rfl
     rotate_left; ·simp only [Act.put, sa, sz, ss, i64_w, i32_w]; rfl
     refine pp_ 8 69 (v := ?_) (a' := ?_) bq81 HT_ rfl rfl ?_ ?_ ?_
     rotate_left; ·intro w'; go_simp; with_reducible rfl
     rotate_left; ·simp only [Act.put, sa, sz, ss, i64_w, i32_w]; rfl
     refine pp_ 10 71 (v := ?_) (a' := ?_) bq82 HT_ rfl rfl ?_ ?_ ?_
     rotate_left; ·intro w'; go_simp; with_reducible rfl
     rotate_left; ·simp only [Act.put, sa, sz, ss, i64_w, i32_w]; rfl
     refine pp_ 11 72 (v := ?_) (a' := ?_) bq83 HT_ rfl rfl ?_ ?_ ?_
     rotate_left; ·intro w'; go_simp; with_reducible rfl
     rotate_left; ·simp only [Act.put, sa, sz, ss, i64_w, i32_w]; rfl
     refine take_ (i := 6) (N := some 67) (v := ?_) (a' := ?_) bq84 rfl rfl (take_ofW HT_.out HW_.out (by kernel_rfl)) (fun _ _ _ h => h) (Or.inl ⟨by rfl, ?_⟩) hHeld ?_ ?_
     rotate_left
     ·rintro w' ⟨s0, s1, s2, s3, s4, s5⟩
      go_simp
      with_reducible rfl
     rotate_left; ·simp only [Act.put, sa, sz, ss, i64_w, i32_w]; rfl
     refine take_ (i := 9) (N := some 70) (v := ?_) (a' := ?_) bq72 rfl rfl (take_ofW HT_.out HW_.out (by kernel_rfl)) (fun _ _ _ h => h) (Or.inl ⟨by rfl, ?_⟩) hHeld ?_ ?_
     rotate_left
     ·rintro w' ⟨s0, s1, s2, s3, s4, s5⟩
      go_simp
      with_reducible rfl
     rotate_left; ·simp only [Act.put, sa, sz, ss, i64_w, i32_w]; rfl
     refine pp_ 12 73 (v := ?_) (a' := ?_) bq73 HT_ rfl rfl ?_ ?_ ?_
     rotate_left; ·intro w'; go_simp; with_reducible rfl
     rotate_left; ·simp only [Act.put, sa, sz, ss, i64_w, i32_w]; rfl
     refine pp_ 13 74 (v := ?_) (a' := ?_) bq74 HT_ rfl rfl ?_ ?_ ?_
     rotate_left; ·intro w'; go_simp; with_reducible rfl
     rotate_left; ·simp only [Act.put, sa, sz, ss, i64_w, i32_w]; rfl
     refine take_ (i := 14) (N := some 75) (v := ?_) (a' := ?_) bq75 rfl rfl (take_ofW HT_.out HW_.out (by kernel_rfl)) (fun _ _ _ h => h) (Or.inl ⟨by rfl, ?_⟩) hHeld ?_ ?_
     rotate_left
     ·rintro w' ⟨s0, s1, s2, s3, s4, s5⟩
      go_simp
      with_reducible rfl
     rotate_left; ·simp only [Act.put, sa, sz, ss, i64_w, i32_w]; rfl
     refine pp_ 15 76 (v := ?_) (a' := ?_) bq76 HT_ rfl rfl ?_ ?_ ?_
     rotate_left; ·intro w'; go_simp; with_reducible rfl
     rotate_left; ·simp only [Act.put, sa, sz, ss, i64_w, i32_w]; rfl
     refine take_ (i := 16) (N := some 77) (v := ?_) (a' := ?_) bq77 rfl rfl (take_ofW HT_.out HW_.out (by kernel_rfl)) (fun _ _ _ h => h) (Or.inl ⟨by rfl, ?_⟩) hHeld ?_ ?_
     rotate_left
     ·rintro w' ⟨s0, s1, s2, s3, s4, s5⟩
      go_simp
      with_reducible rfl
     rotate_left; ·simp only [Act.put, sa, sz, ss, i64_w, i32_w]; rfl
     refine pp_ 17 78 (v := ?_) (a' := ?_) bq78 HT_ rfl rfl ?_ ?_ ?_
     rotate_left; ·intro w'; go_simp; with_reducible rfl
     rotate_left; ·simp only [Act.put, sa, sz, ss, i64_w, i32_w]; rfl
     refine pp_ 18 79 (v := ?_) (a' := ?_) bq79 HT_ rfl rfl ?_ ?_ ?_
     rotate_left; ·intro w'; go_simp; with_reducible rfl
     rotate_left; ·simp only [Act.put, sa, sz, ss, i64_w, i32_w]; rfl
     refine done_ (done_of HT_.out (by kernel_rfl)) ?_
     try go_wp2
     go_roundg kj30
     case measure => have := HK1.out; have := HJ30.out; omega
     case rel => exact ⟨((rd t252 x31_1)), (wrap64 (x31_1 + 1)), rs, rs, H', ⟨by have := HK1.out; have := HJ30.out; omega⟩, ⟨zr HO_8.out⟩, ⟨zr HO_29.out⟩, ⟨zk BK243.out⟩, ⟨zb1 HB.out GE243.out⟩⟩
end Go.Proofs.Ytbbdgndaaajejaa.PRoutePaths
