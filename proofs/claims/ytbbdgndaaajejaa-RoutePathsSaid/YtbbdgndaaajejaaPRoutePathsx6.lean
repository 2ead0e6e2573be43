-- Written by a program of this session (wip/oprint): after the pattern of the kit's print, which does not take this law. -- trimmed
import Derived.Test.YtbbdgndaaajejaaPRoutePathsx0
import Derived.Test.YtbbdgndaaajejaaPRoutePathsx4
import Derived.Test.YtbbdgndaaajejaaPRoutePathsx5
namespace Go.Proofs.Ytbbdgndaaajejaa.PRoutePaths
open Go.RowKit Go.Proofs.YtbbdgndaaajejaaW.PrintWords Go.Proofs.YtbbdgndaaajejaaW.PrintLast Go.Proofs.YtbbdgndaaajejaaW.PrintMore
attribute [local go_sem] max2_int min2_int max_two min_two max_three min_three max_four min_four   -- for this text's walks alone
set_option linter.unusedVariables false
set_option linter.unusedSimpArgs false

/-! ### route_Table: function 13 -/
def route_Table.l0 : Nat → List Int → List Int → List Int → Int → Int → List (S47) → List (S38) → Option (List Int × Int)
 | 0, _, _, _, _, _, _, _ => none
 | k + 1, x1, x8, x10, x24, x25, x193000, x193001 => if x25 < x24 then ((route_next.f k x193000 x193001 x1 x8 x25).bind fun t197 => (if x10.length < 17592186044416 then (route_Table.l0 k x1 x8 (x10 ++ [t197]) x24 (wrap64 (x25 + 1)) x193000 x193001) else (none))) else (some (x10, 0))
def route_Table.f (k : Nat) (l0_0 : List (S47)) (l0_1 : List (S38)) (l1 : List Int) (a2 : Int) : Option (List Int × Int) := (reach_To.f k l0_0 l0_1 l1 a2).bind fun bt193 => (if bt193.2 = 0 then (route_Table.l0 k l1 bt193.1 ([] : List Int) (l0_0.length : Int) 0 l0_0 l0_1) else (some (([] : List Int), bt193.2)))
theorem route_Table.mono_l : ∀ k, (∀ y0 y1 y2 y3 y4 y5 y6, LeO (route_Table.l0 k y0 y1 y2 y3 y4 y5 y6) (route_Table.l0 (k + 1) y0 y1 y2 y3 y4 y5 y6))
 | 0 => fun _ _ _ _ _ _ _ r h => by simp [route_Table.l0] at h
 | k + 1 => by
  have ih0 := route_Table.mono_l k
  ·intro y0 y1 y2 y3 y4 y5 y6
   unfold route_Table.l0
   repeat' first
   | (with_reducible exact ih0 _ _ _ _ _ _ _)
   | (with_reducible exact reach_To.mono _ _ _ _ _)
   | (with_reducible exact route_next.mono _ _ _ _ _ _)
   | (with_reducible exact LeO.refl _)
   | (with_reducible exact LeO.none _)
   | (with_reducible refine LeO.ite ?_ ?_)
   | (with_reducible refine LeO.bind ?_ (fun _ => ?_))
   | exact ih0 _ _ _ _ _ _ _
   | exact reach_To.mono _ _ _ _ _
   | exact route_next.mono _ _ _ _ _ _
   | exact LeO.none _
   | refine LeO.ite ?_ ?_
   | refine LeO.bind ?_ (fun _ => ?_)
theorem route_Table.mono : ∀ a0 a1 a2 a3 k, LeO (route_Table.f k a0 a1 a2 a3) (route_Table.f (k + 1) a0 a1 a2 a3) := by
 intro a0 a1 a2 a3 k
 have ih0 := route_Table.mono_l k
 unfold route_Table.f
 repeat' first
   | (with_reducible exact ih0 _ _ _ _ _ _ _)
   | (with_reducible exact reach_To.mono _ _ _ _ _)
   | (with_reducible exact route_next.mono _ _ _ _ _ _)
   | (with_reducible exact LeO.refl _)
   | (with_reducible exact LeO.none _)
   | (with_reducible refine LeO.ite ?_ ?_)
   | (with_reducible refine LeO.bind ?_ (fun _ => ?_))
   | exact ih0 _ _ _ _ _ _ _
   | exact reach_To.mono _ _ _ _ _
   | exact route_next.mono _ _ _ _ _ _
   | exact LeO.none _
   | refine LeO.ite ?_ ?_
   | refine LeO.bind ?_ (fun _ => ?_)
set_option maxHeartbeats 8000000 in
set_option maxRecDepth 100000 in
theorem route_Table.calls (k : Nat) (A0_0 : Option Addr) (c0_0 : Nat) (l0_0 : List (S47)) (A0_1 : Option Addr) (c0_1 : Nat) (l0_1 : List (S38)) (A1 : Option Addr) (c1 : Nat) (l1 : List Int) (a2 : Int) (r1 : List Int) (r2 : Int) (w : World) (hr0_0 : Kd.C k47 w A0_0 l0_0.length l0_0) (hc0_0 : l0_0.length ≤ c0_0) (hr0_1 : Kd.C k38 w A0_1 l0_1.length l0_1) (hc0_1 : l0_1.length ≤ c0_1) (hr1 : Kd.C (Kd.int .i64) w A1 l1.length l1) (hc1 : l1.length ≤ c1) (h : route_Table.f k l0_0 l0_1 l1 a2 = some (r1, r2)) :
  Calls Try.prog 13 #[.agg #[.slice A0_0 l0_0.length c0_0, .slice A0_1 l0_1.length c0_1], .slice A1 l1.length c1, .int .i64 a2] w fun e w' => ∃ v0_ : Value, e = .returned (.tuple #[v0_, .int .i64 r2]) ∧ Kd.R (Kd.int .i64) 3 w' w.heap.size (fun _ => True) v0_ r1 ∧ Below w.heap.size w w' := by
 have hu25 := Try.underlying25
 have HR0_0 := Aside0.mk hr0_0
 have HC0_0 := Aside0.mk hc0_0
 clear hr0_0 hc0_0
 have HR0_1 := Aside0.mk hr0_1
 have HC0_1 := Aside0.mk hc0_1
 clear hr0_1 hc0_1
 have HR1 := Aside0.mk hr1
 have HC1 := Aside0.mk hc1
 clear hr1 hc1
 have HB := Aside0.mk (Below.refl w.heap.size w)
 have H : ((reach_To.f k l0_0 l0_1 l1 a2).bind fun bt193 => (if bt193.2 = 0 then (route_Table.l0 k l1 bt193.1 ([] : List Int) (l0_0.length : Int) 0 l0_0 l0_1) else (some (([] : List Int), bt193.2)))) = some (r1, r2) := h
 clear h
 replace H := Option.bind_eq_some_iff.mp H; obtain ⟨⟨t193, t196⟩, A40, H⟩ := H
 replace H : (if t196 = 0 then (route_Table.l0 k l1 t193 ([] : List Int) (l0_0.length : Int) 0 l0_0 l0_1) else (some (([] : List Int), t196))) = some (r1, r2) := H
 have A4 := Aside0.mk A40
 clear A40
 by_cases c5 : t196 = 0
 rotate_left
 ·rw [if_neg c5] at H
  have c5b0 : (t196 == 0) = false := beq_eq_false_iff_ne.mpr c5
  have c5b1 : (t196 != 0) = true := bne_iff_ne.mpr c5
  simp only [Option.some.injEq, Prod.mk.injEq] at H
  obtain ⟨rfl, rfl⟩ := H
  go_enter Try.func13, Try.ntmps13
  go_wp2_with (first | ((with_reducible refine gate_dst (N := 3) rfl ?_); refine box_event ?hg (N := 3) ?hd (cs := #[.slice A0_0 l0_0.length c0_0, .slice A0_1 l0_1.length c0_1]) (t := 25) ?hr ?_; (case hd => rfl); (case hg => rfl); (case hr => first | (go_simp; done) | (go_simp; rfl)); intro gb192 hg w17 hbox hb; have BK192 := Aside0.mk (hbox); have GW192 := Aside0.mk ((by rw [hg]; exact (below_size (zb0 HB.out)) : w.heap.size ≤ gb192)); have GE192 := Aside0.mk ((by rw [hg]; exact (below_size (zb0 HB.out)) : w.heap.size ≤ gb192)); replace HB := Aside0.mk (below_step (zb0 HB.out) hb); clear hb hbox hg; have hcz18_0 : w17.cell? ⟨gb192, 0, none⟩ = some (.slice A0_0 l0_0.length c0_0) := (blk_cell BK192.out 0).trans rfl; have hcz18_1 : w17.cell? ⟨gb192, 1, none⟩ = some (.slice A0_1 l0_1.length c0_1) := (blk_cell BK192.out 1).trans rfl; have hfz18_0 := blk_frozen BK192.out 0; have hfz18_1 := blk_frozen BK192.out 1) | ((with_reducible refine gate_callee (f := 28) rfl ?_); refine goesL_ (some 16) rfl rfl Try.func28 (by kernel_rfl) rfl #[.agg #[.slice A0_0 l0_0.length c0_0, .slice A0_1 l0_1.length c0_1], .slice A1 l1.length c1, .int .i64 a2] rfl am ?_; (with_reducible refine (reach_To.calls k _ _ l0_0 _ _ l0_1 _ _ l1 a2 t193 t196 _ ?side1 ?side2 ?side3 ?side4 ?side5 ?side6 A4.out).mono ?_); (case side1 => exact zc HR0_0.out HB.out); (case side2 => exact HC0_0.out); (case side3 => exact zc HR0_1.out HB.out); (case side4 => exact HC0_1.out); (case side5 => exact zc HR1.out HB.out); (case side6 => exact HC1.out); rintro e w19 ⟨v194, rfl, ho0, hb⟩; refine ⟨_, rfl, ?_⟩; have HO195 := Aside0.mk (Kd.R_lower ho0 (below_size (zb1 HB.out GE192.out))); replace BK192 := Aside0.mk (blk_below (g := gb192) (o := .cells #[.slice A0_0 l0_0.length c0_0, .slice A0_1 l0_1.length c0_1] 25 (0, 0)) (zk BK192.out) hb); replace HB := Aside0.mk (below_step (zb1 HB.out GE192.out) hb); (try clear hb); (try clear ho0)))
  go_ret2
  exact ⟨_, by first | rfl | (simp [errW_none, errW_some] <;> rfl) | (simp [*, errW_none, errW_some] <;> rfl), by first | exact Kd.R_nil _ _ _ _ _ | exact Kd.N_nil _ _ _ _ _ | exact Kd.V_nil _ _ _ _ _ | exact Kd.Q_nil _ _ _ _ _ | exact Kd.S_nil _ _ _ _ _, zb1 HB.out GE192.out⟩

 rw [if_pos c5] at H
 have c5b0 : (t196 == 0) = true := beq_iff_eq.mpr c5
 have c5b1 : (t196 != 0) = false := bne_eq_false_iff_eq.mpr c5
 clear c5
 have H' := Aside0.mk H; clear H
 go_enter Try.func13, Try.ntmps13
 go_wp2_with (first | ((with_reducible refine gate_dst (N := 3) rfl ?_); refine box_event ?hg (N := 3) ?hd (cs := #[.slice A0_0 l0_0.length c0_0, .slice A0_1 l0_1.length c0_1]) (t := 25) ?hr ?_; (case hd => rfl); (case hg => rfl); (case hr => first | (go_simp; done) | (go_simp; rfl)); intro gb192 hg w6 hbox hb; have BK192 := Aside0.mk (hbox); have GW192 := Aside0.mk ((by rw [hg]; exact (below_size (zb0 HB.out)) : w.heap.size ≤ gb192)); have GE192 := Aside0.mk ((by rw [hg]; exact (below_size (zb0 HB.out)) : w.heap.size ≤ gb192)); replace HB := Aside0.mk (below_step (zb0 HB.out) hb); clear hb hbox hg; have hcz7_0 : w6.cell? ⟨gb192, 0, none⟩ = some (.slice A0_0 l0_0.length c0_0) := (blk_cell BK192.out 0).trans rfl; have hcz7_1 : w6.cell? ⟨gb192, 1, none⟩ = some (.slice A0_1 l0_1.length c0_1) := (blk_cell BK192.out 1).trans rfl; have hfz7_0 := blk_frozen BK192.out 0; have hfz7_1 := blk_frozen BK192.out 1) | ((with_reducible refine gate_callee (f := 28) rfl ?_); refine goesL_ (some 16) rfl rfl Try.func28 (by kernel_rfl) rfl #[.agg #[.slice A0_0 l0_0.length c0_0, .slice A0_1 l0_1.length c0_1], .slice A1 l1.length c1, .int .i64 a2] rfl am ?_; (with_reducible refine (reach_To.calls k _ _ l0_0 _ _ l0_1 _ _ l1 a2 t193 t196 _ ?side1 ?side2 ?side3 ?side4 ?side5 ?side6 A4.out).mono ?_); (case side1 => exact zc HR0_0.out HB.out); (case side2 => exact HC0_0.out); (case side3 => exact zc HR0_1.out HB.out); (case side4 => exact HC0_1.out); (case side5 => exact zc HR1.out HB.out); (case side6 => exact HC1.out); rintro e w8 ⟨v194, rfl, ho0, hb⟩; refine ⟨_, rfl, ?_⟩; have HO195 := Aside0.mk (Kd.R_lower ho0 (below_size (zb1 HB.out GE192.out))); replace BK192 := Aside0.mk (blk_below (g := gb192) (o := .cells #[.slice A0_0 l0_0.length c0_0, .slice A0_1 l0_1.length c0_1] 25 (0, 0)) (zk BK192.out) hb); replace HB := Aside0.mk (below_step (zb1 HB.out GE192.out) hb); (try clear hb); (try clear ho0); have hcz9_0 : w8.cell? ⟨gb192, 0, none⟩ = some (.slice A0_0 l0_0.length c0_0) := (blk_cell BK192.out 0).trans rfl; have hcz9_1 : w8.cell? ⟨gb192, 1, none⟩ = some (.slice A0_1 l0_1.length c0_1) := (blk_cell BK192.out 1).trans rfl; have hfz9_0 := blk_frozen BK192.out 0; have hfz9_1 := blk_frozen BK192.out 1))
 go_loopg [10, 25] k (fun kq v10 v25 w' => ∃ (x10_1 : List Int) (x25_1 : Int), v25 = .int .i64 x25_1 ∧ Aside0 (route_Table.l0 kq l1 t193 x10_1 (l0_0.length : Int) x25_1 l0_0 l0_1 = some (r1, r2)) ∧ Aside0 (kq ≤ k) ∧ Aside0 (Kd.R (Kd.int .i64) 3 w' w.heap.size (fun k_ => some k_ ≠ (v10 : Value).ownBlock) v194 t193) ∧ Aside0 (Kd.R (Kd.int .i64) 3 w' w.heap.size (fun k_ => some k_ ≠ (v194 : Value).ownBlock) v10 x10_1) ∧ Aside0 (w'.heap[gb192]? = some (.cells #[(.slice A0_0 l0_0.length c0_0), (.slice A0_1 l0_1.length c0_1)] 25 (0, 0))) ∧ Aside0 (Below w.heap.size w w'))
 case atStart => exact ⟨(([] : List Int)), (0), rs, H', ⟨Nat.le_refl _⟩, ⟨by (with_reducible repeat (first | apply Kd.R_alloc | apply Kd.R_drewN | apply Kd.R_drew)); exact Kd.R_mono HO195.out (fun _ hk => (by simp [Value.ownBlock]))⟩, ⟨by first | exact Kd.R_nil _ _ _ _ _ | exact Kd.N_nil _ _ _ _ _ | exact Kd.V_nil _ _ _ _ _ | exact Kd.Q_nil _ _ _ _ _ | exact Kd.S_nil _ _ _ _ _⟩, ⟨zk BK192.out⟩, ⟨zb1 HB.out GE192.out⟩⟩
 case round =>
  clear H'
  obtain ⟨x10_1, x25_1, rfl, HA, HK1, HO_8, HO_10, BK192, HB⟩ := hrel
  cases gk with
  | zero => exact absurd HA.out (by simp [route_Table.l0])
  | succ k1 =>
   have H := HA.out
   clear HA
   simp only [route_Table.l0] at H
   by_cases c10 : x25_1 < (l0_0.length : Int)
   rotate_left
   ·rw [if_neg c10] at H
    have c10b0 : decide (x25_1 < (l0_0.length : Int)) = false := decide_eq_false c10
    clear c10
    simp only [Option.some.injEq, Prod.mk.injEq] at H
    obtain ⟨rfl, rfl⟩ := H
    go_wp2
    go_ret2
    exact ⟨_, by first | rfl | (simp [errW_none, errW_some] <;> rfl) | (simp [*, errW_none, errW_some] <;> rfl), by (with_reducible repeat (first | apply Kd.R_alloc | apply Kd.R_drewN | apply Kd.R_drew)); exact Kd.R_mono HO_10.out (fun _ hk => trivial), zb1 HB.out GE192.out⟩
   rw [if_pos c10] at H
   have c10b0 : decide (x25_1 < (l0_0.length : Int)) = true := decide_eq_true c10
   clear c10
   replace H := Option.bind_eq_some_iff.mp H; obtain ⟨t197, A110, H⟩ := H
   replace H : (if x10_1.length < 17592186044416 then (route_Table.l0 k1 l1 t193 (x10_1 ++ [t197]) (l0_0.length : Int) (wrap64 (x25_1 + 1)) l0_0 l0_1) else (none)) = some (r1, r2) := H
   have A11 := Aside0.mk A110
   clear A110
   by_cases c12 : x10_1.length < 17592186044416
   rotate_left; ·rw [if_neg c12] at H; exact absurd H (by simp)
   rw [if_pos c12] at H
   have LMc12 := Aside0.mk c12
   clear c12
   obtain ⟨y198, hy198⟩ : ∃ y_ : List Int, y_ = (x10_1 ++ [t197]) := ⟨_, rfl⟩
   replace H : (route_Table.l0 k1 l1 t193 y198 (l0_0.length : Int) (wrap64 (x25_1 + 1)) l0_0 l0_1) = some (r1, r2) := by first | (rw [hy198]; with_reducible exact H) | (have H2_ := (Option.bind_some _ _).symm.trans H; rw [hy198]; with_reducible exact H2_) | (have H2_ := (Option.bind_some _ _).symm.trans H; with_reducible exact H2_) | with_reducible exact H | (rw [hy198]; exact H) | exact H
   have Ny198 := Aside0.mk hy198
   clear hy198
   have H' := Aside0.mk H; clear H
   have hcz13_0 : wr.cell? ⟨gb192, 0, none⟩ = some (.slice A0_0 l0_0.length c0_0) := (blk_cell BK192.out 0).trans rfl
   have hcz13_1 : wr.cell? ⟨gb192, 1, none⟩ = some (.slice A0_1 l0_1.length c0_1) := (blk_cell BK192.out 1).trans rfl
   have hfz13_0 := blk_frozen BK192.out 0
   have hfz13_1 := blk_frozen BK192.out 1
   obtain ⟨Ao14, co14, eo14⟩ := Kd.R_slice HO_8.out
   subst eo14
   go_wp2_with (first | ((with_reducible refine gate_callee (f := 29) rfl ?_); refine goesL_ (some 33) rfl rfl Try.func29 (by kernel_rfl) rfl #[.agg #[.slice A0_0 l0_0.length c0_0, .slice A0_1 l0_1.length c0_1], .slice A1 l1.length c1, .slice Ao14 t193.length co14, .int .i64 x25_1] rfl am ?_; (with_reducible refine (route_next.calls k1 _ _ l0_0 _ _ l0_1 _ _ l1 _ _ t193 x25_1 t197 _ ?side1 ?side2 ?side3 ?side4 ?side5 ?side6 ?side7 ?side8 A11.out).mono ?_); (case side1 => exact zc HR0_0.out HB.out); (case side2 => exact HC0_0.out); (case side3 => exact zc HR0_1.out HB.out); (case side4 => exact HC0_1.out); (case side5 => exact zc HR1.out HB.out); (case side6 => exact HC1.out); (case side7 => exact zd (Kd.R_reads' HO_8.out).2.2); (case side8 => exact (Kd.R_reads' HO_8.out).2.1); rintro e w15 ⟨rfl, hb⟩; refine ⟨_, rfl, ?_⟩; replace HO_8 := Aside0.mk (Kd.R_below (zr HO_8.out) hb); replace HO_10 := Aside0.mk (Kd.R_below (zr HO_10.out) hb); replace BK192 := Aside0.mk (blk_below (g := gb192) (o := .cells #[.slice A0_0 l0_0.length c0_0, .slice A0_1 l0_1.length c0_1] 25 (0, 0)) (zk BK192.out) hb); replace HB := Aside0.mk (below_step (zb1 HB.out GE192.out) hb); (try clear hb)) | ((with_reducible refine gate_builtin (b := .append) (xs := #[.tmp 28, .tmp 34]) rfl ?_); at_builtin; refine Kd.R_append (Kd.int .i64) (w0 := w) w.heap.size rfl (.tmp 28) (.tmp 34) 26 3 (.int .i64 0) 8 rfl Try.underlying26 info3 rfl (by decide) (by omega) u10 x10_1 t197 [.int .i64 t197] (fun k_ => some k_ ≠ (.slice Ao14 t193.length co14 : Value).ownBlock) (fun _ => False) rfl rfl ?aP (fun _ hk => hk.elim) ?aF ?aO ?aB ?aS ?aL ?_; (case aP => exact rfl); (case aB => exact (zb1 HB.out GE192.out)); (case aF => exact (fun k_ hk => Kd.fresh' (Kd.R_lt (zr HO_8.out)) k_ hk)); (case aO => exact (zr HO_10.out)); (case aS => exact (below_size (zb1 HB.out GE192.out))); (case aL => have := LMc12.out; omega); intro v199 w16 ho hb hg hat; rw [← Ny198.out] at ho; replace HO_8 := Aside0.mk (Kd.R_after (ok := (fun _ => True)) (by (with_reducible repeat (first | apply Kd.R_alloc | apply Kd.R_drewN | apply Kd.R_drew)); exact Kd.R_mono HO_8.out (fun _ hk => ⟨trivial, hk⟩)) hg hat); replace BK192 := Aside0.mk (blk_grown (g := gb192) (o := .cells #[.slice A0_0 l0_0.length c0_0, .slice A0_1 l0_1.length c0_1] 25 (0, 0)) (zk BK192.out) hg (Kd.R_ne HO_10.out BK192.out (by decide))); replace HB := Aside0.mk (hb); have HO200 := Aside0.mk (ho); clear HO_10; clear ho hb hg hat))
   go_roundg k1
   case measure => have := HK1.out; omega
   case rel => exact ⟨(y198), (wrap64 (x25_1 + 1)), rs, H', ⟨by have := HK1.out; omega⟩, ⟨by (with_reducible repeat (first | apply Kd.R_alloc | apply Kd.R_drewN | apply Kd.R_drew)); exact Kd.R_mono HO_8.out (fun _ hk => hk.2)⟩, ⟨zr HO200.out⟩, ⟨zk BK192.out⟩, ⟨zb1 HB.out GE192.out⟩⟩
/-! ### stillageref01_Ints: function 15 -/
def stillageref01_Ints.l0 : Nat → List Int → List Int → Int → Int → Option (Bool)
 | 0, _, _, _, _ => none
 | k + 1, x0, x1, x12, x13 => if x13 < x12 then (if 0 ≤ x13 then (if x13 < (x0.length : Int) then (if x13 < (x1.length : Int) then (if (rd x0 x13) = (rd x1 x13) then (stillageref01_Ints.l0 k x0 x1 x12 (wrap64 (x13 + 1))) else (some false)) else (none)) else (none)) else (none)) else (some true)
def stillageref01_Ints.f (k : Nat) (l0 : List Int) (l1 : List Int) : Option (Bool) := if (l0.length : Int) = (l1.length : Int) then (stillageref01_Ints.l0 k l0 l1 (l0.length : Int) 0) else (some false)
theorem stillageref01_Ints.mono_l : ∀ k, (∀ y0 y1 y2 y3, LeO (stillageref01_Ints.l0 k y0 y1 y2 y3) (stillageref01_Ints.l0 (k + 1) y0 y1 y2 y3))
 | 0 => fun _ _ _ _ r h => by simp [stillageref01_Ints.l0] at h
 | k + 1 => by
  have ih0 := stillageref01_Ints.mono_l k
  ·intro y0 y1 y2 y3
   unfold stillageref01_Ints.l0
   repeat' first
   | (with_reducible exact ih0 _ _ _ _)
   | (with_reducible exact LeO.refl _)
   | (with_reducible exact LeO.none _)
   | (with_reducible refine LeO.ite ?_ ?_)
   | (with_reducible refine LeO.bind ?_ (fun _ => ?_))
   | exact ih0 _ _ _ _
   | exact LeO.none _
   | refine LeO.ite ?_ ?_
   | refine LeO.bind ?_ (fun _ => ?_)
theorem stillageref01_Ints.mono : ∀ a0 a1 k, LeO (stillageref01_Ints.f k a0 a1) (stillageref01_Ints.f (k + 1) a0 a1) := by
 intro a0 a1 k
 have ih0 := stillageref01_Ints.mono_l k
 unfold stillageref01_Ints.f
 repeat' first
   | (with_reducible exact ih0 _ _ _ _)
   | (with_reducible exact LeO.refl _)
   | (with_reducible exact LeO.none _)
   | (with_reducible refine LeO.ite ?_ ?_)
   | (with_reducible refine LeO.bind ?_ (fun _ => ?_))
   | exact ih0 _ _ _ _
   | exact LeO.none _
   | refine LeO.ite ?_ ?_
   | refine LeO.bind ?_ (fun _ => ?_)
set_option maxHeartbeats 8000000 in
set_option maxRecDepth 100000 in
theorem stillageref01_Ints.calls (k : Nat) (A0 : Option Addr) (c0 : Nat) (l0 : List Int) (A1 : Option Addr) (c1 : Nat) (l1 : List Int) (r : Bool) (w : World) (hr0 : Kd.C (Kd.int .i64) w A0 l0.length l0) (hc0 : l0.length ≤ c0) (hr1 : Kd.C (Kd.int .i64) w A1 l1.length l1) (hc1 : l1.length ≤ c1) (h : stillageref01_Ints.f k l0 l1 = some r) :
  Calls Try.prog 15 #[.slice A0 l0.length c0, .slice A1 l1.length c1] w fun e w' => e = .returned (.bool r) ∧ Drawn0 w w' := by
 have HR0 := Aside0.mk hr0
 have HC0 := Aside0.mk hc0
 clear hr0 hc0
 have HR1 := Aside0.mk hr1
 have HC1 := Aside0.mk hc1
 clear hr1 hc1
 have H : (if (l0.length : Int) = (l1.length : Int) then (stillageref01_Ints.l0 k l0 l1 (l0.length : Int) 0) else (some false)) = some r := h
 clear h
 by_cases c3 : (l0.length : Int) = (l1.length : Int)
 rotate_left
 ·rw [if_neg c3] at H
  have c3b0 : ((l0.length : Int) == (l1.length : Int)) = false := beq_eq_false_iff_ne.mpr c3
  have c3b1 : ((l0.length : Int) != (l1.length : Int)) = true := bne_iff_ne.mpr c3
  have c3b2 : (l0.length == l1.length) = false := by first | simpa using c3 | (simp at c3 ⊢; omega)
  obtain rfl := Option.some.inj H
  go_enter Try.func15, Try.ntmps15
  go_wp2
  repeat (go_quiet (fail); try go_wp2)
  go_ret
  exact ⟨by first | rfl | (simp; done) | (simp [*]; done), by repeat (first | exact Drawn0.refl _ | apply Drawn0.step)⟩

 rw [if_pos c3] at H
 have c3b0 : ((l0.length : Int) == (l1.length : Int)) = true := beq_iff_eq.mpr c3
 have c3b1 : ((l0.length : Int) != (l1.length : Int)) = false := bne_eq_false_iff_eq.mpr c3
 have c3b2 : (l0.length == l1.length) = true := by first | simpa using c3 | (simp at c3 ⊢; omega)
 clear c3
 have H' := Aside0.mk H; clear H
 go_enter Try.func15, Try.ntmps15
 go_wp2
 repeat (go_quiet (fail); try go_wp2)
 go_loopg [13] k (fun kq v13 w' => ∃ (x13_1 : Int), v13 = .int .i64 x13_1 ∧ Aside0 (stillageref01_Ints.l0 kq l0 l1 (l0.length : Int) x13_1 = some r) ∧ Aside0 (kq ≤ k) ∧ Drawn0 w w')
 case atStart => exact ⟨(0), rs, H', ⟨Nat.le_refl _⟩, by repeat (first | exact Drawn0.refl _ | apply Drawn0.step)⟩
 case round =>
  clear H'
  obtain ⟨x13_1, rfl, HA, HK1, ⟨m1, rfl⟩⟩ := hrel
  cases gk with
  | zero => exact absurd HA.out (by simp [stillageref01_Ints.l0])
  | succ k1 =>
   have H := HA.out
   clear HA
   simp only [stillageref01_Ints.l0] at H
   by_cases c4 : x13_1 < (l0.length : Int)
   rotate_left
   ·rw [if_neg c4] at H
    have c4b0 : decide (x13_1 < (l0.length : Int)) = false := decide_eq_false c4
    clear c4
    obtain rfl := Option.some.inj H
    go_wp2
    repeat (go_quiet (fail); try go_wp2)
    go_ret
    exact ⟨by first | rfl | (simp; done) | (simp [*]; done), by repeat (first | exact Drawn0.refl _ | apply Drawn0.step)⟩
   rw [if_pos c4] at H
   have c4b0 : decide (x13_1 < (l0.length : Int)) = true := decide_eq_true c4
   clear c4
   by_cases c5 : 0 ≤ x13_1
   rotate_left; ·rw [if_neg c5] at H; exact absurd H (by simp)
   rw [if_pos c5] at H
   have c5b0 : decide (0 ≤ x13_1) = true := decide_eq_true c5
   clear c5
   by_cases c6 : x13_1 < (l0.length : Int)
   rotate_left; ·rw [if_neg c6] at H; exact absurd H (by simp)
   rw [if_pos c6] at H
   have c6b0 : decide (x13_1 < (l0.length : Int)) = true := decide_eq_true c6
   clear c6
   by_cases c7 : x13_1 < (l1.length : Int)
   rotate_left; ·rw [if_neg c7] at H; exact absurd H (by simp)
   rw [if_pos c7] at H
   have c7b0 : decide (x13_1 < (l1.length : Int)) = true := decide_eq_true c7
   clear c7
   by_cases c8 : (rd l0 x13_1) = (rd l1 x13_1)
   rotate_left
   ·rw [if_neg c8] at H
    have c8b0 : ((rd l0 x13_1) == (rd l1 x13_1)) = false := beq_eq_false_iff_ne.mpr c8
    have c8b1 : ((rd l0 x13_1) != (rd l1 x13_1)) = true := bne_iff_ne.mpr c8
    obtain rfl := Option.some.inj H
    have p201 : 0 ≤ (x13_1 : Int) := oda
    have q201 : x13_1 < (l0.length : Int) := oda
    obtain ⟨ad201, e201, hx201_0⟩ := Kd.at_int HR0.out x13_1 p201 q201
    cases e201
    replace p201 := eq_true p201
    replace q201 := eq_true q201
    have p202 : 0 ≤ (x13_1 : Int) := oda
    have q202 : x13_1 < (l1.length : Int) := oda
    obtain ⟨ad202, e202, hx202_0⟩ := Kd.at_int HR1.out x13_1 p202 q202
    cases e202
    replace p202 := eq_true p202
    replace q202 := eq_true q202
    go_wp2
    repeat (go_quiet (fail); try go_wp2)
    go_ret
    exact ⟨by first | rfl | (simp; done) | (simp [*]; done), by repeat (first | exact Drawn0.refl _ | apply Drawn0.step)⟩
   rw [if_pos c8] at H
   have c8b0 : ((rd l0 x13_1) == (rd l1 x13_1)) = true := beq_iff_eq.mpr c8
   have c8b1 : ((rd l0 x13_1) != (rd l1 x13_1)) = false := bne_eq_false_iff_eq.mpr c8
   clear c8
   have H' := Aside0.mk H; clear H
   have p201 : 0 ≤ (x13_1 : Int) := oda
   have q201 : x13_1 < (l0.length : Int) := oda
   obtain ⟨ad201, e201, hx201_0⟩ := Kd.at_int HR0.out x13_1 p201 q201
   cases e201
   replace p201 := eq_true p201
   replace q201 := eq_true q201
   have p202 : 0 ≤ (x13_1 : Int) := oda
   have q202 : x13_1 < (l1.length : Int) := oda
   obtain ⟨ad202, e202, hx202_0⟩ := Kd.at_int HR1.out x13_1 p202 q202
   cases e202
   replace p202 := eq_true p202
   replace q202 := eq_true q202
   go_wp2
   repeat (go_quiet (fail); try go_wp2)
   go_roundg k1
   case measure => have := HK1.out; omega
   case rel => exact ⟨(wrap64 (x13_1 + 1)), rs, H', ⟨by have := HK1.out; omega⟩, by repeat (first | exact Drawn0.refl _ | apply Drawn0.step)⟩
/-! ### route_out: function 30, given -/
def route_out.f (l0_0 : List S47) (l0_1 : List S38) (l1 : List Int) : Option Bool := some (l1.any fun i => decide (i < 0) || decide (i ≥ (l0_0.length : Int)))
set_option maxHeartbeats 1000000 in
theorem route_out.lit (W : World) (B n c : Nat) (A : Option Addr) (x : Int) (hc : W.cell? ⟨B, 0, none⟩ = some (.slice A n c)) :
  Calls Try.prog 41 #[.int .i64 x, .pointer (some ⟨B, 0, none⟩)] W fun e w' => e = .returned (.bool (decide (x < 0) || decide (x ≥ (n : Int)))) ∧ ∃ q, w' = W.drewN q := by
 have hu25 := Try.underlying25
 have hu22 := Try.underlying22
 by_cases h1 : x < 0 <;> by_cases h2 : x ≥ (n : Int)
 all_goals
  go_enter Try.func41, Try.ntmps41
  go_wp2
  all_goals first | (exfalso; omega) | (go_ret; exact ⟨by simp [h1, h2], 0, rfl⟩)
set_option maxHeartbeats 2000000 in
theorem route_out.idx (A1 : Option Addr) (c1 : Nat) (l1 : List Int) (w : World) (b : Value) (p : Int → Bool) (hr1 : Kd.C (Kd.int .i64) w A1 l1.length l1)
  (hp : ∀ (x : Int) (q : Nat), Calls Try.prog 41 #[.int .i64 x, b] (w.drewN q) fun e w' => e = .returned (.bool (p x)) ∧ ∃ q', w' = (w.drewN q).drewN q') :
  Calls Try.prog 48 #[.slice A1 l1.length c1, .func (.func 41) #[] #[b]] w fun e w' => (∃ i : Int, e = .returned (.int .i64 i) ∧ decide (i ≥ 0) = l1.any p) ∧ ∃ q, w' = w.drewN q := by
 have eg : ∀ args w, (callFunc 41 args).run Try.prog w = .ok (.enter 41 args) w := enters_of Try.func41 (by kernel_rfl) rfl
 have hlen : l1.length ≤ 9223372036854775807 := hr1.2.1
 have HR1 := Aside0.mk hr1
 have HP := Aside0.mk hp
 clear hr1 hp
 go_enter Try.func48, Try.ntmps48
 go_wp2
 go_loopg [5, 8] l1.length (fun gg _ s8 wr => ∃ kk q : Nat, kk ≤ l1.length ∧ l1.length - kk ≤ gg ∧ s8 = .int .i64 kk ∧ wr = w.drewN q ∧ Aside0 ((l1.take kk).any p = false))
 case atStart => exact ⟨0, 0, Nat.zero_le _, by omega, rfl, rfl, ⟨by simp⟩⟩
 case round =>
  obtain ⟨kk, q, hkk, hg, rfl, rfl, A⟩ := hrel
  by_cases hlt : kk < l1.length
  rotate_left
  ·have hltz : ¬ (kk : Int) < (l1.length : Int) := by omega
   have : kk = l1.length := by omega
   subst this
   have hr := A.out
   rw [List.take_length] at hr
   go_wp2
   go_ret
   exact ⟨⟨-1, rfl, by first | omega | (rw [hr]; rfl) | (simp [hr]; done)⟩, q, rfl⟩
  have hltz : (kk : Int) < (l1.length : Int) := by omega
  obtain ⟨ad, ead, hx⟩ := Kd.at_int HR1.out (kk : Int) (by omega) hltz
  cases ead
  have hxy : rd l1 (kk : Int) = l1[kk] := by simp [rd, List.getElem?_eq_getElem hlt]
  have T : l1.take (kk + 1) = l1.take kk ++ [l1[kk]] := by rw [List.take_succ_eq_append_getElem hlt]
  rw [hxy] at hx
  simp only [Int.toNat_natCast] at hx
  have hall : l1.any p = ((l1.take (kk + 1)).any p || (l1.drop (kk + 1)).any p) := by rw [← List.any_append, List.take_append_drop]
  have hcall := HP.out l1[kk]
  have HW := Aside0.mk (show wrap64 ((kk : Int) + 1) = ((kk + 1 : Nat) : Int) by unfold wrap64; omega)
  cases hq : p l1[kk] with
  | true =>
   rw [hq] at hcall
   have hr : l1.any p = true := by rw [hall, T, List.any_append]; simp [hq]
   generalize l1[kk] = y at hx hcall
   clear T hall hxy hq
   go_wp2_with (go_at_call 41; refine (hcall _).mono ?_; rintro e w' ⟨rfl, q', rfl⟩)
   go_ret
   exact ⟨⟨(kk : Int), rfl, by first | omega | (rw [hr]; exact decide_eq_true (by omega)) | (simp [hr]; done)⟩, _, rfl⟩
  | false =>
   rw [hq] at hcall
   have hr : (l1.take (kk + 1)).any p = false := by rw [T, List.any_append, A.out]; simp [hq]
   generalize l1[kk] = y at hx hcall
   clear T hall hxy hq
   go_wp2_with (go_at_call 41; refine (hcall _).mono ?_; rintro e w' ⟨rfl, q', rfl⟩)
   go_roundg (l1.length - (kk + 1))
   case measure => omega
   case rel => exact ⟨kk + 1, _, by omega, by omega, (by first | exact congrArg _ HW.out | rfl | (simp; done)), rfl, ⟨hr⟩⟩
set_option maxHeartbeats 1000000 in
theorem route_out.any (A1 : Option Addr) (c1 : Nat) (l1 : List Int) (w : World) (b : Value) (p : Int → Bool) (hr1 : Kd.C (Kd.int .i64) w A1 l1.length l1)
  (hp : ∀ (x : Int) (q : Nat), Calls Try.prog 41 #[.int .i64 x, b] (w.drewN q) fun e w' => e = .returned (.bool (p x)) ∧ ∃ q', w' = (w.drewN q).drewN q') :
  Calls Try.prog 40 #[.slice A1 l1.length c1, .func (.func 41) #[] #[b]] w fun e w' => e = .returned (.bool (l1.any p)) ∧ ∃ q, w' = w.drewN q := by
 have HI := Aside0.mk (route_out.idx A1 c1 l1 w b p hr1 hp)
 clear hr1 hp
 go_enter Try.func40, Try.ntmps40
 go_wp2_with (go_at_call 48; refine HI.out.mono ?_; rintro e w' ⟨⟨i, rfl, hi⟩, q, rfl⟩; have hi := Aside0.mk hi)
 go_ret
 exact ⟨by rw [← hi.out]; rfl, q, rfl⟩
set_option maxHeartbeats 1000000 in
theorem route_out.calls (A0_0 : Option Addr) (c0_0 : Nat) (l0_0 : List S47) (A0_1 : Option Addr) (c0_1 : Nat) (l0_1 : List S38) (A1 : Option Addr) (c1 : Nat) (l1 : List Int) (r : Bool) (w : World) (hr0_0 : Kd.C k47 w A0_0 l0_0.length l0_0) (hc0_0 : l0_0.length ≤ c0_0) (hr0_1 : Kd.C k38 w A0_1 l0_1.length l0_1) (hc0_1 : l0_1.length ≤ c0_1) (hr1 : Kd.C (Kd.int .i64) w A1 l1.length l1) (hc1 : l1.length ≤ c1) (h : route_out.f l0_0 l0_1 l1 = some r) :
  Calls Try.prog 30 #[.agg #[.slice A0_0 l0_0.length c0_0, .slice A0_1 l0_1.length c0_1], .slice A1 l1.length c1] w fun e w' => e = .returned (.bool r) ∧ Below w.heap.size w w' := by
 obtain rfl := Option.some.inj h
 clear h
 have hu25 := Try.underlying25
 have HR1 := Aside0.mk hr1
 have HB := Aside0.mk (Below.refl w.heap.size w)
 clear hr0_0 hc0_0 hr0_1 hc0_1 hr1 hc1
 go_enter Try.func30, Try.ntmps30
 go_wp2_with (first | ((with_reducible refine gate_dst (N := 2) rfl ?_); refine box_event ?hg (N := 2) ?hd (cs := #[.slice A0_0 l0_0.length c0_0, .slice A0_1 l0_1.length c0_1]) (t := 25) ?hr ?_; (case hd => rfl); (case hg => rfl); (case hr => first | (go_simp; done) | (go_simp; rfl)); intro gb hg w5 hbox hb; replace HB := Aside0.mk (below_step (zb0 HB.out) hb); have BK := Aside0.mk (hbox); clear hb hbox hg) | (go_at_call 40; refine (route_out.any A1 c1 l1 _ (.pointer (some ⟨gb, 0, none⟩)) (fun i => decide (i < 0) || decide (i ≥ (l0_0.length : Int))) ?hC ?hP).mono ?_; (case hC => exact zc HR1.out HB.out); (case hP => intro x q; exact route_out.lit _ gb l0_0.length c0_0 A0_0 x (by first | exact (blk_cell (blk_drewN BK.out _) 0).trans rfl | (refine (blk_cell (blk_drewN ?_ _) 0).trans rfl; (with_reducible repeat (first | refine blk_drewN ?_ _ | refine blk_drew ?_ | refine blk_alloc ?_ _)); exact BK.out))); rintro e w' ⟨rfl, q, rfl⟩))
 go_ret
 exact ⟨rfl, zb0 HB.out⟩

/-! ### route_Path: function 18 -/
def route_Path.l0 : Nat → Int → List Int → List Int → Int → List (S47) → List (S38) → Option (List Int × Int)
 | 0, _, _, _, _, _, _ => none
 | k + 1, x3, x10, x12, x13, x204000, x204001 => if x13 = x3 then (some (x12, 0)) else (if 0 ≤ x13 then (if x13 < (x10.length : Int) then (if (rd x10 x13) = 0 then (some (([] : List Int), 80)) else (if x12.length < 17592186044416 then (if 0 ≤ (wrap64 ((rd x10 x13) - 1)) then (if (wrap64 ((rd x10 x13) - 1)) < (x204001.length : Int) then (route_Path.l0 k x3 x10 (x12 ++ [rd x10 x13]) ((rd_T38 x204001 (wrap64 ((rd x10 x13) - 1))).f1) x204000 x204001) else (none)) else (none)) else (none))) else (none)) else (none))
def route_Path.f (k : Nat) (l0_0 : List (S47)) (l0_1 : List (S38)) (l1 : List Int) (a2 : Int) (a3 : Int) : Option (List Int × Int) := (route_out.f l0_0 l0_1 (([a2, a3] : List Int))).bind fun t207 => (if t207 = true then (some (([] : List Int), 1)) else ((route_Table.f k l0_0 l0_1 l1 a3).bind fun bt208 => (route_Path.l0 k a3 bt208.1 ([] : List Int) a2 l0_0 l0_1)))
theorem route_Path.mono_l : ∀ k, (∀ y0 y1 y2 y3 y4 y5, LeO (route_Path.l0 k y0 y1 y2 y3 y4 y5) (route_Path.l0 (k + 1) y0 y1 y2 y3 y4 y5))
 | 0 => fun _ _ _ _ _ _ r h => by simp [route_Path.l0] at h
 | k + 1 => by
  have ih0 := route_Path.mono_l k
  ·intro y0 y1 y2 y3 y4 y5
   unfold route_Path.l0
   repeat' first
   | (with_reducible exact ih0 _ _ _ _ _ _)
   | (with_reducible exact route_Table.mono _ _ _ _ _)
   | (with_reducible exact LeO.refl _)
   | (with_reducible exact LeO.none _)
   | (with_reducible refine LeO.ite ?_ ?_)
   | (with_reducible refine LeO.bind ?_ (fun _ => ?_))
   | exact ih0 _ _ _ _ _ _
   | exact route_Table.mono _ _ _ _ _
   | exact LeO.none _
   | refine LeO.ite ?_ ?_
   | refine LeO.bind ?_ (fun _ => ?_)
theorem route_Path.mono : ∀ a0 a1 a2 a3 a4 k, LeO (route_Path.f k a0 a1 a2 a3 a4) (route_Path.f (k + 1) a0 a1 a2 a3 a4) := by
 intro a0 a1 a2 a3 a4 k
 have ih0 := route_Path.mono_l k
 unfold route_Path.f
 repeat' first
   | (with_reducible exact ih0 _ _ _ _ _ _)
   | (with_reducible exact route_Table.mono _ _ _ _ _)
   | (with_reducible exact LeO.refl _)
   | (with_reducible exact LeO.none _)
   | (with_reducible refine LeO.ite ?_ ?_)
   | (with_reducible refine LeO.bind ?_ (fun _ => ?_))
   | exact ih0 _ _ _ _ _ _
   | exact route_Table.mono _ _ _ _ _
   | exact LeO.none _
   | refine LeO.ite ?_ ?_
   | refine LeO.bind ?_ (fun _ => ?_)
set_option maxHeartbeats 8000000 in
set_option maxRecDepth 100000 in
theorem route_Path.calls (k : Nat) (A0_0 : Option Addr) (c0_0 : Nat) (l0_0 : List (S47)) (A0_1 : Option Addr) (c0_1 : Nat) (l0_1 : List (S38)) (A1 : Option Addr) (c1 : Nat) (l1 : List Int) (a2 : Int) (a3 : Int) (r1 : List Int) (r2 : Int) (w : World) (hr0_0 : Kd.C k47 w A0_0 l0_0.length l0_0) (hc0_0 : l0_0.length ≤ c0_0) (hr0_1 : Kd.C k38 w A0_1 l0_1.length l0_1) (hc0_1 : l0_1.length ≤ c0_1) (hr1 : Kd.C (Kd.int .i64) w A1 l1.length l1) (hc1 : l1.length ≤ c1) (h : route_Path.f k l0_0 l0_1 l1 a2 a3 = some (r1, r2)) :
  Calls Try.prog 18 #[.agg #[.slice A0_0 l0_0.length c0_0, .slice A0_1 l0_1.length c0_1], .slice A1 l1.length c1, .int .i64 a2, .int .i64 a3] w fun e w' => ∃ v0_ : Value, e = .returned (.tuple #[v0_, .int .i64 r2]) ∧ Kd.R (Kd.int .i64) 3 w' w.heap.size (fun _ => True) v0_ r1 ∧ Below w.heap.size w w' := by
 have hu25 := Try.underlying25
 have HR0_0 := Aside0.mk hr0_0
 have HC0_0 := Aside0.mk hc0_0
 clear hr0_0 hc0_0
 have HR0_1 := Aside0.mk hr0_1
 have HC0_1 := Aside0.mk hc0_1
 clear hr0_1 hc0_1
 have HR1 := Aside0.mk hr1
 have HC1 := Aside0.mk hc1
 clear hr1 hc1
 have HB := Aside0.mk (Below.refl w.heap.size w)
 have H : ((route_out.f l0_0 l0_1 (([a2, a3] : List Int))).bind fun t207 => (if t207 = true then (some (([] : List Int), 1)) else ((route_Table.f k l0_0 l0_1 l1 a3).bind fun bt208 => (route_Path.l0 k a3 bt208.1 ([] : List Int) a2 l0_0 l0_1)))) = some (r1, r2) := h
 clear h
 obtain ⟨y204, hy204⟩ : ∃ y_ : List Int, y_ = (([a2, a3] : List Int)) := ⟨_, rfl⟩
 replace H : ((route_out.f l0_0 l0_1 y204).bind fun t207 => (if t207 = true then (some (([] : List Int), 1)) else ((route_Table.f k l0_0 l0_1 l1 a3).bind fun bt208 => (route_Path.l0 k a3 bt208.1 ([] : List Int) a2 l0_0 l0_1)))) = some (r1, r2) := by first | (rw [hy204]; with_reducible exact H) | (have H2_ := (Option.bind_some _ _).symm.trans H; rw [hy204]; with_reducible exact H2_) | (have H2_ := (Option.bind_some _ _).symm.trans H; with_reducible exact H2_) | with_reducible exact H | (rw [hy204]; exact H) | exact H
 have Ny204 := Aside0.mk hy204
 clear hy204
 replace H := Option.bind_eq_some_iff.mp H; obtain ⟨t207, A50, H⟩ := H
 replace H : (if t207 = true then (some (([] : List Int), 1)) else ((route_Table.f k l0_0 l0_1 l1 a3).bind fun bt208 => (route_Path.l0 k a3 bt208.1 ([] : List Int) a2 l0_0 l0_1))) = some (r1, r2) := H
 have A5 := Aside0.mk A50
 clear A50
 by_cases c6 : t207 = true
 ·subst c6
  have H1 : (some (([] : List Int), 1)) = some (r1, r2) := by rw [if_pos rfl] at H; exact H
  clear H; have H := H1; clear H1
  simp only [Option.some.injEq, Prod.mk.injEq] at H
  obtain ⟨rfl, rfl⟩ := H
  go_enter Try.func18, Try.ntmps18
  go_wp2_with (first | ((with_reducible refine gate_dst (N := 4) rfl ?_); refine box_event ?hg (N := 4) ?hd (cs := #[.slice A0_0 l0_0.length c0_0, .slice A0_1 l0_1.length c0_1]) (t := 25) ?hr ?_; (case hd => rfl); (case hg => rfl); (case hr => first | (go_simp; done) | (go_simp; rfl)); intro gb203 hg w7 hbox hb; have BK203 := Aside0.mk (hbox); have GW203 := Aside0.mk ((by rw [hg]; exact (below_size (zb0 HB.out)) : w.heap.size ≤ gb203)); have GE203 := Aside0.mk ((by rw [hg]; exact (below_size (zb0 HB.out)) : w.heap.size ≤ gb203)); replace HB := Aside0.mk (below_step (zb0 HB.out) hb); clear hb hbox hg; have hcz8_0 : w7.cell? ⟨gb203, 0, none⟩ = some (.slice A0_0 l0_0.length c0_0) := (blk_cell BK203.out 0).trans rfl; have hcz8_1 : w7.cell? ⟨gb203, 1, none⟩ = some (.slice A0_1 l0_1.length c0_1) := (blk_cell BK203.out 1).trans rfl; have hfz8_0 := blk_frozen BK203.out 0; have hfz8_1 := blk_frozen BK203.out 1) | ((with_reducible refine gate_dst (N := 18) rfl ?_); refine Kd.R_lit (Kd.int .i64) _ 3 ?hg (N := 18) ?hd (xs := ([a2, a3] : List Int)) (inner := [.int .i64 a2, .int .i64 a3]) (ok := fun _ => True) (okp := fun _ => True) ?hr ?hp (fun _ hk => hk) trivial (Below.refl _ _) (Nat.le_refl _) (by simp) ?_; (case hd => rfl); (case hg => rfl); (case hr => first | (go_simp; done) | (go_simp; rfl)); (case hp => exact (Reps.one (show Kd.M (Kd.int .i64) _ _ _ a2 [.int .i64 a2] from rfl) (Reps.one (show Kd.M (Kd.int .i64) _ _ _ a3 [.int .i64 a3] from rfl) (Reps.none _ _)))); intro v205 w9 ho10 hb hg_ hnew_; clear hg_ hnew_; (first | rw [← Ny204.out] at ho10 | (simp only [Int.reduceToNat] at ho10; rw [← Ny204.out] at ho10)); have HO206 := Aside0.mk (Kd.R_lower ho10 (below_size (zb1 HB.out GE203.out))); replace BK203 := Aside0.mk (blk_below (g := gb203) (o := .cells #[.slice A0_0 l0_0.length c0_0, .slice A0_1 l0_1.length c0_1] 25 (0, 0)) (zk BK203.out) hb); replace HB := Aside0.mk (below_step (zb1 HB.out GE203.out) hb); clear hb ho10; obtain ⟨Ao11, co11, eo11⟩ := Kd.R_slice HO206.out; subst eo11) | ((with_reducible refine gate_callee (f := 30) rfl ?_); refine goesL_ (some 19) rfl rfl Try.func30 (by kernel_rfl) rfl #[.agg #[.slice A0_0 l0_0.length c0_0, .slice A0_1 l0_1.length c0_1], .slice Ao11 y204.length co11] rfl am ?_; (with_reducible refine (route_out.calls _ _ l0_0 _ _ l0_1 _ _ y204 true _ ?side1 ?side2 ?side3 ?side4 ?side5 ?side6 A5.out).mono ?_); (case side1 => exact zc HR0_0.out HB.out); (case side2 => exact HC0_0.out); (case side3 => exact zc HR0_1.out HB.out); (case side4 => exact HC0_1.out); (case side5 => exact zd (Kd.R_reads' HO206.out).2.2); (case side6 => exact (Kd.R_reads' HO206.out).2.1); rintro e w12 ⟨rfl, hb⟩; refine ⟨_, rfl, ?_⟩; replace HO206 := Aside0.mk (Kd.R_below (zr HO206.out) hb); replace BK203 := Aside0.mk (blk_below (g := gb203) (o := .cells #[.slice A0_0 l0_0.length c0_0, .slice A0_1 l0_1.length c0_1] 25 (0, 0)) (zk BK203.out) hb); replace HB := Aside0.mk (below_step (zb1 HB.out GE203.out) hb); (try clear hb)))
  go_ret2
  exact ⟨_, by first | rfl | (simp [errW_none, errW_some] <;> rfl) | (simp [*, errW_none, errW_some] <;> rfl), by first | exact Kd.R_nil _ _ _ _ _ | exact Kd.N_nil _ _ _ _ _ | exact Kd.V_nil _ _ _ _ _ | exact Kd.Q_nil _ _ _ _ _ | exact Kd.S_nil _ _ _ _ _, zb1 HB.out GE203.out⟩
 replace c6 := Bool.eq_false_iff.mpr c6
 subst c6
 have H1 : ((route_Table.f k l0_0 l0_1 l1 a3).bind fun bt208 => (route_Path.l0 k a3 bt208.1 ([] : List Int) a2 l0_0 l0_1)) = some (r1, r2) := by rw [if_neg (show ¬ (false = true) by decide)] at H; exact H
 clear H; have H := H1; clear H1
 replace H := Option.bind_eq_some_iff.mp H; obtain ⟨⟨t208, t211⟩, A130, H⟩ := H
 replace H : (route_Path.l0 k a3 t208 ([] : List Int) a2 l0_0 l0_1) = some (r1, r2) := H
 have A13 := Aside0.mk A130
 clear A130
 have H' := Aside0.mk H; clear H
 go_enter Try.func18, Try.ntmps18
 go_wp2_with (first | ((with_reducible refine gate_dst (N := 4) rfl ?_); refine box_event ?hg (N := 4) ?hd (cs := #[.slice A0_0 l0_0.length c0_0, .slice A0_1 l0_1.length c0_1]) (t := 25) ?hr ?_; (case hd => rfl); (case hg => rfl); (case hr => first | (go_simp; done) | (go_simp; rfl)); intro gb203 hg w14 hbox hb; have BK203 := Aside0.mk (hbox); have GW203 := Aside0.mk ((by rw [hg]; exact (below_size (zb0 HB.out)) : w.heap.size ≤ gb203)); have GE203 := Aside0.mk ((by rw [hg]; exact (below_size (zb0 HB.out)) : w.heap.size ≤ gb203)); replace HB := Aside0.mk (below_step (zb0 HB.out) hb); clear hb hbox hg; have hcz15_0 : w14.cell? ⟨gb203, 0, none⟩ = some (.slice A0_0 l0_0.length c0_0) := (blk_cell BK203.out 0).trans rfl; have hcz15_1 : w14.cell? ⟨gb203, 1, none⟩ = some (.slice A0_1 l0_1.length c0_1) := (blk_cell BK203.out 1).trans rfl; have hfz15_0 := blk_frozen BK203.out 0; have hfz15_1 := blk_frozen BK203.out 1) | ((with_reducible refine gate_dst (N := 18) rfl ?_); refine Kd.R_lit (Kd.int .i64) _ 3 ?hg (N := 18) ?hd (xs := ([a2, a3] : List Int)) (inner := [.int .i64 a2, .int .i64 a3]) (ok := fun _ => True) (okp := fun _ => True) ?hr ?hp (fun _ hk => hk) trivial (Below.refl _ _) (Nat.le_refl _) (by simp) ?_; (case hd => rfl); (case hg => rfl); (case hr => first | (go_simp; done) | (go_simp; rfl)); (case hp => exact (Reps.one (show Kd.M (Kd.int .i64) _ _ _ a2 [.int .i64 a2] from rfl) (Reps.one (show Kd.M (Kd.int .i64) _ _ _ a3 [.int .i64 a3] from rfl) (Reps.none _ _)))); intro v205 w16 ho17 hb hg_ hnew_; clear hg_ hnew_; (first | rw [← Ny204.out] at ho17 | (simp only [Int.reduceToNat] at ho17; rw [← Ny204.out] at ho17)); have HO206 := Aside0.mk (Kd.R_lower ho17 (below_size (zb1 HB.out GE203.out))); replace BK203 := Aside0.mk (blk_below (g := gb203) (o := .cells #[.slice A0_0 l0_0.length c0_0, .slice A0_1 l0_1.length c0_1] 25 (0, 0)) (zk BK203.out) hb); replace HB := Aside0.mk (below_step (zb1 HB.out GE203.out) hb); clear hb ho17; obtain ⟨Ao18, co18, eo18⟩ := Kd.R_slice HO206.out; subst eo18) | ((with_reducible refine gate_callee (f := 30) rfl ?_); refine goesL_ (some 19) rfl rfl Try.func30 (by kernel_rfl) rfl #[.agg #[.slice A0_0 l0_0.length c0_0, .slice A0_1 l0_1.length c0_1], .slice Ao18 y204.length co18] rfl am ?_; (with_reducible refine (route_out.calls _ _ l0_0 _ _ l0_1 _ _ y204 false _ ?side1 ?side2 ?side3 ?side4 ?side5 ?side6 A5.out).mono ?_); (case side1 => exact zc HR0_0.out HB.out); (case side2 => exact HC0_0.out); (case side3 => exact zc HR0_1.out HB.out); (case side4 => exact HC0_1.out); (case side5 => exact zd (Kd.R_reads' HO206.out).2.2); (case side6 => exact (Kd.R_reads' HO206.out).2.1); rintro e w19 ⟨rfl, hb⟩; refine ⟨_, rfl, ?_⟩; replace HO206 := Aside0.mk (Kd.R_below (zr HO206.out) hb); replace BK203 := Aside0.mk (blk_below (g := gb203) (o := .cells #[.slice A0_0 l0_0.length c0_0, .slice A0_1 l0_1.length c0_1] 25 (0, 0)) (zk BK203.out) hb); replace HB := Aside0.mk (below_step (zb1 HB.out GE203.out) hb); (try clear hb); have hcz20_0 : w19.cell? ⟨gb203, 0, none⟩ = some (.slice A0_0 l0_0.length c0_0) := (blk_cell BK203.out 0).trans rfl; have hcz20_1 : w19.cell? ⟨gb203, 1, none⟩ = some (.slice A0_1 l0_1.length c0_1) := (blk_cell BK203.out 1).trans rfl; have hfz20_0 := blk_frozen BK203.out 0; have hfz20_1 := blk_frozen BK203.out 1) | ((with_reducible refine gate_callee (f := 13) rfl ?_); refine goesL_ (some 24) rfl rfl Try.func13 (by kernel_rfl) rfl #[.agg #[.slice A0_0 l0_0.length c0_0, .slice A0_1 l0_1.length c0_1], .slice A1 l1.length c1, .int .i64 a3] rfl am ?_; (with_reducible refine (route_Table.calls k _ _ l0_0 _ _ l0_1 _ _ l1 a3 t208 t211 _ ?side1 ?side2 ?side3 ?side4 ?side5 ?side6 A13.out).mono ?_); (case side1 => exact zc HR0_0.out HB.out); (case side2 => exact HC0_0.out); (case side3 => exact zc HR0_1.out HB.out); (case side4 => exact HC0_1.out); (case side5 => exact zc HR1.out HB.out); (case side6 => exact HC1.out); rintro e w21 ⟨v209, rfl, ho0, hb⟩; refine ⟨_, rfl, ?_⟩; have HO210 := Aside0.mk (Kd.R_lower (Kd.R_new' ho0 (Kd.R_lt (zr HO206.out))) (below_size (zb1 HB.out GE203.out))); replace HO206 := Aside0.mk (Kd.R_elder' (zr HO206.out) (Kd.R_base ho0) hb); replace BK203 := Aside0.mk (blk_below (g := gb203) (o := .cells #[.slice A0_0 l0_0.length c0_0, .slice A0_1 l0_1.length c0_1] 25 (0, 0)) (zk BK203.out) hb); replace HB := Aside0.mk (below_step (zb1 HB.out GE203.out) hb); (try clear hb); (try clear ho0)))
 go_loopg [12, 13] k (fun kq v12 v13 w' => ∃ (x12_1 : List Int) (x13_1 : Int), v13 = .int .i64 x13_1 ∧ Aside0 (route_Path.l0 kq a3 t208 x12_1 x13_1 l0_0 l0_1 = some (r1, r2)) ∧ Aside0 (kq ≤ k) ∧ Aside0 (Kd.R (Kd.int .i64) 3 w' w.heap.size (fun k_ => some k_ ≠ (v12 : Value).ownBlock) v209 t208) ∧ Aside0 (Kd.R (Kd.int .i64) 3 w' w.heap.size (fun k_ => some k_ ≠ (v209 : Value).ownBlock) v12 x12_1) ∧ Aside0 (w'.heap[gb203]? = some (.cells #[(.slice A0_0 l0_0.length c0_0), (.slice A0_1 l0_1.length c0_1)] 25 (0, 0))) ∧ Aside0 (Below w.heap.size w w'))
 case atStart => exact ⟨(([] : List Int)), (a2), rs, H', ⟨Nat.le_refl _⟩, ⟨by (with_reducible repeat (first | apply Kd.R_alloc | apply Kd.R_drewN | apply Kd.R_drew)); exact Kd.R_mono HO210.out (fun _ hk => (by simp [Value.ownBlock]))⟩, ⟨by first | exact Kd.R_nil _ _ _ _ _ | exact Kd.N_nil _ _ _ _ _ | exact Kd.V_nil _ _ _ _ _ | exact Kd.Q_nil _ _ _ _ _ | exact Kd.S_nil _ _ _ _ _⟩, ⟨zk BK203.out⟩, ⟨zb1 HB.out GE203.out⟩⟩
 case round =>
  clear H'
  obtain ⟨x12_1, x13_1, rfl, HA, HK1, HO_10, HO_12, BK203, HB⟩ := hrel
  cases gk with
  | zero => exact absurd HA.out (by simp [route_Path.l0])
  | succ k1 =>
   have H := HA.out
   clear HA
   simp only [route_Path.l0] at H
   by_cases c22 : x13_1 = a3
   ·rw [if_pos c22] at H
    have c22b0 : (x13_1 == a3) = true := beq_iff_eq.mpr c22
    have c22b1 : (x13_1 != a3) = false := bne_eq_false_iff_eq.mpr c22
    clear c22
    simp only [Option.some.injEq, Prod.mk.injEq] at H
    obtain ⟨rfl, rfl⟩ := H
    go_wp2
    go_ret2
    exact ⟨_, by first | rfl | (simp [errW_none, errW_some] <;> rfl) | (simp [*, errW_none, errW_some] <;> rfl), by (with_reducible repeat (first | apply Kd.R_alloc | apply Kd.R_drewN | apply Kd.R_drew)); exact Kd.R_mono HO_12.out (fun _ hk => trivial), zb1 HB.out GE203.out⟩
   rw [if_neg c22] at H
   have c22b0 : (x13_1 == a3) = false := beq_eq_false_iff_ne.mpr c22
   have c22b1 : (x13_1 != a3) = true := bne_iff_ne.mpr c22
   by_cases c23 : 0 ≤ x13_1
   rotate_left; ·rw [if_neg c23] at H; exact absurd H (by simp)

   rw [if_pos c23] at H
   have c23b0 : decide (0 ≤ x13_1) = true := decide_eq_true c23
   clear c23
   by_cases c24 : x13_1 < (t208.length : Int)
   rotate_left; ·rw [if_neg c24] at H; exact absurd H (by simp)
   rw [if_pos c24] at H
   have c24b0 : decide (x13_1 < (t208.length : Int)) = true := decide_eq_true c24
   clear c24
   by_cases c25 : (rd t208 x13_1) = 0
   ·rw [if_pos c25] at H
    have c25b0 : ((rd t208 x13_1) == 0) = true := beq_iff_eq.mpr c25
    have c25b1 : ((rd t208 x13_1) != 0) = false := bne_eq_false_iff_eq.mpr c25
    clear c25
    simp only [Option.some.injEq, Prod.mk.injEq] at H
    obtain ⟨rfl, rfl⟩ := H
    obtain ⟨Ao26, co26, eo26⟩ := Kd.R_slice HO_10.out
    subst eo26
    have p212 : 0 ≤ (x13_1 : Int) := oda
    have q212 : x13_1 < (t208.length : Int) := oda
    obtain ⟨ad212, e212, hx212_0⟩ := Kd.at_int (Kd.R_reads' HO_10.out).2.2 x13_1 p212 q212
    cases e212
    replace p212 := eq_true p212
    replace q212 := eq_true q212
    go_wp2
    go_ret2
    exact ⟨_, by first | rfl | (simp [errW_none, errW_some] <;> rfl) | (simp [*, errW_none, errW_some] <;> rfl), by first | exact Kd.R_nil _ _ _ _ _ | exact Kd.N_nil _ _ _ _ _ | exact Kd.V_nil _ _ _ _ _ | exact Kd.Q_nil _ _ _ _ _ | exact Kd.S_nil _ _ _ _ _, zb1 HB.out GE203.out⟩
   rw [if_neg c25] at H
   have c25b0 : ((rd t208 x13_1) == 0) = false := beq_eq_false_iff_ne.mpr c25
   have c25b1 : ((rd t208 x13_1) != 0) = true := bne_iff_ne.mpr c25
   by_cases c27 : x12_1.length < 17592186044416
   rotate_left; ·rw [if_neg c27] at H; exact absurd H (by simp)
   rw [if_pos c27] at H
   have LMc27 := Aside0.mk c27
   clear c27
   obtain ⟨y213, hy213⟩ : ∃ y_ : List Int, y_ = (x12_1 ++ [rd t208 x13_1]) := ⟨_, rfl⟩
   replace H : (if 0 ≤ (wrap64 ((rd t208 x13_1) - 1)) then (if (wrap64 ((rd t208 x13_1) - 1)) < (l0_1.length : Int) then (route_Path.l0 k1 a3 t208 y213 ((rd_T38 l0_1 (wrap64 ((rd t208 x13_1) - 1))).f1) l0_0 l0_1) else (none)) else (none)) = some (r1, r2) := by first | (rw [hy213]; with_reducible exact H) | (have H2_ := (Option.bind_some _ _).symm.trans H; rw [hy213]; with_reducible exact H2_) | (have H2_ := (Option.bind_some _ _).symm.trans H; with_reducible exact H2_) | with_reducible exact H | (rw [hy213]; exact H) | exact H
   have Ny213 := Aside0.mk hy213
   clear hy213
   obtain ⟨ji28, hji28⟩ : ∃ j_ : Int, (wrap64 ((rd t208 x13_1) - 1)) = j_ := ⟨_, rfl⟩
   replace H : (if 0 ≤ (ji28) then (if (ji28) < (l0_1.length : Int) then (route_Path.l0 k1 a3 t208 y213 ((rd_T38 l0_1 (ji28)).f1) l0_0 l0_1) else (none)) else (none)) = some (r1, r2) := by first | (rw [hji28] at H; exact H) | (simp only [hji28] at H ⊢; exact H)
   have hji28w : (IntKind.i64.wrap ((rd t208 x13_1) - 1)) = ji28 := (i64_w _).trans hji28
   by_cases c29 : 0 ≤ (ji28)
   rotate_left; ·rw [if_neg c29] at H; exact absurd H (by simp)
   rw [if_pos c29] at H
   have c29b0 : decide (0 ≤ (ji28)) = true := decide_eq_true c29
   clear c29
   by_cases c30 : (ji28) < (l0_1.length : Int)
   rotate_left; ·rw [if_neg c30] at H; exact absurd H (by simp)
   rw [if_pos c30] at H
   have c30b0 : decide ((ji28) < (l0_1.length : Int)) = true := decide_eq_true c30
   clear c30
   have H' := Aside0.mk H; clear H
   obtain ⟨Ao31, co31, eo31⟩ := Kd.R_slice HO_10.out
   subst eo31
   have p212 : 0 ≤ (x13_1 : Int) := oda
   have q212 : x13_1 < (t208.length : Int) := oda
   obtain ⟨ad212, e212, hx212_0⟩ := Kd.at_int (Kd.R_reads' HO_10.out).2.2 x13_1 p212 q212
   cases e212
   replace p212 := eq_true p212
   replace q212 := eq_true q212
   go_wp2_with (first | ((with_reducible refine gate_builtin (b := .append) (xs := #[.tmp 37, .tmp 39]) rfl ?_); at_builtin; refine Kd.R_append (Kd.int .i64) (w0 := w) w.heap.size rfl (.tmp 37) (.tmp 39) 26 3 (.int .i64 0) 8 rfl Try.underlying26 info3 rfl (by decide) (by omega) u12 x12_1 (rd t208 x13_1) [.int .i64 (rd t208 x13_1)] (fun k_ => some k_ ≠ (.slice (some ad212) t208.length co31 : Value).ownBlock) (fun _ => False) rfl rfl ?aP (fun _ hk => hk.elim) ?aF ?aO ?aB ?aS ?aL ?_; (case aP => exact rfl); (case aB => exact (zb1 HB.out GE203.out)); (case aF => exact (fun k_ hk => Kd.fresh' (Kd.R_lt (zr HO_10.out)) k_ hk)); (case aO => exact (zr HO_12.out)); (case aS => exact (below_size (zb1 HB.out GE203.out))); (case aL => have := LMc27.out; omega); intro v214 w32 ho hb hg hat; rw [← Ny213.out] at ho; replace HO_10 := Aside0.mk (Kd.R_after (ok := (fun _ => True)) (by (with_reducible repeat (first | apply Kd.R_alloc | apply Kd.R_drewN | apply Kd.R_drew)); exact Kd.R_mono HO_10.out (fun _ hk => ⟨trivial, hk⟩)) hg hat); replace BK203 := Aside0.mk (blk_grown (g := gb203) (o := .cells #[.slice A0_0 l0_0.length c0_0, .slice A0_1 l0_1.length c0_1] 25 (0, 0)) (zk BK203.out) hg (Kd.R_ne HO_12.out BK203.out (by decide))); replace HB := Aside0.mk (hb); have HO215 := Aside0.mk (ho); clear HO_12; clear ho hb hg hat; have hcz33_0 : w32.cell? ⟨gb203, 0, none⟩ = some (.slice A0_0 l0_0.length c0_0) := (blk_cell BK203.out 0).trans rfl; have hcz33_1 : w32.cell? ⟨gb203, 1, none⟩ = some (.slice A0_1 l0_1.length c0_1) := (blk_cell BK203.out 1).trans rfl; have hfz33_0 := blk_frozen BK203.out 0; have hfz33_1 := blk_frozen BK203.out 1; have p216 : 0 ≤ ((ji28) : Int) := oda; have q216 : (ji28) < (l0_1.length : Int) := oda; obtain ⟨ad216, e216, hx216_0, hx216_1⟩ := at_T38 HR0_1.out (ji28) p216 q216; cases e216; replace hx216_0 := zx HB.out hx216_0; replace hx216_1 := zx HB.out hx216_1; replace p216 := eq_true p216; replace q216 := eq_true q216))
   go_roundg k1
   case measure => have := HK1.out; omega
   case rel => exact ⟨(y213), ((rd_T38 l0_1 (ji28)).f1), (by first | rfl | (simp; done) | (simp only [← hji28] <;> (first | rfl | (simp; done))) | (simp [*]; done)), H', ⟨by have := HK1.out; omega⟩, ⟨by (with_reducible repeat (first | apply Kd.R_alloc | apply Kd.R_drewN | apply Kd.R_drew)); exact Kd.R_mono HO_10.out (fun _ hk => hk.2)⟩, ⟨zr HO215.out⟩, ⟨zk BK203.out⟩, ⟨zb1 HB.out GE203.out⟩⟩
/-! ### slices_Clone_int_int: function 31, given -/
def slices_Clone_int_int.f (l0 : List Int) : Option (List Int) := if l0.length * 8 ≤ 140737488355328 then some l0 else none
set_option maxHeartbeats 1000000 in
set_option maxRecDepth 100000 in
theorem slices_Clone_int_int.calls (A0 : Option Addr) (c0 : Nat) (l0 : List Int) (r : List Int) (w : World) (hr0 : Kd.C (Kd.int .i64) w A0 l0.length l0) (hc0 : l0.length ≤ c0) (h : slices_Clone_int_int.f l0 = some r) :
  Calls Try.prog 31 #[.slice A0 l0.length c0] w fun e w' => ∃ v0_ : Value, e = .returned (v0_) ∧ Kd.R (Kd.int .i64) 3 w' w.heap.size (fun _ => True) v0_ r ∧ Below w.heap.size w w' := by
 unfold slices_Clone_int_int.f at h
 split at h
 ·rename_i hb
  obtain rfl := Option.some.inj h
  clear h
  have q : ∀ (w : World) (a : Option Addr) (n c n' c' : Nat), (binOp .eql 26 (.slice a n c) (.slice none n' c')).run Try.prog w = .ok (.bool a.isNone) w := fun w a n c n' c' => Lib.run_eql_slice_nil w _ _ a n c n' c' Try.underlying26
  have HR0 := Aside0.mk hr0
  have HL := Aside0.mk hb
  clear hb
  cases A0 with
  | none =>
   have hl : l0 = [] := by
    rcases Nat.eq_zero_or_pos l0.length with h0 | h0
    ·exact List.eq_nil_of_length_eq_zero h0
    ·obtain ⟨ad, hx, _⟩ := hr0.2.2 h0
     cases hx
   subst hl
   clear hr0
   go_enter Try.func31, Try.ntmps31
   go_wp2
   go_ret
   exact ⟨_, rfl, Kd.R_nil _ _ _ _ _, Below.refl _ _⟩
  | some ad =>
   clear hr0
   go_enter Try.func31, Try.ntmps31
   go_wp2_with (first | ((with_reducible refine gate_builtin (b := .append) (xs := #[.tmp 5, .tmp 6]) rfl ?_); at_builtin; refine Kd.R_append_rows (Kd.int .i64) (w0 := w) w.heap.size rfl (.tmp 5) (.tmp 6) 26 3 (.int .i64 0) 8 rfl Try.underlying26 info3 rfl (by decide) (by omega) (.slice (some ⟨w.heap.size, 0, none⟩) 0 0) [] l0 _ _ _ (fun _ => True) (fun _ => False) rfl rfl ?aO ?aR (fun _ _ h => h) (fun _ h => h.elim) ?aF ?aB ?aS ?aL ?_))
   case aO => exact ⟨fun _ _ => trivial, [], by simpa using World.ownsRow_made w #[] 0 (Nat.le_refl _) (Nat.zero_le _) (by simp), Reps.none _ _⟩
   case aR => exact Kd.C_below HR0.out (below_alloc (Below.refl _ _) _)
   case aF => exact (fun _ _ => trivial)
   case aB => exact below_alloc (Below.refl _ _) _
   case aS => simp
   case aL => have := HL.out; simpa using this
   intro v1 w1 ho hb hg hat
   go_wp2
   go_ret
   exact ⟨_, rfl, by simpa using Kd.R_mono ho (fun _ _ => trivial), hb⟩
 ·cases h

/-! ### route_Around: function 19 -/
def route_Around.l0 : Nat → Int → Int → List Int → List Int → List (S38) → Int → Int → List (S47) → List (S38) → Option (List Int × Int)
 | 0, _, _, _, _, _, _, _, _, _ => none
 | k + 1, x2, x3, x4, x12, x23, x24, x25, x218000, x218001 => if x25 < x24 then (if 0 ≤ x25 then (if x25 < (x23.length : Int) then (if ((rd_T38 x23 x25).f1) = x3 then (route_Around.l0 k x2 x3 x4 x12 x23 x24 (wrap64 (x25 + 1)) x218000 x218001) else ((slices_Contains_int_int.f k x4 ((rd_T38 x23 x25).f1)).bind fun t227 => (if t227 = true then (if x12.length < 17592186044416 then (route_Around.l0 k x2 x3 x4 (x12 ++ [wrap64 (x25 + 1)]) x23 x24 (wrap64 (x25 + 1)) x218000 x218001) else (none)) else (route_Around.l0 k x2 x3 x4 x12 x23 x24 (wrap64 (x25 + 1)) x218000 x218001)))) else (none)) else (none)) else ((route_Path.f k x218000 x218001 x12 x2 x3).bind fun bt231 => (some (bt231.1, bt231.2)))
def route_Around.f (k : Nat) (l0_0 : List (S47)) (l0_1 : List (S38)) (l1 : List Int) (a2 : Int) (a3 : Int) (l4 : List Int) : Option (List Int × Int) := (route_out.f l0_0 l0_1 (([a2, a3] : List Int))).bind fun t221 => (if t221 = true then (some (([] : List Int), 1)) else ((slices_Clone_int_int.f l1).bind fun t222 => (route_Around.l0 k a2 a3 l4 t222 l0_1 (l0_1.length : Int) 0 l0_0 l0_1)))
theorem route_Around.mono_l : ∀ k, (∀ y0 y1 y2 y3 y4 y5 y6 y7 y8, LeO (route_Around.l0 k y0 y1 y2 y3 y4 y5 y6 y7 y8) (route_Around.l0 (k + 1) y0 y1 y2 y3 y4 y5 y6 y7 y8))
 | 0 => fun _ _ _ _ _ _ _ _ _ r h => by simp [route_Around.l0] at h
 | k + 1 => by
  have ih0 := route_Around.mono_l k
  ·intro y0 y1 y2 y3 y4 y5 y6 y7 y8
   unfold route_Around.l0
   repeat' first
   | (with_reducible exact ih0 _ _ _ _ _ _ _ _ _)
   | (with_reducible exact route_Path.mono _ _ _ _ _ _)
   | (with_reducible exact slices_Contains_int_int.mono _ _ _)
   | (with_reducible exact LeO.refl _)
   | (with_reducible exact LeO.none _)
   | (with_reducible refine LeO.ite ?_ ?_)
   | (with_reducible refine LeO.bind ?_ (fun _ => ?_))
   | exact ih0 _ _ _ _ _ _ _ _ _
   | exact route_Path.mono _ _ _ _ _ _
   | exact slices_Contains_int_int.mono _ _ _
   | exact LeO.none _
   | refine LeO.ite ?_ ?_
   | refine LeO.bind ?_ (fun _ => ?_)
theorem route_Around.mono : ∀ a0 a1 a2 a3 a4 a5 k, LeO (route_Around.f k a0 a1 a2 a3 a4 a5) (route_Around.f (k + 1) a0 a1 a2 a3 a4 a5) := by
 intro a0 a1 a2 a3 a4 a5 k
 have ih0 := route_Around.mono_l k
 unfold route_Around.f
 repeat' first
   | (with_reducible exact ih0 _ _ _ _ _ _ _ _ _)
   | (with_reducible exact route_Path.mono _ _ _ _ _ _)
   | (with_reducible exact slices_Contains_int_int.mono _ _ _)
   | (with_reducible exact LeO.refl _)
   | (with_reducible exact LeO.none _)
   | (with_reducible refine LeO.ite ?_ ?_)
   | (with_reducible refine LeO.bind ?_ (fun _ => ?_))
   | exact ih0 _ _ _ _ _ _ _ _ _
   | exact route_Path.mono _ _ _ _ _ _
   | exact slices_Contains_int_int.mono _ _ _
   | exact LeO.none _
   | refine LeO.ite ?_ ?_
   | refine LeO.bind ?_ (fun _ => ?_)
set_option maxHeartbeats 8000000 in
set_option maxRecDepth 100000 in
theorem route_Around.calls (k : Nat) (A0_0 : Option Addr) (c0_0 : Nat) (l0_0 : List (S47)) (A0_1 : Option Addr) (c0_1 : Nat) (l0_1 : List (S38)) (A1 : Option Addr) (c1 : Nat) (l1 : List Int) (a2 : Int) (a3 : Int) (A4 : Option Addr) (c4 : Nat) (l4 : List Int) (r1 : List Int) (r2 : Int) (w : World) (hr0_0 : Kd.C k47 w A0_0 l0_0.length l0_0) (hc0_0 : l0_0.length ≤ c0_0) (hr0_1 : Kd.C k38 w A0_1 l0_1.length l0_1) (hc0_1 : l0_1.length ≤ c0_1) (hr1 : Kd.C (Kd.int .i64) w A1 l1.length l1) (hc1 : l1.length ≤ c1) (hr4 : Kd.C (Kd.int .i64) w A4 l4.length l4) (hc4 : l4.length ≤ c4) (h : route_Around.f k l0_0 l0_1 l1 a2 a3 l4 = some (r1, r2)) :
  Calls Try.prog 19 #[.agg #[.slice A0_0 l0_0.length c0_0, .slice A0_1 l0_1.length c0_1], .slice A1 l1.length c1, .int .i64 a2, .int .i64 a3, .slice A4 l4.length c4] w fun e w' => ∃ v0_ : Value, e = .returned (.tuple #[v0_, .int .i64 r2]) ∧ Kd.R (Kd.int .i64) 3 w' w.heap.size (fun _ => True) v0_ r1 ∧ Below w.heap.size w w' := by
 have hu25 := Try.underlying25
 have hu38 := Try.underlying38
 have HR0_0 := Aside0.mk hr0_0
 have HC0_0 := Aside0.mk hc0_0
 clear hr0_0 hc0_0
 have HR0_1 := Aside0.mk hr0_1
 have HC0_1 := Aside0.mk hc0_1
 clear hr0_1 hc0_1
 have HR1 := Aside0.mk hr1
 have HC1 := Aside0.mk hc1
 clear hr1 hc1
 have HR4 := Aside0.mk hr4
 have HC4 := Aside0.mk hc4
 clear hr4 hc4
 have HB := Aside0.mk (Below.refl w.heap.size w)
 have H : ((route_out.f l0_0 l0_1 (([a2, a3] : List Int))).bind fun t221 => (if t221 = true then (some (([] : List Int), 1)) else ((slices_Clone_int_int.f l1).bind fun t222 => (route_Around.l0 k a2 a3 l4 t222 l0_1 (l0_1.length : Int) 0 l0_0 l0_1)))) = some (r1, r2) := h
 clear h
 obtain ⟨y218, hy218⟩ : ∃ y_ : List Int, y_ = (([a2, a3] : List Int)) := ⟨_, rfl⟩
 replace H : ((route_out.f l0_0 l0_1 y218).bind fun t221 => (if t221 = true then (some (([] : List Int), 1)) else ((slices_Clone_int_int.f l1).bind fun t222 => (route_Around.l0 k a2 a3 l4 t222 l0_1 (l0_1.length : Int) 0 l0_0 l0_1)))) = some (r1, r2) := by first | (rw [hy218]; with_reducible exact H) | (have H2_ := (Option.bind_some _ _).symm.trans H; rw [hy218]; with_reducible exact H2_) | (have H2_ := (Option.bind_some _ _).symm.trans H; with_reducible exact H2_) | with_reducible exact H | (rw [hy218]; exact H) | exact H
 have Ny218 := Aside0.mk hy218
 clear hy218
 replace H := Option.bind_eq_some_iff.mp H; obtain ⟨t221, A60, H⟩ := H
 replace H : (if t221 = true then (some (([] : List Int), 1)) else ((slices_Clone_int_int.f l1).bind fun t222 => (route_Around.l0 k a2 a3 l4 t222 l0_1 (l0_1.length : Int) 0 l0_0 l0_1))) = some (r1, r2) := H
 have A6 := Aside0.mk A60
 clear A60
 by_cases c7 : t221 = true
 ·subst c7
  have H1 : (some (([] : List Int), 1)) = some (r1, r2) := by rw [if_pos rfl] at H; exact H
  clear H; have H := H1; clear H1
  simp only [Option.some.injEq, Prod.mk.injEq] at H
  obtain ⟨rfl, rfl⟩ := H
  go_enter Try.func19, Try.ntmps19
  go_wp2_with (first | ((with_reducible refine gate_dst (N := 5) rfl ?_); refine box_event ?hg (N := 5) ?hd (cs := #[.slice A0_0 l0_0.length c0_0, .slice A0_1 l0_1.length c0_1]) (t := 25) ?hr ?_; (case hd => rfl); (case hg => rfl); (case hr => first | (go_simp; done) | (go_simp; rfl)); intro gb217 hg w8 hbox hb; have BK217 := Aside0.mk (hbox); have GW217 := Aside0.mk ((by rw [hg]; exact (below_size (zb0 HB.out)) : w.heap.size ≤ gb217)); have GE217 := Aside0.mk ((by rw [hg]; exact (below_size (zb0 HB.out)) : w.heap.size ≤ gb217)); replace HB := Aside0.mk (below_step (zb0 HB.out) hb); clear hb hbox hg; have hcz9_0 : w8.cell? ⟨gb217, 0, none⟩ = some (.slice A0_0 l0_0.length c0_0) := (blk_cell BK217.out 0).trans rfl; have hcz9_1 : w8.cell? ⟨gb217, 1, none⟩ = some (.slice A0_1 l0_1.length c0_1) := (blk_cell BK217.out 1).trans rfl; have hfz9_0 := blk_frozen BK217.out 0; have hfz9_1 := blk_frozen BK217.out 1) | ((with_reducible refine gate_dst (N := 18) rfl ?_); refine Kd.R_lit (Kd.int .i64) _ 3 ?hg (N := 18) ?hd (xs := ([a2, a3] : List Int)) (inner := [.int .i64 a2, .int .i64 a3]) (ok := fun _ => True) (okp := fun _ => True) ?hr ?hp (fun _ hk => hk) trivial (Below.refl _ _) (Nat.le_refl _) (by simp) ?_; (case hd => rfl); (case hg => rfl); (case hr => first | (go_simp; done) | (go_simp; rfl)); (case hp => exact (Reps.one (show Kd.M (Kd.int .i64) _ _ _ a2 [.int .i64 a2] from rfl) (Reps.one (show Kd.M (Kd.int .i64) _ _ _ a3 [.int .i64 a3] from rfl) (Reps.none _ _)))); intro v219 w10 ho11 hb hg_ hnew_; clear hg_ hnew_; (first | rw [← Ny218.out] at ho11 | (simp only [Int.reduceToNat] at ho11; rw [← Ny218.out] at ho11)); have HO220 := Aside0.mk (Kd.R_lower ho11 (below_size (zb1 HB.out GE217.out))); replace BK217 := Aside0.mk (blk_below (g := gb217) (o := .cells #[.slice A0_0 l0_0.length c0_0, .slice A0_1 l0_1.length c0_1] 25 (0, 0)) (zk BK217.out) hb); replace HB := Aside0.mk (below_step (zb1 HB.out GE217.out) hb); clear hb ho11; obtain ⟨Ao12, co12, eo12⟩ := Kd.R_slice HO220.out; subst eo12) | ((with_reducible refine gate_callee (f := 30) rfl ?_); refine goesL_ (some 19) rfl rfl Try.func30 (by kernel_rfl) rfl #[.agg #[.slice A0_0 l0_0.length c0_0, .slice A0_1 l0_1.length c0_1], .slice Ao12 y218.length co12] rfl am ?_; (with_reducible refine (route_out.calls _ _ l0_0 _ _ l0_1 _ _ y218 true _ ?side1 ?side2 ?side3 ?side4 ?side5 ?side6 A6.out).mono ?_); (case side1 => exact zc HR0_0.out HB.out); (case side2 => exact HC0_0.out); (case side3 => exact zc HR0_1.out HB.out); (case side4 => exact HC0_1.out); (case side5 => exact zd (Kd.R_reads' HO220.out).2.2); (case side6 => exact (Kd.R_reads' HO220.out).2.1); rintro e w13 ⟨rfl, hb⟩; refine ⟨_, rfl, ?_⟩; replace HO220 := Aside0.mk (Kd.R_below (zr HO220.out) hb); replace BK217 := Aside0.mk (blk_below (g := gb217) (o := .cells #[.slice A0_0 l0_0.length c0_0, .slice A0_1 l0_1.length c0_1] 25 (0, 0)) (zk BK217.out) hb); replace HB := Aside0.mk (below_step (zb1 HB.out GE217.out) hb); (try clear hb)))
  go_ret2
  exact ⟨_, by first | rfl | (simp [errW_none, errW_some] <;> rfl) | (simp [*, errW_none, errW_some] <;> rfl), by first | exact Kd.R_nil _ _ _ _ _ | exact Kd.N_nil _ _ _ _ _ | exact Kd.V_nil _ _ _ _ _ | exact Kd.Q_nil _ _ _ _ _ | exact Kd.S_nil _ _ _ _ _, zb1 HB.out GE217.out⟩
 replace c7 := Bool.eq_false_iff.mpr c7
 subst c7
 have H1 : ((slices_Clone_int_int.f l1).bind fun t222 => (route_Around.l0 k a2 a3 l4 t222 l0_1 (l0_1.length : Int) 0 l0_0 l0_1)) = some (r1, r2) := by rw [if_neg (show ¬ (false = true) by decide)] at H; exact H
 clear H; have H := H1; clear H1
 replace H := Option.bind_eq_some_iff.mp H; obtain ⟨t222, A140, H⟩ := H
 replace H : (route_Around.l0 k a2 a3 l4 t222 l0_1 (l0_1.length : Int) 0 l0_0 l0_1) = some (r1, r2) := H
 have A14 := Aside0.mk A140
 clear A140
 have H' := Aside0.mk H; clear H
 go_enter Try.func19, Try.ntmps19
 go_wp2_with (first | ((with_reducible refine gate_dst (N := 5) rfl ?_); refine box_event ?hg (N := 5) ?hd (cs := #[.slice A0_0 l0_0.length c0_0, .slice A0_1 l0_1.length c0_1]) (t := 25) ?hr ?_; (case hd => rfl); (case hg => rfl); (case hr => first | (go_simp; done) | (go_simp; rfl)); intro gb217 hg w15 hbox hb; have BK217 := Aside0.mk (hbox); have GW217 := Aside0.mk ((by rw [hg]; exact (below_size (zb0 HB.out)) : w.heap.size ≤ gb217)); have GE217 := Aside0.mk ((by rw [hg]; exact (below_size (zb0 HB.out)) : w.heap.size ≤ gb217)); replace HB := Aside0.mk (below_step (zb0 HB.out) hb); clear hb hbox hg; have hcz16_0 : w15.cell? ⟨gb217, 0, none⟩ = some (.slice A0_0 l0_0.length c0_0) := (blk_cell BK217.out 0).trans rfl; have hcz16_1 : w15.cell? ⟨gb217, 1, none⟩ = some (.slice A0_1 l0_1.length c0_1) := (blk_cell BK217.out 1).trans rfl; have hfz16_0 := blk_frozen BK217.out 0; have hfz16_1 := blk_frozen BK217.out 1) | ((with_reducible refine gate_dst (N := 18) rfl ?_); refine Kd.R_lit (Kd.int .i64) _ 3 ?hg (N := 18) ?hd (xs := ([a2, a3] : List Int)) (inner := [.int .i64 a2, .int .i64 a3]) (ok := fun _ => True) (okp := fun _ => True) ?hr ?hp (fun _ hk => hk) trivial (Below.refl _ _) (Nat.le_refl _) (by simp) ?_; (case hd => rfl); (case hg => rfl); (case hr => first | (go_simp; done) | (go_simp; rfl)); (case hp => exact (Reps.one (show Kd.M (Kd.int .i64) _ _ _ a2 [.int .i64 a2] from rfl) (Reps.one (show Kd.M (Kd.int .i64) _ _ _ a3 [.int .i64 a3] from rfl) (Reps.none _ _)))); intro v219 w17 ho18 hb hg_ hnew_; clear hg_ hnew_; (first | rw [← Ny218.out] at ho18 | (simp only [Int.reduceToNat] at ho18; rw [← Ny218.out] at ho18)); have HO220 := Aside0.mk (Kd.R_lower ho18 (below_size (zb1 HB.out GE217.out))); replace BK217 := Aside0.mk (blk_below (g := gb217) (o := .cells #[.slice A0_0 l0_0.length c0_0, .slice A0_1 l0_1.length c0_1] 25 (0, 0)) (zk BK217.out) hb); replace HB := Aside0.mk (below_step (zb1 HB.out GE217.out) hb); clear hb ho18; obtain ⟨Ao19, co19, eo19⟩ := Kd.R_slice HO220.out; subst eo19) | ((with_reducible refine gate_callee (f := 30) rfl ?_); refine goesL_ (some 19) rfl rfl Try.func30 (by kernel_rfl) rfl #[.agg #[.slice A0_0 l0_0.length c0_0, .slice A0_1 l0_1.length c0_1], .slice Ao19 y218.length co19] rfl am ?_; (with_reducible refine (route_out.calls _ _ l0_0 _ _ l0_1 _ _ y218 false _ ?side1 ?side2 ?side3 ?side4 ?side5 ?side6 A6.out).mono ?_); (case side1 => exact zc HR0_0.out HB.out); (case side2 => exact HC0_0.out); (case side3 => exact zc HR0_1.out HB.out); (case side4 => exact HC0_1.out); (case side5 => exact zd (Kd.R_reads' HO220.out).2.2); (case side6 => exact (Kd.R_reads' HO220.out).2.1); rintro e w20 ⟨rfl, hb⟩; refine ⟨_, rfl, ?_⟩; replace HO220 := Aside0.mk (Kd.R_below (zr HO220.out) hb); replace BK217 := Aside0.mk (blk_below (g := gb217) (o := .cells #[.slice A0_0 l0_0.length c0_0, .slice A0_1 l0_1.length c0_1] 25 (0, 0)) (zk BK217.out) hb); replace HB := Aside0.mk (below_step (zb1 HB.out GE217.out) hb); (try clear hb)) | ((with_reducible refine gate_callee (f := 31) rfl ?_); refine goesL_ (some 21) rfl rfl Try.func31 (by kernel_rfl) rfl #[.slice A1 l1.length c1] rfl am ?_; (with_reducible refine (slices_Clone_int_int.calls _ _ l1 t222 _ ?side1 ?side2 A14.out).mono ?_); (case side1 => exact zc HR1.out HB.out); (case side2 => exact HC1.out); rintro e w21 ⟨v223, rfl, ho0, hb⟩; refine ⟨_, rfl, ?_⟩; have HO224 := Aside0.mk (Kd.R_lower (Kd.R_new' ho0 (Kd.R_lt (zr HO220.out))) (below_size (zb1 HB.out GE217.out))); replace HO220 := Aside0.mk (Kd.R_elder' (zr HO220.out) (Kd.R_base ho0) hb); replace BK217 := Aside0.mk (blk_below (g := gb217) (o := .cells #[.slice A0_0 l0_0.length c0_0, .slice A0_1 l0_1.length c0_1] 25 (0, 0)) (zk BK217.out) hb); replace HB := Aside0.mk (below_step (zb1 HB.out GE217.out) hb); (try clear hb); (try clear ho0); have hcz22_0 : w21.cell? ⟨gb217, 0, none⟩ = some (.slice A0_0 l0_0.length c0_0) := (blk_cell BK217.out 0).trans rfl; have hcz22_1 : w21.cell? ⟨gb217, 1, none⟩ = some (.slice A0_1 l0_1.length c0_1) := (blk_cell BK217.out 1).trans rfl; have hfz22_0 := blk_frozen BK217.out 0; have hfz22_1 := blk_frozen BK217.out 1))
 go_loopg [12, 25] k (fun kq v12 v25 w' => ∃ (x12_1 : List Int) (x25_1 : Int), v25 = .int .i64 x25_1 ∧ Aside0 (route_Around.l0 kq a2 a3 l4 x12_1 l0_1 (l0_1.length : Int) x25_1 l0_0 l0_1 = some (r1, r2)) ∧ Aside0 (kq ≤ k) ∧ Aside0 (Kd.R (Kd.int .i64) 3 w' w.heap.size (fun _ => True) v12 x12_1) ∧ Aside0 (w'.heap[gb217]? = some (.cells #[(.slice A0_0 l0_0.length c0_0), (.slice A0_1 l0_1.length c0_1)] 25 (0, 0))) ∧ Aside0 (Below w.heap.size w w'))
 case atStart => exact ⟨(t222), (0), rs, H', ⟨Nat.le_refl _⟩, ⟨by (with_reducible repeat (first | apply Kd.R_alloc | apply Kd.R_drewN | apply Kd.R_drew)); exact Kd.R_mono HO224.out (fun _ hk => trivial)⟩, ⟨zk BK217.out⟩, ⟨zb1 HB.out GE217.out⟩⟩
 case round =>
  clear H'
  obtain ⟨x12_1, x25_1, rfl, HA, HK1, HO_12, BK217, HB⟩ := hrel
  cases gk with
  | zero => exact absurd HA.out (by simp [route_Around.l0])
  | succ k1 =>
   have H := HA.out
   clear HA
   simp only [route_Around.l0] at H
   by_cases c23 : x25_1 < (l0_1.length : Int)
   rotate_left
   ·rw [if_neg c23] at H
    have c23b0 : decide (x25_1 < (l0_1.length : Int)) = false := decide_eq_false c23
    clear c23
    replace H := Option.bind_eq_some_iff.mp H; obtain ⟨⟨t231, t234⟩, A400, H⟩ := H
    replace H : (some (t231, t234)) = some (r1, r2) := H
    have A40 := Aside0.mk A400
    clear A400
    simp only [Option.some.injEq, Prod.mk.injEq] at H
    obtain ⟨rfl, rfl⟩ := H
    have hcz41_0 : wr.cell? ⟨gb217, 0, none⟩ = some (.slice A0_0 l0_0.length c0_0) := (blk_cell BK217.out 0).trans rfl
    have hcz41_1 : wr.cell? ⟨gb217, 1, none⟩ = some (.slice A0_1 l0_1.length c0_1) := (blk_cell BK217.out 1).trans rfl
    have hfz41_0 := blk_frozen BK217.out 0
    have hfz41_1 := blk_frozen BK217.out 1
    obtain ⟨Ao42, co42, eo42⟩ := Kd.R_slice HO_12.out
    subst eo42
    go_wp2_with (first | ((with_reducible refine gate_callee (f := 18) rfl ?_); refine goesL_ (some 50) rfl rfl Try.func18 (by kernel_rfl) rfl #[.agg #[.slice A0_0 l0_0.length c0_0, .slice A0_1 l0_1.length c0_1], .slice Ao42 x12_1.length co42, .int .i64 a2, .int .i64 a3] rfl am ?_; (with_reducible refine (route_Path.calls k1 _ _ l0_0 _ _ l0_1 _ _ x12_1 a2 a3 t231 t234 _ ?side1 ?side2 ?side3 ?side4 ?side5 ?side6 A40.out).mono ?_); (case side1 => exact zc HR0_0.out HB.out); (case side2 => exact HC0_0.out); (case side3 => exact zc HR0_1.out HB.out); (case side4 => exact HC0_1.out); (case side5 => exact zd (Kd.R_reads' HO_12.out).2.2); (case side6 => exact (Kd.R_reads' HO_12.out).2.1); rintro e w43 ⟨v232, rfl, ho0, hb⟩; refine ⟨_, rfl, ?_⟩; have HO233 := Aside0.mk (Kd.R_lower (Kd.R_new' ho0 (Kd.R_lt (zr HO_12.out))) (below_size (zb1 HB.out GE217.out))); replace HO_12 := Aside0.mk (Kd.R_elder' (zr HO_12.out) (Kd.R_base ho0) hb); replace BK217 := Aside0.mk (blk_below (g := gb217) (o := .cells #[.slice A0_0 l0_0.length c0_0, .slice A0_1 l0_1.length c0_1] 25 (0, 0)) (zk BK217.out) hb); replace HB := Aside0.mk (below_step (zb1 HB.out GE217.out) hb); (try clear hb); (try clear ho0)))
    go_ret2
    exact ⟨_, by first | rfl | (simp [errW_none, errW_some] <;> rfl) | (simp [*, errW_none, errW_some] <;> rfl), by (with_reducible repeat (first | apply Kd.R_alloc | apply Kd.R_drewN | apply Kd.R_drew)); exact Kd.R_mono HO233.out (fun _ hk => trivial), zb1 HB.out GE217.out⟩

   rw [if_pos c23] at H
   have c23b0 : decide (x25_1 < (l0_1.length : Int)) = true := decide_eq_true c23
   clear c23
   by_cases c24 : 0 ≤ x25_1
   rotate_left; ·rw [if_neg c24] at H; exact absurd H (by simp)
   rw [if_pos c24] at H
   have c24b0 : decide (0 ≤ x25_1) = true := decide_eq_true c24
   clear c24
   by_cases c25 : x25_1 < (l0_1.length : Int)
   rotate_left; ·rw [if_neg c25] at H; exact absurd H (by simp)
   rw [if_pos c25] at H
   have c25b0 : decide (x25_1 < (l0_1.length : Int)) = true := decide_eq_true c25
   clear c25
   by_cases c26 : ((rd_T38 l0_1 x25_1).f1) = a3
   ·rw [if_pos c26] at H
    have c26b0 : (((rd_T38 l0_1 x25_1).f1) == a3) = true := beq_iff_eq.mpr c26
    have c26b1 : (((rd_T38 l0_1 x25_1).f1) != a3) = false := bne_eq_false_iff_eq.mpr c26
    clear c26
    have H' := Aside0.mk H; clear H
    have p225 : 0 ≤ (x25_1 : Int) := oda
    have q225 : x25_1 < (l0_1.length : Int) := oda
    obtain ⟨ad225, e225, hx225_0, hx225_1⟩ := at_T38 HR0_1.out x25_1 p225 q225
    cases e225
    replace hx225_0 := zx HB.out hx225_0
    replace hx225_1 := zx HB.out hx225_1
    replace p225 := eq_true p225
    replace q225 := eq_true q225
    go_wp2_with (first | ((with_reducible refine gate_dst (N := 14) rfl ?_); refine box_event ?hg (N := 14) ?hd (cs := #[.int .i64 0, .int .i64 0]) (t := 38) ?hr ?_; (case hd => rfl); (case hg => rfl); (case hr => first | (go_simp; done) | (go_simp; rfl)); intro gb226 hg w27 hbox hb; replace HO_12 := Aside0.mk (Kd.R_below (zr HO_12.out) hb); have BK226 := Aside0.mk (hbox); have GW226 := Aside0.mk ((by rw [hg]; exact (below_size (zb1 HB.out GE217.out)) : w.heap.size ≤ gb226)); have GE226 := Aside0.mk ((by rw [hg]; exact (below_size (zb1 HB.out GE217.out)) : w.heap.size ≤ gb226)); replace HB := Aside0.mk (below_step (zb1 HB.out GE217.out) hb); have NB217_226 := Aside0.mk ((by rw [hg]; exact Nat.ne_of_lt (blk_lt (g := gb217) (o := .cells #[.slice A0_0 l0_0.length c0_0, .slice (some ad225) l0_1.length c0_1] 25 (0, 0)) (zk BK217.out)) : gb217 ≠ gb226)); have NB226_217 := Aside0.mk ((by rw [hg]; exact Nat.ne_of_gt (blk_lt (g := gb217) (o := .cells #[.slice A0_0 l0_0.length c0_0, .slice (some ad225) l0_1.length c0_1] 25 (0, 0)) (zk BK217.out)) : gb226 ≠ gb217)); replace BK217 := Aside0.mk (blk_below (g := gb217) (o := .cells #[.slice A0_0 l0_0.length c0_0, .slice (some ad225) l0_1.length c0_1] 25 (0, 0)) (zk BK217.out) hb); clear hb hbox hg; have hnb28 := NB226_217.out; have hnc28 := NB217_226.out; have hcz29_0 : w27.cell? ⟨gb226, 0, none⟩ = some (.int .i64 0) := (blk_cell BK226.out 0).trans rfl; have hcz29_1 : w27.cell? ⟨gb226, 1, none⟩ = some (.int .i64 0) := (blk_cell BK226.out 1).trans rfl; have hfz29_0 := blk_frozen BK226.out 0; have hfz29_1 := blk_frozen BK226.out 1))
    go_roundg k1
    case measure => have := HK1.out; omega
    case rel => exact ⟨(x12_1), (wrap64 (x25_1 + 1)), rs, H', ⟨by have := HK1.out; omega⟩, ⟨by (with_reducible repeat (first | apply Kd.R_alloc | apply Kd.R_drewN | apply Kd.R_drew)); exact Kd.R_mono (Kd.R_far (p := ⟨gb226, 1, none⟩) (Kd.R_far (p := ⟨gb226, 0, none⟩) (Kd.R_types HO_12.out BK226.out (by decide)) (fun _ hk => hk.2) (.int .i64 ((rd_T38 l0_1 x25_1).f0))) (fun _ hk => hk.2) (.int .i64 ((rd_T38 l0_1 x25_1).f1))) (fun _ hk => trivial)⟩, ⟨by (with_reducible repeat (first | refine blk_drewN ?_ _ | refine blk_drew ?_ | refine blk_alloc ?_ _)); refine blk_far ?_ NB217_226.out _; (with_reducible repeat (first | refine blk_drewN ?_ _ | refine blk_drew ?_ | refine blk_alloc ?_ _)); refine blk_far ?_ NB217_226.out _; (with_reducible repeat (first | refine blk_drewN ?_ _ | refine blk_drew ?_ | refine blk_alloc ?_ _)); exact BK217.out⟩, ⟨zb2 HB.out GE217.out GE226.out⟩⟩
   rw [if_neg c26] at H
   have c26b0 : (((rd_T38 l0_1 x25_1).f1) == a3) = false := beq_eq_false_iff_ne.mpr c26
   have c26b1 : (((rd_T38 l0_1 x25_1).f1) != a3) = true := bne_iff_ne.mpr c26
   replace H := Option.bind_eq_some_iff.mp H; obtain ⟨t227, A300, H⟩ := H
   replace H : (if t227 = true then (if x12_1.length < 17592186044416 then (route_Around.l0 k1 a2 a3 l4 (x12_1 ++ [wrap64 (x25_1 + 1)]) l0_1 (l0_1.length : Int) (wrap64 (x25_1 + 1)) l0_0 l0_1) else (none)) else (route_Around.l0 k1 a2 a3 l4 x12_1 l0_1 (l0_1.length : Int) (wrap64 (x25_1 + 1)) l0_0 l0_1)) = some (r1, r2) := H
   have A30 := Aside0.mk A300
   clear A300
   by_cases c31 : t227 = true
   rotate_left
   ·replace c31 := Bool.eq_false_iff.mpr c31
    subst c31
    have H1 : (route_Around.l0 k1 a2 a3 l4 x12_1 l0_1 (l0_1.length : Int) (wrap64 (x25_1 + 1)) l0_0 l0_1) = some (r1, r2) := by rw [if_neg (show ¬ (false = true) by decide)] at H; exact H
    clear H; have H := H1; clear H1
    have H' := Aside0.mk H; clear H
    have p225 : 0 ≤ (x25_1 : Int) := oda
    have q225 : x25_1 < (l0_1.length : Int) := oda
    obtain ⟨ad225, e225, hx225_0, hx225_1⟩ := at_T38 HR0_1.out x25_1 p225 q225
    cases e225
    replace hx225_0 := zx HB.out hx225_0
    replace hx225_1 := zx HB.out hx225_1
    replace p225 := eq_true p225
    replace q225 := eq_true q225
    go_wp2_with (first | ((with_reducible refine gate_dst (N := 14) rfl ?_); refine box_event ?hg (N := 14) ?hd (cs := #[.int .i64 0, .int .i64 0]) (t := 38) ?hr ?_; (case hd => rfl); (case hg => rfl); (case hr => first | (go_simp; done) | (go_simp; rfl)); intro gb226 hg w37 hbox hb; replace HO_12 := Aside0.mk (Kd.R_below (zr HO_12.out) hb); have BK226 := Aside0.mk (hbox); have GW226 := Aside0.mk ((by rw [hg]; exact (below_size (zb1 HB.out GE217.out)) : w.heap.size ≤ gb226)); have GE226 := Aside0.mk ((by rw [hg]; exact (below_size (zb1 HB.out GE217.out)) : w.heap.size ≤ gb226)); replace HB := Aside0.mk (below_step (zb1 HB.out GE217.out) hb); have NB217_226 := Aside0.mk ((by rw [hg]; exact Nat.ne_of_lt (blk_lt (g := gb217) (o := .cells #[.slice A0_0 l0_0.length c0_0, .slice (some ad225) l0_1.length c0_1] 25 (0, 0)) (zk BK217.out)) : gb217 ≠ gb226)); have NB226_217 := Aside0.mk ((by rw [hg]; exact Nat.ne_of_gt (blk_lt (g := gb217) (o := .cells #[.slice A0_0 l0_0.length c0_0, .slice (some ad225) l0_1.length c0_1] 25 (0, 0)) (zk BK217.out)) : gb226 ≠ gb217)); replace BK217 := Aside0.mk (blk_below (g := gb217) (o := .cells #[.slice A0_0 l0_0.length c0_0, .slice (some ad225) l0_1.length c0_1] 25 (0, 0)) (zk BK217.out) hb); clear hb hbox hg; have hnb38 := NB226_217.out; have hnc38 := NB217_226.out; have hcz39_0 : w37.cell? ⟨gb226, 0, none⟩ = some (.int .i64 0) := (blk_cell BK226.out 0).trans rfl; have hcz39_1 : w37.cell? ⟨gb226, 1, none⟩ = some (.int .i64 0) := (blk_cell BK226.out 1).trans rfl; have hfz39_0 := blk_frozen BK226.out 0; have hfz39_1 := blk_frozen BK226.out 1) | (go_at_call 32; (with_reducible refine (slices_Contains_int_int.calls k1 _ _ l4 ((rd_T38 l0_1 x25_1).f1) false _ ?side1 ?side2 A30.out).mono ?_); (case side1 => exact Kd.C_below HR4.out (zb2 HB.out GE217.out GE226.out)); (case side2 => exact HC4.out); rintro e w' ⟨rfl, ⟨nd, rfl⟩⟩))
    go_roundg k1
    case measure => have := HK1.out; omega
    case rel => exact ⟨(x12_1), (wrap64 (x25_1 + 1)), rs, H', ⟨by have := HK1.out; omega⟩, ⟨by (with_reducible repeat (first | apply Kd.R_alloc | apply Kd.R_drewN | apply Kd.R_drew)); exact Kd.R_mono (Kd.R_far (p := ⟨gb226, 1, none⟩) (Kd.R_far (p := ⟨gb226, 0, none⟩) (Kd.R_types HO_12.out BK226.out (by decide)) (fun _ hk => hk.2) (.int .i64 ((rd_T38 l0_1 x25_1).f0))) (fun _ hk => hk.2) (.int .i64 ((rd_T38 l0_1 x25_1).f1))) (fun _ hk => trivial)⟩, ⟨by (with_reducible repeat (first | refine blk_drewN ?_ _ | refine blk_drew ?_ | refine blk_alloc ?_ _)); refine blk_far ?_ NB217_226.out _; (with_reducible repeat (first | refine blk_drewN ?_ _ | refine blk_drew ?_ | refine blk_alloc ?_ _)); refine blk_far ?_ NB217_226.out _; (with_reducible repeat (first | refine blk_drewN ?_ _ | refine blk_drew ?_ | refine blk_alloc ?_ _)); exact BK217.out⟩, ⟨zb2 HB.out GE217.out GE226.out⟩⟩
   subst c31
   have H1 : (if x12_1.length < 17592186044416 then (route_Around.l0 k1 a2 a3 l4 (x12_1 ++ [wrap64 (x25_1 + 1)]) l0_1 (l0_1.length : Int) (wrap64 (x25_1 + 1)) l0_0 l0_1) else (none)) = some (r1, r2) := by rw [if_pos rfl] at H; exact H
   clear H; have H := H1; clear H1
   by_cases c32 : x12_1.length < 17592186044416
   rotate_left; ·rw [if_neg c32] at H; exact absurd H (by simp)
   rw [if_pos c32] at H
   have LMc32 := Aside0.mk c32
   clear c32
   obtain ⟨y228, hy228⟩ : ∃ y_ : List Int, y_ = (x12_1 ++ [wrap64 (x25_1 + 1)]) := ⟨_, rfl⟩
   replace H : (route_Around.l0 k1 a2 a3 l4 y228 l0_1 (l0_1.length : Int) (wrap64 (x25_1 + 1)) l0_0 l0_1) = some (r1, r2) := by first | (rw [hy228]; with_reducible exact H) | (have H2_ := (Option.bind_some _ _).symm.trans H; rw [hy228]; with_reducible exact H2_) | (have H2_ := (Option.bind_some _ _).symm.trans H; with_reducible exact H2_) | with_reducible exact H | (rw [hy228]; exact H) | exact H
   have Ny228 := Aside0.mk hy228
   clear hy228
   have H' := Aside0.mk H; clear H
   have p225 : 0 ≤ (x25_1 : Int) := oda
   have q225 : x25_1 < (l0_1.length : Int) := oda
   obtain ⟨ad225, e225, hx225_0, hx225_1⟩ := at_T38 HR0_1.out x25_1 p225 q225
   cases e225
   replace hx225_0 := zx HB.out hx225_0
   replace hx225_1 := zx HB.out hx225_1
   replace p225 := eq_true p225
   replace q225 := eq_true q225
   go_wp2_with (first | ((with_reducible refine gate_dst (N := 14) rfl ?_); refine box_event ?hg (N := 14) ?hd (cs := #[.int .i64 0, .int .i64 0]) (t := 38) ?hr ?_; (case hd => rfl); (case hg => rfl); (case hr => first | (go_simp; done) | (go_simp; rfl)); intro gb226 hg w33 hbox hb; replace HO_12 := Aside0.mk (Kd.R_below (zr HO_12.out) hb); have BK226 := Aside0.mk (hbox); have GW226 := Aside0.mk ((by rw [hg]; exact (below_size (zb1 HB.out GE217.out)) : w.heap.size ≤ gb226)); have GE226 := Aside0.mk ((by rw [hg]; exact (below_size (zb1 HB.out GE217.out)) : w.heap.size ≤ gb226)); replace HB := Aside0.mk (below_step (zb1 HB.out GE217.out) hb); have NB217_226 := Aside0.mk ((by rw [hg]; exact Nat.ne_of_lt (blk_lt (g := gb217) (o := .cells #[.slice A0_0 l0_0.length c0_0, .slice (some ad225) l0_1.length c0_1] 25 (0, 0)) (zk BK217.out)) : gb217 ≠ gb226)); have NB226_217 := Aside0.mk ((by rw [hg]; exact Nat.ne_of_gt (blk_lt (g := gb217) (o := .cells #[.slice A0_0 l0_0.length c0_0, .slice (some ad225) l0_1.length c0_1] 25 (0, 0)) (zk BK217.out)) : gb226 ≠ gb217)); replace BK217 := Aside0.mk (blk_below (g := gb217) (o := .cells #[.slice A0_0 l0_0.length c0_0, .slice (some ad225) l0_1.length c0_1] 25 (0, 0)) (zk BK217.out) hb); clear hb hbox hg; have hnb34 := NB226_217.out; have hnc34 := NB217_226.out; have hcz35_0 : w33.cell? ⟨gb226, 0, none⟩ = some (.int .i64 0) := (blk_cell BK226.out 0).trans rfl; have hcz35_1 : w33.cell? ⟨gb226, 1, none⟩ = some (.int .i64 0) := (blk_cell BK226.out 1).trans rfl; have hfz35_0 := blk_frozen BK226.out 0; have hfz35_1 := blk_frozen BK226.out 1) | (go_at_call 32; (with_reducible refine (slices_Contains_int_int.calls k1 _ _ l4 ((rd_T38 l0_1 x25_1).f1) true _ ?side1 ?side2 A30.out).mono ?_); (case side1 => exact Kd.C_below HR4.out (zb2 HB.out GE217.out GE226.out)); (case side2 => exact HC4.out); rintro e w' ⟨rfl, ⟨nd, rfl⟩⟩) | ((with_reducible refine gate_builtin (b := .append) (xs := #[.tmp 40, .tmp 43]) rfl ?_); at_builtin; refine Kd.R_append (Kd.int .i64) (w0 := w) w.heap.size rfl (.tmp 40) (.tmp 43) 26 3 (.int .i64 0) 8 rfl Try.underlying26 info3 rfl (by decide) (by omega) u12 x12_1 (wrap64 (x25_1 + 1)) [.int .i64 (wrap64 (x25_1 + 1))] (fun _ => True) (fun _ => False) rfl (by first | (go_simp; done) | (go_simp; rfl)) ?aP (fun _ hk => hk.elim) ?aF ?aO ?aB ?aS ?aL ?_; (case aP => exact rfl); (case aB => exact (zb2 HB.out GE217.out GE226.out)); (case aF => exact (fun _ _ => trivial)); (case aO => exact (by (with_reducible repeat (first | apply Kd.R_alloc | apply Kd.R_drewN | apply Kd.R_drew)); exact Kd.R_mono (Kd.R_far (p := ⟨gb226, 1, none⟩) (Kd.R_far (p := ⟨gb226, 0, none⟩) (Kd.R_types HO_12.out BK226.out (by decide)) (fun _ hk => hk.2) (.int .i64 ((rd_T38 l0_1 x25_1).f0))) (fun _ hk => hk.2) (.int .i64 ((rd_T38 l0_1 x25_1).f1))) (fun _ hk => trivial))); (case aS => exact (below_size (zb2 HB.out GE217.out GE226.out))); (case aL => have := LMc32.out; omega); intro v229 w36 ho hb hg hat; rw [← Ny228.out] at ho; replace BK217 := Aside0.mk (blk_grown (g := gb217) (o := .cells #[.slice A0_0 l0_0.length c0_0, .slice (some ad225) l0_1.length c0_1] 25 (0, 0)) (by (with_reducible repeat (first | refine blk_drewN ?_ _ | refine blk_drew ?_ | refine blk_alloc ?_ _)); refine blk_far ?_ NB217_226.out _; (with_reducible repeat (first | refine blk_drewN ?_ _ | refine blk_drew ?_ | refine blk_alloc ?_ _)); refine blk_far ?_ NB217_226.out _; (with_reducible repeat (first | refine blk_drewN ?_ _ | refine blk_drew ?_ | refine blk_alloc ?_ _)); exact BK217.out) hg (Kd.R_ne HO_12.out BK217.out (by decide))); replace BK226 := Aside0.mk (blk_grown (g := gb226) (o := .cells #[.int .i64 ((rd_T38 l0_1 x25_1).f0), .int .i64 ((rd_T38 l0_1 x25_1).f1)] 38 (0, 0)) (by (with_reducible repeat (first | refine blk_drewN ?_ _ | refine blk_drew ?_ | refine blk_alloc ?_ _)); refine blk_put (cs := #[.int .i64 ((rd_T38 l0_1 x25_1).f0), .int .i64 0]) ?_ 1 _ rfl; (with_reducible repeat (first | refine blk_drewN ?_ _ | refine blk_drew ?_ | refine blk_alloc ?_ _)); refine blk_put (cs := #[.int .i64 0, .int .i64 0]) ?_ 0 _ rfl; (with_reducible repeat (first | refine blk_drewN ?_ _ | refine blk_drew ?_ | refine blk_alloc ?_ _)); exact BK226.out) hg (Kd.R_ne HO_12.out BK226.out (by decide))); replace HB := Aside0.mk (hb); have HO230 := Aside0.mk (ho); clear HO_12; clear ho hb hg hat))
   go_roundg k1
   case measure => have := HK1.out; omega
   case rel => exact ⟨(y228), (wrap64 (x25_1 + 1)), rs, H', ⟨by have := HK1.out; omega⟩, ⟨zr HO230.out⟩, ⟨zk BK217.out⟩, ⟨zb2 HB.out GE217.out GE226.out⟩⟩
end Go.Proofs.Ytbbdgndaaajejaa.PRoutePaths
