-- Written by a program of this session (wip/oprint): after the pattern of the kit's print, which does not take this law. -- trimmed
import Derived.Test.YtbbdgndaaajejaaPRoutePathsx0
import Derived.Test.YtbbdgndaaajejaaPRoutePathsx11
import Derived.Test.YtbbdgndaaajejaaPRoutePathsx12
namespace Go.Proofs.Ytbbdgndaaajejaa.PRoutePaths
open Go.RowKit Go.Proofs.YtbbdgndaaajejaaW.PrintWords Go.Proofs.YtbbdgndaaajejaaW.PrintLast Go.Proofs.YtbbdgndaaajejaaW.PrintMore
attribute [local go_sem] max2_int min2_int max_two min_two max_three min_three max_four min_four   -- for this text's walks alone
set_option linter.unusedVariables false
set_option linter.unusedSimpArgs false

/-! ### stillageref08_reached: function 46 -/
def stillageref08_reached.l0 : Nat → Int → Int → Int → List Int → List Int → Int → List (S47) → List (S38) → Option (Bool)
 | 0, _, _, _, _, _, _, _, _ => none
 | k + 1, x2, x3, x4, x5, x13, x14, x347000, x347001 => if x14 ≤ (x347001.length : Int) then (if 0 ≤ (wrap64 (x14 - 1)) then (if (wrap64 (x14 - 1)) < (x347001.length : Int) then (if ((rd_T38 x347001 (wrap64 (x14 - 1))).f1) = x3 then (stillageref08_reached.l0 k x2 x3 x4 x5 x13 (wrap64 (x14 + 1)) x347000 x347001) else ((stillageref08_has.f k x5 ((rd_T38 x347001 (wrap64 (x14 - 1))).f1)).bind fun t355 => (if t355 = true then (if x13.length < 17592186044416 then (stillageref08_reached.l0 k x2 x3 x4 x5 (x13 ++ [x14]) (wrap64 (x14 + 1)) x347000 x347001) else (none)) else (stillageref08_reached.l0 k x2 x3 x4 x5 x13 (wrap64 (x14 + 1)) x347000 x347001)))) else (none)) else (none)) else ((stillageref07_Between.f k x347000 x347001 x13 x2).bind fun t359 => (if 0 ≤ x3 then (if x3 < (t359.length : Int) then (if (rd t359 x3) ≥ 0 then (some (decide ((rd t359 x3) ≤ x4))) else (some false)) else (none)) else (none)))
def stillageref08_reached.f (k : Nat) (l0_0 : List (S47)) (l0_1 : List (S38)) (l1 : List Int) (a2 : Int) (a3 : Int) (a4 : Int) (l5 : List Int) : Option (Bool) := (some (([] : List Int) : List Int)).bind fun y347 => (if y347.length + l1.length < 17592186044416 then (stillageref08_reached.l0 k a2 a3 a4 l5 (y347 ++ l1) 1 l0_0 l0_1) else (none))
theorem stillageref08_reached.mono_l : ∀ k, (∀ y0 y1 y2 y3 y4 y5 y6 y7, LeO (stillageref08_reached.l0 k y0 y1 y2 y3 y4 y5 y6 y7) (stillageref08_reached.l0 (k + 1) y0 y1 y2 y3 y4 y5 y6 y7))
 | 0 => fun _ _ _ _ _ _ _ _ r h => by simp [stillageref08_reached.l0] at h
 | k + 1 => by
  have ih0 := stillageref08_reached.mono_l k
  ·intro y0 y1 y2 y3 y4 y5 y6 y7
   unfold stillageref08_reached.l0
   repeat' first
   | (with_reducible exact ih0 _ _ _ _ _ _ _ _)
   | (with_reducible exact stillageref07_Between.mono _ _ _ _ _)
   | (with_reducible exact stillageref08_has.mono _ _ _)
   | (with_reducible exact LeO.refl _)
   | (with_reducible exact LeO.none _)
   | (with_reducible refine LeO.ite ?_ ?_)
   | (with_reducible refine LeO.bind ?_ (fun _ => ?_))
   | exact ih0 _ _ _ _ _ _ _ _
   | exact stillageref07_Between.mono _ _ _ _ _
   | exact stillageref08_has.mono _ _ _
   | exact LeO.none _
   | refine LeO.ite ?_ ?_
   | refine LeO.bind ?_ (fun _ => ?_)
theorem stillageref08_reached.mono : ∀ a0 a1 a2 a3 a4 a5 a6 k, LeO (stillageref08_reached.f k a0 a1 a2 a3 a4 a5 a6) (stillageref08_reached.f (k + 1) a0 a1 a2 a3 a4 a5 a6) := by
 intro a0 a1 a2 a3 a4 a5 a6 k
 have ih0 := stillageref08_reached.mono_l k
 unfold stillageref08_reached.f
 repeat' first
   | (with_reducible exact ih0 _ _ _ _ _ _ _ _)
   | (with_reducible exact stillageref07_Between.mono _ _ _ _ _)
   | (with_reducible exact stillageref08_has.mono _ _ _)
   | (with_reducible exact LeO.refl _)
   | (with_reducible exact LeO.none _)
   | (with_reducible refine LeO.ite ?_ ?_)
   | (with_reducible refine LeO.bind ?_ (fun _ => ?_))
   | exact ih0 _ _ _ _ _ _ _ _
   | exact stillageref07_Between.mono _ _ _ _ _
   | exact stillageref08_has.mono _ _ _
   | exact LeO.none _
   | refine LeO.ite ?_ ?_
   | refine LeO.bind ?_ (fun _ => ?_)
set_option maxHeartbeats 8000000 in
set_option maxRecDepth 100000 in
theorem stillageref08_reached.calls (k : Nat) (A0_0 : Option Addr) (c0_0 : Nat) (l0_0 : List (S47)) (A0_1 : Option Addr) (c0_1 : Nat) (l0_1 : List (S38)) (A1 : Option Addr) (c1 : Nat) (l1 : List Int) (a2 : Int) (a3 : Int) (a4 : Int) (A5 : Option Addr) (c5 : Nat) (l5 : List Int) (r : Bool) (w : World) (hr0_0 : Kd.C k47 w A0_0 l0_0.length l0_0) (hc0_0 : l0_0.length ≤ c0_0) (hr0_1 : Kd.C k38 w A0_1 l0_1.length l0_1) (hc0_1 : l0_1.length ≤ c0_1) (hr1 : Kd.C (Kd.int .i64) w A1 l1.length l1) (hc1 : l1.length ≤ c1) (hr5 : Kd.C (Kd.int .i64) w A5 l5.length l5) (hc5 : l5.length ≤ c5) (h : stillageref08_reached.f k l0_0 l0_1 l1 a2 a3 a4 l5 = some r) :
  Calls Try.prog 46 #[.agg #[.slice A0_0 l0_0.length c0_0, .slice A0_1 l0_1.length c0_1], .slice A1 l1.length c1, .int .i64 a2, .int .i64 a3, .int .i64 a4, .slice A5 l5.length c5] w fun e w' => e = .returned (.bool r) ∧ Below w.heap.size w w' := by
 have hu25 := Try.underlying25
 have HR0_0 := Aside0.mk hr0_0
 have HC0_0 := Aside0.mk hc0_0
 clear hr0_0 hc0_0
 have HR0_1 := Aside0.mk hr0_1
 have HC0_1 := Aside0.mk hc0_1
 clear hr0_1 hc0_1
 have HR1 := Aside0.mk hr1
 have HC1 := Aside0.mk hc1
 clear hr1 hc1
 have HR5 := Aside0.mk hr5
 have HC5 := Aside0.mk hc5
 clear hr5 hc5
 have HB := Aside0.mk (Below.refl w.heap.size w)
 have H : ((some (([] : List Int) : List Int)).bind fun y347 => (if y347.length + l1.length < 17592186044416 then (stillageref08_reached.l0 k a2 a3 a4 l5 (y347 ++ l1) 1 l0_0 l0_1) else (none))) = some r := h
 clear h
 obtain ⟨y347, hy347⟩ : ∃ y_ : List Int, y_ = (([] : List Int)) := ⟨_, rfl⟩
 replace H : (if y347.length + l1.length < 17592186044416 then (stillageref08_reached.l0 k a2 a3 a4 l5 (y347 ++ l1) 1 l0_0 l0_1) else (none)) = some r := by first | (rw [hy347]; with_reducible exact H) | (have H2_ := (Option.bind_some _ _).symm.trans H; rw [hy347]; with_reducible exact H2_) | (have H2_ := (Option.bind_some _ _).symm.trans H; with_reducible exact H2_) | with_reducible exact H | (rw [hy347]; exact H) | exact H
 have Ny347 := Aside0.mk hy347
 clear hy347
 by_cases c7 : y347.length + l1.length < 17592186044416
 rotate_left; ·rw [if_neg c7] at H; exact absurd H (by simp)

 rw [if_pos c7] at H
 have LMc7 := Aside0.mk c7
 clear c7
 obtain ⟨y350, hy350⟩ : ∃ y_ : List Int, y_ = (y347 ++ l1) := ⟨_, rfl⟩
 replace H : (stillageref08_reached.l0 k a2 a3 a4 l5 y350 1 l0_0 l0_1) = some r := by first | (rw [hy350]; with_reducible exact H) | (have H2_ := (Option.bind_some _ _).symm.trans H; rw [hy350]; with_reducible exact H2_) | (have H2_ := (Option.bind_some _ _).symm.trans H; with_reducible exact H2_) | with_reducible exact H | (rw [hy350]; exact H) | exact H
 have Ny350 := Aside0.mk hy350
 clear hy350
 have H' := Aside0.mk H; clear H
 go_enter Try.func46, Try.ntmps46
 go_wp2_with (first | ((with_reducible refine gate_dst (N := 6) rfl ?_); refine box_event ?hg (N := 6) ?hd (cs := #[.slice A0_0 l0_0.length c0_0, .slice A0_1 l0_1.length c0_1]) (t := 25) ?hr ?_; (case hd => rfl); (case hg => rfl); (case hr => first | (go_simp; done) | (go_simp; rfl)); intro gb346 hg w8 hbox hb; have BK346 := Aside0.mk (hbox); have GW346 := Aside0.mk ((by rw [hg]; exact (below_size (zb0 HB.out)) : w.heap.size ≤ gb346)); have GE346 := Aside0.mk ((by rw [hg]; exact (below_size (zb0 HB.out)) : w.heap.size ≤ gb346)); replace HB := Aside0.mk (below_step (zb0 HB.out) hb); clear hb hbox hg) | ((with_reducible refine gate_dst (N := 16) rfl ?_); refine Kd.R_lit (Kd.int .i64) _ 3 ?hg (N := 16) ?hd (xs := ([] : List Int)) (inner := []) (ok := fun _ => True) (okp := fun _ => True) ?hr ?hp (fun _ hk => hk) trivial (Below.refl _ _) (Nat.le_refl _) (by simp) ?_; (case hd => rfl); (case hg => rfl); (case hr => first | (go_simp; done) | (go_simp; rfl)); (case hp => exact (Reps.none _ _)); intro v348 w9 ho10 hb hg_ hnew_; clear hg_ hnew_; (first | rw [← Ny347.out] at ho10 | (simp only [Int.reduceToNat] at ho10; rw [← Ny347.out] at ho10)); have HO349 := Aside0.mk (Kd.R_lower ho10 (below_size (zb1 HB.out GE346.out))); replace BK346 := Aside0.mk (blk_below (g := gb346) (o := .cells #[.slice A0_0 l0_0.length c0_0, .slice A0_1 l0_1.length c0_1] 25 (0, 0)) (zk BK346.out) hb); replace HB := Aside0.mk (below_step (zb1 HB.out GE346.out) hb); clear hb ho10) | ((with_reducible refine gate_builtin (b := .append) (xs := #[.tmp 16, .tmp 17]) rfl ?_); at_builtin; refine Kd.R_append_rows (Kd.int .i64) (w0 := w) w.heap.size rfl (.tmp 16) (.tmp 17) 26 3 (.int .i64 0) 8 rfl Try.underlying26 info3 rfl (by decide) (by omega) v348 y347 l1 _ _ _ (fun _ => True) (fun _ => False) rfl rfl ?aO ?aR (fun _ _ h => h) (fun _ h => h.elim) ?aF ?aB ?aS ?aL ?_; (case aR => exact zc HR1.out HB.out); (case aB => exact (zb1 HB.out GE346.out)); (case aF => exact (fun _ _ => trivial)); (case aO => exact (zr HO349.out)); (case aS => exact (below_size (zb1 HB.out GE346.out))); (case aL => have := LMc7.out; omega); intro v351 w11 ho hb hg hat; rw [← Ny350.out] at ho; replace BK346 := Aside0.mk (blk_grown (g := gb346) (o := .cells #[.slice A0_0 l0_0.length c0_0, .slice A0_1 l0_1.length c0_1] 25 (0, 0)) (zk BK346.out) hg (Kd.R_ne HO349.out BK346.out (by decide))); replace HB := Aside0.mk (hb); have HO352 := Aside0.mk (ho); clear HO349; clear ho hb hg hat))
 go_loopg [13, 14] k (fun kq v13 v14 w' => ∃ (x13_1 : List Int) (x14_1 : Int), v14 = .int .i64 x14_1 ∧ Aside0 (stillageref08_reached.l0 kq a2 a3 a4 l5 x13_1 x14_1 l0_0 l0_1 = some r) ∧ Aside0 (kq ≤ k) ∧ Aside0 (Kd.R (Kd.int .i64) 3 w' w.heap.size (fun _ => True) v13 x13_1) ∧ Aside0 (w'.heap[gb346]? = some (.cells #[(.slice A0_0 l0_0.length c0_0), (.slice A0_1 l0_1.length c0_1)] 25 (0, 0))) ∧ Aside0 (Below w.heap.size w w'))
 case atStart => exact ⟨(y350), (1), rs, H', ⟨Nat.le_refl _⟩, ⟨zr HO352.out⟩, ⟨zk BK346.out⟩, ⟨zb1 HB.out GE346.out⟩⟩
 case round =>
  clear H'
  obtain ⟨x13_1, x14_1, rfl, HA, HK1, HO_13, BK346, HB⟩ := hrel
  cases gk with
  | zero => exact absurd HA.out (by simp [stillageref08_reached.l0])
  | succ k1 =>
   have H := HA.out
   clear HA
   simp only [stillageref08_reached.l0] at H
   by_cases c12 : x14_1 ≤ (l0_1.length : Int)
   rotate_left
   ·rw [if_neg c12] at H
    have c12b0 : decide (x14_1 ≤ (l0_1.length : Int)) = false := decide_eq_false c12
    clear c12
    replace H := Option.bind_eq_some_iff.mp H; obtain ⟨t359, A240, H⟩ := H
    replace H : (if 0 ≤ a3 then (if a3 < (t359.length : Int) then (if (rd t359 a3) ≥ 0 then (some (decide ((rd t359 a3) ≤ a4))) else (some false)) else (none)) else (none)) = some r := H
    have A24 := Aside0.mk A240
    clear A240
    by_cases c25 : 0 ≤ a3
    rotate_left; ·rw [if_neg c25] at H; exact absurd H (by simp)
    rw [if_pos c25] at H
    have c25b0 : decide (0 ≤ a3) = true := decide_eq_true c25
    clear c25
    by_cases c26 : a3 < (t359.length : Int)
    rotate_left; ·rw [if_neg c26] at H; exact absurd H (by simp)
    rw [if_pos c26] at H
    have c26b0 : decide (a3 < (t359.length : Int)) = true := decide_eq_true c26
    clear c26
    by_cases c27 : (rd t359 a3) ≥ 0
    ·rw [if_pos c27] at H
     have c27b0 : decide (0 ≤ (rd t359 a3)) = true := decide_eq_true c27
     clear c27
     obtain rfl := Option.some.inj H
     have hcz28_0 : wr.cell? ⟨gb346, 0, none⟩ = some (.slice A0_0 l0_0.length c0_0) := (blk_cell BK346.out 0).trans rfl
     have hcz28_1 : wr.cell? ⟨gb346, 1, none⟩ = some (.slice A0_1 l0_1.length c0_1) := (blk_cell BK346.out 1).trans rfl
     have hfz28_0 := blk_frozen BK346.out 0
     have hfz28_1 := blk_frozen BK346.out 1
     obtain ⟨Ao29, co29, eo29⟩ := Kd.R_slice HO_13.out
     subst eo29
     go_wp2_with (first | ((with_reducible refine gate_callee (f := 49) rfl ?_); refine goesL_ (some 53) rfl rfl Try.func49 (by kernel_rfl) rfl #[.agg #[.slice A0_0 l0_0.length c0_0, .slice A0_1 l0_1.length c0_1], .slice Ao29 x13_1.length co29, .int .i64 a2] rfl am ?_; (with_reducible refine (stillageref07_Between.calls k1 _ _ l0_0 _ _ l0_1 _ _ x13_1 a2 t359 _ ?side1 ?side2 ?side3 ?side4 ?side5 ?side6 A24.out).mono ?_); (case side1 => exact zc HR0_0.out HB.out); (case side2 => exact HC0_0.out); (case side3 => exact zc HR0_1.out HB.out); (case side4 => exact HC0_1.out); (case side5 => exact zd (Kd.R_reads' HO_13.out).2.2); (case side6 => exact (Kd.R_reads' HO_13.out).2.1); rintro e w30 ⟨v360, rfl, ho0, hb⟩; refine ⟨_, rfl, ?_⟩; have HO361 := Aside0.mk (Kd.R_lower (Kd.R_new' ho0 (Kd.R_lt (zr HO_13.out))) (below_size (zb1 HB.out GE346.out))); replace HO_13 := Aside0.mk (Kd.R_elder' (zr HO_13.out) (Kd.R_base ho0) hb); replace BK346 := Aside0.mk (blk_below (g := gb346) (o := .cells #[.slice A0_0 l0_0.length c0_0, .slice A0_1 l0_1.length c0_1] 25 (0, 0)) (zk BK346.out) hb); replace HB := Aside0.mk (below_step (zb1 HB.out GE346.out) hb); (try clear hb); (try clear ho0); obtain ⟨Ao31, co31, eo31⟩ := Kd.R_slice HO361.out; subst eo31; have p362 : 0 ≤ (a3 : Int) := oda; have q362 : a3 < (t359.length : Int) := oda; obtain ⟨ad362, e362, hx362_0⟩ := Kd.at_int (Kd.R_reads' HO361.out).2.2 a3 p362 q362; cases e362; replace p362 := eq_true p362; replace q362 := eq_true q362))
     go_ret
     exact ⟨by first | rfl | (simp [errW_none, errW_some] <;> rfl) | (simp [*, errW_none, errW_some] <;> rfl), zb1 HB.out GE346.out⟩
    rw [if_neg c27] at H
    have c27b0 : decide (0 ≤ (rd t359 a3)) = false := decide_eq_false c27
    clear c27
    obtain rfl := Option.some.inj H
    have hcz32_0 : wr.cell? ⟨gb346, 0, none⟩ = some (.slice A0_0 l0_0.length c0_0) := (blk_cell BK346.out 0).trans rfl
    have hcz32_1 : wr.cell? ⟨gb346, 1, none⟩ = some (.slice A0_1 l0_1.length c0_1) := (blk_cell BK346.out 1).trans rfl
    have hfz32_0 := blk_frozen BK346.out 0
    have hfz32_1 := blk_frozen BK346.out 1
    obtain ⟨Ao33, co33, eo33⟩ := Kd.R_slice HO_13.out
    subst eo33
    go_wp2_with (first | ((with_reducible refine gate_callee (f := 49) rfl ?_); refine goesL_ (some 53) rfl rfl Try.func49 (by kernel_rfl) rfl #[.agg #[.slice A0_0 l0_0.length c0_0, .slice A0_1 l0_1.length c0_1], .slice Ao33 x13_1.length co33, .int .i64 a2] rfl am ?_; (with_reducible refine (stillageref07_Between.calls k1 _ _ l0_0 _ _ l0_1 _ _ x13_1 a2 t359 _ ?side1 ?side2 ?side3 ?side4 ?side5 ?side6 A24.out).mono ?_); (case side1 => exact zc HR0_0.out HB.out); (case side2 => exact HC0_0.out); (case side3 => exact zc HR0_1.out HB.out); (case side4 => exact HC0_1.out); (case side5 => exact zd (Kd.R_reads' HO_13.out).2.2); (case side6 => exact (Kd.R_reads' HO_13.out).2.1); rintro e w34 ⟨v360, rfl, ho0, hb⟩; refine ⟨_, rfl, ?_⟩; have HO361 := Aside0.mk (Kd.R_lower (Kd.R_new' ho0 (Kd.R_lt (zr HO_13.out))) (below_size (zb1 HB.out GE346.out))); replace HO_13 := Aside0.mk (Kd.R_elder' (zr HO_13.out) (Kd.R_base ho0) hb); replace BK346 := Aside0.mk (blk_below (g := gb346) (o := .cells #[.slice A0_0 l0_0.length c0_0, .slice A0_1 l0_1.length c0_1] 25 (0, 0)) (zk BK346.out) hb); replace HB := Aside0.mk (below_step (zb1 HB.out GE346.out) hb); (try clear hb); (try clear ho0); obtain ⟨Ao35, co35, eo35⟩ := Kd.R_slice HO361.out; subst eo35; have p362 : 0 ≤ (a3 : Int) := oda; have q362 : a3 < (t359.length : Int) := oda; obtain ⟨ad362, e362, hx362_0⟩ := Kd.at_int (Kd.R_reads' HO361.out).2.2 a3 p362 q362; cases e362; replace p362 := eq_true p362; replace q362 := eq_true q362))
    go_ret
    exact ⟨by first | rfl | (simp [errW_none, errW_some] <;> rfl) | (simp [*, errW_none, errW_some] <;> rfl), zb1 HB.out GE346.out⟩
   rw [if_pos c12] at H
   have c12b0 : decide (x14_1 ≤ (l0_1.length : Int)) = true := decide_eq_true c12
   clear c12
   obtain ⟨ji13, hji13⟩ : ∃ j_ : Int, (wrap64 (x14_1 - 1)) = j_ := ⟨_, rfl⟩
   replace H : (if 0 ≤ (ji13) then (if (ji13) < (l0_1.length : Int) then (if ((rd_T38 l0_1 (ji13)).f1) = a3 then (stillageref08_reached.l0 k1 a2 a3 a4 l5 x13_1 (wrap64 (x14_1 + 1)) l0_0 l0_1) else ((stillageref08_has.f k1 l5 ((rd_T38 l0_1 (ji13)).f1)).bind fun t355 => (if t355 = true then (if x13_1.length < 17592186044416 then (stillageref08_reached.l0 k1 a2 a3 a4 l5 (x13_1 ++ [x14_1]) (wrap64 (x14_1 + 1)) l0_0 l0_1) else (none)) else (stillageref08_reached.l0 k1 a2 a3 a4 l5 x13_1 (wrap64 (x14_1 + 1)) l0_0 l0_1)))) else (none)) else (none)) = some r := by first | (rw [hji13] at H; exact H) | (simp only [hji13] at H ⊢; exact H)
   have hji13w : (IntKind.i64.wrap (x14_1 - 1)) = ji13 := (i64_w _).trans hji13
   by_cases c14 : 0 ≤ (ji13)
   rotate_left; ·rw [if_neg c14] at H; exact absurd H (by simp)
   rw [if_pos c14] at H
   have c14b0 : decide (0 ≤ (ji13)) = true := decide_eq_true c14
   clear c14
   by_cases c15 : (ji13) < (l0_1.length : Int)
   rotate_left; ·rw [if_neg c15] at H; exact absurd H (by simp)
   rw [if_pos c15] at H
   have c15b0 : decide ((ji13) < (l0_1.length : Int)) = true := decide_eq_true c15
   clear c15
   by_cases c16 : ((rd_T38 l0_1 (ji13)).f1) = a3
   ·rw [if_pos c16] at H
    have c16b0 : (((rd_T38 l0_1 (ji13)).f1) == a3) = true := beq_iff_eq.mpr c16
    have c16b1 : (((rd_T38 l0_1 (ji13)).f1) != a3) = false := bne_eq_false_iff_eq.mpr c16
    clear c16
    have H' := Aside0.mk H; clear H
    have hcz17_0 : wr.cell? ⟨gb346, 0, none⟩ = some (.slice A0_0 l0_0.length c0_0) := (blk_cell BK346.out 0).trans rfl
    have hcz17_1 : wr.cell? ⟨gb346, 1, none⟩ = some (.slice A0_1 l0_1.length c0_1) := (blk_cell BK346.out 1).trans rfl
    have hfz17_0 := blk_frozen BK346.out 0
    have hfz17_1 := blk_frozen BK346.out 1
    have p353 : 0 ≤ ((ji13) : Int) := oda
    have q353 : (ji13) < (l0_1.length : Int) := oda
    obtain ⟨ad353, e353, hx353_0, hx353_1⟩ := at_T38 HR0_1.out (ji13) p353 q353
    cases e353
    replace hx353_0 := zx HB.out hx353_0
    replace hx353_1 := zx HB.out hx353_1
    replace p353 := eq_true p353
    replace q353 := eq_true q353
    go_wp2
    go_roundg k1
    case measure => have := HK1.out; omega
    case rel => exact ⟨(x13_1), (wrap64 (x14_1 + 1)), rs, H', ⟨by have := HK1.out; omega⟩, ⟨zr HO_13.out⟩, ⟨zk BK346.out⟩, ⟨zb1 HB.out GE346.out⟩⟩
   rw [if_neg c16] at H
   have c16b0 : (((rd_T38 l0_1 (ji13)).f1) == a3) = false := beq_eq_false_iff_ne.mpr c16
   have c16b1 : (((rd_T38 l0_1 (ji13)).f1) != a3) = true := bne_iff_ne.mpr c16
   replace H := Option.bind_eq_some_iff.mp H; obtain ⟨t355, A180, H⟩ := H
   replace H : (if t355 = true then (if x13_1.length < 17592186044416 then (stillageref08_reached.l0 k1 a2 a3 a4 l5 (x13_1 ++ [x14_1]) (wrap64 (x14_1 + 1)) l0_0 l0_1) else (none)) else (stillageref08_reached.l0 k1 a2 a3 a4 l5 x13_1 (wrap64 (x14_1 + 1)) l0_0 l0_1)) = some r := H
   have A18 := Aside0.mk A180
   clear A180
   by_cases c19 : t355 = true
   rotate_left
   ·replace c19 := Bool.eq_false_iff.mpr c19
    subst c19
    have H1 : (stillageref08_reached.l0 k1 a2 a3 a4 l5 x13_1 (wrap64 (x14_1 + 1)) l0_0 l0_1) = some r := by rw [if_neg (show ¬ (false = true) by decide)] at H; exact H
    clear H; have H := H1; clear H1
    have H' := Aside0.mk H; clear H
    have hcz23_0 : wr.cell? ⟨gb346, 0, none⟩ = some (.slice A0_0 l0_0.length c0_0) := (blk_cell BK346.out 0).trans rfl
    have hcz23_1 : wr.cell? ⟨gb346, 1, none⟩ = some (.slice A0_1 l0_1.length c0_1) := (blk_cell BK346.out 1).trans rfl
    have hfz23_0 := blk_frozen BK346.out 0
    have hfz23_1 := blk_frozen BK346.out 1
    have p353 : 0 ≤ ((ji13) : Int) := oda
    have q353 : (ji13) < (l0_1.length : Int) := oda
    obtain ⟨ad353, e353, hx353_0, hx353_1⟩ := at_T38 HR0_1.out (ji13) p353 q353
    cases e353
    replace hx353_0 := zx HB.out hx353_0
    replace hx353_1 := zx HB.out hx353_1
    replace p353 := eq_true p353
    replace q353 := eq_true q353
    have p354 : 0 ≤ ((ji13) : Int) := oda
    have q354 : (ji13) < (l0_1.length : Int) := oda
    obtain ⟨ad354, e354, hx354_0, hx354_1⟩ := at_T38 HR0_1.out (ji13) p354 q354
    obtain rfl : ad353 = ad354 := (by injection e354)
    replace hx354_0 := zx HB.out hx354_0
    replace hx354_1 := zx HB.out hx354_1
    replace p354 := eq_true p354
    replace q354 := eq_true q354
    go_wp2_with (first | (go_at_call 45; (with_reducible refine (stillageref08_has.calls k1 _ _ l5 ((rd_T38 l0_1 (ji13)).f1) false _ ?side1 ?side2 A18.out).mono ?_); (case side1 => exact zc HR5.out HB.out); (case side2 => exact HC5.out); rintro e w' ⟨rfl, ⟨nd, rfl⟩⟩))
    go_roundg k1
    case measure => have := HK1.out; omega
    case rel => exact ⟨(x13_1), (wrap64 (x14_1 + 1)), rs, H', ⟨by have := HK1.out; omega⟩, ⟨zr HO_13.out⟩, ⟨zk BK346.out⟩, ⟨zb1 HB.out GE346.out⟩⟩
   subst c19
   have H1 : (if x13_1.length < 17592186044416 then (stillageref08_reached.l0 k1 a2 a3 a4 l5 (x13_1 ++ [x14_1]) (wrap64 (x14_1 + 1)) l0_0 l0_1) else (none)) = some r := by rw [if_pos rfl] at H; exact H
   clear H; have H := H1; clear H1
   by_cases c20 : x13_1.length < 17592186044416
   rotate_left; ·rw [if_neg c20] at H; exact absurd H (by simp)
   rw [if_pos c20] at H
   have LMc20 := Aside0.mk c20
   clear c20
   obtain ⟨y356, hy356⟩ : ∃ y_ : List Int, y_ = (x13_1 ++ [x14_1]) := ⟨_, rfl⟩
   replace H : (stillageref08_reached.l0 k1 a2 a3 a4 l5 y356 (wrap64 (x14_1 + 1)) l0_0 l0_1) = some r := by first | (rw [hy356]; with_reducible exact H) | (have H2_ := (Option.bind_some _ _).symm.trans H; rw [hy356]; with_reducible exact H2_) | (have H2_ := (Option.bind_some _ _).symm.trans H; with_reducible exact H2_) | with_reducible exact H | (rw [hy356]; exact H) | exact H
   have Ny356 := Aside0.mk hy356
   clear hy356
   have H' := Aside0.mk H; clear H
   have hcz21_0 : wr.cell? ⟨gb346, 0, none⟩ = some (.slice A0_0 l0_0.length c0_0) := (blk_cell BK346.out 0).trans rfl
   have hcz21_1 : wr.cell? ⟨gb346, 1, none⟩ = some (.slice A0_1 l0_1.length c0_1) := (blk_cell BK346.out 1).trans rfl
   have hfz21_0 := blk_frozen BK346.out 0
   have hfz21_1 := blk_frozen BK346.out 1
   have p353 : 0 ≤ ((ji13) : Int) := oda
   have q353 : (ji13) < (l0_1.length : Int) := oda
   obtain ⟨ad353, e353, hx353_0, hx353_1⟩ := at_T38 HR0_1.out (ji13) p353 q353
   cases e353
   replace hx353_0 := zx HB.out hx353_0
   replace hx353_1 := zx HB.out hx353_1
   replace p353 := eq_true p353
   replace q353 := eq_true q353
   have p354 : 0 ≤ ((ji13) : Int) := oda
   have q354 : (ji13) < (l0_1.length : Int) := oda
   obtain ⟨ad354, e354, hx354_0, hx354_1⟩ := at_T38 HR0_1.out (ji13) p354 q354
   obtain rfl : ad353 = ad354 := (by injection e354)
   replace hx354_0 := zx HB.out hx354_0
   replace hx354_1 := zx HB.out hx354_1
   replace p354 := eq_true p354
   replace q354 := eq_true q354
   go_wp2_with (first | (go_at_call 45; (with_reducible refine (stillageref08_has.calls k1 _ _ l5 ((rd_T38 l0_1 (ji13)).f1) true _ ?side1 ?side2 A18.out).mono ?_); (case side1 => exact zc HR5.out HB.out); (case side2 => exact HC5.out); rintro e w' ⟨rfl, ⟨nd, rfl⟩⟩) | ((with_reducible refine gate_builtin (b := .append) (xs := #[.tmp 46, .tmp 48]) rfl ?_); at_builtin; refine Kd.R_append (Kd.int .i64) (w0 := w) w.heap.size rfl (.tmp 46) (.tmp 48) 26 3 (.int .i64 0) 8 rfl Try.underlying26 info3 rfl (by decide) (by omega) u13 x13_1 x14_1 [.int .i64 x14_1] (fun _ => True) (fun _ => False) rfl rfl ?aP (fun _ hk => hk.elim) ?aF ?aO ?aB ?aS ?aL ?_; (case aP => exact rfl); (case aB => exact (zb1 HB.out GE346.out)); (case aF => exact (fun _ _ => trivial)); (case aO => exact (zr HO_13.out)); (case aS => exact (below_size (zb1 HB.out GE346.out))); (case aL => have := LMc20.out; omega); intro v357 w22 ho hb hg hat; rw [← Ny356.out] at ho; replace BK346 := Aside0.mk (blk_grown (g := gb346) (o := .cells #[.slice A0_0 l0_0.length c0_0, .slice (some ad353) l0_1.length c0_1] 25 (0, 0)) (zk BK346.out) hg (Kd.R_ne HO_13.out BK346.out (by decide))); replace HB := Aside0.mk (hb); have HO358 := Aside0.mk (ho); clear HO_13; clear ho hb hg hat))
   go_roundg k1
   case measure => have := HK1.out; omega
   case rel => exact ⟨(y356), (wrap64 (x14_1 + 1)), rs, H', ⟨by have := HK1.out; omega⟩, ⟨zr HO358.out⟩, ⟨zk BK346.out⟩, ⟨zb1 HB.out GE346.out⟩⟩
end Go.Proofs.Ytbbdgndaaajejaa.PRoutePaths
