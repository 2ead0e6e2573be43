-- Written by a program of this session (wip/oprint): after the pattern of the kit's print, which does not take this law. -- trimmed
import Derived.Test.YtkfoicfbmhalbaaPReachWholex0
import Derived.Test.YtkfoicfbmhalbaaPReachWholex10
namespace Go.Proofs.Ytkfoicfbmhalbaa.PReachWhole
open Go.RowKit Go.Proofs.YtkfoicfbmhalbaaW.PrintWords Go.Proofs.YtkfoicfbmhalbaaW.PrintLast Go.Proofs.YtkfoicfbmhalbaaW.PrintMore
attribute [local go_sem] max2_int min2_int max_two min_two max_three min_three max_four min_four   -- for this text's walks alone
set_option linter.unusedVariables false
set_option linter.unusedSimpArgs false

/-! ### stillageref07_Whole: function 23 -/
mutual
def stillageref07_Whole.l0 : Nat → List Int → Int → Int → List (S43) → List (S27) → Option (Bool)
 | 0, _, _, _, _, _ => none
 | k + 1, x1, x12, x13, x293000, x293001 => if x13 < x12 then (if 0 ≤ x13 then (if x13 < (x293000.length : Int) then (if ((rd_T43 x293000 x13).f1) = 2 then (stillageref07_Whole.j1 k x1 x13 ((rd_T43 x293000 x13).f1) x12 x13 false x293000 x293001) else (stillageref07_Whole.j1 k x1 x13 ((rd_T43 x293000 x13).f1) x12 x13 (((rd_T43 x293000 x13).f1) != 4) x293000 x293001)) else (none)) else (none)) else (some true)
def stillageref07_Whole.j1 : Nat → List Int → Int → Int → Int → Int → Bool → List (S43) → List (S27) → Option (Bool)
 | 0, _, _, _, _, _, _, _, _ => none
 | k + 1, x1, x5, x6, x12, x13, x27, x293000, x293001 => if x27 = true then (stillageref07_Whole.l0 k x1 x12 (wrap64 (x13 + 1)) x293000 x293001) else ((stillageref07_Between.f k x293000 x293001 x1 x5).bind fun t294 => (stillageref07_Whole.l1 k x1 x6 t294 x12 x13 (x293000.length : Int) 0 x293000 x293001))
def stillageref07_Whole.l1 : Nat → List Int → Int → List Int → Int → Int → Int → Int → List (S43) → List (S27) → Option (Bool)
 | 0, _, _, _, _, _, _, _, _, _ => none
 | k + 1, x1, x6, x7, x12, x13, x34, x35, x293000, x293001 => if x35 < x34 then (if 0 ≤ x35 then (if x35 < (x293000.length : Int) then (if x35 < (x7.length : Int) then (if (rd x7 x35) < 0 then (if ((rd_T43 x293000 x35).f1) = 3 then (some false) else (if ((rd_T43 x293000 x35).f1) = 2 then (if x6 = 4 then (some false) else (stillageref07_Whole.l1 k x1 x6 x7 x12 x13 x34 (wrap64 (x35 + 1)) x293000 x293001)) else (stillageref07_Whole.l1 k x1 x6 x7 x12 x13 x34 (wrap64 (x35 + 1)) x293000 x293001))) else (stillageref07_Whole.l1 k x1 x6 x7 x12 x13 x34 (wrap64 (x35 + 1)) x293000 x293001)) else (none)) else (none)) else (none)) else (stillageref07_Whole.l0 k x1 x12 (wrap64 (x13 + 1)) x293000 x293001)
end
def stillageref07_Whole.f (k : Nat) (l0_0 : List (S43)) (l0_1 : List (S27)) (l1 : List Int) : Option (Bool) := stillageref07_Whole.l0 k l1 (l0_0.length : Int) 0 l0_0 l0_1
theorem stillageref07_Whole.mono_l : ∀ k, (∀ y0 y1 y2 y3 y4, LeO (stillageref07_Whole.l0 k y0 y1 y2 y3 y4) (stillageref07_Whole.l0 (k + 1) y0 y1 y2 y3 y4)) ∧ (∀ y0 y1 y2 y3 y4 y5 y6 y7, LeO (stillageref07_Whole.j1 k y0 y1 y2 y3 y4 y5 y6 y7) (stillageref07_Whole.j1 (k + 1) y0 y1 y2 y3 y4 y5 y6 y7)) ∧ (∀ y0 y1 y2 y3 y4 y5 y6 y7 y8, LeO (stillageref07_Whole.l1 k y0 y1 y2 y3 y4 y5 y6 y7 y8) (stillageref07_Whole.l1 (k + 1) y0 y1 y2 y3 y4 y5 y6 y7 y8))
 | 0 => ⟨fun _ _ _ _ _ r h => by simp [stillageref07_Whole.l0] at h, fun _ _ _ _ _ _ _ _ r h => by simp [stillageref07_Whole.j1] at h, fun _ _ _ _ _ _ _ _ _ r h => by simp [stillageref07_Whole.l1] at h⟩
 | k + 1 => by
  obtain ⟨ih0, ih1, ih2⟩ := stillageref07_Whole.mono_l k
  refine ⟨?_, ?_, ?_⟩
  ·intro y0 y1 y2 y3 y4
   unfold stillageref07_Whole.l0
   repeat' first
   | (with_reducible exact ih0 _ _ _ _ _)
   | (with_reducible exact ih1 _ _ _ _ _ _ _ _)
   | (with_reducible exact ih2 _ _ _ _ _ _ _ _ _)
   | (with_reducible exact stillageref07_Between.mono _ _ _ _ _)
   | (with_reducible exact LeO.refl _)
   | (with_reducible exact LeO.none _)
   | (with_reducible refine LeO.ite ?_ ?_)
   | (with_reducible refine LeO.bind ?_ (fun _ => ?_))
   | exact ih0 _ _ _ _ _
   | exact ih1 _ _ _ _ _ _ _ _
   | exact ih2 _ _ _ _ _ _ _ _ _
   | exact stillageref07_Between.mono _ _ _ _ _
   | exact LeO.none _
   | refine LeO.ite ?_ ?_
   | refine LeO.bind ?_ (fun _ => ?_)
  ·intro y0 y1 y2 y3 y4 y5 y6 y7
   unfold stillageref07_Whole.j1
   repeat' first
   | (with_reducible exact ih0 _ _ _ _ _)
   | (with_reducible exact ih1 _ _ _ _ _ _ _ _)
   | (with_reducible exact ih2 _ _ _ _ _ _ _ _ _)
   | (with_reducible exact stillageref07_Between.mono _ _ _ _ _)
   | (with_reducible exact LeO.refl _)
   | (with_reducible exact LeO.none _)
   | (with_reducible refine LeO.ite ?_ ?_)
   | (with_reducible refine LeO.bind ?_ (fun _ => ?_))
   | exact ih0 _ _ _ _ _
   | exact ih1 _ _ _ _ _ _ _ _
   | exact ih2 _ _ _ _ _ _ _ _ _
   | exact stillageref07_Between.mono _ _ _ _ _
   | exact LeO.none _
   | refine LeO.ite ?_ ?_
   | refine LeO.bind ?_ (fun _ => ?_)
  ·intro y0 y1 y2 y3 y4 y5 y6 y7 y8
   unfold stillageref07_Whole.l1
   repeat' first
   | (with_reducible exact ih0 _ _ _ _ _)
   | (with_reducible exact ih1 _ _ _ _ _ _ _ _)
   | (with_reducible exact ih2 _ _ _ _ _ _ _ _ _)
   | (with_reducible exact stillageref07_Between.mono _ _ _ _ _)
   | (with_reducible exact LeO.refl _)
   | (with_reducible exact LeO.none _)
   | (with_reducible refine LeO.ite ?_ ?_)
   | (with_reducible refine LeO.bind ?_ (fun _ => ?_))
   | exact ih0 _ _ _ _ _
   | exact ih1 _ _ _ _ _ _ _ _
   | exact ih2 _ _ _ _ _ _ _ _ _
   | exact stillageref07_Between.mono _ _ _ _ _
   | exact LeO.none _
   | refine LeO.ite ?_ ?_
   | refine LeO.bind ?_ (fun _ => ?_)
theorem stillageref07_Whole.mono : ∀ a0 a1 a2 k, LeO (stillageref07_Whole.f k a0 a1 a2) (stillageref07_Whole.f (k + 1) a0 a1 a2) := by
 intro a0 a1 a2 k
 obtain ⟨ih0, ih1, ih2⟩ := stillageref07_Whole.mono_l k
 unfold stillageref07_Whole.f
 repeat' first
   | (with_reducible exact ih0 _ _ _ _ _)
   | (with_reducible exact ih1 _ _ _ _ _ _ _ _)
   | (with_reducible exact ih2 _ _ _ _ _ _ _ _ _)
   | (with_reducible exact stillageref07_Between.mono _ _ _ _ _)
   | (with_reducible exact LeO.refl _)
   | (with_reducible exact LeO.none _)
   | (with_reducible refine LeO.ite ?_ ?_)
   | (with_reducible refine LeO.bind ?_ (fun _ => ?_))
   | exact ih0 _ _ _ _ _
   | exact ih1 _ _ _ _ _ _ _ _
   | exact ih2 _ _ _ _ _ _ _ _ _
   | exact stillageref07_Between.mono _ _ _ _ _
   | exact LeO.none _
   | refine LeO.ite ?_ ?_
   | refine LeO.bind ?_ (fun _ => ?_)
set_option maxHeartbeats 8000000 in
set_option maxRecDepth 100000 in
theorem stillageref07_Whole.calls (k : Nat) (A0_0 : Option Addr) (c0_0 : Nat) (l0_0 : List (S43)) (A0_1 : Option Addr) (c0_1 : Nat) (l0_1 : List (S27)) (A1 : Option Addr) (c1 : Nat) (l1 : List Int) (r : Bool) (w : World) (hr0_0 : Kd.C k43 w A0_0 l0_0.length l0_0) (hc0_0 : l0_0.length ≤ c0_0) (hr0_1 : Kd.C k27 w A0_1 l0_1.length l0_1) (hc0_1 : l0_1.length ≤ c0_1) (hr1 : Kd.C (Kd.int .i64) w A1 l1.length l1) (hc1 : l1.length ≤ c1) (h : stillageref07_Whole.f k l0_0 l0_1 l1 = some r) :
  Calls Try.prog 23 #[.agg #[.slice A0_0 l0_0.length c0_0, .slice A0_1 l0_1.length c0_1], .slice A1 l1.length c1] w fun e w' => e = .returned (.bool r) ∧ Below w.heap.size w w' := by
 have hu25 := Try.underlying25
 have HR0_0 := Aside0.mk hr0_0
 have HC0_0 := Aside0.mk hc0_0
 clear hr0_0 hc0_0
 have HR0_1 := Aside0.mk hr0_1
 have HC0_1 := Aside0.mk hc0_1
 clear hr0_1 hc0_1
 have HR1 := Aside0.mk hr1
 have HC1 := Aside0.mk hc1
 clear hr1 hc1
 have HB := Aside0.mk (Below.refl w.heap.size w)
 have H : (stillageref07_Whole.l0 k l1 (l0_0.length : Int) 0 l0_0 l0_1) = some r := h
 clear h
 have H' := Aside0.mk H
 clear H
 go_enter Try.func23, Try.ntmps23
 go_wp2_with (first | ((with_reducible refine gate_dst (N := 2) rfl ?_); refine box_event ?hg (N := 2) ?hd (cs := #[.slice A0_0 l0_0.length c0_0, .slice A0_1 l0_1.length c0_1]) (t := 25) ?hr ?_; (case hd => rfl); (case hg => rfl); (case hr => first | (go_simp; done) | (go_simp; rfl)); intro gb292 hg w3 hbox hb; have n0_ := Aside0.mk (below_step (by repeat (first | (with_reducible first | exact HB.out | apply below_alloc | apply pw_below_drewN | apply below_drew1) | exact HB.out)) hb); have n1_ := Aside0.mk (hbox); have n2_ := Aside0.mk ((by rw [hg]; exact (below_size (by repeat (first | (with_reducible first | exact HB.out | apply below_alloc | apply pw_below_drewN | apply below_drew1) | exact HB.out))) : w.heap.size ≤ gb292)); have n3_ := Aside0.mk ((by rw [hg]; exact (below_size (by repeat (first | (with_reducible first | exact HB.out | apply below_alloc | apply pw_below_drewN | apply below_drew1) | exact HB.out))) : w.heap.size ≤ gb292)); clear HB; have HB := n0_; have BK292 := n1_; have GW292 := n2_; have GE292 := n3_; clear n0_ n1_ n2_ n3_; clear hb hbox hg; have hcz4_0 : w3.cell? ⟨gb292, 0, none⟩ = some (.slice A0_0 l0_0.length c0_0) := (blk_cell BK292.out 0).trans rfl; have hcz4_1 : w3.cell? ⟨gb292, 1, none⟩ = some (.slice A0_1 l0_1.length c0_1) := (blk_cell BK292.out 1).trans rfl; have hfz4_0 := blk_frozen BK292.out 0; have hfz4_1 := blk_frozen BK292.out 1))
 go_loopg [13] k (fun kq v13 w' => ∃ (x13_1 : Int), v13 = .int .i64 x13_1 ∧ Aside0 (stillageref07_Whole.l0 kq l1 (l0_0.length : Int) x13_1 l0_0 l0_1 = some r) ∧ Aside0 (kq ≤ k) ∧ Aside0 (w'.heap[gb292]? = some (.cells #[(.slice A0_0 l0_0.length c0_0), (.slice A0_1 l0_1.length c0_1)] 25 (0, 0))) ∧ Aside0 (Below w.heap.size w w'))
 case atStart => exact ⟨(0), (by first | rfl | (simp; done) | (simp [*]; done)), H', ⟨Nat.le_refl _⟩, ⟨by (with_reducible repeat (first | refine blk_drewN ?_ _ | refine blk_drew ?_ | refine blk_alloc ?_ _)); exact BK292.out⟩, ⟨by repeat (first | (with_reducible first | exact HB.out | apply below_alloc | apply pw_below_drewN | apply below_drew1 | refine below_set ?_ GE292.out) | exact HB.out)⟩⟩
 case round =>
  clear H'
  try clear c1
  try clear c2
  try clear p2
  try clear hcz4_0
  try clear hcz4_1
  try clear hfz4_0
  try clear hfz4_1
  obtain ⟨x13_1, rfl, HA, HK1, BK292, HB⟩ := hrel
  cases gk with
  | zero => exact absurd HA.out (by simp [stillageref07_Whole.l0])
  | succ k1 =>
   have H := HA.out
   clear HA
   simp only [stillageref07_Whole.l0] at H
   by_cases c5 : x13_1 < (l0_0.length : Int)
   ·rw [if_pos c5] at H
    have c5b0 : decide (x13_1 < (l0_0.length : Int)) = true := decide_eq_true c5
    clear c5
    by_cases c6 : 0 ≤ x13_1
    ·rw [if_pos c6] at H
     have c6b0 : decide (0 ≤ x13_1) = true := decide_eq_true c6
     clear c6
     by_cases c7 : x13_1 < (l0_0.length : Int)
     ·rw [if_pos c7] at H
      have c7b0 : decide (x13_1 < (l0_0.length : Int)) = true := decide_eq_true c7
      clear c7
      have HC8 := Aside0.mk H
      clear H
      have hcz9_0 : wr.cell? ⟨gb292, 0, none⟩ = some (.slice A0_0 l0_0.length c0_0) := (blk_cell BK292.out 0).trans rfl
      have hcz9_1 : wr.cell? ⟨gb292, 1, none⟩ = some (.slice A0_1 l0_1.length c0_1) := (blk_cell BK292.out 1).trans rfl
      have hfz9_0 := blk_frozen BK292.out 0
      have hfz9_1 := blk_frozen BK292.out 1
      have p293 : 0 ≤ (x13_1 : Int) := of_decide_eq_true (by first | (with_reducible assumption) | assumption)
      have q293 : x13_1 < (l0_0.length : Int) := of_decide_eq_true (by first | (with_reducible assumption) | assumption)
      obtain ⟨ad293, e293, hx293_0, hx293_1, hx293_2⟩ := at_T43 HR0_0.out x13_1 p293 q293
      cases e293
      replace hx293_0 := (HB.out.cell (World.block_lt_of_cell? w _ hx293_0)).trans hx293_0
      replace hx293_1 := (HB.out.cell (World.block_lt_of_cell? w _ hx293_1)).trans hx293_1
      replace hx293_2 := (HB.out.cell (World.block_lt_of_cell? w _ hx293_2)).trans hx293_2
      replace p293 := eq_true p293
      replace q293 := eq_true q293
      go_upto_region 5 with (fail)
      go_cut [27] (fun v27 wc => ∃ (kq : Nat) (x27_7 : Bool), v27 = .bool x27_7 ∧ Aside0 (stillageref07_Whole.j1 kq l1 x13_1 ((rd_T43 l0_0 x13_1).f1) (l0_0.length : Int) x13_1 x27_7 l0_0 l0_1 = some r) ∧ Aside0 (kq ≤ k1) ∧ Aside0 (wc.heap[gb292]? = some (.cells #[(.slice (some ad293) l0_0.length c0_0), (.slice A0_1 l0_1.length c0_1)] 25 (0, 0))) ∧ Aside0 (Below w.heap.size w wc))
      case first =>
       have H := HC8.out
       clear HC8
       by_cases c10 : ((rd_T43 l0_0 x13_1).f1) = 2
       ·rw [if_pos c10] at H
        have c10b0 : (((rd_T43 l0_0 x13_1).f1) == 2) = true := beq_iff_eq.mpr c10
        have c10b1 : (((rd_T43 l0_0 x13_1).f1) != 2) = false := bne_eq_false_iff_eq.mpr c10
        clear c10
        (first | rw [c10b0] | (simp only [i64_w, i32_w]; rw [c10b0]) | skip)
        have H' := Aside0.mk H
        clear H
        go_wp2
        go_meet
        case rel => exact ⟨_, (false), (by first | rfl | (simp; done) | (simp [*]; done)), H', ⟨by have := HK1.out; first | omega | exact Nat.le_refl _⟩, ⟨by (with_reducible repeat (first | refine blk_drewN ?_ _ | refine blk_drew ?_ | refine blk_alloc ?_ _)); exact BK292.out⟩, ⟨by repeat (first | (with_reducible first | exact HB.out | apply below_alloc | apply pw_below_drewN | apply below_drew1 | refine below_set ?_ GE292.out) | exact HB.out)⟩⟩
       ·rw [if_neg c10] at H
        have c10b0 : (((rd_T43 l0_0 x13_1).f1) == 2) = false := beq_eq_false_iff_ne.mpr c10
        have c10b1 : (((rd_T43 l0_0 x13_1).f1) != 2) = true := bne_iff_ne.mpr c10
        (first | rw [c10b0] | (simp only [i64_w, i32_w]; rw [c10b0]) | skip)
        have H' := Aside0.mk H
        clear H
        go_wp2
        go_meet
        case rel => exact ⟨_, ((((rd_T43 l0_0 x13_1).f1) != 4)), (by first | rfl | (simp; done) | (simp [*]; done)), H', ⟨by have := HK1.out; first | omega | exact Nat.le_refl _⟩, ⟨by (with_reducible repeat (first | refine blk_drewN ?_ _ | refine blk_drew ?_ | refine blk_alloc ?_ _)); exact BK292.out⟩, ⟨by repeat (first | (with_reducible first | exact HB.out | apply below_alloc | apply pw_below_drewN | apply below_drew1 | refine below_set ?_ GE292.out) | exact HB.out)⟩⟩
      case rest =>
       clear HC8
       try clear c1
       try clear c2
       try clear p2
       try clear q2
       try clear hx2
       try clear c5
       try clear c5b0
       try clear c6
       try clear c6b0
       try clear c7
       try clear c7b0
       try clear c10
       try clear c10b0
       try clear c10b1
       try clear hcz4_0
       try clear hcz4_1
       try clear hcz9_0
       try clear hcz9_1
       try clear hfz4_0
       try clear hfz4_1
       try clear hfz9_0
       try clear hfz9_1
       try clear hx293_0
       try clear hx293_1
       try clear hx293_2
       try clear p2
       try clear p293
       try clear q293
       obtain ⟨kq, x27_7, rfl, HA, HJ7, BK292, HB⟩ := hcut
       cases kq with
       | zero => exact absurd HA.out (by simp [stillageref07_Whole.j1])
       | succ kj7 =>
        have H := HA.out
        clear HA
        simp only [stillageref07_Whole.j1] at H
        by_cases c11 : x27_7 = true
        ·subst c11
         have H1 : (stillageref07_Whole.l0 kj7 l1 (l0_0.length : Int) (wrap64 (x13_1 + 1)) l0_0 l0_1) = some r := by rw [if_pos rfl] at H; exact H
         clear H
         have H := H1
         clear H1
         have H' := Aside0.mk H
         clear H
         go_wp2
         go_roundg kj7
         case measure => have := HK1.out; have := HJ7.out; omega
         case rel => exact ⟨(wrap64 (x13_1 + 1)), (by first | rfl | (simp; done) | (simp [*]; done)), H', ⟨by have := HK1.out; have := HJ7.out; omega⟩, ⟨by (with_reducible repeat (first | refine blk_drewN ?_ _ | refine blk_drew ?_ | refine blk_alloc ?_ _)); exact BK292.out⟩, ⟨by repeat (first | (with_reducible first | exact HB.out | apply below_alloc | apply pw_below_drewN | apply below_drew1 | refine below_set ?_ GE292.out) | exact HB.out)⟩⟩
        ·replace c11 := Bool.eq_false_iff.mpr c11
         subst c11
         have H1 : ((stillageref07_Between.f kj7 l0_0 l0_1 l1 x13_1).bind fun t294 => (stillageref07_Whole.l1 kj7 l1 ((rd_T43 l0_0 x13_1).f1) t294 (l0_0.length : Int) x13_1 (l0_0.length : Int) 0 l0_0 l0_1)) = some r := by rw [if_neg (show ¬ (false = true) by decide)] at H; exact H
         clear H
         have H := H1
         clear H1
         replace H := Option.bind_eq_some_iff.mp H
         obtain ⟨t294, A120, H⟩ := H
         replace H : (stillageref07_Whole.l1 kj7 l1 ((rd_T43 l0_0 x13_1).f1) t294 (l0_0.length : Int) x13_1 (l0_0.length : Int) 0 l0_0 l0_1) = some r := H
         have A12 := Aside0.mk A120
         clear A120
         have H' := Aside0.mk H
         clear H
         have hcz13_0 : wc.cell? ⟨gb292, 0, none⟩ = some (.slice (some ad293) l0_0.length c0_0) := (blk_cell BK292.out 0).trans rfl
         have hcz13_1 : wc.cell? ⟨gb292, 1, none⟩ = some (.slice A0_1 l0_1.length c0_1) := (blk_cell BK292.out 1).trans rfl
         have hfz13_0 := blk_frozen BK292.out 0
         have hfz13_1 := blk_frozen BK292.out 1
         go_wp2_with (first | ((with_reducible refine gate_callee (f := 18) rfl ?_); refine goesL_ (some 31) rfl rfl Try.func18 (by kernel_rfl) rfl #[.agg #[.slice (some ad293) l0_0.length c0_0, .slice A0_1 l0_1.length c0_1], .slice A1 l1.length c1, .int .i64 x13_1] rfl (by (try simp only [List.map_toArray, List.map_cons, List.map_nil]); first | done | rfl | (simp only [List.length_drop, List.length_take]; rfl)) ?_; (with_reducible refine (stillageref07_Between.calls kj7 _ _ l0_0 _ _ l0_1 _ _ l1 x13_1 t294 _ ?side1 ?side2 ?side3 ?side4 ?side5 ?side6 A12.out).mono ?_); (case side1 => repeat (first | exact (Kd.C_below HR0_0.out HB.out) | (with_reducible refine Kd.C_alloc ?_ _) | (with_reducible refine Kd.C_drewN ?_ _) | (with_reducible refine Kd.C_drew ?_))); (case side2 => exact HC0_0.out); (case side3 => repeat (first | exact (Kd.C_below HR0_1.out HB.out) | (with_reducible refine Kd.C_alloc ?_ _) | (with_reducible refine Kd.C_drewN ?_ _) | (with_reducible refine Kd.C_drew ?_))); (case side4 => exact HC0_1.out); (case side5 => repeat (first | exact (Kd.C_below HR1.out HB.out) | (with_reducible refine Kd.C_alloc ?_ _) | (with_reducible refine Kd.C_drewN ?_ _) | (with_reducible refine Kd.C_drew ?_))); (case side6 => exact HC1.out); rintro e w14 ⟨v295, rfl, ho0, hb⟩; refine ⟨_, rfl, ?_⟩; have n0_ := Aside0.mk (Kd.R_lower ho0 (below_size (by repeat (first | (with_reducible first | exact HB.out | apply below_alloc | apply pw_below_drewN | apply below_drew1 | refine below_set ?_ GE292.out) | exact HB.out)))); have n1_ := Aside0.mk (blk_below (g := gb292) (o := .cells #[.slice (some ad293) l0_0.length c0_0, .slice A0_1 l0_1.length c0_1] 25 (0, 0)) (by (with_reducible repeat (first | refine blk_drewN ?_ _ | refine blk_drew ?_ | refine blk_alloc ?_ _)); exact BK292.out) hb); have n2_ := Aside0.mk (below_step (by repeat (first | (with_reducible first | exact HB.out | apply below_alloc | apply pw_below_drewN | apply below_drew1 | refine below_set ?_ GE292.out) | exact HB.out)) hb); clear BK292; clear HB; have HO296 := n0_; have BK292 := n1_; have HB := n2_; clear n0_ n1_ n2_; (try clear hb); (try clear hb2); (try clear hk); (try clear hi); (try clear ho0); have hcz15_0 : w14.cell? ⟨gb292, 0, none⟩ = some (.slice (some ad293) l0_0.length c0_0) := (blk_cell BK292.out 0).trans rfl; have hcz15_1 : w14.cell? ⟨gb292, 1, none⟩ = some (.slice A0_1 l0_1.length c0_1) := (blk_cell BK292.out 1).trans rfl; have hfz15_0 := blk_frozen BK292.out 0; have hfz15_1 := blk_frozen BK292.out 1))
         go_loopg [35] kj7 (fun kq v35 w' => ∃ (x35_3 : Int), v35 = .int .i64 x35_3 ∧ Aside0 (stillageref07_Whole.l1 kq l1 ((rd_T43 l0_0 x13_1).f1) t294 (l0_0.length : Int) x13_1 (l0_0.length : Int) x35_3 l0_0 l0_1 = some r) ∧ Aside0 (kq ≤ kj7) ∧ Aside0 (Kd.R (Kd.int .i64) 3 w' w.heap.size (fun _ => True) v295 t294) ∧ Aside0 (w'.heap[gb292]? = some (.cells #[(.slice (some ad293) l0_0.length c0_0), (.slice A0_1 l0_1.length c0_1)] 25 (0, 0))) ∧ Aside0 (Below w.heap.size w w'))
         case atStart => exact ⟨(0), (by first | rfl | (simp; done) | (simp [*]; done)), H', ⟨Nat.le_refl _⟩, ⟨by (with_reducible repeat (first | apply Kd.R_alloc | apply Kd.R_drewN | apply Kd.R_drew)); exact HO296.out⟩, ⟨by (with_reducible repeat (first | refine blk_drewN ?_ _ | refine blk_drew ?_ | refine blk_alloc ?_ _)); exact BK292.out⟩, ⟨by repeat (first | (with_reducible first | exact HB.out | apply below_alloc | apply pw_below_drewN | apply below_drew1 | refine below_set ?_ GE292.out) | exact HB.out)⟩⟩
         case round =>
          clear H'
          try clear c1
          try clear c2
          try clear p2
          try clear q2
          try clear hx2
          try clear c5
          try clear c5b0
          try clear c6
          try clear c6b0
          try clear p6
          try clear c7
          try clear c7b0
          try clear c10
          try clear c10b0
          try clear c10b1
          try clear c11
          try clear hcz13_0
          try clear hcz13_1
          try clear hcz15_0
          try clear hcz15_1
          try clear hcz4_0
          try clear hcz4_1
          try clear hcz9_0
          try clear hcz9_1
          try clear hfz13_0
          try clear hfz13_1
          try clear hfz15_0
          try clear hfz15_1
          try clear hfz4_0
          try clear hfz4_1
          try clear hfz9_0
          try clear hfz9_1
          try clear hx293_0
          try clear hx293_1
          try clear hx293_2
          try clear p2
          try clear p293
          try clear q2
          try clear q293
          obtain ⟨x35_3, rfl, HA, HK3, HO_7, BK292, HB⟩ := hrel
          cases gk with
          | zero => exact absurd HA.out (by simp [stillageref07_Whole.l1])
          | succ k3 =>
           have H := HA.out
           clear HA
           simp only [stillageref07_Whole.l1] at H
           by_cases c16 : x35_3 < (l0_0.length : Int)
           ·rw [if_pos c16] at H
            have c16b0 : decide (x35_3 < (l0_0.length : Int)) = true := decide_eq_true c16
            clear c16
            by_cases c17 : 0 ≤ x35_3
            ·rw [if_pos c17] at H
             have c17b0 : decide (0 ≤ x35_3) = true := decide_eq_true c17
             clear c17
             by_cases c18 : x35_3 < (l0_0.length : Int)
             ·rw [if_pos c18] at H
              have c18b0 : decide (x35_3 < (l0_0.length : Int)) = true := decide_eq_true c18
              clear c18
              by_cases c19 : x35_3 < (t294.length : Int)
              ·rw [if_pos c19] at H
               have c19b0 : decide (x35_3 < (t294.length : Int)) = true := decide_eq_true c19
               clear c19
               by_cases c20 : (rd t294 x35_3) < 0
               ·rw [if_pos c20] at H
                have c20b0 : decide ((rd t294 x35_3) < 0) = true := decide_eq_true c20
                clear c20
                by_cases c21 : ((rd_T43 l0_0 x35_3).f1) = 3
                ·rw [if_pos c21] at H
                 have c21b0 : (((rd_T43 l0_0 x35_3).f1) == 3) = true := beq_iff_eq.mpr c21
                 have c21b1 : (((rd_T43 l0_0 x35_3).f1) != 3) = false := bne_eq_false_iff_eq.mpr c21
                 clear c21
                 obtain rfl := Option.some.inj H
                 have hcz22_0 : wr.cell? ⟨gb292, 0, none⟩ = some (.slice (some ad293) l0_0.length c0_0) := (blk_cell BK292.out 0).trans rfl
                 have hcz22_1 : wr.cell? ⟨gb292, 1, none⟩ = some (.slice A0_1 l0_1.length c0_1) := (blk_cell BK292.out 1).trans rfl
                 have hfz22_0 := blk_frozen BK292.out 0
                 have hfz22_1 := blk_frozen BK292.out 1
                 have p297 : 0 ≤ (x35_3 : Int) := of_decide_eq_true (by first | (with_reducible assumption) | assumption)
                 have q297 : x35_3 < (l0_0.length : Int) := of_decide_eq_true (by first | (with_reducible assumption) | assumption)
                 obtain ⟨ad297, e297, hx297_0, hx297_1, hx297_2⟩ := at_T43 HR0_0.out x35_3 p297 q297
                 obtain rfl : ad293 = ad297 := (by injection e297)
                 replace hx297_0 := (HB.out.cell (World.block_lt_of_cell? w _ hx297_0)).trans hx297_0
                 replace hx297_1 := (HB.out.cell (World.block_lt_of_cell? w _ hx297_1)).trans hx297_1
                 replace hx297_2 := (HB.out.cell (World.block_lt_of_cell? w _ hx297_2)).trans hx297_2
                 replace p297 := eq_true p297
                 replace q297 := eq_true q297
                 obtain ⟨Ao23, co23, eo23⟩ := Kd.R_slice HO_7.out
                 subst eo23
                 have p298 : 0 ≤ (x35_3 : Int) := of_decide_eq_true (by first | (with_reducible assumption) | assumption)
                 have q298 : x35_3 < (t294.length : Int) := of_decide_eq_true (by first | (with_reducible assumption) | assumption)
                 obtain ⟨ad298, e298, hx298_0⟩ := Kd.at_int (Kd.R_reads' HO_7.out).2.2 x35_3 p298 q298
                 cases e298
                 replace p298 := eq_true p298
                 replace q298 := eq_true q298
                 go_wp2
                 go_ret
                 exact ⟨by first | rfl | (simp [errW_none, errW_some] <;> rfl) | (simp [*, errW_none, errW_some] <;> rfl), by repeat (first | (with_reducible first | exact HB.out | apply below_alloc | apply pw_below_drewN | apply below_drew1 | refine below_set ?_ GE292.out) | exact HB.out)⟩
                ·rw [if_neg c21] at H
                 have c21b0 : (((rd_T43 l0_0 x35_3).f1) == 3) = false := beq_eq_false_iff_ne.mpr c21
                 have c21b1 : (((rd_T43 l0_0 x35_3).f1) != 3) = true := bne_iff_ne.mpr c21
                 by_cases c24 : ((rd_T43 l0_0 x35_3).f1) = 2
                 ·rw [if_pos c24] at H
                  have c24b0 : (((rd_T43 l0_0 x35_3).f1) == 2) = true := beq_iff_eq.mpr c24
                  have c24b1 : (((rd_T43 l0_0 x35_3).f1) != 2) = false := bne_eq_false_iff_eq.mpr c24
                  clear c24
                  by_cases c25 : ((rd_T43 l0_0 x13_1).f1) = 4
                  ·rw [if_pos c25] at H
                   have c25b0 : (((rd_T43 l0_0 x13_1).f1) == 4) = true := beq_iff_eq.mpr c25
                   have c25b1 : (((rd_T43 l0_0 x13_1).f1) != 4) = false := bne_eq_false_iff_eq.mpr c25
                   clear c25
                   obtain rfl := Option.some.inj H
                   have hcz26_0 : wr.cell? ⟨gb292, 0, none⟩ = some (.slice (some ad293) l0_0.length c0_0) := (blk_cell BK292.out 0).trans rfl
                   have hcz26_1 : wr.cell? ⟨gb292, 1, none⟩ = some (.slice A0_1 l0_1.length c0_1) := (blk_cell BK292.out 1).trans rfl
                   have hfz26_0 := blk_frozen BK292.out 0
                   have hfz26_1 := blk_frozen BK292.out 1
                   have p297 : 0 ≤ (x35_3 : Int) := of_decide_eq_true (by first | (with_reducible assumption) | assumption)
                   have q297 : x35_3 < (l0_0.length : Int) := of_decide_eq_true (by first | (with_reducible assumption) | assumption)
                   obtain ⟨ad297, e297, hx297_0, hx297_1, hx297_2⟩ := at_T43 HR0_0.out x35_3 p297 q297
                   obtain rfl : ad293 = ad297 := (by injection e297)
                   replace hx297_0 := (HB.out.cell (World.block_lt_of_cell? w _ hx297_0)).trans hx297_0
                   replace hx297_1 := (HB.out.cell (World.block_lt_of_cell? w _ hx297_1)).trans hx297_1
                   replace hx297_2 := (HB.out.cell (World.block_lt_of_cell? w _ hx297_2)).trans hx297_2
                   replace p297 := eq_true p297
                   replace q297 := eq_true q297
                   obtain ⟨Ao27, co27, eo27⟩ := Kd.R_slice HO_7.out
                   subst eo27
                   have p298 : 0 ≤ (x35_3 : Int) := of_decide_eq_true (by first | (with_reducible assumption) | assumption)
                   have q298 : x35_3 < (t294.length : Int) := of_decide_eq_true (by first | (with_reducible assumption) | assumption)
                   obtain ⟨ad298, e298, hx298_0⟩ := Kd.at_int (Kd.R_reads' HO_7.out).2.2 x35_3 p298 q298
                   cases e298
                   replace p298 := eq_true p298
                   replace q298 := eq_true q298
                   go_wp2
                   go_ret
                   exact ⟨by first | rfl | (simp [errW_none, errW_some] <;> rfl) | (simp [*, errW_none, errW_some] <;> rfl), by repeat (first | (with_reducible first | exact HB.out | apply below_alloc | apply pw_below_drewN | apply below_drew1 | refine below_set ?_ GE292.out) | exact HB.out)⟩
                  ·rw [if_neg c25] at H
                   have c25b0 : (((rd_T43 l0_0 x13_1).f1) == 4) = false := beq_eq_false_iff_ne.mpr c25
                   have c25b1 : (((rd_T43 l0_0 x13_1).f1) != 4) = true := bne_iff_ne.mpr c25
                   have H' := Aside0.mk H
                   clear H
                   have hcz28_0 : wr.cell? ⟨gb292, 0, none⟩ = some (.slice (some ad293) l0_0.length c0_0) := (blk_cell BK292.out 0).trans rfl
                   have hcz28_1 : wr.cell? ⟨gb292, 1, none⟩ = some (.slice A0_1 l0_1.length c0_1) := (blk_cell BK292.out 1).trans rfl
                   have hfz28_0 := blk_frozen BK292.out 0
                   have hfz28_1 := blk_frozen BK292.out 1
                   have p297 : 0 ≤ (x35_3 : Int) := of_decide_eq_true (by first | (with_reducible assumption) | assumption)
                   have q297 : x35_3 < (l0_0.length : Int) := of_decide_eq_true (by first | (with_reducible assumption) | assumption)
                   obtain ⟨ad297, e297, hx297_0, hx297_1, hx297_2⟩ := at_T43 HR0_0.out x35_3 p297 q297
                   obtain rfl : ad293 = ad297 := (by injection e297)
                   replace hx297_0 := (HB.out.cell (World.block_lt_of_cell? w _ hx297_0)).trans hx297_0
                   replace hx297_1 := (HB.out.cell (World.block_lt_of_cell? w _ hx297_1)).trans hx297_1
                   replace hx297_2 := (HB.out.cell (World.block_lt_of_cell? w _ hx297_2)).trans hx297_2
                   replace p297 := eq_true p297
                   replace q297 := eq_true q297
                   obtain ⟨Ao29, co29, eo29⟩ := Kd.R_slice HO_7.out
                   subst eo29
                   have p298 : 0 ≤ (x35_3 : Int) := of_decide_eq_true (by first | (with_reducible assumption) | assumption)
                   have q298 : x35_3 < (t294.length : Int) := of_decide_eq_true (by first | (with_reducible assumption) | assumption)
                   obtain ⟨ad298, e298, hx298_0⟩ := Kd.at_int (Kd.R_reads' HO_7.out).2.2 x35_3 p298 q298
                   cases e298
                   replace p298 := eq_true p298
                   replace q298 := eq_true q298
                   go_wp2
                   go_roundg k3
                   case measure => have := HK1.out; have := HJ7.out; have := HK3.out; omega
                   case rel => exact ⟨(wrap64 (x35_3 + 1)), (by first | rfl | (simp; done) | (simp [*]; done)), H', ⟨by have := HK1.out; have := HJ7.out; have := HK3.out; omega⟩, ⟨by (with_reducible repeat (first | apply Kd.R_alloc | apply Kd.R_drewN | apply Kd.R_drew)); exact HO_7.out⟩, ⟨by (with_reducible repeat (first | refine blk_drewN ?_ _ | refine blk_drew ?_ | refine blk_alloc ?_ _)); exact BK292.out⟩, ⟨by repeat (first | (with_reducible first | exact HB.out | apply below_alloc | apply pw_below_drewN | apply below_drew1 | refine below_set ?_ GE292.out) | exact HB.out)⟩⟩
                 ·rw [if_neg c24] at H
                  have c24b0 : (((rd_T43 l0_0 x35_3).f1) == 2) = false := beq_eq_false_iff_ne.mpr c24
                  have c24b1 : (((rd_T43 l0_0 x35_3).f1) != 2) = true := bne_iff_ne.mpr c24
                  have H' := Aside0.mk H
                  clear H
                  have hcz30_0 : wr.cell? ⟨gb292, 0, none⟩ = some (.slice (some ad293) l0_0.length c0_0) := (blk_cell BK292.out 0).trans rfl
                  have hcz30_1 : wr.cell? ⟨gb292, 1, none⟩ = some (.slice A0_1 l0_1.length c0_1) := (blk_cell BK292.out 1).trans rfl
                  have hfz30_0 := blk_frozen BK292.out 0
                  have hfz30_1 := blk_frozen BK292.out 1
                  have p297 : 0 ≤ (x35_3 : Int) := of_decide_eq_true (by first | (with_reducible assumption) | assumption)
                  have q297 : x35_3 < (l0_0.length : Int) := of_decide_eq_true (by first | (with_reducible assumption) | assumption)
                  obtain ⟨ad297, e297, hx297_0, hx297_1, hx297_2⟩ := at_T43 HR0_0.out x35_3 p297 q297
                  obtain rfl : ad293 = ad297 := (by injection e297)
                  replace hx297_0 := (HB.out.cell (World.block_lt_of_cell? w _ hx297_0)).trans hx297_0
                  replace hx297_1 := (HB.out.cell (World.block_lt_of_cell? w _ hx297_1)).trans hx297_1
                  replace hx297_2 := (HB.out.cell (World.block_lt_of_cell? w _ hx297_2)).trans hx297_2
                  replace p297 := eq_true p297
                  replace q297 := eq_true q297
                  obtain ⟨Ao31, co31, eo31⟩ := Kd.R_slice HO_7.out
                  subst eo31
                  have p298 : 0 ≤ (x35_3 : Int) := of_decide_eq_true (by first | (with_reducible assumption) | assumption)
                  have q298 : x35_3 < (t294.length : Int) := of_decide_eq_true (by first | (with_reducible assumption) | assumption)
                  obtain ⟨ad298, e298, hx298_0⟩ := Kd.at_int (Kd.R_reads' HO_7.out).2.2 x35_3 p298 q298
                  cases e298
                  replace p298 := eq_true p298
                  replace q298 := eq_true q298
                  go_wp2
                  go_roundg k3
                  case measure => have := HK1.out; have := HJ7.out; have := HK3.out; omega
                  case rel => exact ⟨(wrap64 (x35_3 + 1)), (by first | rfl | (simp; done) | (simp [*]; done)), H', ⟨by have := HK1.out; have := HJ7.out; have := HK3.out; omega⟩, ⟨by (with_reducible repeat (first | apply Kd.R_alloc | apply Kd.R_drewN | apply Kd.R_drew)); exact HO_7.out⟩, ⟨by (with_reducible repeat (first | refine blk_drewN ?_ _ | refine blk_drew ?_ | refine blk_alloc ?_ _)); exact BK292.out⟩, ⟨by repeat (first | (with_reducible first | exact HB.out | apply below_alloc | apply pw_below_drewN | apply below_drew1 | refine below_set ?_ GE292.out) | exact HB.out)⟩⟩
               ·rw [if_neg c20] at H
                have c20b0 : decide ((rd t294 x35_3) < 0) = false := decide_eq_false c20
                clear c20
                have H' := Aside0.mk H
                clear H
                have hcz32_0 : wr.cell? ⟨gb292, 0, none⟩ = some (.slice (some ad293) l0_0.length c0_0) := (blk_cell BK292.out 0).trans rfl
                have hcz32_1 : wr.cell? ⟨gb292, 1, none⟩ = some (.slice A0_1 l0_1.length c0_1) := (blk_cell BK292.out 1).trans rfl
                have hfz32_0 := blk_frozen BK292.out 0
                have hfz32_1 := blk_frozen BK292.out 1
                have p297 : 0 ≤ (x35_3 : Int) := of_decide_eq_true (by first | (with_reducible assumption) | assumption)
                have q297 : x35_3 < (l0_0.length : Int) := of_decide_eq_true (by first | (with_reducible assumption) | assumption)
                obtain ⟨ad297, e297, hx297_0, hx297_1, hx297_2⟩ := at_T43 HR0_0.out x35_3 p297 q297
                obtain rfl : ad293 = ad297 := (by injection e297)
                replace hx297_0 := (HB.out.cell (World.block_lt_of_cell? w _ hx297_0)).trans hx297_0
                replace hx297_1 := (HB.out.cell (World.block_lt_of_cell? w _ hx297_1)).trans hx297_1
                replace hx297_2 := (HB.out.cell (World.block_lt_of_cell? w _ hx297_2)).trans hx297_2
                replace p297 := eq_true p297
                replace q297 := eq_true q297
                obtain ⟨Ao33, co33, eo33⟩ := Kd.R_slice HO_7.out
                subst eo33
                have p298 : 0 ≤ (x35_3 : Int) := of_decide_eq_true (by first | (with_reducible assumption) | assumption)
                have q298 : x35_3 < (t294.length : Int) := of_decide_eq_true (by first | (with_reducible assumption) | assumption)
                obtain ⟨ad298, e298, hx298_0⟩ := Kd.at_int (Kd.R_reads' HO_7.out).2.2 x35_3 p298 q298
                cases e298
                replace p298 := eq_true p298
                replace q298 := eq_true q298
                go_wp2
                go_roundg k3
                case measure => have := HK1.out; have := HJ7.out; have := HK3.out; omega
                case rel => exact ⟨(wrap64 (x35_3 + 1)), (by first | rfl | (simp; done) | (simp [*]; done)), H', ⟨by have := HK1.out; have := HJ7.out; have := HK3.out; omega⟩, ⟨by (with_reducible repeat (first | apply Kd.R_alloc | apply Kd.R_drewN | apply Kd.R_drew)); exact HO_7.out⟩, ⟨by (with_reducible repeat (first | refine blk_drewN ?_ _ | refine blk_drew ?_ | refine blk_alloc ?_ _)); exact BK292.out⟩, ⟨by repeat (first | (with_reducible first | exact HB.out | apply below_alloc | apply pw_below_drewN | apply below_drew1 | refine below_set ?_ GE292.out) | exact HB.out)⟩⟩
              ·rw [if_neg c19] at H
               exact absurd H (by simp)
             ·rw [if_neg c18] at H
              exact absurd H (by simp)
            ·rw [if_neg c17] at H
             exact absurd H (by simp)
           ·rw [if_neg c16] at H
            have c16b0 : decide (x35_3 < (l0_0.length : Int)) = false := decide_eq_false c16
            clear c16
            have H' := Aside0.mk H
            clear H
            go_wp2
            go_roundg k3
            case measure => have := HK1.out; have := HJ7.out; have := HK3.out; omega
            case rel => exact ⟨(wrap64 (x13_1 + 1)), (by first | rfl | (simp; done) | (simp [*]; done)), H', ⟨by have := HK1.out; have := HJ7.out; have := HK3.out; omega⟩, ⟨by (with_reducible repeat (first | refine blk_drewN ?_ _ | refine blk_drew ?_ | refine blk_alloc ?_ _)); exact BK292.out⟩, ⟨by repeat (first | (with_reducible first | exact HB.out | apply below_alloc | apply pw_below_drewN | apply below_drew1 | refine below_set ?_ GE292.out) | exact HB.out)⟩⟩
     ·rw [if_neg c7] at H
      exact absurd H (by simp)
    ·rw [if_neg c6] at H
     exact absurd H (by simp)
   ·rw [if_neg c5] at H
    have c5b0 : decide (x13_1 < (l0_0.length : Int)) = false := decide_eq_false c5
    clear c5
    obtain rfl := Option.some.inj H
    go_wp2
    go_ret
    exact ⟨by first | rfl | (simp [errW_none, errW_some] <;> rfl) | (simp [*, errW_none, errW_some] <;> rfl), by repeat (first | (with_reducible first | exact HB.out | apply below_alloc | apply pw_below_drewN | apply below_drew1 | refine below_set ?_ GE292.out) | exact HB.out)⟩

end Go.Proofs.Ytkfoicfbmhalbaa.PReachWhole
