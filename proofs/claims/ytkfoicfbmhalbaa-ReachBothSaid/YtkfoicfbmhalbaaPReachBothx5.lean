-- Written by a program of this session (wip/oprint): after the pattern of the kit's print, which does not take this law. -- trimmed
import Derived.Test.YtkfoicfbmhalbaaPReachBothx0
import Derived.Test.YtkfoicfbmhalbaaPReachBothx2
import Derived.Test.YtkfoicfbmhalbaaPReachBothx3
namespace Go.Proofs.Ytkfoicfbmhalbaa.PReachBoth
open Go.RowKit Go.Proofs.YtkfoicfbmhalbaaW.PrintWords Go.Proofs.YtkfoicfbmhalbaaW.PrintLast Go.Proofs.YtkfoicfbmhalbaaW.PrintMore
attribute [local go_sem] max2_int min2_int max_two min_two max_three min_three max_four min_four   -- for this text's walks alone
set_option linter.unusedVariables false
set_option linter.unusedSimpArgs false

/-! ### reach_Cut: function 12 -/
mutual
def reach_Cut.j0 : Nat → List Int → Int → Int → Bool → List (S43) → List (S27) → Option (List Int × Int)
 | 0, _, _, _, _, _, _ => none
 | k + 1, x1, x2, x3, x32, x166000, x166001 => if x32 = true then (some (([] : List Int), 1)) else ((reach_shut.f k x166000 x166001 x1).bind fun t166 => ((reach_lengths_0.f k x166000 x166001 t166 x2 0).bind fun t169 => (if 0 ≤ x3 then (if x3 < (t169.length : Int) then (if (rd t169 x3) < 0 then (some (([] : List Int), 0)) else (reach_Cut.l0 k x2 x3 t166 ([] : List Int) 1 x166000 x166001)) else (none)) else (none))))
def reach_Cut.l0 : Nat → Int → Int → List Bool → List Int → Int → List (S43) → List (S27) → Option (List Int × Int)
 | 0, _, _, _, _, _, _, _ => none
 | k + 1, x2, x3, x10, x11, x12, x166000, x166001 => if x12 < (x10.length : Int) then (if 0 ≤ x12 then (if rdOf false x10 x12 = true then (reach_Cut.l0 k x2 x3 x10 x11 (wrap64 (x12 + 1)) x166000 x166001) else ((some (x10.set (x12 : Int).toNat true : List Bool)).bind fun y174 => ((reach_lengths_0.f k x166000 x166001 y174 x2 0).bind fun t175 => (if 0 ≤ x3 then (if x3 < (t175.length : Int) then (if (rd t175 x3) < 0 then (if x11.length < 17592186044416 then (reach_Cut.l0 k x2 x3 (y174.set (x12 : Int).toNat false) (x11 ++ [x12]) (wrap64 (x12 + 1)) x166000 x166001) else (none)) else (reach_Cut.l0 k x2 x3 (y174.set (x12 : Int).toNat false) x11 (wrap64 (x12 + 1)) x166000 x166001)) else (none)) else (none))))) else (none)) else (some (x11, 0))
end
def reach_Cut.f (k : Nat) (l0_0 : List (S43)) (l0_1 : List (S27)) (l1 : List Int) (a2 : Int) (a3 : Int) : Option (List Int × Int) := if a2 < 0 then (reach_Cut.j0 k l1 a2 a3 true l0_0 l0_1) else (if a2 ≥ (l0_0.length : Int) then (reach_Cut.j0 k l1 a2 a3 true l0_0 l0_1) else (if a3 < 0 then (reach_Cut.j0 k l1 a2 a3 true l0_0 l0_1) else (reach_Cut.j0 k l1 a2 a3 (decide (a3 ≥ (l0_0.length : Int))) l0_0 l0_1)))
theorem reach_Cut.mono_l : ∀ k, (∀ y0 y1 y2 y3 y4 y5, LeO (reach_Cut.j0 k y0 y1 y2 y3 y4 y5) (reach_Cut.j0 (k + 1) y0 y1 y2 y3 y4 y5)) ∧ (∀ y0 y1 y2 y3 y4 y5 y6, LeO (reach_Cut.l0 k y0 y1 y2 y3 y4 y5 y6) (reach_Cut.l0 (k + 1) y0 y1 y2 y3 y4 y5 y6))
 | 0 => ⟨fun _ _ _ _ _ _ r h => by simp [reach_Cut.j0] at h, fun _ _ _ _ _ _ _ r h => by simp [reach_Cut.l0] at h⟩
 | k + 1 => by
  obtain ⟨ih0, ih1⟩ := reach_Cut.mono_l k
  refine ⟨?_, ?_⟩
  ·intro y0 y1 y2 y3 y4 y5
   unfold reach_Cut.j0
   repeat' first
   | (with_reducible exact ih0 _ _ _ _ _ _)
   | (with_reducible exact ih1 _ _ _ _ _ _ _)
   | (with_reducible exact reach_lengths_0.mono _ _ _ _ _ _)
   | (with_reducible exact reach_shut.mono _ _ _ _)
   | (with_reducible exact LeO.refl _)
   | (with_reducible exact LeO.none _)
   | (with_reducible refine LeO.ite ?_ ?_)
   | (with_reducible refine LeO.bind ?_ (fun _ => ?_))
   | exact ih0 _ _ _ _ _ _
   | exact ih1 _ _ _ _ _ _ _
   | exact reach_lengths_0.mono _ _ _ _ _ _
   | exact reach_shut.mono _ _ _ _
   | exact LeO.none _
   | refine LeO.ite ?_ ?_
   | refine LeO.bind ?_ (fun _ => ?_)
  ·intro y0 y1 y2 y3 y4 y5 y6
   unfold reach_Cut.l0
   repeat' first
   | (with_reducible exact ih0 _ _ _ _ _ _)
   | (with_reducible exact ih1 _ _ _ _ _ _ _)
   | (with_reducible exact reach_lengths_0.mono _ _ _ _ _ _)
   | (with_reducible exact reach_shut.mono _ _ _ _)
   | (with_reducible exact LeO.refl _)
   | (with_reducible exact LeO.none _)
   | (with_reducible refine LeO.ite ?_ ?_)
   | (with_reducible refine LeO.bind ?_ (fun _ => ?_))
   | exact ih0 _ _ _ _ _ _
   | exact ih1 _ _ _ _ _ _ _
   | exact reach_lengths_0.mono _ _ _ _ _ _
   | exact reach_shut.mono _ _ _ _
   | exact LeO.none _
   | refine LeO.ite ?_ ?_
   | refine LeO.bind ?_ (fun _ => ?_)
theorem reach_Cut.mono : ∀ a0 a1 a2 a3 a4 k, LeO (reach_Cut.f k a0 a1 a2 a3 a4) (reach_Cut.f (k + 1) a0 a1 a2 a3 a4) := by
 intro a0 a1 a2 a3 a4 k
 obtain ⟨ih0, ih1⟩ := reach_Cut.mono_l k
 unfold reach_Cut.f
 repeat' first
   | (with_reducible exact ih0 _ _ _ _ _ _)
   | (with_reducible exact ih1 _ _ _ _ _ _ _)
   | (with_reducible exact reach_lengths_0.mono _ _ _ _ _ _)
   | (with_reducible exact reach_shut.mono _ _ _ _)
   | (with_reducible exact LeO.refl _)
   | (with_reducible exact LeO.none _)
   | (with_reducible refine LeO.ite ?_ ?_)
   | (with_reducible refine LeO.bind ?_ (fun _ => ?_))
   | exact ih0 _ _ _ _ _ _
   | exact ih1 _ _ _ _ _ _ _
   | exact reach_lengths_0.mono _ _ _ _ _ _
   | exact reach_shut.mono _ _ _ _
   | exact LeO.none _
   | refine LeO.ite ?_ ?_
   | refine LeO.bind ?_ (fun _ => ?_)
set_option maxHeartbeats 8000000 in
set_option maxRecDepth 100000 in
theorem reach_Cut.calls (k : Nat) (A0_0 : Option Addr) (c0_0 : Nat) (l0_0 : List (S43)) (A0_1 : Option Addr) (c0_1 : Nat) (l0_1 : List (S27)) (A1 : Option Addr) (c1 : Nat) (l1 : List Int) (a2 : Int) (a3 : Int) (r1 : List Int) (r2 : Int) (w : World) (hr0_0 : Kd.C k43 w A0_0 l0_0.length l0_0) (hc0_0 : l0_0.length ≤ c0_0) (hr0_1 : Kd.C k27 w A0_1 l0_1.length l0_1) (hc0_1 : l0_1.length ≤ c0_1) (hr1 : Kd.C (Kd.int .i64) w A1 l1.length l1) (hc1 : l1.length ≤ c1) (h : reach_Cut.f k l0_0 l0_1 l1 a2 a3 = some (r1, r2)) :
  Calls Try.prog 12 #[.agg #[.slice A0_0 l0_0.length c0_0, .slice A0_1 l0_1.length c0_1], .slice A1 l1.length c1, .int .i64 a2, .int .i64 a3] w fun e w' => ∃ v0_ : Value, e = .returned (.tuple #[v0_, .int .i64 r2]) ∧ Kd.R (Kd.int .i64) 3 w' w.heap.size (fun _ => True) v0_ r1 ∧ Below w.heap.size w w' := by
 have hu25 := Try.underlying25
 have HR0_0 := Aside0.mk hr0_0
 have HC0_0 := Aside0.mk hc0_0
 clear hr0_0 hc0_0
 have HR0_1 := Aside0.mk hr0_1
 have HC0_1 := Aside0.mk hc0_1
 clear hr0_1 hc0_1
 have HR1 := Aside0.mk hr1
 have HC1 := Aside0.mk hc1
 clear hr1 hc1
 have HB := Aside0.mk (Below.refl w.heap.size w)
 have H : (if a2 < 0 then (reach_Cut.j0 k l1 a2 a3 true l0_0 l0_1) else (if a2 ≥ (l0_0.length : Int) then (reach_Cut.j0 k l1 a2 a3 true l0_0 l0_1) else (if a3 < 0 then (reach_Cut.j0 k l1 a2 a3 true l0_0 l0_1) else (reach_Cut.j0 k l1 a2 a3 (decide (a3 ≥ (l0_0.length : Int))) l0_0 l0_1)))) = some (r1, r2) := h
 clear h
 have HC5 := Aside0.mk H
 clear H
 go_enter Try.func12, Try.ntmps12
 go_upto_region 1 with (first | ((with_reducible refine gate_dst (N := 4) rfl ?_); (try (refine gate_guard (by rfl) ?_; dsimp only)); refine box_event ?hg (N := 4) ?hd (cs := #[.slice A0_0 l0_0.length c0_0, .slice A0_1 l0_1.length c0_1]) (t := 25) ?hr ?_; (case hd => rfl); (case hg => rfl); (case hr => first | (go_simp; done) | (go_simp; rfl)); intro gb165 hg w6 hbox hb; have BK165 := Aside0.mk (hbox); have GW165 := Aside0.mk ((by rw [hg]; exact (below_size (by repeat (first | (with_reducible first | exact HB.out | apply below_alloc | apply pw_below_drewN | apply below_drew1) | exact HB.out))) : w.heap.size ≤ gb165)); have GE165 := Aside0.mk ((by rw [hg]; exact (below_size (by repeat (first | (with_reducible first | exact HB.out | apply below_alloc | apply pw_below_drewN | apply below_drew1) | exact HB.out))) : w.heap.size ≤ gb165)); replace HB := Aside0.mk (below_step (by repeat (first | (with_reducible first | exact HB.out | apply below_alloc | apply pw_below_drewN | apply below_drew1) | exact HB.out)) hb); clear hb hbox hg))
 (try simp only [Act.put, List.setIfInBounds_toArray, List.set_cons_zero, List.set_cons_succ])
 go_cut [32] (fun v32 wc => ∃ (kq : Nat) (x32_4 : Bool), v32 = .bool x32_4 ∧ Aside0 (reach_Cut.j0 kq l1 a2 a3 x32_4 l0_0 l0_1 = some (r1, r2)) ∧ Aside0 (kq ≤ k) ∧ Aside0 (wc.heap[gb165]? = some (.cells #[(.slice A0_0 l0_0.length c0_0), (.slice A0_1 l0_1.length c0_1)] 25 (0, 0))) ∧ Aside0 (Below w.heap.size w wc))
 case first =>
  have H := HC5.out
  clear HC5
  by_cases c7 : a2 < 0
  ·rw [if_pos c7] at H
   have c7b0 : decide (a2 < 0) = true := decide_eq_true c7
   clear c7
   (first | rw [c7b0] | (simp only [i64_w, i32_w]; rw [c7b0]) | skip)
   have H' := Aside0.mk H; clear H
   go_wp2
   go_meet
   case rel => exact ⟨_, (true), (by first | rfl | (simp; done) | (simp [*]; done)), H', ⟨by first | omega | exact Nat.le_refl _⟩, ⟨by (with_reducible repeat (first | refine blk_drewN ?_ _ | refine blk_drew ?_ | refine blk_alloc ?_ _)); exact BK165.out⟩, ⟨by repeat (first | (with_reducible first | exact HB.out | apply below_alloc | apply pw_below_drewN | apply below_drew1 | refine below_set ?_ GE165.out) | exact HB.out)⟩⟩
  rw [if_neg c7] at H
  have c7b0 : decide (a2 < 0) = false := decide_eq_false c7
  clear c7
  (first | rw [c7b0] | (simp only [i64_w, i32_w]; rw [c7b0]) | skip)
  by_cases c8 : a2 ≥ (l0_0.length : Int)
  ·rw [if_pos c8] at H
   have c8b0 : decide ((l0_0.length : Int) ≤ a2) = true := decide_eq_true c8
   clear c8
   have H' := Aside0.mk H; clear H
   have hcz9_0 : w6.cell? ⟨gb165, 0, none⟩ = some (.slice A0_0 l0_0.length c0_0) := (blk_cell BK165.out 0).trans rfl
   have hcz9_1 : w6.cell? ⟨gb165, 1, none⟩ = some (.slice A0_1 l0_1.length c0_1) := (blk_cell BK165.out 1).trans rfl
   have hfz9_0 := blk_frozen BK165.out 0
   have hfz9_1 := blk_frozen BK165.out 1
   go_wp2
   go_meet
   case rel => exact ⟨_, (true), (by first | rfl | (simp; done) | (simp [*]; done)), H', ⟨by first | omega | exact Nat.le_refl _⟩, ⟨by (with_reducible repeat (first | refine blk_drewN ?_ _ | refine blk_drew ?_ | refine blk_alloc ?_ _)); exact BK165.out⟩, ⟨by repeat (first | (with_reducible first | exact HB.out | apply below_alloc | apply pw_below_drewN | apply below_drew1 | refine below_set ?_ GE165.out) | exact HB.out)⟩⟩
  rw [if_neg c8] at H
  have c8b0 : decide ((l0_0.length : Int) ≤ a2) = false := decide_eq_false c8
  clear c8
  by_cases c10 : a3 < 0
  ·rw [if_pos c10] at H
   have c10b0 : decide (a3 < 0) = true := decide_eq_true c10
   clear c10
   have H' := Aside0.mk H; clear H
   have hcz11_0 : w6.cell? ⟨gb165, 0, none⟩ = some (.slice A0_0 l0_0.length c0_0) := (blk_cell BK165.out 0).trans rfl
   have hcz11_1 : w6.cell? ⟨gb165, 1, none⟩ = some (.slice A0_1 l0_1.length c0_1) := (blk_cell BK165.out 1).trans rfl
   have hfz11_0 := blk_frozen BK165.out 0
   have hfz11_1 := blk_frozen BK165.out 1
   go_wp2
   go_meet
   case rel => exact ⟨_, (true), (by first | rfl | (simp; done) | (simp [*]; done)), H', ⟨by first | omega | exact Nat.le_refl _⟩, ⟨by (with_reducible repeat (first | refine blk_drewN ?_ _ | refine blk_drew ?_ | refine blk_alloc ?_ _)); exact BK165.out⟩, ⟨by repeat (first | (with_reducible first | exact HB.out | apply below_alloc | apply pw_below_drewN | apply below_drew1 | refine below_set ?_ GE165.out) | exact HB.out)⟩⟩
  rw [if_neg c10] at H
  have c10b0 : decide (a3 < 0) = false := decide_eq_false c10
  clear c10
  have H' := Aside0.mk H; clear H
  have hcz12_0 : w6.cell? ⟨gb165, 0, none⟩ = some (.slice A0_0 l0_0.length c0_0) := (blk_cell BK165.out 0).trans rfl
  have hcz12_1 : w6.cell? ⟨gb165, 1, none⟩ = some (.slice A0_1 l0_1.length c0_1) := (blk_cell BK165.out 1).trans rfl
  have hfz12_0 := blk_frozen BK165.out 0
  have hfz12_1 := blk_frozen BK165.out 1
  go_wp2
  go_meet
  case rel => exact ⟨_, (decide (a3 ≥ (l0_0.length : Int))), (by first | rfl | (simp; done) | (simp [*]; done)), H', ⟨by first | omega | exact Nat.le_refl _⟩, ⟨by (with_reducible repeat (first | refine blk_drewN ?_ _ | refine blk_drew ?_ | refine blk_alloc ?_ _)); exact BK165.out⟩, ⟨by repeat (first | (with_reducible first | exact HB.out | apply below_alloc | apply pw_below_drewN | apply below_drew1 | refine below_set ?_ GE165.out) | exact HB.out)⟩⟩
 case rest =>
  clear HC5
  obtain ⟨kq, x32_4, rfl, HA, HJ4, BK165, HB⟩ := hcut
  cases kq with
  | zero => exact absurd HA.out (by simp [reach_Cut.j0])
  | succ kj4 =>
   have H := HA.out
   clear HA
   simp only [reach_Cut.j0] at H
   by_cases c13 : x32_4 = true
   ·subst c13
    have H1 : (some (([] : List Int), 1)) = some (r1, r2) := by rw [if_pos rfl] at H; exact H
    clear H; have H := H1; clear H1
    simp only [Option.some.injEq, Prod.mk.injEq] at H
    obtain ⟨rfl, rfl⟩ := H
    go_wp2
    go_ret2
    exact ⟨_, by first | rfl | (simp [errW_none, errW_some] <;> rfl) | (simp [*, errW_none, errW_some] <;> rfl), by first | exact Kd.R_nil _ _ _ _ _ | exact Kd.N_nil _ _ _ _ _ | exact Kd.V_nil _ _ _ _ _ | exact Kd.Q_nil _ _ _ _ _ | exact Kd.S_nil _ _ _ _ _, by repeat (first | (with_reducible first | exact HB.out | apply below_alloc | apply pw_below_drewN | apply below_drew1 | refine below_set ?_ GE165.out) | exact HB.out)⟩
   replace c13 := Bool.eq_false_iff.mpr c13
   subst c13
   have H1 : ((reach_shut.f kj4 l0_0 l0_1 l1).bind fun t166 => ((reach_lengths_0.f kj4 l0_0 l0_1 t166 a2 0).bind fun t169 => (if 0 ≤ a3 then (if a3 < (t169.length : Int) then (if (rd t169 a3) < 0 then (some (([] : List Int), 0)) else (reach_Cut.l0 kj4 a2 a3 t166 ([] : List Int) 1 l0_0 l0_1)) else (none)) else (none)))) = some (r1, r2) := by rw [if_neg (show ¬ (false = true) by decide)] at H; exact H
   clear H; have H := H1; clear H1
   replace H := Option.bind_eq_some_iff.mp H; obtain ⟨t166, A140, H⟩ := H
   replace H : ((reach_lengths_0.f kj4 l0_0 l0_1 t166 a2 0).bind fun t169 => (if 0 ≤ a3 then (if a3 < (t169.length : Int) then (if (rd t169 a3) < 0 then (some (([] : List Int), 0)) else (reach_Cut.l0 kj4 a2 a3 t166 ([] : List Int) 1 l0_0 l0_1)) else (none)) else (none))) = some (r1, r2) := H
   have A14 := Aside0.mk A140
   clear A140
   replace H := Option.bind_eq_some_iff.mp H; obtain ⟨t169, A150, H⟩ := H
   replace H : (if 0 ≤ a3 then (if a3 < (t169.length : Int) then (if (rd t169 a3) < 0 then (some (([] : List Int), 0)) else (reach_Cut.l0 kj4 a2 a3 t166 ([] : List Int) 1 l0_0 l0_1)) else (none)) else (none)) = some (r1, r2) := H
   have A15 := Aside0.mk A150
   clear A150
   by_cases c16 : 0 ≤ a3
   rotate_left; ·rw [if_neg c16] at H; exact absurd H (by simp)

   rw [if_pos c16] at H
   have c16b0 : decide (0 ≤ a3) = true := decide_eq_true c16
   clear c16
   by_cases c17 : a3 < (t169.length : Int)
   rotate_left; ·rw [if_neg c17] at H; exact absurd H (by simp)
   rw [if_pos c17] at H
   have c17b0 : decide (a3 < (t169.length : Int)) = true := decide_eq_true c17
   clear c17
   by_cases c18 : (rd t169 a3) < 0
   ·rw [if_pos c18] at H
    have c18b0 : decide ((rd t169 a3) < 0) = true := decide_eq_true c18
    clear c18
    simp only [Option.some.injEq, Prod.mk.injEq] at H
    obtain ⟨rfl, rfl⟩ := H
    have hcz19_0 : wc.cell? ⟨gb165, 0, none⟩ = some (.slice A0_0 l0_0.length c0_0) := (blk_cell BK165.out 0).trans rfl
    have hcz19_1 : wc.cell? ⟨gb165, 1, none⟩ = some (.slice A0_1 l0_1.length c0_1) := (blk_cell BK165.out 1).trans rfl
    have hfz19_0 := blk_frozen BK165.out 0
    have hfz19_1 := blk_frozen BK165.out 1
    go_wp2_with (first | ((with_reducible refine gate_callee (f := 26) rfl ?_); refine goesL_ (some 35) rfl rfl Try.func26 (by kernel_rfl) rfl #[.agg #[.slice A0_0 l0_0.length c0_0, .slice A0_1 l0_1.length c0_1], .slice A1 l1.length c1] rfl (by (try simp only [List.map_toArray, List.map_cons, List.map_nil]); first | done | rfl | (simp only [List.length_drop, List.length_take]; rfl)) ?_; (with_reducible refine (reach_shut.calls kj4 _ _ l0_0 _ _ l0_1 _ _ l1 t166 _ ?side1 ?side2 ?side3 ?side4 ?side5 ?side6 A14.out).mono ?_); (case side1 => repeat (first | exact (Kd.C_below HR0_0.out HB.out) | (with_reducible refine Kd.C_alloc ?_ _) | (with_reducible refine Kd.C_drewN ?_ _) | (with_reducible refine Kd.C_drew ?_))); (case side2 => exact HC0_0.out); (case side3 => repeat (first | exact (Kd.C_below HR0_1.out HB.out) | (with_reducible refine Kd.C_alloc ?_ _) | (with_reducible refine Kd.C_drewN ?_ _) | (with_reducible refine Kd.C_drew ?_))); (case side4 => exact HC0_1.out); (case side5 => repeat (first | exact (Kd.C_below HR1.out HB.out) | (with_reducible refine Kd.C_alloc ?_ _) | (with_reducible refine Kd.C_drewN ?_ _) | (with_reducible refine Kd.C_drew ?_))); (case side6 => exact HC1.out); rintro e w20 ⟨v167, rfl, ho0, hb⟩; refine ⟨_, rfl, ?_⟩; have HO168 := Aside0.mk (Kd.R_lower ho0 (below_size (by repeat (first | (with_reducible first | exact HB.out | apply below_alloc | apply pw_below_drewN | apply below_drew1 | refine below_set ?_ GE165.out) | exact HB.out)))); replace BK165 := Aside0.mk (blk_below (g := gb165) (o := .cells #[.slice A0_0 l0_0.length c0_0, .slice A0_1 l0_1.length c0_1] 25 (0, 0)) (by (with_reducible repeat (first | refine blk_drewN ?_ _ | refine blk_drew ?_ | refine blk_alloc ?_ _)); exact BK165.out) hb); replace HB := Aside0.mk (below_step (by repeat (first | (with_reducible first | exact HB.out | apply below_alloc | apply pw_below_drewN | apply below_drew1 | refine below_set ?_ GE165.out) | exact HB.out)) hb); (try clear hb); (try clear ho0); have hcz21_0 : w20.cell? ⟨gb165, 0, none⟩ = some (.slice A0_0 l0_0.length c0_0) := (blk_cell BK165.out 0).trans rfl; have hcz21_1 : w20.cell? ⟨gb165, 1, none⟩ = some (.slice A0_1 l0_1.length c0_1) := (blk_cell BK165.out 1).trans rfl; have hfz21_0 := blk_frozen BK165.out 0; have hfz21_1 := blk_frozen BK165.out 1; obtain ⟨Ao22, co22, eo22⟩ := Kd.R_slice HO168.out; subst eo22) | ((with_reducible refine gate_callee (f := 27) rfl ?_); refine goesL_ (some 39) rfl rfl Try.func27 (by kernel_rfl) rfl #[.agg #[.slice A0_0 l0_0.length c0_0, .slice A0_1 l0_1.length c0_1], .slice Ao22 t166.length co22, .int .i64 a2, .int .i64 0] rfl (by (try simp only [List.map_toArray, List.map_cons, List.map_nil]); first | done | rfl | (simp only [List.length_drop, List.length_take]; rfl)) ?_; (with_reducible refine (reach_lengths_0.calls kj4 _ _ l0_0 _ _ l0_1 _ _ t166 a2 0 t169 _ ?side1 ?side2 ?side3 ?side4 ?side5 ?side6 A15.out).mono ?_); (case side1 => repeat (first | exact (Kd.C_below HR0_0.out HB.out) | (with_reducible refine Kd.C_alloc ?_ _) | (with_reducible refine Kd.C_drewN ?_ _) | (with_reducible refine Kd.C_drew ?_))); (case side2 => exact HC0_0.out); (case side3 => repeat (first | exact (Kd.C_below HR0_1.out HB.out) | (with_reducible refine Kd.C_alloc ?_ _) | (with_reducible refine Kd.C_drewN ?_ _) | (with_reducible refine Kd.C_drew ?_))); (case side4 => exact HC0_1.out); (case side5 => repeat (first | exact (Kd.R_reads' HO168.out).2.2 | (with_reducible refine Kd.C_alloc ?_ _) | (with_reducible refine Kd.C_drewN ?_ _) | (with_reducible refine Kd.C_drew ?_))); (case side6 => exact (Kd.R_reads' HO168.out).2.1); rintro e w23 ⟨v170, rfl, ho0, hb⟩; refine ⟨_, rfl, ?_⟩; replace HO168 := Aside0.mk (Kd.R_below (by (with_reducible repeat (first | apply Kd.R_alloc | apply Kd.R_drewN | apply Kd.R_drew)); exact HO168.out) hb); have HO171 := Aside0.mk (Kd.R_lower ho0 (below_size (by repeat (first | (with_reducible first | exact HB.out | apply below_alloc | apply pw_below_drewN | apply below_drew1 | refine below_set ?_ GE165.out) | exact HB.out)))); replace BK165 := Aside0.mk (blk_below (g := gb165) (o := .cells #[.slice A0_0 l0_0.length c0_0, .slice A0_1 l0_1.length c0_1] 25 (0, 0)) (by (with_reducible repeat (first | refine blk_drewN ?_ _ | refine blk_drew ?_ | refine blk_alloc ?_ _)); exact BK165.out) hb); replace HB := Aside0.mk (below_step (by repeat (first | (with_reducible first | exact HB.out | apply below_alloc | apply pw_below_drewN | apply below_drew1 | refine below_set ?_ GE165.out) | exact HB.out)) hb); (try clear hb); (try clear ho0); obtain ⟨Ao24, co24, eo24⟩ := Kd.R_slice HO171.out; subst eo24; have p172 : 0 ≤ (a3 : Int) := of_decide_eq_true (by first | (with_reducible assumption) | assumption); have q172 : a3 < (t169.length : Int) := of_decide_eq_true (by first | (with_reducible assumption) | assumption); obtain ⟨ad172, e172, hx172_0⟩ := Kd.at_int (Kd.R_reads' HO171.out).2.2 a3 p172 q172; cases e172; replace p172 := eq_true p172; replace q172 := eq_true q172))
    go_ret2
    exact ⟨_, by first | rfl | (simp [errW_none, errW_some] <;> rfl) | (simp [*, errW_none, errW_some] <;> rfl), by first | exact Kd.R_nil _ _ _ _ _ | exact Kd.N_nil _ _ _ _ _ | exact Kd.V_nil _ _ _ _ _ | exact Kd.Q_nil _ _ _ _ _ | exact Kd.S_nil _ _ _ _ _, by repeat (first | (with_reducible first | exact HB.out | apply below_alloc | apply pw_below_drewN | apply below_drew1 | refine below_set ?_ GE165.out) | exact HB.out)⟩
   rw [if_neg c18] at H
   have c18b0 : decide ((rd t169 a3) < 0) = false := decide_eq_false c18
   clear c18
   have H' := Aside0.mk H; clear H
   have hcz25_0 : wc.cell? ⟨gb165, 0, none⟩ = some (.slice A0_0 l0_0.length c0_0) := (blk_cell BK165.out 0).trans rfl
   have hcz25_1 : wc.cell? ⟨gb165, 1, none⟩ = some (.slice A0_1 l0_1.length c0_1) := (blk_cell BK165.out 1).trans rfl
   have hfz25_0 := blk_frozen BK165.out 0
   have hfz25_1 := blk_frozen BK165.out 1
   go_wp2_with (first | ((with_reducible refine gate_callee (f := 26) rfl ?_); refine goesL_ (some 35) rfl rfl Try.func26 (by kernel_rfl) rfl #[.agg #[.slice A0_0 l0_0.length c0_0, .slice A0_1 l0_1.length c0_1], .slice A1 l1.length c1] rfl (by (try simp only [List.map_toArray, List.map_cons, List.map_nil]); first | done | rfl | (simp only [List.length_drop, List.length_take]; rfl)) ?_; (with_reducible refine (reach_shut.calls kj4 _ _ l0_0 _ _ l0_1 _ _ l1 t166 _ ?side1 ?side2 ?side3 ?side4 ?side5 ?side6 A14.out).mono ?_); (case side1 => repeat (first | exact (Kd.C_below HR0_0.out HB.out) | (with_reducible refine Kd.C_alloc ?_ _) | (with_reducible refine Kd.C_drewN ?_ _) | (with_reducible refine Kd.C_drew ?_))); (case side2 => exact HC0_0.out); (case side3 => repeat (first | exact (Kd.C_below HR0_1.out HB.out) | (with_reducible refine Kd.C_alloc ?_ _) | (with_reducible refine Kd.C_drewN ?_ _) | (with_reducible refine Kd.C_drew ?_))); (case side4 => exact HC0_1.out); (case side5 => repeat (first | exact (Kd.C_below HR1.out HB.out) | (with_reducible refine Kd.C_alloc ?_ _) | (with_reducible refine Kd.C_drewN ?_ _) | (with_reducible refine Kd.C_drew ?_))); (case side6 => exact HC1.out); rintro e w26 ⟨v167, rfl, ho0, hb⟩; refine ⟨_, rfl, ?_⟩; have HO168 := Aside0.mk (Kd.R_lower ho0 (below_size (by repeat (first | (with_reducible first | exact HB.out | apply below_alloc | apply pw_below_drewN | apply below_drew1 | refine below_set ?_ GE165.out) | exact HB.out)))); replace BK165 := Aside0.mk (blk_below (g := gb165) (o := .cells #[.slice A0_0 l0_0.length c0_0, .slice A0_1 l0_1.length c0_1] 25 (0, 0)) (by (with_reducible repeat (first | refine blk_drewN ?_ _ | refine blk_drew ?_ | refine blk_alloc ?_ _)); exact BK165.out) hb); replace HB := Aside0.mk (below_step (by repeat (first | (with_reducible first | exact HB.out | apply below_alloc | apply pw_below_drewN | apply below_drew1 | refine below_set ?_ GE165.out) | exact HB.out)) hb); (try clear hb); (try clear ho0); have hcz27_0 : w26.cell? ⟨gb165, 0, none⟩ = some (.slice A0_0 l0_0.length c0_0) := (blk_cell BK165.out 0).trans rfl; have hcz27_1 : w26.cell? ⟨gb165, 1, none⟩ = some (.slice A0_1 l0_1.length c0_1) := (blk_cell BK165.out 1).trans rfl; have hfz27_0 := blk_frozen BK165.out 0; have hfz27_1 := blk_frozen BK165.out 1; obtain ⟨Ao28, co28, eo28⟩ := Kd.R_slice HO168.out; subst eo28) | ((with_reducible refine gate_callee (f := 27) rfl ?_); refine goesL_ (some 39) rfl rfl Try.func27 (by kernel_rfl) rfl #[.agg #[.slice A0_0 l0_0.length c0_0, .slice A0_1 l0_1.length c0_1], .slice Ao28 t166.length co28, .int .i64 a2, .int .i64 0] rfl (by (try simp only [List.map_toArray, List.map_cons, List.map_nil]); first | done | rfl | (simp only [List.length_drop, List.length_take]; rfl)) ?_; (with_reducible refine (reach_lengths_0.calls kj4 _ _ l0_0 _ _ l0_1 _ _ t166 a2 0 t169 _ ?side1 ?side2 ?side3 ?side4 ?side5 ?side6 A15.out).mono ?_); (case side1 => repeat (first | exact (Kd.C_below HR0_0.out HB.out) | (with_reducible refine Kd.C_alloc ?_ _) | (with_reducible refine Kd.C_drewN ?_ _) | (with_reducible refine Kd.C_drew ?_))); (case side2 => exact HC0_0.out); (case side3 => repeat (first | exact (Kd.C_below HR0_1.out HB.out) | (with_reducible refine Kd.C_alloc ?_ _) | (with_reducible refine Kd.C_drewN ?_ _) | (with_reducible refine Kd.C_drew ?_))); (case side4 => exact HC0_1.out); (case side5 => repeat (first | exact (Kd.R_reads' HO168.out).2.2 | (with_reducible refine Kd.C_alloc ?_ _) | (with_reducible refine Kd.C_drewN ?_ _) | (with_reducible refine Kd.C_drew ?_))); (case side6 => exact (Kd.R_reads' HO168.out).2.1); rintro e w29 ⟨v170, rfl, ho0, hb⟩; refine ⟨_, rfl, ?_⟩; replace HO168 := Aside0.mk (Kd.R_below (by (with_reducible repeat (first | apply Kd.R_alloc | apply Kd.R_drewN | apply Kd.R_drew)); exact HO168.out) hb); have HO171 := Aside0.mk (Kd.R_lower ho0 (below_size (by repeat (first | (with_reducible first | exact HB.out | apply below_alloc | apply pw_below_drewN | apply below_drew1 | refine below_set ?_ GE165.out) | exact HB.out)))); replace BK165 := Aside0.mk (blk_below (g := gb165) (o := .cells #[.slice A0_0 l0_0.length c0_0, .slice A0_1 l0_1.length c0_1] 25 (0, 0)) (by (with_reducible repeat (first | refine blk_drewN ?_ _ | refine blk_drew ?_ | refine blk_alloc ?_ _)); exact BK165.out) hb); replace HB := Aside0.mk (below_step (by repeat (first | (with_reducible first | exact HB.out | apply below_alloc | apply pw_below_drewN | apply below_drew1 | refine below_set ?_ GE165.out) | exact HB.out)) hb); (try clear hb); (try clear ho0); obtain ⟨Ao30, co30, eo30⟩ := Kd.R_slice HO171.out; subst eo30; have p172 : 0 ≤ (a3 : Int) := of_decide_eq_true (by first | (with_reducible assumption) | assumption); have q172 : a3 < (t169.length : Int) := of_decide_eq_true (by first | (with_reducible assumption) | assumption); obtain ⟨ad172, e172, hx172_0⟩ := Kd.at_int (Kd.R_reads' HO171.out).2.2 a3 p172 q172; cases e172; replace p172 := eq_true p172; replace q172 := eq_true q172))
   go_loopg [11, 12] kj4 (fun kq v11 v12 w' => ∃ (x10_2 : List Bool) (x11_2 : List Int) (x12_2 : Int), v12 = .int .i64 x12_2 ∧ Aside0 (reach_Cut.l0 kq a2 a3 x10_2 x11_2 x12_2 l0_0 l0_1 = some (r1, r2)) ∧ Aside0 (kq ≤ kj4) ∧ Aside0 (Kd.R Kd.bool 4 w' w.heap.size (fun _ => True) (.slice Ao28 t166.length co28) x10_2) ∧ Aside0 (Kd.R (Kd.int .i64) 3 w' w.heap.size (fun _ => True) v11 x11_2) ∧ Aside0 (w'.heap[gb165]? = some (.cells #[(.slice A0_0 l0_0.length c0_0), (.slice A0_1 l0_1.length c0_1)] 25 (0, 0))) ∧ Aside0 (Below w.heap.size w w'))
   case atStart => exact ⟨(t166), (([] : List Int)), (1), (by first | rfl | (simp; done) | (simp [*]; done)), H', ⟨Nat.le_refl _⟩, ⟨by (with_reducible repeat (first | apply Kd.R_alloc | apply Kd.R_drewN | apply Kd.R_drew)); exact HO168.out⟩, ⟨by first | exact Kd.R_nil _ _ _ _ _ | exact Kd.N_nil _ _ _ _ _ | exact Kd.V_nil _ _ _ _ _ | exact Kd.Q_nil _ _ _ _ _ | exact Kd.S_nil _ _ _ _ _⟩, ⟨by (with_reducible repeat (first | refine blk_drewN ?_ _ | refine blk_drew ?_ | refine blk_alloc ?_ _)); exact BK165.out⟩, ⟨by repeat (first | (with_reducible first | exact HB.out | apply below_alloc | apply pw_below_drewN | apply below_drew1 | refine below_set ?_ GE165.out) | exact HB.out)⟩⟩
   case round =>
    clear H'
    obtain ⟨x10_2, x11_2, x12_2, rfl, HA, HK2, HO_10, HO_11, BK165, HB⟩ := hrel
    have hl10_2 := (Kd.R_reads' HO_10.out).1
    rw [hl10_2] at HO_10
    (try simp only [hl10_2])
    (try simp only [hl10_2] at BK165)
    (try simp only [hl10_2] at HO_11)
    cases gk with
    | zero => exact absurd HA.out (by simp [reach_Cut.l0])
    | succ k2 =>
     have H := HA.out
     clear HA
     simp only [reach_Cut.l0] at H
     by_cases c31 : x12_2 < (x10_2.length : Int)
     rotate_left
     ·rw [if_neg c31] at H
      have c31b0 : decide (x12_2 < (x10_2.length : Int)) = false := decide_eq_false c31
      (try (have c31z0 := c31b0; simp only [hl10_2] at c31z0))
      clear c31
      simp only [Option.some.injEq, Prod.mk.injEq] at H
      obtain ⟨rfl, rfl⟩ := H
      go_wp2
      go_ret2
      exact ⟨_, by first | rfl | (simp [errW_none, errW_some] <;> rfl) | (simp [*, errW_none, errW_some] <;> rfl), by (with_reducible repeat (first | apply Kd.R_alloc | apply Kd.R_drewN | apply Kd.R_drew)); exact HO_11.out, by repeat (first | (with_reducible first | exact HB.out | apply below_alloc | apply pw_below_drewN | apply below_drew1 | refine below_set ?_ GE165.out) | exact HB.out)⟩
     rw [if_pos c31] at H
     have c31b0 : decide (x12_2 < (x10_2.length : Int)) = true := decide_eq_true c31
     (try (have c31z0 := c31b0; simp only [hl10_2] at c31z0))
     clear c31
     by_cases c32 : 0 ≤ x12_2
     rotate_left; ·rw [if_neg c32] at H; exact absurd H (by simp)
     rw [if_pos c32] at H
     have c32b0 : decide (0 ≤ x12_2) = true := decide_eq_true c32
     clear c32
     obtain ⟨bq33, hbq33⟩ : ∃ b_ : Bool, b_ = (rdOf false x10_2 x12_2) := ⟨_, rfl⟩
     replace H : (if bq33 = true then (reach_Cut.l0 k2 a2 a3 x10_2 x11_2 (wrap64 (x12_2 + 1)) l0_0 l0_1) else ((some (x10_2.set (x12_2 : Int).toNat true : List Bool)).bind fun y174 => ((reach_lengths_0.f k2 l0_0 l0_1 y174 a2 0).bind fun t175 => (if 0 ≤ a3 then (if a3 < (t175.length : Int) then (if (rd t175 a3) < 0 then (if x11_2.length < 17592186044416 then (reach_Cut.l0 k2 a2 a3 (y174.set (x12_2 : Int).toNat false) (x11_2 ++ [x12_2]) (wrap64 (x12_2 + 1)) l0_0 l0_1) else (none)) else (reach_Cut.l0 k2 a2 a3 (y174.set (x12_2 : Int).toNat false) x11_2 (wrap64 (x12_2 + 1)) l0_0 l0_1)) else (none)) else (none))))) = some (r1, r2) := by rw [← hbq33] at H; exact H
     have Nbq33 := Aside0.mk hbq33
     clear hbq33
     by_cases c34 : bq33 = true
     ·subst c34
      have H1 : (reach_Cut.l0 k2 a2 a3 x10_2 x11_2 (wrap64 (x12_2 + 1)) l0_0 l0_1) = some (r1, r2) := by rw [if_pos rfl] at H; exact H
      clear H; have H := H1; clear H1
      have H' := Aside0.mk H; clear H
      have p173 : 0 ≤ (x12_2 : Int) := of_decide_eq_true (by first | (with_reducible assumption) | assumption)
      have q173 : x12_2 < (x10_2.length : Int) := of_decide_eq_true (by first | (with_reducible assumption) | assumption)
      obtain ⟨ad173, e173, hx173_0⟩ := Kd.at_bool (Kd.R_reads' HO_10.out).2.2 x12_2 p173 q173
      (try rw [← Nbq33.out] at hx173_0)
      cases e173
      replace p173 := eq_true p173
      replace q173 := eq_true q173
      go_wp2
      (try simp only [← hl10_2])
      go_roundg k2
      case measure => have := HJ4.out; have := HK2.out; omega
      case rel => exact ⟨(x10_2), (x11_2), (wrap64 (x12_2 + 1)), (by first | rfl | (simp; done) | (simp [*]; done)), H', ⟨by have := HJ4.out; have := HK2.out; omega⟩, ⟨by (try simp only [hl10_2]); (with_reducible repeat (first | apply Kd.R_alloc | apply Kd.R_drewN | apply Kd.R_drew)); exact HO_10.out⟩, ⟨by (try simp only [hl10_2]); (with_reducible repeat (first | apply Kd.R_alloc | apply Kd.R_drewN | apply Kd.R_drew)); exact HO_11.out⟩, ⟨by (try simp only [hl10_2]); (with_reducible repeat (first | refine blk_drewN ?_ _ | refine blk_drew ?_ | refine blk_alloc ?_ _)); exact BK165.out⟩, ⟨by repeat (first | (with_reducible first | exact HB.out | apply below_alloc | apply pw_below_drewN | apply below_drew1 | refine below_set ?_ GE165.out) | exact HB.out)⟩⟩
     replace c34 := Bool.eq_false_iff.mpr c34
     subst c34
     have H1 : ((some (x10_2.set (x12_2 : Int).toNat true : List Bool)).bind fun y174 => ((reach_lengths_0.f k2 l0_0 l0_1 y174 a2 0).bind fun t175 => (if 0 ≤ a3 then (if a3 < (t175.length : Int) then (if (rd t175 a3) < 0 then (if x11_2.length < 17592186044416 then (reach_Cut.l0 k2 a2 a3 (y174.set (x12_2 : Int).toNat false) (x11_2 ++ [x12_2]) (wrap64 (x12_2 + 1)) l0_0 l0_1) else (none)) else (reach_Cut.l0 k2 a2 a3 (y174.set (x12_2 : Int).toNat false) x11_2 (wrap64 (x12_2 + 1)) l0_0 l0_1)) else (none)) else (none)))) = some (r1, r2) := by rw [if_neg (show ¬ (false = true) by decide)] at H; exact H
     clear H; have H := H1; clear H1
     obtain ⟨y174, hy174⟩ : ∃ y_ : List Bool, y_ = (x10_2.set (x12_2 : Int).toNat true) := ⟨_, rfl⟩
     replace H : ((reach_lengths_0.f k2 l0_0 l0_1 y174 a2 0).bind fun t175 => (if 0 ≤ a3 then (if a3 < (t175.length : Int) then (if (rd t175 a3) < 0 then (if x11_2.length < 17592186044416 then (reach_Cut.l0 k2 a2 a3 (y174.set (x12_2 : Int).toNat false) (x11_2 ++ [x12_2]) (wrap64 (x12_2 + 1)) l0_0 l0_1) else (none)) else (reach_Cut.l0 k2 a2 a3 (y174.set (x12_2 : Int).toNat false) x11_2 (wrap64 (x12_2 + 1)) l0_0 l0_1)) else (none)) else (none))) = some (r1, r2) := by first | (rw [hy174]; with_reducible exact H) | (have H2_ := (Option.bind_some _ _).symm.trans H; rw [hy174]; with_reducible exact H2_) | (have H2_ := (Option.bind_some _ _).symm.trans H; with_reducible exact H2_) | with_reducible exact H | (rw [hy174]; exact H) | exact H
     have Ny174 := Aside0.mk hy174
     clear hy174
     replace H := Option.bind_eq_some_iff.mp H; obtain ⟨t175, A360, H⟩ := H
     replace H : (if 0 ≤ a3 then (if a3 < (t175.length : Int) then (if (rd t175 a3) < 0 then (if x11_2.length < 17592186044416 then (reach_Cut.l0 k2 a2 a3 (y174.set (x12_2 : Int).toNat false) (x11_2 ++ [x12_2]) (wrap64 (x12_2 + 1)) l0_0 l0_1) else (none)) else (reach_Cut.l0 k2 a2 a3 (y174.set (x12_2 : Int).toNat false) x11_2 (wrap64 (x12_2 + 1)) l0_0 l0_1)) else (none)) else (none)) = some (r1, r2) := H
     have A36 := Aside0.mk A360
     clear A360
     by_cases c37 : 0 ≤ a3
     rotate_left; ·rw [if_neg c37] at H; exact absurd H (by simp)
     rw [if_pos c37] at H
     have c37b0 : decide (0 ≤ a3) = true := decide_eq_true c37
     clear c37
     by_cases c38 : a3 < (t175.length : Int)
     rotate_left; ·rw [if_neg c38] at H; exact absurd H (by simp)
     rw [if_pos c38] at H
     have c38b0 : decide (a3 < (t175.length : Int)) = true := decide_eq_true c38
     (try (have c38z0 := c38b0; simp only [hl10_2] at c38z0))
     clear c38
     by_cases c39 : (rd t175 a3) < 0
     rotate_left
     ·rw [if_neg c39] at H
      have c39b0 : decide ((rd t175 a3) < 0) = false := decide_eq_false c39
      clear c39
      obtain ⟨y183, hy183⟩ : ∃ y_ : List Bool, y_ = (y174.set (x12_2 : Int).toNat false) := ⟨_, rfl⟩
      replace H : (reach_Cut.l0 k2 a2 a3 y183 x11_2 (wrap64 (x12_2 + 1)) l0_0 l0_1) = some (r1, r2) := by first | (rw [hy183]; with_reducible exact H) | (have H2_ := (Option.bind_some _ _).symm.trans H; rw [hy183]; with_reducible exact H2_) | (have H2_ := (Option.bind_some _ _).symm.trans H; with_reducible exact H2_) | with_reducible exact H | (rw [hy183]; exact H) | exact H
      have Ny183 := Aside0.mk hy183
      clear hy183
      have H' := Aside0.mk H; clear H
      have p173 : 0 ≤ (x12_2 : Int) := of_decide_eq_true (by first | (with_reducible assumption) | assumption)
      have q173 : x12_2 < (x10_2.length : Int) := of_decide_eq_true (by first | (with_reducible assumption) | assumption)
      obtain ⟨ad173, e173, hx173_0⟩ := Kd.at_bool (Kd.R_reads' HO_10.out).2.2 x12_2 p173 q173
      (try rw [← Nbq33.out] at hx173_0)
      cases e173
      replace p173 := eq_true p173
      replace q173 := eq_true q173
      have p35 : 0 ≤ (x12_2 : Int) := of_decide_eq_true (by first | (with_reducible assumption) | assumption)
      have q35 : (x12_2 : Int) < ((x10_2.length : Int) : Int) := of_decide_eq_true (by first | (with_reducible assumption) | assumption)
      obtain ⟨go35, co35, eo35, gb35, gl35, cl35, HG35⟩ := Kd.R_form HO_10.out (by omega)
      (first | cases eo35 | (injection eo35 with ea_ en_ ec_; (first | subst ea_ | (injection ea_ with ea_; subst ea_)); subst ec_; clear en_))
      have GB35 := Aside0.mk gb35
      have GG35 := Aside0.mk HG35
      clear gb35 gl35 HG35
      (first | simp only [add_plain] at hx173_0 | skip)
      obtain ⟨hx35_0, hf35_0⟩ := Kd.R_celln false HO_10.out (x12_2 : Int) p35 q35
      replace p35 := eq_true p35
      replace q35 := eq_true q35
      have HP51 := Kd.R_putg HO_10.out (x12_2 : Int) true
      go_wp2_with (first | ((with_reducible refine gate_store (t := 4) (p := 56) rfl ?_); refine store_event (t := 4) (p := 56) (v := ?vo_w52) (w1 := (wr.setCell ⟨go35, (x12_2 : Int).toNat, none⟩ (.bool true))) ?hg ?ho ?hn ?hr ?_; (case ho => rfl); (case hg => rfl); (case hn => rfl); (case hr => first | (go_simp; done) | (go_simp; rfl)); intro w52 hw; have hg : wr.grownBy w52 (some go35) := (by rw [hw]; exact HP51.2); have hp_ : Kd.R Kd.bool 4 w52 w.heap.size (fun _ => True) (.slice (some ⟨go35, 0, none⟩) x10_2.length co28) y174 := (by rw [hw, Ny174.out]; exact HP51.1); clear HP51; replace HO_11 := Aside0.mk (Kd.R_over' (v := (.slice (some ⟨go35, 0, none⟩) x10_2.length co28)) (by (with_reducible repeat (first | apply Kd.R_alloc | apply Kd.R_drewN | apply Kd.R_drew)); exact HO_11.out) (Kd.R_typed HO_10.out) (by decide) hg); replace BK165 := Aside0.mk (blk_grown (g := gb165) (o := .cells #[.slice A0_0 l0_0.length c0_0, .slice A0_1 l0_1.length c0_1] 25 (0, 0)) (by (with_reducible repeat (first | refine blk_drewN ?_ _ | refine blk_drew ?_ | refine blk_alloc ?_ _)); exact BK165.out) hg (Kd.R_ne HO_10.out BK165.out (by decide))); replace HO_10 := Aside0.mk (hp_); replace HB := Aside0.mk ((by rw [hw]; exact below_set (HB.out) GB35.out : Below w.heap.size w w52)); clear hg hw hp_; have hcz53_0 : w52.cell? ⟨gb165, 0, none⟩ = some (.slice A0_0 l0_0.length c0_0) := (blk_cell BK165.out 0).trans rfl; have hcz53_1 : w52.cell? ⟨gb165, 1, none⟩ = some (.slice A0_1 l0_1.length c0_1) := (blk_cell BK165.out 1).trans rfl; have hfz53_0 := blk_frozen BK165.out 0; have hfz53_1 := blk_frozen BK165.out 1) | ((with_reducible refine gate_callee (f := 27) rfl ?_); refine goesL_ (some 60) rfl rfl Try.func27 (by kernel_rfl) rfl #[.agg #[.slice A0_0 l0_0.length c0_0, .slice A0_1 l0_1.length c0_1], .slice (some ⟨go35, 0, none⟩) y174.length co28, .int .i64 a2, .int .i64 0] rfl (by (try simp only [List.map_toArray, List.map_cons, List.map_nil]); first | done | (rw [show y174.length = x10_2.length from (Kd.R_reads' HO_10.out).1.symm] <;> rfl) | rfl | (simp only [List.length_drop, List.length_take]; rfl)) ?_; (with_reducible refine (reach_lengths_0.calls k2 _ _ l0_0 _ _ l0_1 _ _ y174 a2 0 t175 _ ?side1 ?side2 ?side3 ?side4 ?side5 ?side6 A36.out).mono ?_); (case side1 => repeat (first | exact (Kd.C_below HR0_0.out HB.out) | (with_reducible refine Kd.C_alloc ?_ _) | (with_reducible refine Kd.C_drewN ?_ _) | (with_reducible refine Kd.C_drew ?_))); (case side2 => exact HC0_0.out); (case side3 => repeat (first | exact (Kd.C_below HR0_1.out HB.out) | (with_reducible refine Kd.C_alloc ?_ _) | (with_reducible refine Kd.C_drewN ?_ _) | (with_reducible refine Kd.C_drew ?_))); (case side4 => exact HC0_1.out); (case side5 => repeat (first | exact (Kd.R_reads' HO_10.out).2.2 | (with_reducible refine Kd.C_alloc ?_ _) | (with_reducible refine Kd.C_drewN ?_ _) | (with_reducible refine Kd.C_drew ?_))); (case side6 => rw [show y174.length = x10_2.length from (Kd.R_reads' HO_10.out).1.symm]; exact (Kd.R_reads' HO_10.out).2.1); rintro e w54 ⟨v176, rfl, ho0, hb⟩; refine ⟨_, rfl, ?_⟩; replace HO_10 := Aside0.mk (Kd.R_below (by (with_reducible repeat (first | apply Kd.R_alloc | apply Kd.R_drewN | apply Kd.R_drew)); exact HO_10.out) hb); have HO177 := Aside0.mk (Kd.R_lower (Kd.R_new' ho0 (Kd.R_lt (by (with_reducible repeat (first | apply Kd.R_alloc | apply Kd.R_drewN | apply Kd.R_drew)); exact HO_11.out))) (below_size (by repeat (first | (with_reducible first | exact HB.out | apply below_alloc | apply pw_below_drewN | apply below_drew1 | refine below_set ?_ GE165.out) | exact HB.out)))); replace HO_11 := Aside0.mk (Kd.R_elder' (by (with_reducible repeat (first | apply Kd.R_alloc | apply Kd.R_drewN | apply Kd.R_drew)); exact HO_11.out) (Kd.R_base ho0) hb); replace BK165 := Aside0.mk (blk_below (g := gb165) (o := .cells #[.slice A0_0 l0_0.length c0_0, .slice A0_1 l0_1.length c0_1] 25 (0, 0)) (by (with_reducible repeat (first | refine blk_drewN ?_ _ | refine blk_drew ?_ | refine blk_alloc ?_ _)); exact BK165.out) hb); replace HB := Aside0.mk (below_step (by repeat (first | (with_reducible first | exact HB.out | apply below_alloc | apply pw_below_drewN | apply below_drew1 | refine below_set ?_ GE165.out) | exact HB.out)) hb); (try clear hb); (try clear ho0); obtain ⟨Ao55, co55, eo55⟩ := Kd.R_slice HO177.out; subst eo55; have p178 : 0 ≤ (a3 : Int) := of_decide_eq_true (by first | (with_reducible assumption) | assumption); have q178 : a3 < (t175.length : Int) := of_decide_eq_true (by first | (with_reducible assumption) | assumption); obtain ⟨ad178, e178, hx178_0⟩ := Kd.at_int (Kd.R_reads' HO177.out).2.2 a3 p178 q178; cases e178; replace p178 := eq_true p178; replace q178 := eq_true q178; have p50 : 0 ≤ (x12_2 : Int) := of_decide_eq_true (by first | (with_reducible assumption) | assumption); have q50 : (x12_2 : Int) < ((x10_2.length : Int) : Int) := of_decide_eq_true (by first | (with_reducible assumption) | assumption); obtain ⟨hx50_0, hf50_0⟩ := Kd.R_celln false HO_10.out (x12_2 : Int) p50 q50; replace p50 := eq_true p50; replace q50 := eq_true q50; obtain ⟨hy56_, hz56_⟩ := Kd.R_celln false HO_10.out (x12_2 : Int) (of_decide_eq_true (by first | (with_reducible assumption) | assumption)) (of_decide_eq_true (by first | (with_reducible assumption) | assumption)); have HP56 := Kd.R_putg HO_10.out (x12_2 : Int) false) | ((with_reducible refine gate_store (t := 4) (p := 71) rfl ?_); refine store_event (t := 4) (p := 71) (v := ?vo_w57) (w1 := (w54.setCell ⟨go35, (x12_2 : Int).toNat, none⟩ (.bool false))) ?hg ?ho ?hn ?hr ?_; (case ho => rfl); (case hg => rfl); (case hn => rfl); (case hr => first | (go_simp; done) | (go_simp; rfl)); intro w57 hw; have hg : w54.grownBy w57 (some go35) := (by rw [hw]; exact HP56.2); have hp_ : Kd.R Kd.bool 4 w57 w.heap.size (fun _ => True) (.slice (some ⟨go35, 0, none⟩) x10_2.length co28) y183 := (by rw [hw, Ny183.out]; exact HP56.1); clear HP56; replace HO_11 := Aside0.mk (Kd.R_over' (v := (.slice (some ⟨go35, 0, none⟩) x10_2.length co28)) (by (with_reducible repeat (first | apply Kd.R_alloc | apply Kd.R_drewN | apply Kd.R_drew)); exact HO_11.out) (Kd.R_typed HO_10.out) (by decide) hg); replace BK165 := Aside0.mk (blk_grown (g := gb165) (o := .cells #[.slice A0_0 l0_0.length c0_0, .slice A0_1 l0_1.length c0_1] 25 (0, 0)) (by (with_reducible repeat (first | refine blk_drewN ?_ _ | refine blk_drew ?_ | refine blk_alloc ?_ _)); exact BK165.out) hg (Kd.R_ne HO_10.out BK165.out (by decide))); replace HO177 := Aside0.mk (Kd.R_over' (v := (.slice (some ⟨go35, 0, none⟩) x10_2.length co28)) (by (with_reducible repeat (first | apply Kd.R_alloc | apply Kd.R_drewN | apply Kd.R_drew)); exact HO177.out) (Kd.R_typed HO_10.out) (by decide) hg); replace HO_10 := Aside0.mk (hp_); replace HB := Aside0.mk ((by rw [hw]; exact below_set (HB.out) GB35.out : Below w.heap.size w w57)); clear hg hw hp_))
      (try simp only [← hl10_2])
      go_roundg k2
      case measure => have := HJ4.out; have := HK2.out; omega
      case rel => exact ⟨(y183), (x11_2), (wrap64 (x12_2 + 1)), (by first | rfl | (simp; done) | (simp [*]; done)), H', ⟨by have := HJ4.out; have := HK2.out; omega⟩, ⟨by (try simp only [hl10_2]); (with_reducible repeat (first | apply Kd.R_alloc | apply Kd.R_drewN | apply Kd.R_drew)); exact HO_10.out⟩, ⟨by (try simp only [hl10_2]); (with_reducible repeat (first | apply Kd.R_alloc | apply Kd.R_drewN | apply Kd.R_drew)); exact Kd.R_mono HO_11.out (fun _ hk => trivial)⟩, ⟨by (try simp only [hl10_2]); (with_reducible repeat (first | refine blk_drewN ?_ _ | refine blk_drew ?_ | refine blk_alloc ?_ _)); exact BK165.out⟩, ⟨by repeat (first | (with_reducible first | exact HB.out | apply below_alloc | apply pw_below_drewN | apply below_drew1 | refine below_set ?_ GE165.out) | exact HB.out)⟩⟩
     rw [if_pos c39] at H
     have c39b0 : decide ((rd t175 a3) < 0) = true := decide_eq_true c39
     clear c39
     by_cases c40 : x11_2.length < 17592186044416
     rotate_left; ·rw [if_neg c40] at H; exact absurd H (by simp)
     rw [if_pos c40] at H
     have LMc40 := Aside0.mk c40
     clear c40
     obtain ⟨y179, hy179⟩ : ∃ y_ : List Int, y_ = (x11_2 ++ [x12_2]) := ⟨_, rfl⟩
     replace H : (reach_Cut.l0 k2 a2 a3 (y174.set (x12_2 : Int).toNat false) y179 (wrap64 (x12_2 + 1)) l0_0 l0_1) = some (r1, r2) := by first | (rw [hy179]; with_reducible exact H) | (have H2_ := (Option.bind_some _ _).symm.trans H; rw [hy179]; with_reducible exact H2_) | (have H2_ := (Option.bind_some _ _).symm.trans H; with_reducible exact H2_) | with_reducible exact H | (rw [hy179]; exact H) | exact H
     have Ny179 := Aside0.mk hy179
     clear hy179
     obtain ⟨y182, hy182⟩ : ∃ y_ : List Bool, y_ = (y174.set (x12_2 : Int).toNat false) := ⟨_, rfl⟩
     replace H : (reach_Cut.l0 k2 a2 a3 y182 y179 (wrap64 (x12_2 + 1)) l0_0 l0_1) = some (r1, r2) := by first | (rw [hy182]; with_reducible exact H) | (have H2_ := (Option.bind_some _ _).symm.trans H; rw [hy182]; with_reducible exact H2_) | (have H2_ := (Option.bind_some _ _).symm.trans H; with_reducible exact H2_) | with_reducible exact H | (rw [hy182]; exact H) | exact H
     have Ny182 := Aside0.mk hy182
     clear hy182
     have H' := Aside0.mk H; clear H
     have p173 : 0 ≤ (x12_2 : Int) := of_decide_eq_true (by first | (with_reducible assumption) | assumption)
     have q173 : x12_2 < (x10_2.length : Int) := of_decide_eq_true (by first | (with_reducible assumption) | assumption)
     obtain ⟨ad173, e173, hx173_0⟩ := Kd.at_bool (Kd.R_reads' HO_10.out).2.2 x12_2 p173 q173
     (try rw [← Nbq33.out] at hx173_0)
     cases e173
     replace p173 := eq_true p173
     replace q173 := eq_true q173
     have p35 : 0 ≤ (x12_2 : Int) := of_decide_eq_true (by first | (with_reducible assumption) | assumption)
     have q35 : (x12_2 : Int) < ((x10_2.length : Int) : Int) := of_decide_eq_true (by first | (with_reducible assumption) | assumption)
     obtain ⟨go35, co35, eo35, gb35, gl35, cl35, HG35⟩ := Kd.R_form HO_10.out (by omega)
     (first | cases eo35 | (injection eo35 with ea_ en_ ec_; (first | subst ea_ | (injection ea_ with ea_; subst ea_)); subst ec_; clear en_))
     have GB35 := Aside0.mk gb35
     have GG35 := Aside0.mk HG35
     clear gb35 gl35 HG35
     (first | simp only [add_plain] at hx173_0 | skip)
     obtain ⟨hx35_0, hf35_0⟩ := Kd.R_celln false HO_10.out (x12_2 : Int) p35 q35
     replace p35 := eq_true p35
     replace q35 := eq_true q35
     have HP42 := Kd.R_putg HO_10.out (x12_2 : Int) true
     go_wp2_with (first | ((with_reducible refine gate_store (t := 4) (p := 56) rfl ?_); refine store_event (t := 4) (p := 56) (v := ?vo_w43) (w1 := (wr.setCell ⟨go35, (x12_2 : Int).toNat, none⟩ (.bool true))) ?hg ?ho ?hn ?hr ?_; (case ho => rfl); (case hg => rfl); (case hn => rfl); (case hr => first | (go_simp; done) | (go_simp; rfl)); intro w43 hw; have hg : wr.grownBy w43 (some go35) := (by rw [hw]; exact HP42.2); have hp_ : Kd.R Kd.bool 4 w43 w.heap.size (fun _ => True) (.slice (some ⟨go35, 0, none⟩) x10_2.length co28) y174 := (by rw [hw, Ny174.out]; exact HP42.1); clear HP42; replace HO_11 := Aside0.mk (Kd.R_over' (v := (.slice (some ⟨go35, 0, none⟩) x10_2.length co28)) (by (with_reducible repeat (first | apply Kd.R_alloc | apply Kd.R_drewN | apply Kd.R_drew)); exact HO_11.out) (Kd.R_typed HO_10.out) (by decide) hg); replace BK165 := Aside0.mk (blk_grown (g := gb165) (o := .cells #[.slice A0_0 l0_0.length c0_0, .slice A0_1 l0_1.length c0_1] 25 (0, 0)) (by (with_reducible repeat (first | refine blk_drewN ?_ _ | refine blk_drew ?_ | refine blk_alloc ?_ _)); exact BK165.out) hg (Kd.R_ne HO_10.out BK165.out (by decide))); replace HO_10 := Aside0.mk (hp_); replace HB := Aside0.mk ((by rw [hw]; exact below_set (HB.out) GB35.out : Below w.heap.size w w43)); clear hg hw hp_; have hcz44_0 : w43.cell? ⟨gb165, 0, none⟩ = some (.slice A0_0 l0_0.length c0_0) := (blk_cell BK165.out 0).trans rfl; have hcz44_1 : w43.cell? ⟨gb165, 1, none⟩ = some (.slice A0_1 l0_1.length c0_1) := (blk_cell BK165.out 1).trans rfl; have hfz44_0 := blk_frozen BK165.out 0; have hfz44_1 := blk_frozen BK165.out 1) | ((with_reducible refine gate_callee (f := 27) rfl ?_); refine goesL_ (some 60) rfl rfl Try.func27 (by kernel_rfl) rfl #[.agg #[.slice A0_0 l0_0.length c0_0, .slice A0_1 l0_1.length c0_1], .slice (some ⟨go35, 0, none⟩) y174.length co28, .int .i64 a2, .int .i64 0] rfl (by (try simp only [List.map_toArray, List.map_cons, List.map_nil]); first | done | (rw [show y174.length = x10_2.length from (Kd.R_reads' HO_10.out).1.symm] <;> rfl) | rfl | (simp only [List.length_drop, List.length_take]; rfl)) ?_; (with_reducible refine (reach_lengths_0.calls k2 _ _ l0_0 _ _ l0_1 _ _ y174 a2 0 t175 _ ?side1 ?side2 ?side3 ?side4 ?side5 ?side6 A36.out).mono ?_); (case side1 => repeat (first | exact (Kd.C_below HR0_0.out HB.out) | (with_reducible refine Kd.C_alloc ?_ _) | (with_reducible refine Kd.C_drewN ?_ _) | (with_reducible refine Kd.C_drew ?_))); (case side2 => exact HC0_0.out); (case side3 => repeat (first | exact (Kd.C_below HR0_1.out HB.out) | (with_reducible refine Kd.C_alloc ?_ _) | (with_reducible refine Kd.C_drewN ?_ _) | (with_reducible refine Kd.C_drew ?_))); (case side4 => exact HC0_1.out); (case side5 => repeat (first | exact (Kd.R_reads' HO_10.out).2.2 | (with_reducible refine Kd.C_alloc ?_ _) | (with_reducible refine Kd.C_drewN ?_ _) | (with_reducible refine Kd.C_drew ?_))); (case side6 => rw [show y174.length = x10_2.length from (Kd.R_reads' HO_10.out).1.symm]; exact (Kd.R_reads' HO_10.out).2.1); rintro e w45 ⟨v176, rfl, ho0, hb⟩; refine ⟨_, rfl, ?_⟩; replace HO_10 := Aside0.mk (Kd.R_below (by (with_reducible repeat (first | apply Kd.R_alloc | apply Kd.R_drewN | apply Kd.R_drew)); exact HO_10.out) hb); have HO177 := Aside0.mk (Kd.R_lower (Kd.R_new' ho0 (Kd.R_lt (by (with_reducible repeat (first | apply Kd.R_alloc | apply Kd.R_drewN | apply Kd.R_drew)); exact HO_11.out))) (below_size (by repeat (first | (with_reducible first | exact HB.out | apply below_alloc | apply pw_below_drewN | apply below_drew1 | refine below_set ?_ GE165.out) | exact HB.out)))); replace HO_11 := Aside0.mk (Kd.R_elder' (by (with_reducible repeat (first | apply Kd.R_alloc | apply Kd.R_drewN | apply Kd.R_drew)); exact HO_11.out) (Kd.R_base ho0) hb); replace BK165 := Aside0.mk (blk_below (g := gb165) (o := .cells #[.slice A0_0 l0_0.length c0_0, .slice A0_1 l0_1.length c0_1] 25 (0, 0)) (by (with_reducible repeat (first | refine blk_drewN ?_ _ | refine blk_drew ?_ | refine blk_alloc ?_ _)); exact BK165.out) hb); replace HB := Aside0.mk (below_step (by repeat (first | (with_reducible first | exact HB.out | apply below_alloc | apply pw_below_drewN | apply below_drew1 | refine below_set ?_ GE165.out) | exact HB.out)) hb); (try clear hb); (try clear ho0); obtain ⟨Ao46, co46, eo46⟩ := Kd.R_slice HO177.out; subst eo46; have p178 : 0 ≤ (a3 : Int) := of_decide_eq_true (by first | (with_reducible assumption) | assumption); have q178 : a3 < (t175.length : Int) := of_decide_eq_true (by first | (with_reducible assumption) | assumption); obtain ⟨ad178, e178, hx178_0⟩ := Kd.at_int (Kd.R_reads' HO177.out).2.2 a3 p178 q178; cases e178; replace p178 := eq_true p178; replace q178 := eq_true q178) | ((with_reducible refine gate_builtin (b := .append) (xs := #[.tmp 65, .tmp 67]) rfl ?_); (try (refine gate_guard (by rfl) ?_; dsimp only)); at_builtin; refine Kd.R_append (Kd.int .i64) (w0 := w) w.heap.size rfl (.tmp 65) (.tmp 67) 26 3 (.int .i64 0) 8 rfl Try.underlying26 info3 rfl (by decide) (by omega) u11 x11_2 x12_2 [.int .i64 x12_2] (fun k_ => some k_ ≠ (.slice (some ad178) t175.length co46 : Value).ownBlock) (fun _ => False) rfl rfl ?aP (fun _ hk => hk.elim) ?aF ?aO ?aB ?aS ?aL ?_; (case aP => exact rfl); (case aB => exact (by repeat (first | (with_reducible first | exact HB.out | apply below_alloc | apply pw_below_drewN | apply below_drew1 | refine below_set ?_ GE165.out) | exact HB.out))); (case aF => exact (fun k_ hk => Kd.fresh' (Kd.R_lt (by (with_reducible repeat (first | apply Kd.R_alloc | apply Kd.R_drewN | apply Kd.R_drew)); exact HO177.out)) k_ hk)); (case aO => exact (by (with_reducible repeat (first | apply Kd.R_alloc | apply Kd.R_drewN | apply Kd.R_drew)); exact Kd.R_mono HO_11.out (fun _ hk => hk.2))); (case aS => exact (below_size (by repeat (first | (with_reducible first | exact HB.out | apply below_alloc | apply pw_below_drewN | apply below_drew1 | refine below_set ?_ GE165.out) | exact HB.out)))); (case aL => have := LMc40.out; omega); intro v180 w47 ho hb hg hat; rw [← Ny179.out] at ho; replace HO_10 := Aside0.mk (Kd.R_over' (by (with_reducible repeat (first | apply Kd.R_alloc | apply Kd.R_drewN | apply Kd.R_drew)); exact HO_10.out) (Kd.R_typed (by (with_reducible repeat (first | apply Kd.R_alloc | apply Kd.R_drewN | apply Kd.R_drew)); exact HO_11.out)) (by decide) hg); replace BK165 := Aside0.mk (blk_grown (g := gb165) (o := .cells #[.slice A0_0 l0_0.length c0_0, .slice A0_1 l0_1.length c0_1] 25 (0, 0)) (by (with_reducible repeat (first | refine blk_drewN ?_ _ | refine blk_drew ?_ | refine blk_alloc ?_ _)); exact BK165.out) hg (Kd.R_ne HO_11.out BK165.out (by decide))); replace HO177 := Aside0.mk (Kd.R_after (ok := (fun _ => True)) (by (with_reducible repeat (first | apply Kd.R_alloc | apply Kd.R_drewN | apply Kd.R_drew)); exact HO177.out) hg hat); replace HB := Aside0.mk (hb); have HO181 := Aside0.mk (ho); clear HO_11; clear ho hb hg hat; have p41 : 0 ≤ (x12_2 : Int) := of_decide_eq_true (by first | (with_reducible assumption) | assumption); have q41 : (x12_2 : Int) < ((x10_2.length : Int) : Int) := of_decide_eq_true (by first | (with_reducible assumption) | assumption); obtain ⟨hx41_0, hf41_0⟩ := Kd.R_celln false HO_10.out (x12_2 : Int) p41 q41; replace p41 := eq_true p41; replace q41 := eq_true q41; obtain ⟨hy48_, hz48_⟩ := Kd.R_celln false HO_10.out (x12_2 : Int) (of_decide_eq_true (by first | (with_reducible assumption) | assumption)) (of_decide_eq_true (by first | (with_reducible assumption) | assumption)); have HP48 := Kd.R_putg HO_10.out (x12_2 : Int) false) | ((with_reducible refine gate_store (t := 4) (p := 71) rfl ?_); refine store_event (t := 4) (p := 71) (v := ?vo_w49) (w1 := (w47.setCell ⟨go35, (x12_2 : Int).toNat, none⟩ (.bool false))) ?hg ?ho ?hn ?hr ?_; (case ho => rfl); (case hg => rfl); (case hn => rfl); (case hr => first | (go_simp; done) | (go_simp; rfl)); intro w49 hw; have hg : w47.grownBy w49 (some go35) := (by rw [hw]; exact HP48.2); have hp_ : Kd.R Kd.bool 4 w49 w.heap.size (fun _ => True) (.slice (some ⟨go35, 0, none⟩) x10_2.length co28) y182 := (by rw [hw, Ny182.out]; exact HP48.1); clear HP48; replace BK165 := Aside0.mk (blk_grown (g := gb165) (o := .cells #[.slice A0_0 l0_0.length c0_0, .slice A0_1 l0_1.length c0_1] 25 (0, 0)) (by (with_reducible repeat (first | refine blk_drewN ?_ _ | refine blk_drew ?_ | refine blk_alloc ?_ _)); exact BK165.out) hg (Kd.R_ne HO_10.out BK165.out (by decide))); replace HO177 := Aside0.mk (Kd.R_over' (v := (.slice (some ⟨go35, 0, none⟩) x10_2.length co28)) (by (with_reducible repeat (first | apply Kd.R_alloc | apply Kd.R_drewN | apply Kd.R_drew)); exact HO177.out) (Kd.R_typed HO_10.out) (by decide) hg); replace HO181 := Aside0.mk (Kd.R_over' (v := (.slice (some ⟨go35, 0, none⟩) x10_2.length co28)) (by (with_reducible repeat (first | apply Kd.R_alloc | apply Kd.R_drewN | apply Kd.R_drew)); exact HO181.out) (Kd.R_typed HO_10.out) (by decide) hg); replace HO_10 := Aside0.mk (hp_); replace HB := Aside0.mk ((by rw [hw]; exact below_set (HB.out) GB35.out : Below w.heap.size w w49)); clear hg hw hp_))
     (try simp only [← hl10_2])
     go_roundg k2
     case measure => have := HJ4.out; have := HK2.out; omega
     case rel => exact ⟨(y182), (y179), (wrap64 (x12_2 + 1)), (by first | rfl | (simp; done) | (simp [*]; done)), H', ⟨by have := HJ4.out; have := HK2.out; omega⟩, ⟨by (try simp only [hl10_2]); (with_reducible repeat (first | apply Kd.R_alloc | apply Kd.R_drewN | apply Kd.R_drew)); exact HO_10.out⟩, ⟨by (try simp only [hl10_2]); (with_reducible repeat (first | apply Kd.R_alloc | apply Kd.R_drewN | apply Kd.R_drew)); exact Kd.R_mono HO181.out (fun _ hk => trivial)⟩, ⟨by (try simp only [hl10_2]); (with_reducible repeat (first | refine blk_drewN ?_ _ | refine blk_drew ?_ | refine blk_alloc ?_ _)); exact BK165.out⟩, ⟨by repeat (first | (with_reducible first | exact HB.out | apply below_alloc | apply pw_below_drewN | apply below_drew1 | refine below_set ?_ GE165.out) | exact HB.out)⟩⟩
/-! ### stillageref01_Ints: function 14 -/
def stillageref01_Ints.l0 : Nat → List Int → List Int → Int → Int → Option (Bool)
 | 0, _, _, _, _ => none
 | k + 1, x0, x1, x12, x13 => if x13 < x12 then (if 0 ≤ x13 then (if x13 < (x0.length : Int) then (if x13 < (x1.length : Int) then (if (rd x0 x13) = (rd x1 x13) then (stillageref01_Ints.l0 k x0 x1 x12 (wrap64 (x13 + 1))) else (some false)) else (none)) else (none)) else (none)) else (some true)
def stillageref01_Ints.f (k : Nat) (l0 : List Int) (l1 : List Int) : Option (Bool) := if (l0.length : Int) = (l1.length : Int) then (stillageref01_Ints.l0 k l0 l1 (l0.length : Int) 0) else (some false)
theorem stillageref01_Ints.mono_l : ∀ k, (∀ y0 y1 y2 y3, LeO (stillageref01_Ints.l0 k y0 y1 y2 y3) (stillageref01_Ints.l0 (k + 1) y0 y1 y2 y3))
 | 0 => fun _ _ _ _ r h => by simp [stillageref01_Ints.l0] at h
 | k + 1 => by
  have ih0 := stillageref01_Ints.mono_l k
  ·intro y0 y1 y2 y3
   unfold stillageref01_Ints.l0
   repeat' first
   | (with_reducible exact ih0 _ _ _ _)
   | (with_reducible exact LeO.refl _)
   | (with_reducible exact LeO.none _)
   | (with_reducible refine LeO.ite ?_ ?_)
   | (with_reducible refine LeO.bind ?_ (fun _ => ?_))
   | exact ih0 _ _ _ _
   | exact LeO.none _
   | refine LeO.ite ?_ ?_
   | refine LeO.bind ?_ (fun _ => ?_)
theorem stillageref01_Ints.mono : ∀ a0 a1 k, LeO (stillageref01_Ints.f k a0 a1) (stillageref01_Ints.f (k + 1) a0 a1) := by
 intro a0 a1 k
 have ih0 := stillageref01_Ints.mono_l k
 unfold stillageref01_Ints.f
 repeat' first
   | (with_reducible exact ih0 _ _ _ _)
   | (with_reducible exact LeO.refl _)
   | (with_reducible exact LeO.none _)
   | (with_reducible refine LeO.ite ?_ ?_)
   | (with_reducible refine LeO.bind ?_ (fun _ => ?_))
   | exact ih0 _ _ _ _
   | exact LeO.none _
   | refine LeO.ite ?_ ?_
   | refine LeO.bind ?_ (fun _ => ?_)
set_option maxHeartbeats 8000000 in
set_option maxRecDepth 100000 in
theorem stillageref01_Ints.calls (k : Nat) (A0 : Option Addr) (c0 : Nat) (l0 : List Int) (A1 : Option Addr) (c1 : Nat) (l1 : List Int) (r : Bool) (w : World) (hr0 : Kd.C (Kd.int .i64) w A0 l0.length l0) (hc0 : l0.length ≤ c0) (hr1 : Kd.C (Kd.int .i64) w A1 l1.length l1) (hc1 : l1.length ≤ c1) (h : stillageref01_Ints.f k l0 l1 = some r) :
  Calls Try.prog 14 #[.slice A0 l0.length c0, .slice A1 l1.length c1] w fun e w' => e = .returned (.bool r) ∧ Drawn0 w w' := by
 have HR0 := Aside0.mk hr0
 have HC0 := Aside0.mk hc0
 clear hr0 hc0
 have HR1 := Aside0.mk hr1
 have HC1 := Aside0.mk hc1
 clear hr1 hc1
 have H : (if (l0.length : Int) = (l1.length : Int) then (stillageref01_Ints.l0 k l0 l1 (l0.length : Int) 0) else (some false)) = some r := h
 clear h
 by_cases c3 : (l0.length : Int) = (l1.length : Int)
 rotate_left
 ·rw [if_neg c3] at H
  have c3b0 : ((l0.length : Int) == (l1.length : Int)) = false := beq_eq_false_iff_ne.mpr c3
  have c3b1 : ((l0.length : Int) != (l1.length : Int)) = true := bne_iff_ne.mpr c3
  have c3b2 : (l0.length == l1.length) = false := by first | simpa using c3 | (simp at c3 ⊢; omega)
  obtain rfl := Option.some.inj H
  go_enter Try.func14, Try.ntmps14
  go_wp2
  repeat (go_quiet (fail); try go_wp2)
  go_ret
  exact ⟨by first | rfl | (simp; done) | (simp [*]; done), by repeat (first | exact Drawn0.refl _ | apply Drawn0.step)⟩

 rw [if_pos c3] at H
 have c3b0 : ((l0.length : Int) == (l1.length : Int)) = true := beq_iff_eq.mpr c3
 have c3b1 : ((l0.length : Int) != (l1.length : Int)) = false := bne_eq_false_iff_eq.mpr c3
 have c3b2 : (l0.length == l1.length) = true := by first | simpa using c3 | (simp at c3 ⊢; omega)
 clear c3
 have H' := Aside0.mk H; clear H
 go_enter Try.func14, Try.ntmps14
 go_wp2
 repeat (go_quiet (fail); try go_wp2)
 go_loopg [13] k (fun kq v13 w' => ∃ (x13_1 : Int), v13 = .int .i64 x13_1 ∧ Aside0 (stillageref01_Ints.l0 kq l0 l1 (l0.length : Int) x13_1 = some r) ∧ Aside0 (kq ≤ k) ∧ Drawn0 w w')
 case atStart => exact ⟨(0), (by first | rfl | (simp; done) | (simp [*]; done)), H', ⟨Nat.le_refl _⟩, by repeat (first | exact Drawn0.refl _ | apply Drawn0.step)⟩
 case round =>
  clear H'
  obtain ⟨x13_1, rfl, HA, HK1, ⟨m1, rfl⟩⟩ := hrel
  cases gk with
  | zero => exact absurd HA.out (by simp [stillageref01_Ints.l0])
  | succ k1 =>
   have H := HA.out
   clear HA
   simp only [stillageref01_Ints.l0] at H
   by_cases c4 : x13_1 < (l0.length : Int)
   rotate_left
   ·rw [if_neg c4] at H
    have c4b0 : decide (x13_1 < (l0.length : Int)) = false := decide_eq_false c4
    clear c4
    obtain rfl := Option.some.inj H
    go_wp2
    repeat (go_quiet (fail); try go_wp2)
    go_ret
    exact ⟨by first | rfl | (simp; done) | (simp [*]; done), by repeat (first | exact Drawn0.refl _ | apply Drawn0.step)⟩
   rw [if_pos c4] at H
   have c4b0 : decide (x13_1 < (l0.length : Int)) = true := decide_eq_true c4
   clear c4
   by_cases c5 : 0 ≤ x13_1
   rotate_left; ·rw [if_neg c5] at H; exact absurd H (by simp)
   rw [if_pos c5] at H
   have c5b0 : decide (0 ≤ x13_1) = true := decide_eq_true c5
   clear c5
   by_cases c6 : x13_1 < (l0.length : Int)
   rotate_left; ·rw [if_neg c6] at H; exact absurd H (by simp)
   rw [if_pos c6] at H
   have c6b0 : decide (x13_1 < (l0.length : Int)) = true := decide_eq_true c6
   clear c6
   by_cases c7 : x13_1 < (l1.length : Int)
   rotate_left; ·rw [if_neg c7] at H; exact absurd H (by simp)
   rw [if_pos c7] at H
   have c7b0 : decide (x13_1 < (l1.length : Int)) = true := decide_eq_true c7
   clear c7
   by_cases c8 : (rd l0 x13_1) = (rd l1 x13_1)
   rotate_left
   ·rw [if_neg c8] at H
    have c8b0 : ((rd l0 x13_1) == (rd l1 x13_1)) = false := beq_eq_false_iff_ne.mpr c8
    have c8b1 : ((rd l0 x13_1) != (rd l1 x13_1)) = true := bne_iff_ne.mpr c8
    obtain rfl := Option.some.inj H
    have p184 : 0 ≤ (x13_1 : Int) := of_decide_eq_true (by first | (with_reducible assumption) | assumption)
    have q184 : x13_1 < (l0.length : Int) := of_decide_eq_true (by first | (with_reducible assumption) | assumption)
    obtain ⟨ad184, e184, hx184_0⟩ := Kd.at_int HR0.out x13_1 p184 q184
    cases e184
    replace p184 := eq_true p184
    replace q184 := eq_true q184
    have p185 : 0 ≤ (x13_1 : Int) := of_decide_eq_true (by first | (with_reducible assumption) | assumption)
    have q185 : x13_1 < (l1.length : Int) := of_decide_eq_true (by first | (with_reducible assumption) | assumption)
    obtain ⟨ad185, e185, hx185_0⟩ := Kd.at_int HR1.out x13_1 p185 q185
    cases e185
    replace p185 := eq_true p185
    replace q185 := eq_true q185
    go_wp2
    repeat (go_quiet (fail); try go_wp2)
    go_ret
    exact ⟨by first | rfl | (simp; done) | (simp [*]; done), by repeat (first | exact Drawn0.refl _ | apply Drawn0.step)⟩
   rw [if_pos c8] at H
   have c8b0 : ((rd l0 x13_1) == (rd l1 x13_1)) = true := beq_iff_eq.mpr c8
   have c8b1 : ((rd l0 x13_1) != (rd l1 x13_1)) = false := bne_eq_false_iff_eq.mpr c8
   clear c8
   have H' := Aside0.mk H; clear H
   have p184 : 0 ≤ (x13_1 : Int) := of_decide_eq_true (by first | (with_reducible assumption) | assumption)
   have q184 : x13_1 < (l0.length : Int) := of_decide_eq_true (by first | (with_reducible assumption) | assumption)
   obtain ⟨ad184, e184, hx184_0⟩ := Kd.at_int HR0.out x13_1 p184 q184
   cases e184
   replace p184 := eq_true p184
   replace q184 := eq_true q184
   have p185 : 0 ≤ (x13_1 : Int) := of_decide_eq_true (by first | (with_reducible assumption) | assumption)
   have q185 : x13_1 < (l1.length : Int) := of_decide_eq_true (by first | (with_reducible assumption) | assumption)
   obtain ⟨ad185, e185, hx185_0⟩ := Kd.at_int HR1.out x13_1 p185 q185
   cases e185
   replace p185 := eq_true p185
   replace q185 := eq_true q185
   go_wp2
   repeat (go_quiet (fail); try go_wp2)
   go_roundg k1
   case measure => have := HK1.out; omega
   case rel => exact ⟨(wrap64 (x13_1 + 1)), (by first | rfl | (simp; done) | (simp [*]; done)), H', ⟨by have := HK1.out; omega⟩, by repeat (first | exact Drawn0.refl _ | apply Drawn0.step)⟩
/-! ### reach_From: function 16 -/
def reach_From.j0 : Nat → List Int → Int → Bool → List (S43) → List (S27) → Option (List Int × Int)
 | 0, _, _, _, _, _ => none
 | k + 1, x1, x2, x16, x187000, x187001 => if x16 = true then (some (([] : List Int), 1)) else ((reach_shut.f k x187000 x187001 x1).bind fun t187 => ((reach_lengths_0.f k x187000 x187001 t187 x2 0).bind fun t190 => (some (t190, 0))))
def reach_From.f (k : Nat) (l0_0 : List (S43)) (l0_1 : List (S27)) (l1 : List Int) (a2 : Int) : Option (List Int × Int) := if a2 < 0 then (reach_From.j0 k l1 a2 true l0_0 l0_1) else (reach_From.j0 k l1 a2 (decide (a2 ≥ (l0_0.length : Int))) l0_0 l0_1)
theorem reach_From.mono_l : ∀ k, (∀ y0 y1 y2 y3 y4, LeO (reach_From.j0 k y0 y1 y2 y3 y4) (reach_From.j0 (k + 1) y0 y1 y2 y3 y4))
 | 0 => fun _ _ _ _ _ r h => by simp [reach_From.j0] at h
 | k + 1 => by
  have ih0 := reach_From.mono_l k
  ·intro y0 y1 y2 y3 y4
   unfold reach_From.j0
   repeat' first
   | (with_reducible exact ih0 _ _ _ _ _)
   | (with_reducible exact reach_lengths_0.mono _ _ _ _ _ _)
   | (with_reducible exact reach_shut.mono _ _ _ _)
   | (with_reducible exact LeO.refl _)
   | (with_reducible exact LeO.none _)
   | (with_reducible refine LeO.ite ?_ ?_)
   | (with_reducible refine LeO.bind ?_ (fun _ => ?_))
   | exact ih0 _ _ _ _ _
   | exact reach_lengths_0.mono _ _ _ _ _ _
   | exact reach_shut.mono _ _ _ _
   | exact LeO.none _
   | refine LeO.ite ?_ ?_
   | refine LeO.bind ?_ (fun _ => ?_)
theorem reach_From.mono : ∀ a0 a1 a2 a3 k, LeO (reach_From.f k a0 a1 a2 a3) (reach_From.f (k + 1) a0 a1 a2 a3) := by
 intro a0 a1 a2 a3 k
 have ih0 := reach_From.mono_l k
 unfold reach_From.f
 repeat' first
   | (with_reducible exact ih0 _ _ _ _ _)
   | (with_reducible exact reach_lengths_0.mono _ _ _ _ _ _)
   | (with_reducible exact reach_shut.mono _ _ _ _)
   | (with_reducible exact LeO.refl _)
   | (with_reducible exact LeO.none _)
   | (with_reducible refine LeO.ite ?_ ?_)
   | (with_reducible refine LeO.bind ?_ (fun _ => ?_))
   | exact ih0 _ _ _ _ _
   | exact reach_lengths_0.mono _ _ _ _ _ _
   | exact reach_shut.mono _ _ _ _
   | exact LeO.none _
   | refine LeO.ite ?_ ?_
   | refine LeO.bind ?_ (fun _ => ?_)
def reach_From.T3 : Bool × List (List Nat × List Nat) := (true, [([], []), ([], []), ([], []), ([1, 2], [1, 2]), ([], []), ([0, 3, 4, 3], [0, 3, 4]), ([5, 5, 0, 1, 2, 3, 4, 5], [5]), ([6, 0, 1, 2, 3, 4, 5, 6], [])])
def reach_From.B3 : List Nat := [0, 0, 0, 6, 0, 31, 63, 127]
theorem reach_From.tab3 : rtab .any (opsOf Try.f16 3) = reach_From.T3 := by kernel_rfl
theorem reach_From.bits3 : waitsOk reach_From.T3.2 reach_From.B3 = true := by kernel_rfl
set_option maxHeartbeats 8000000 in
set_option maxRecDepth 100000 in
theorem reach_From.calls (k : Nat) (A0_0 : Option Addr) (c0_0 : Nat) (l0_0 : List (S43)) (A0_1 : Option Addr) (c0_1 : Nat) (l0_1 : List (S27)) (A1 : Option Addr) (c1 : Nat) (l1 : List Int) (a2 : Int) (r1 : List Int) (r2 : Int) (w : World) (hr0_0 : Kd.C k43 w A0_0 l0_0.length l0_0) (hc0_0 : l0_0.length ≤ c0_0) (hr0_1 : Kd.C k27 w A0_1 l0_1.length l0_1) (hc0_1 : l0_1.length ≤ c0_1) (hr1 : Kd.C (Kd.int .i64) w A1 l1.length l1) (hc1 : l1.length ≤ c1) (h : reach_From.f k l0_0 l0_1 l1 a2 = some (r1, r2)) :
  Calls Try.prog 16 #[.agg #[.slice A0_0 l0_0.length c0_0, .slice A0_1 l0_1.length c0_1], .slice A1 l1.length c1, .int .i64 a2] w fun e w' => ∃ v0_ : Value, e = .returned (.tuple #[v0_, .int .i64 r2]) ∧ Kd.R (Kd.int .i64) 3 w' w.heap.size (fun _ => True) v0_ r1 ∧ Below w.heap.size w w' := by
 have hu25 := Try.underlying25
 have HR0_0 := Aside0.mk hr0_0
 have HC0_0 := Aside0.mk hc0_0
 clear hr0_0 hc0_0
 have HR0_1 := Aside0.mk hr0_1
 have HC0_1 := Aside0.mk hc0_1
 clear hr0_1 hc0_1
 have HR1 := Aside0.mk hr1
 have HC1 := Aside0.mk hc1
 clear hr1 hc1
 have HB := Aside0.mk (Below.refl w.heap.size w)
 have H : (if a2 < 0 then (reach_From.j0 k l1 a2 true l0_0 l0_1) else (reach_From.j0 k l1 a2 (decide (a2 ≥ (l0_0.length : Int))) l0_0 l0_1)) = some (r1, r2) := h
 clear h
 have HC4 := Aside0.mk H
 clear H
 go_enter Try.func16, Try.ntmps16
 go_upto_region 1 with (first | ((with_reducible refine gate_dst (N := 3) rfl ?_); (try (refine gate_guard (by rfl) ?_; dsimp only)); refine box_event ?hg (N := 3) ?hd (cs := #[.slice A0_0 l0_0.length c0_0, .slice A0_1 l0_1.length c0_1]) (t := 25) ?hr ?_; (case hd => rfl); (case hg => rfl); (case hr => first | (go_simp; done) | (go_simp; rfl)); intro gb186 hg w5 hbox hb; have BK186 := Aside0.mk (hbox); have GW186 := Aside0.mk ((by rw [hg]; exact (below_size (by repeat (first | (with_reducible first | exact HB.out | apply below_alloc | apply pw_below_drewN | apply below_drew1) | exact HB.out))) : w.heap.size ≤ gb186)); have GE186 := Aside0.mk ((by rw [hg]; exact (below_size (by repeat (first | (with_reducible first | exact HB.out | apply below_alloc | apply pw_below_drewN | apply below_drew1) | exact HB.out))) : w.heap.size ≤ gb186)); replace HB := Aside0.mk (below_step (by repeat (first | (with_reducible first | exact HB.out | apply below_alloc | apply pw_below_drewN | apply below_drew1) | exact HB.out)) hb); clear hb hbox hg))
 (try simp only [Act.put, List.setIfInBounds_toArray, List.set_cons_zero, List.set_cons_succ])
 go_cut [16] (fun v16 wc => ∃ (kq : Nat) (x16_3 : Bool), v16 = .bool x16_3 ∧ Aside0 (reach_From.j0 kq l1 a2 x16_3 l0_0 l0_1 = some (r1, r2)) ∧ Aside0 (kq ≤ k) ∧ Aside0 (wc.heap[gb186]? = some (.cells #[(.slice A0_0 l0_0.length c0_0), (.slice A0_1 l0_1.length c0_1)] 25 (0, 0))) ∧ Aside0 (Below w.heap.size w wc))
 case first =>
  have H := HC4.out
  clear HC4
  by_cases c6 : a2 < 0
  ·rw [if_pos c6] at H
   have c6b0 : decide (a2 < 0) = true := decide_eq_true c6
   clear c6
   (first | rw [c6b0] | (simp only [i64_w, i32_w]; rw [c6b0]) | skip)
   have H' := Aside0.mk H; clear H
   go_wp2
   go_meet
   case rel => exact ⟨_, (true), (by first | rfl | (simp; done) | (simp [*]; done)), H', ⟨by first | omega | exact Nat.le_refl _⟩, ⟨by (with_reducible repeat (first | refine blk_drewN ?_ _ | refine blk_drew ?_ | refine blk_alloc ?_ _)); exact BK186.out⟩, ⟨by repeat (first | (with_reducible first | exact HB.out | apply below_alloc | apply pw_below_drewN | apply below_drew1 | refine below_set ?_ GE186.out) | exact HB.out)⟩⟩
  rw [if_neg c6] at H
  have c6b0 : decide (a2 < 0) = false := decide_eq_false c6
  clear c6
  (first | rw [c6b0] | (simp only [i64_w, i32_w]; rw [c6b0]) | skip)
  have H' := Aside0.mk H; clear H
  have hcz7_0 : w5.cell? ⟨gb186, 0, none⟩ = some (.slice A0_0 l0_0.length c0_0) := (blk_cell BK186.out 0).trans rfl
  have hcz7_1 : w5.cell? ⟨gb186, 1, none⟩ = some (.slice A0_1 l0_1.length c0_1) := (blk_cell BK186.out 1).trans rfl
  have hfz7_0 := blk_frozen BK186.out 0
  have hfz7_1 := blk_frozen BK186.out 1
  go_wp2
  go_meet
  case rel => exact ⟨_, (decide (a2 ≥ (l0_0.length : Int))), (by first | rfl | (simp; done) | (simp [*]; done)), H', ⟨by first | omega | exact Nat.le_refl _⟩, ⟨by (with_reducible repeat (first | refine blk_drewN ?_ _ | refine blk_drew ?_ | refine blk_alloc ?_ _)); exact BK186.out⟩, ⟨by repeat (first | (with_reducible first | exact HB.out | apply below_alloc | apply pw_below_drewN | apply below_drew1 | refine below_set ?_ GE186.out) | exact HB.out)⟩⟩
 case rest =>
  clear HC4
  obtain ⟨kq, x16_3, rfl, HA, HJ3, BK186, HB⟩ := hcut
  cases kq with
  | zero => exact absurd HA.out (by simp [reach_From.j0])
  | succ kj3 =>
   have H := HA.out
   clear HA
   simp only [reach_From.j0] at H
   by_cases c8 : x16_3 = true
   ·subst c8
    have H1 : (some (([] : List Int), 1)) = some (r1, r2) := by rw [if_pos rfl] at H; exact H
    clear H; have H := H1; clear H1
    simp only [Option.some.injEq, Prod.mk.injEq] at H
    obtain ⟨rfl, rfl⟩ := H
    go_wp2
    go_ret2
    exact ⟨_, by first | rfl | (simp [errW_none, errW_some] <;> rfl) | (simp [*, errW_none, errW_some] <;> rfl), by first | exact Kd.R_nil _ _ _ _ _ | exact Kd.N_nil _ _ _ _ _ | exact Kd.V_nil _ _ _ _ _ | exact Kd.Q_nil _ _ _ _ _ | exact Kd.S_nil _ _ _ _ _, by repeat (first | (with_reducible first | exact HB.out | apply below_alloc | apply pw_below_drewN | apply below_drew1 | refine below_set ?_ GE186.out) | exact HB.out)⟩
   replace c8 := Bool.eq_false_iff.mpr c8
   subst c8
   have H1 : ((reach_shut.f kj3 l0_0 l0_1 l1).bind fun t187 => ((reach_lengths_0.f kj3 l0_0 l0_1 t187 a2 0).bind fun t190 => (some (t190, 0)))) = some (r1, r2) := by rw [if_neg (show ¬ (false = true) by decide)] at H; exact H
   clear H; have H := H1; clear H1
   replace H := Option.bind_eq_some_iff.mp H; obtain ⟨t187, A90, H⟩ := H
   replace H : ((reach_lengths_0.f kj3 l0_0 l0_1 t187 a2 0).bind fun t190 => (some (t190, 0))) = some (r1, r2) := H
   have A9 := Aside0.mk A90
   clear A90
   replace H := Option.bind_eq_some_iff.mp H; obtain ⟨t190, A100, H⟩ := H
   replace H : (some (t190, 0)) = some (r1, r2) := H
   have A10 := Aside0.mk A100
   clear A100
   simp only [Option.some.injEq, Prod.mk.injEq] at H
   obtain ⟨rfl, rfl⟩ := H
   try go_wp2
   have n0_ := Aside0.mk (blk_drew BK186.out)
   have n1_ := Aside0.mk (below_drew1 HB.out)
   clear BK186
   clear HB
   have BK186 := n0_
   have HB := n1_
   clear n0_ n1_
   refine start_ (n := 8) (S := fun w' => w'.cell? ⟨gb186, 0, none⟩ = some (.slice A0_0 l0_0.length c0_0) ∧ w'.cell? ⟨gb186, 1, none⟩ = some (.slice A0_1 l0_1.length c0_1)) (ds := []) #[false, false, false, false, false, false, false, false] (by kernel_rfl) rfl rfl ⟨(blk_cell BK186.out 0).trans rfl, (blk_cell BK186.out 1).trans rfl⟩ (fun hHeld => ?_); refine with_tabW reach_From.tab3 reach_From.bits3 (fun HT_ HW_ => ?_)
   generalize wc.drew = w11 at BK186 HB hHeld ⊢
   refine pure_ (i := 2) (N := some 19) (v := ?_) (a' := ?_) #[false, false, true, false, false, false, false, false] rfl rfl (any_of HT_.out (by kernel_rfl)) (fun _ _ _ h => h) (Or.inl ⟨by rfl, ?_⟩) ?_ ?_
   rotate_left; ·intro w'; go_simp; with_reducible rfl
   rotate_left; ·simp only [Act.put, List.setIfInBounds_toArray, List.set_cons_zero, List.set_cons_succ, i64_w, i32_w]; rfl
   refine pure_ (i := 4) (N := some 21) (v := ?_) (a' := ?_) #[false, false, true, false, true, false, false, false] rfl rfl (any_of HT_.out (by kernel_rfl)) (fun _ _ _ h => h) (Or.inl ⟨by rfl, ?_⟩) ?_ ?_
   rotate_left; ·intro w'; go_simp; with_reducible rfl
   rotate_left; ·simp only [Act.put, List.setIfInBounds_toArray, List.set_cons_zero, List.set_cons_succ, i64_w, i32_w]; rfl
   refine take_ (i := 0) (N := some 17) (v := ?_) (a' := ?_) #[true, false, true, false, true, false, false, false] rfl rfl (take_ofW HT_.out HW_.out (by kernel_rfl)) (fun _ _ _ h => h) (Or.inl ⟨by rfl, ?_⟩) hHeld ?_ ?_
   rotate_left
   ·rintro w' ⟨s0, s1⟩
    go_simp
    with_reducible rfl
   rotate_left; ·simp only [Act.put, List.setIfInBounds_toArray, List.set_cons_zero, List.set_cons_succ, i64_w, i32_w]; rfl
   refine take_ (i := 1) (N := some 18) (v := ?_) (a' := ?_) #[true, true, true, false, true, false, false, false] rfl rfl (take_ofW HT_.out HW_.out (by kernel_rfl)) (fun _ _ _ h => h) (Or.inl ⟨by rfl, ?_⟩) hHeld ?_ ?_
   rotate_left
   ·rintro w' ⟨s0, s1⟩
    go_simp
    with_reducible rfl
   rotate_left; ·simp only [Act.put, List.setIfInBounds_toArray, List.set_cons_zero, List.set_cons_succ, i64_w, i32_w]; rfl
   refine one_ (i := 3) (N := some 20) #[true, true, true, true, true, false, false, false] rfl rfl (one_of HT_.out (by kernel_rfl)) (by decide) (fun K hK => ?_)
   refine goes_ Try.func26 (by kernel_rfl) rfl #[.agg #[.slice A0_0 l0_0.length c0_0, .slice A0_1 l0_1.length c0_1], .slice A1 l1.length c1] (by rfl) rfl rfl (by (try simp only [List.map_toArray, List.map_cons, List.map_nil]); first | done | rfl | (simp only [List.length_drop, List.length_take]; rfl)) ?_
   with_reducible refine (reach_shut.calls kj3 _ _ l0_0 _ _ l0_1 _ _ l1 t187 _ ?side1 ?side2 ?side3 ?side4 ?side5 ?side6 A9.out).mono ?_
   (case side1 => repeat (first | exact (Kd.C_below HR0_0.out HB.out) | (with_reducible refine Kd.C_alloc ?_ _) | (with_reducible refine Kd.C_drewN ?_ _) | (with_reducible refine Kd.C_drew ?_)))
   (case side2 => exact HC0_0.out)
   (case side3 => repeat (first | exact (Kd.C_below HR0_1.out HB.out) | (with_reducible refine Kd.C_alloc ?_ _) | (with_reducible refine Kd.C_drewN ?_ _) | (with_reducible refine Kd.C_drew ?_)))
   (case side4 => exact HC0_1.out)
   (case side5 => repeat (first | exact (Kd.C_below HR1.out HB.out) | (with_reducible refine Kd.C_alloc ?_ _) | (with_reducible refine Kd.C_drewN ?_ _) | (with_reducible refine Kd.C_drew ?_)))
   (case side6 => exact HC1.out)
   rintro e w12 ⟨v188, rfl, ho0, hb⟩
   refine ⟨_, rfl, ?_⟩
   have n0_ := Aside0.mk (Kd.R_lower ho0 (below_size (by repeat (first | (with_reducible first | exact HB.out | apply below_alloc | apply pw_below_drewN | apply below_drew1 | refine below_set ?_ GE186.out) | exact HB.out))))
   have n1_ := Aside0.mk (blk_below (g := gb186) (o := .cells #[.slice A0_0 l0_0.length c0_0, .slice A0_1 l0_1.length c0_1] 25 (0, 0)) (by (with_reducible repeat (first | refine blk_drewN ?_ _ | refine blk_drew ?_ | refine blk_alloc ?_ _)); exact BK186.out) hb)
   have n2_ := Aside0.mk (below_step (by repeat (first | (with_reducible first | exact HB.out | apply below_alloc | apply pw_below_drewN | apply below_drew1 | refine below_set ?_ GE186.out) | exact HB.out)) hb)
   clear BK186
   clear HB
   have HO189 := n0_
   have BK186 := n1_
   have HB := n2_
   clear n0_ n1_ n2_
   obtain ⟨Ao13, co13, eo13⟩ := Kd.R_slice HO189.out
   (first | subst eo13 | (injection eo13 with f1_ f2_ f3_; have f4_ := f1_.symm; have f5_ := f3_.symm; clear f1_ f2_ f3_; subst f4_; subst f5_))
   refine hK.out _ _ ⟨(blk_cell BK186.out 0).trans rfl, (blk_cell BK186.out 1).trans rfl⟩ (fun hHeld => ?_)
   clear hK K
   refine norm_ (a' := ?_) ?_ ?_
   rotate_left
   ·show Act.put _ (some 20) _ = _
    simp only [Act.put, List.setIfInBounds_toArray, List.set_cons_zero, List.set_cons_succ, i64_w, i32_w]
    rfl
   refine one_ (i := 5) (N := some 22) #[true, true, true, true, true, true, false, false] rfl rfl (one_of HT_.out (by kernel_rfl)) (by decide) (fun K hK => ?_)
   refine goes_ Try.func27 (by kernel_rfl) rfl #[.agg #[.slice A0_0 l0_0.length c0_0, .slice A0_1 l0_1.length c0_1], .slice Ao13 t187.length co13, .int .i64 a2, .int .i64 0] (by rfl) rfl rfl (by (try simp only [List.map_toArray, List.map_cons, List.map_nil]); first | done | rfl | (simp only [List.length_drop, List.length_take]; rfl)) ?_
   with_reducible refine (reach_lengths_0.calls kj3 _ _ l0_0 _ _ l0_1 _ _ t187 a2 0 t190 _ ?side1 ?side2 ?side3 ?side4 ?side5 ?side6 A10.out).mono ?_
   (case side1 => repeat (first | exact (Kd.C_below HR0_0.out HB.out) | (with_reducible refine Kd.C_alloc ?_ _) | (with_reducible refine Kd.C_drewN ?_ _) | (with_reducible refine Kd.C_drew ?_)))
   (case side2 => exact HC0_0.out)
   (case side3 => repeat (first | exact (Kd.C_below HR0_1.out HB.out) | (with_reducible refine Kd.C_alloc ?_ _) | (with_reducible refine Kd.C_drewN ?_ _) | (with_reducible refine Kd.C_drew ?_)))
   (case side4 => exact HC0_1.out)
   (case side5 => repeat (first | exact (Kd.R_reads' HO189.out).2.2 | (with_reducible refine Kd.C_alloc ?_ _) | (with_reducible refine Kd.C_drewN ?_ _) | (with_reducible refine Kd.C_drew ?_)))
   (case side6 => exact (Kd.R_reads' HO189.out).2.1)
   rintro e w14 ⟨v191, rfl, ho0, hb⟩
   refine ⟨_, rfl, ?_⟩
   have n0_ := Aside0.mk (Kd.R_below (by (with_reducible repeat (first | apply Kd.R_alloc | apply Kd.R_drewN | apply Kd.R_drew)); exact HO189.out) hb)
   have n1_ := Aside0.mk (Kd.R_lower ho0 (below_size (by repeat (first | (with_reducible first | exact HB.out | apply below_alloc | apply pw_below_drewN | apply below_drew1 | refine below_set ?_ GE186.out) | exact HB.out))))
   have n2_ := Aside0.mk (blk_below (g := gb186) (o := .cells #[.slice A0_0 l0_0.length c0_0, .slice A0_1 l0_1.length c0_1] 25 (0, 0)) (by (with_reducible repeat (first | refine blk_drewN ?_ _ | refine blk_drew ?_ | refine blk_alloc ?_ _)); exact BK186.out) hb)
   have n3_ := Aside0.mk (below_step (by repeat (first | (with_reducible first | exact HB.out | apply below_alloc | apply pw_below_drewN | apply below_drew1 | refine below_set ?_ GE186.out) | exact HB.out)) hb)
   clear HO189
   clear BK186
   clear HB
   have HO189 := n0_
   have HO192 := n1_
   have BK186 := n2_
   have HB := n3_
   clear n0_ n1_ n2_ n3_
   refine hK.out _ _ ⟨(blk_cell BK186.out 0).trans rfl, (blk_cell BK186.out 1).trans rfl⟩ (fun hHeld => ?_)
   clear hK K
   refine norm_ (a' := ?_) ?_ ?_
   rotate_left
   ·show Act.put _ (some 22) _ = _
    simp only [Act.put, List.setIfInBounds_toArray, List.set_cons_zero, List.set_cons_succ, i64_w, i32_w]
    rfl
   refine pure_ (i := 6) (N := some 6) (v := ?_) (a' := ?_) #[true, true, true, true, true, true, true, false] rfl rfl (any_of HT_.out (by kernel_rfl)) (fun _ _ _ h => h) (Or.inl ⟨by rfl, ?_⟩) ?_ ?_
   rotate_left; ·intro w'; go_simp; with_reducible rfl
   rotate_left; ·simp only [Act.put, List.setIfInBounds_toArray, List.set_cons_zero, List.set_cons_succ, i64_w, i32_w]; rfl
   refine pure_ (i := 7) (N := some 7) (v := ?_) (a' := ?_) #[true, true, true, true, true, true, true, true] rfl rfl (any_of HT_.out (by kernel_rfl)) (fun _ _ _ h => h) (Or.inl ⟨by rfl, ?_⟩) ?_ ?_
   rotate_left; ·intro w'; go_simp; with_reducible rfl
   rotate_left; ·simp only [Act.put, List.setIfInBounds_toArray, List.set_cons_zero, List.set_cons_succ, i64_w, i32_w]; rfl
   refine done_ (done_of HT_.out (by kernel_rfl)) ?_
   try go_wp2
   go_ret2
   exact ⟨_, by first | rfl | (simp [errW_none, errW_some] <;> rfl) | (simp [*, errW_none, errW_some] <;> rfl), by (with_reducible repeat (first | apply Kd.R_alloc | apply Kd.R_drewN | apply Kd.R_drew)); exact HO192.out, by repeat (first | (with_reducible first | exact HB.out | apply below_alloc | apply pw_below_drewN | apply below_drew1 | refine below_set ?_ GE186.out) | exact HB.out)⟩

end Go.Proofs.Ytkfoicfbmhalbaa.PReachBoth
