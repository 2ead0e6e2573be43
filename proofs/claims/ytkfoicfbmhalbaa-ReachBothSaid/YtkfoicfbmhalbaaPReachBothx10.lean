-- Written by a program of this session (wip/oprint): after the pattern of the kit's print, which does not take this law. -- trimmed
import Derived.Test.YtkfoicfbmhalbaaPReachBothx9
namespace Go.Proofs.Ytkfoicfbmhalbaa.PReachBoth
open Go.RowKit Go.Proofs.YtkfoicfbmhalbaaW.PrintWords Go.Proofs.YtkfoicfbmhalbaaW.PrintLast Go.Proofs.YtkfoicfbmhalbaaW.PrintMore
attribute [local go_sem] max2_int min2_int max_two min_two max_three min_three max_four min_four   -- for this text's walks alone
set_option linter.unusedVariables false
set_option linter.unusedSimpArgs false

set_option maxHeartbeats 8000000 in
set_option maxRecDepth 100000 in
theorem stillagelaw07_ReachBoth.calls (k : Nat) (A0_0 : Option Addr) (c0_0 : Nat) (l0_0 : List (S43)) (A0_1 : Option Addr) (c0_1 : Nat) (l0_1 : List (S27)) (A1 : Option Addr) (c1 : Nat) (l1 : List Int) (r : Bool) (w : World) (hr0_0 : Kd.C k43 w A0_0 l0_0.length l0_0) (hc0_0 : l0_0.length ≤ c0_0) (hr0_1 : Kd.C k27 w A0_1 l0_1.length l0_1) (hc0_1 : l0_1.length ≤ c0_1) (hr1 : Kd.C (Kd.int .i64) w A1 l1.length l1) (hc1 : l1.length ≤ c1) (h : stillagelaw07_ReachBoth.f k l0_0 l0_1 l1 = some r) :
  Calls Try.prog 7 #[.agg #[.slice A0_0 l0_0.length c0_0, .slice A0_1 l0_1.length c0_1], .slice A1 l1.length c1] w fun e w' => e = .returned (.bool r) ∧ Below w.heap.size w w' := by
 have hu25 := Try.underlying25
 have hu27 := Try.underlying27
 have HR0_0 := Aside0.mk hr0_0
 have HC0_0 := Aside0.mk hc0_0
 clear hr0_0 hc0_0
 have HR0_1 := Aside0.mk hr0_1
 have HC0_1 := Aside0.mk hc0_1
 clear hr0_1 hc0_1
 have HR1 := Aside0.mk hr1
 have HC1 := Aside0.mk hc1
 clear hr1 hc1
 have HB := Aside0.mk (Below.refl w.heap.size w)
 have H : ((stillagelaw07_awake.f k).bind fun t255 => (if t255 = true then ((stillagelaw07_Fits.f k l0_0 l0_1 l1).bind fun t256 => (if t256 = true then (stillagelaw07_ReachBoth.j0 k l1 (decide ((l0_0.length : Int) > 25)) l0_0 l0_1) else (stillagelaw07_ReachBoth.j0 k l1 true l0_0 l0_1))) else (some false))) = some r := h
 clear h
 replace H := Option.bind_eq_some_iff.mp H; obtain ⟨t255, A30, H⟩ := H
 replace H : (if t255 = true then ((stillagelaw07_Fits.f k l0_0 l0_1 l1).bind fun t256 => (if t256 = true then (stillagelaw07_ReachBoth.j0 k l1 (decide ((l0_0.length : Int) > 25)) l0_0 l0_1) else (stillagelaw07_ReachBoth.j0 k l1 true l0_0 l0_1))) else (some false)) = some r := H
 have A3 := Aside0.mk A30
 clear A30
 by_cases c4 : t255 = true
 rotate_left
 ·replace c4 := Bool.eq_false_iff.mpr c4
  subst c4
  have H1 : (some false) = some r := by rw [if_neg (show ¬ (false = true) by decide)] at H; exact H
  clear H; have H := H1; clear H1
  obtain rfl := Option.some.inj H
  go_enter Try.func7, Try.ntmps7
  go_wp2_with (first | ((with_reducible refine gate_dst (N := 2) rfl ?_); (try (refine gate_guard (by rfl) ?_; dsimp only)); refine box_event ?hg (N := 2) ?hd (cs := #[.slice A0_0 l0_0.length c0_0, .slice A0_1 l0_1.length c0_1]) (t := 25) ?hr ?_; (case hd => rfl); (case hg => rfl); (case hr => first | (go_simp; done) | (go_simp; rfl)); intro gb254 hg w128 hbox hb; have BK254 := Aside0.mk (hbox); have GW254 := Aside0.mk ((by rw [hg]; exact (below_size (by repeat (first | (with_reducible first | exact HB.out | apply below_alloc | apply pw_below_drewN | apply below_drew1) | exact HB.out))) : w.heap.size ≤ gb254)); have GE254 := Aside0.mk ((by rw [hg]; exact (below_size (by repeat (first | (with_reducible first | exact HB.out | apply below_alloc | apply pw_below_drewN | apply below_drew1) | exact HB.out))) : w.heap.size ≤ gb254)); replace HB := Aside0.mk (below_step (by repeat (first | (with_reducible first | exact HB.out | apply below_alloc | apply pw_below_drewN | apply below_drew1) | exact HB.out)) hb); clear hb hbox hg) | ((with_reducible refine gate_callee (f := 10) rfl ?_); refine goesL_ (some 14) rfl rfl Try.func10 (by kernel_rfl) rfl #[] rfl (by (try simp only [List.map_toArray, List.map_cons, List.map_nil]); first | done | rfl | (simp only [List.length_drop, List.length_take]; rfl)) ?_; (with_reducible refine (stillagelaw07_awake.calls k  false _ A3.out).mono ?_); rintro e w129 ⟨rfl, hb⟩; refine ⟨_, rfl, ?_⟩; replace BK254 := Aside0.mk (blk_below (g := gb254) (o := .cells #[.slice A0_0 l0_0.length c0_0, .slice A0_1 l0_1.length c0_1] 25 (0, 0)) (by (with_reducible repeat (first | refine blk_drewN ?_ _ | refine blk_drew ?_ | refine blk_alloc ?_ _)); exact BK254.out) hb); replace HB := Aside0.mk (below_step (by repeat (first | (with_reducible first | exact HB.out | apply below_alloc | apply pw_below_drewN | apply below_drew1 | refine below_set ?_ GE254.out) | exact HB.out)) hb); (try clear hb)))
  go_ret
  exact ⟨by first | rfl | (simp [errW_none, errW_some] <;> rfl) | (simp [*, errW_none, errW_some] <;> rfl), by repeat (first | (with_reducible first | exact HB.out | apply below_alloc | apply pw_below_drewN | apply below_drew1 | refine below_set ?_ GE254.out) | exact HB.out)⟩

 subst c4
 have H1 : ((stillagelaw07_Fits.f k l0_0 l0_1 l1).bind fun t256 => (if t256 = true then (stillagelaw07_ReachBoth.j0 k l1 (decide ((l0_0.length : Int) > 25)) l0_0 l0_1) else (stillagelaw07_ReachBoth.j0 k l1 true l0_0 l0_1))) = some r := by rw [if_pos rfl] at H; exact H
 clear H; have H := H1; clear H1
 have HC5 := Aside0.mk H
 clear H
 go_enter Try.func7, Try.ntmps7
 go_upto_region 3 with (first | ((with_reducible refine gate_dst (N := 2) rfl ?_); (try (refine gate_guard (by rfl) ?_; dsimp only)); refine box_event ?hg (N := 2) ?hd (cs := #[.slice A0_0 l0_0.length c0_0, .slice A0_1 l0_1.length c0_1]) (t := 25) ?hr ?_; (case hd => rfl); (case hg => rfl); (case hr => first | (go_simp; done) | (go_simp; rfl)); intro gb254 hg w6 hbox hb; have BK254 := Aside0.mk (hbox); have GW254 := Aside0.mk ((by rw [hg]; exact (below_size (by repeat (first | (with_reducible first | exact HB.out | apply below_alloc | apply pw_below_drewN | apply below_drew1) | exact HB.out))) : w.heap.size ≤ gb254)); have GE254 := Aside0.mk ((by rw [hg]; exact (below_size (by repeat (first | (with_reducible first | exact HB.out | apply below_alloc | apply pw_below_drewN | apply below_drew1) | exact HB.out))) : w.heap.size ≤ gb254)); replace HB := Aside0.mk (below_step (by repeat (first | (with_reducible first | exact HB.out | apply below_alloc | apply pw_below_drewN | apply below_drew1) | exact HB.out)) hb); clear hb hbox hg) | ((with_reducible refine gate_callee (f := 10) rfl ?_); refine goesL_ (some 14) rfl rfl Try.func10 (by kernel_rfl) rfl #[] rfl (by (try simp only [List.map_toArray, List.map_cons, List.map_nil]); first | done | rfl | (simp only [List.length_drop, List.length_take]; rfl)) ?_; (with_reducible refine (stillagelaw07_awake.calls k  true _ A3.out).mono ?_); rintro e w7 ⟨rfl, hb⟩; refine ⟨_, rfl, ?_⟩; replace BK254 := Aside0.mk (blk_below (g := gb254) (o := .cells #[.slice A0_0 l0_0.length c0_0, .slice A0_1 l0_1.length c0_1] 25 (0, 0)) (by (with_reducible repeat (first | refine blk_drewN ?_ _ | refine blk_drew ?_ | refine blk_alloc ?_ _)); exact BK254.out) hb); replace HB := Aside0.mk (below_step (by repeat (first | (with_reducible first | exact HB.out | apply below_alloc | apply pw_below_drewN | apply below_drew1 | refine below_set ?_ GE254.out) | exact HB.out)) hb); (try clear hb)))
 (try simp only [Act.put, List.setIfInBounds_toArray, List.set_cons_zero, List.set_cons_succ])
 go_cut [25] (fun v25 wc => ∃ (kq : Nat) (x25_4 : Bool), v25 = .bool x25_4 ∧ Aside0 (stillagelaw07_ReachBoth.j0 kq l1 x25_4 l0_0 l0_1 = some r) ∧ Aside0 (kq ≤ k) ∧ Aside0 (wc.heap[gb254]? = some (.cells #[(.slice A0_0 l0_0.length c0_0), (.slice A0_1 l0_1.length c0_1)] 25 (0, 0))) ∧ Aside0 (Below w.heap.size w wc))
 case first =>
  have H := HC5.out
  clear HC5
  replace H := Option.bind_eq_some_iff.mp H; obtain ⟨t256, A80, H⟩ := H
  replace H : (if t256 = true then (stillagelaw07_ReachBoth.j0 k l1 (decide ((l0_0.length : Int) > 25)) l0_0 l0_1) else (stillagelaw07_ReachBoth.j0 k l1 true l0_0 l0_1)) = some r := H
  have A8 := Aside0.mk A80
  clear A80
  by_cases c9 : t256 = true
  rotate_left
  ·replace c9 := Bool.eq_false_iff.mpr c9
   subst c9
   have H1 : (stillagelaw07_ReachBoth.j0 k l1 true l0_0 l0_1) = some r := by rw [if_neg (show ¬ (false = true) by decide)] at H; exact H
   clear H; have H := H1; clear H1
   have H' := Aside0.mk H; clear H
   have hcz13_0 : w7.cell? ⟨gb254, 0, none⟩ = some (.slice A0_0 l0_0.length c0_0) := (blk_cell BK254.out 0).trans rfl
   have hcz13_1 : w7.cell? ⟨gb254, 1, none⟩ = some (.slice A0_1 l0_1.length c0_1) := (blk_cell BK254.out 1).trans rfl
   have hfz13_0 := blk_frozen BK254.out 0
   have hfz13_1 := blk_frozen BK254.out 1
   go_wp2_with (first | ((with_reducible refine gate_callee (f := 11) rfl ?_); refine goesL_ (some 18) rfl rfl Try.func11 (by kernel_rfl) rfl #[.agg #[.slice A0_0 l0_0.length c0_0, .slice A0_1 l0_1.length c0_1], .slice A1 l1.length c1] rfl (by (try simp only [List.map_toArray, List.map_cons, List.map_nil]); first | done | rfl | (simp only [List.length_drop, List.length_take]; rfl)) ?_; (with_reducible refine (stillagelaw07_Fits.calls k _ _ l0_0 _ _ l0_1 _ _ l1 false _ ?side1 ?side2 ?side3 ?side4 ?side5 ?side6 A8.out).mono ?_); (case side1 => repeat (first | exact (Kd.C_below HR0_0.out HB.out) | (with_reducible refine Kd.C_alloc ?_ _) | (with_reducible refine Kd.C_drewN ?_ _) | (with_reducible refine Kd.C_drew ?_))); (case side2 => exact HC0_0.out); (case side3 => repeat (first | exact (Kd.C_below HR0_1.out HB.out) | (with_reducible refine Kd.C_alloc ?_ _) | (with_reducible refine Kd.C_drewN ?_ _) | (with_reducible refine Kd.C_drew ?_))); (case side4 => exact HC0_1.out); (case side5 => repeat (first | exact (Kd.C_below HR1.out HB.out) | (with_reducible refine Kd.C_alloc ?_ _) | (with_reducible refine Kd.C_drewN ?_ _) | (with_reducible refine Kd.C_drew ?_))); (case side6 => exact HC1.out); rintro e w14 ⟨rfl, hb⟩; refine ⟨_, rfl, ?_⟩; replace BK254 := Aside0.mk (blk_below (g := gb254) (o := .cells #[.slice A0_0 l0_0.length c0_0, .slice A0_1 l0_1.length c0_1] 25 (0, 0)) (by (with_reducible repeat (first | refine blk_drewN ?_ _ | refine blk_drew ?_ | refine blk_alloc ?_ _)); exact BK254.out) hb); replace HB := Aside0.mk (below_step (by repeat (first | (with_reducible first | exact HB.out | apply below_alloc | apply pw_below_drewN | apply below_drew1 | refine below_set ?_ GE254.out) | exact HB.out)) hb); (try clear hb)))
   go_meet
   case rel => exact ⟨_, (true), (by first | rfl | (simp; done) | (simp [*]; done)), H', ⟨by first | omega | exact Nat.le_refl _⟩, ⟨by (with_reducible repeat (first | refine blk_drewN ?_ _ | refine blk_drew ?_ | refine blk_alloc ?_ _)); exact BK254.out⟩, ⟨by repeat (first | (with_reducible first | exact HB.out | apply below_alloc | apply pw_below_drewN | apply below_drew1 | refine below_set ?_ GE254.out) | exact HB.out)⟩⟩
  subst c9
  have H1 : (stillagelaw07_ReachBoth.j0 k l1 (decide ((l0_0.length : Int) > 25)) l0_0 l0_1) = some r := by rw [if_pos rfl] at H; exact H
  clear H; have H := H1; clear H1
  have H' := Aside0.mk H; clear H
  have hcz10_0 : w7.cell? ⟨gb254, 0, none⟩ = some (.slice A0_0 l0_0.length c0_0) := (blk_cell BK254.out 0).trans rfl
  have hcz10_1 : w7.cell? ⟨gb254, 1, none⟩ = some (.slice A0_1 l0_1.length c0_1) := (blk_cell BK254.out 1).trans rfl
  have hfz10_0 := blk_frozen BK254.out 0
  have hfz10_1 := blk_frozen BK254.out 1
  go_wp2_with (first | ((with_reducible refine gate_callee (f := 11) rfl ?_); refine goesL_ (some 18) rfl rfl Try.func11 (by kernel_rfl) rfl #[.agg #[.slice A0_0 l0_0.length c0_0, .slice A0_1 l0_1.length c0_1], .slice A1 l1.length c1] rfl (by (try simp only [List.map_toArray, List.map_cons, List.map_nil]); first | done | rfl | (simp only [List.length_drop, List.length_take]; rfl)) ?_; (with_reducible refine (stillagelaw07_Fits.calls k _ _ l0_0 _ _ l0_1 _ _ l1 true _ ?side1 ?side2 ?side3 ?side4 ?side5 ?side6 A8.out).mono ?_); (case side1 => repeat (first | exact (Kd.C_below HR0_0.out HB.out) | (with_reducible refine Kd.C_alloc ?_ _) | (with_reducible refine Kd.C_drewN ?_ _) | (with_reducible refine Kd.C_drew ?_))); (case side2 => exact HC0_0.out); (case side3 => repeat (first | exact (Kd.C_below HR0_1.out HB.out) | (with_reducible refine Kd.C_alloc ?_ _) | (with_reducible refine Kd.C_drewN ?_ _) | (with_reducible refine Kd.C_drew ?_))); (case side4 => exact HC0_1.out); (case side5 => repeat (first | exact (Kd.C_below HR1.out HB.out) | (with_reducible refine Kd.C_alloc ?_ _) | (with_reducible refine Kd.C_drewN ?_ _) | (with_reducible refine Kd.C_drew ?_))); (case side6 => exact HC1.out); rintro e w11 ⟨rfl, hb⟩; refine ⟨_, rfl, ?_⟩; replace BK254 := Aside0.mk (blk_below (g := gb254) (o := .cells #[.slice A0_0 l0_0.length c0_0, .slice A0_1 l0_1.length c0_1] 25 (0, 0)) (by (with_reducible repeat (first | refine blk_drewN ?_ _ | refine blk_drew ?_ | refine blk_alloc ?_ _)); exact BK254.out) hb); replace HB := Aside0.mk (below_step (by repeat (first | (with_reducible first | exact HB.out | apply below_alloc | apply pw_below_drewN | apply below_drew1 | refine below_set ?_ GE254.out) | exact HB.out)) hb); (try clear hb); have hcz12_0 : w11.cell? ⟨gb254, 0, none⟩ = some (.slice A0_0 l0_0.length c0_0) := (blk_cell BK254.out 0).trans rfl; have hcz12_1 : w11.cell? ⟨gb254, 1, none⟩ = some (.slice A0_1 l0_1.length c0_1) := (blk_cell BK254.out 1).trans rfl; have hfz12_0 := blk_frozen BK254.out 0; have hfz12_1 := blk_frozen BK254.out 1))
  go_meet
  case rel => exact ⟨_, (decide ((l0_0.length : Int) > 25)), (by first | rfl | (simp; done) | (simp [*]; done)), H', ⟨by first | omega | exact Nat.le_refl _⟩, ⟨by (with_reducible repeat (first | refine blk_drewN ?_ _ | refine blk_drew ?_ | refine blk_alloc ?_ _)); exact BK254.out⟩, ⟨by repeat (first | (with_reducible first | exact HB.out | apply below_alloc | apply pw_below_drewN | apply below_drew1 | refine below_set ?_ GE254.out) | exact HB.out)⟩⟩
 case rest =>
  clear HC5
  obtain ⟨kq, x25_4, rfl, HA, HJ4, BK254, HB⟩ := hcut
  cases kq with
  | zero => exact absurd HA.out (by simp [stillagelaw07_ReachBoth.j0])
  | succ kj4 =>
   have H := HA.out
   clear HA
   simp only [stillagelaw07_ReachBoth.j0] at H
   by_cases c15 : x25_4 = true
   ·subst c15
    have H1 : (some true) = some r := by rw [if_pos rfl] at H; exact H
    clear H; have H := H1; clear H1
    obtain rfl := Option.some.inj H
    go_wp2
    go_ret
    exact ⟨by first | rfl | (simp [errW_none, errW_some] <;> rfl) | (simp [*, errW_none, errW_some] <;> rfl), by repeat (first | (with_reducible first | exact HB.out | apply below_alloc | apply pw_below_drewN | apply below_drew1 | refine below_set ?_ GE254.out) | exact HB.out)⟩
   replace c15 := Bool.eq_false_iff.mpr c15
   subst c15
   have H1 : (stillagelaw07_ReachBoth.l0 kj4 l1 (l0_0.length : Int) 0 l0_0 l0_1) = some r := by rw [if_neg (show ¬ (false = true) by decide)] at H; exact H
   clear H; have H := H1; clear H1
   have H' := Aside0.mk H; clear H
   have hcz16_0 : wc.cell? ⟨gb254, 0, none⟩ = some (.slice A0_0 l0_0.length c0_0) := (blk_cell BK254.out 0).trans rfl
   have hcz16_1 : wc.cell? ⟨gb254, 1, none⟩ = some (.slice A0_1 l0_1.length c0_1) := (blk_cell BK254.out 1).trans rfl
   have hfz16_0 := blk_frozen BK254.out 0
   have hfz16_1 := blk_frozen BK254.out 1
   go_wp2
   go_loopg [6] kj4 (fun kq v6 w' => ∃ (x6_2 : Int), v6 = .int .i64 x6_2 ∧ Aside0 (stillagelaw07_ReachBoth.l0 kq l1 (l0_0.length : Int) x6_2 l0_0 l0_1 = some r) ∧ Aside0 (kq ≤ kj4) ∧ Aside0 (w'.heap[gb254]? = some (.cells #[(.slice A0_0 l0_0.length c0_0), (.slice A0_1 l0_1.length c0_1)] 25 (0, 0))) ∧ Aside0 (Below w.heap.size w w'))
   case atStart => exact ⟨(0), (by first | rfl | (simp; done) | (simp [*]; done)), H', ⟨Nat.le_refl _⟩, ⟨by (with_reducible repeat (first | refine blk_drewN ?_ _ | refine blk_drew ?_ | refine blk_alloc ?_ _)); exact BK254.out⟩, ⟨by repeat (first | (with_reducible first | exact HB.out | apply below_alloc | apply pw_below_drewN | apply below_drew1 | refine below_set ?_ GE254.out) | exact HB.out)⟩⟩
   case round =>
    clear H'
    obtain ⟨x6_2, rfl, HA, HK2, BK254, HB⟩ := hrel
    cases gk with
    | zero => exact absurd HA.out (by simp [stillagelaw07_ReachBoth.l0])
    | succ k2 =>
     have H := HA.out
     clear HA
     simp only [stillagelaw07_ReachBoth.l0] at H
     by_cases c17 : x6_2 < (l0_0.length : Int)
     rotate_left
     ·rw [if_neg c17] at H
      have c17b0 : decide (x6_2 < (l0_0.length : Int)) = false := decide_eq_false c17
      clear c17
      obtain rfl := Option.some.inj H
      go_wp2
      go_ret
      exact ⟨by first | rfl | (simp [errW_none, errW_some] <;> rfl) | (simp [*, errW_none, errW_some] <;> rfl), by repeat (first | (with_reducible first | exact HB.out | apply below_alloc | apply pw_below_drewN | apply below_drew1 | refine below_set ?_ GE254.out) | exact HB.out)⟩
     rw [if_pos c17] at H
     have c17b0 : decide (x6_2 < (l0_0.length : Int)) = true := decide_eq_true c17
     clear c17
     replace H := Option.bind_eq_some_iff.mp H; obtain ⟨⟨t257, t260⟩, A180, H⟩ := H
     replace H : (if t260 = 0 then (if (t257.length : Int) = (l0_0.length : Int) then (if 0 ≤ x6_2 then (if x6_2 < (t257.length : Int) then (stillagelaw07_ReachBoth.j2 k2 l1 (l0_0.length : Int) x6_2 t257 ((rd t257 x6_2) != 0) l0_0 l0_1) else (none)) else (none)) else (stillagelaw07_ReachBoth.j2 k2 l1 (l0_0.length : Int) x6_2 t257 true l0_0 l0_1)) else (stillagelaw07_ReachBoth.j2 k2 l1 (l0_0.length : Int) x6_2 t257 true l0_0 l0_1)) = some r := H
     have A18 := Aside0.mk A180
     clear A180
     have HC19 := Aside0.mk H
     clear H
     have hcz20_0 : wr.cell? ⟨gb254, 0, none⟩ = some (.slice A0_0 l0_0.length c0_0) := (blk_cell BK254.out 0).trans rfl
     have hcz20_1 : wr.cell? ⟨gb254, 1, none⟩ = some (.slice A0_1 l0_1.length c0_1) := (blk_cell BK254.out 1).trans rfl
     have hfz20_0 := blk_frozen BK254.out 0
     have hfz20_1 := blk_frozen BK254.out 1
     go_upto_region 10 with (first | ((with_reducible refine gate_callee (f := 16) rfl ?_); refine goesL_ (some 38) rfl rfl Try.func16 (by kernel_rfl) rfl #[.agg #[.slice A0_0 l0_0.length c0_0, .slice A0_1 l0_1.length c0_1], .slice A1 l1.length c1, .int .i64 x6_2] rfl (by (try simp only [List.map_toArray, List.map_cons, List.map_nil]); first | done | rfl | (simp only [List.length_drop, List.length_take]; rfl)) ?_; (with_reducible refine (reach_From.calls k2 _ _ l0_0 _ _ l0_1 _ _ l1 x6_2 t257 t260 _ ?side1 ?side2 ?side3 ?side4 ?side5 ?side6 A18.out).mono ?_); (case side1 => repeat (first | exact (Kd.C_below HR0_0.out HB.out) | (with_reducible refine Kd.C_alloc ?_ _) | (with_reducible refine Kd.C_drewN ?_ _) | (with_reducible refine Kd.C_drew ?_))); (case side2 => exact HC0_0.out); (case side3 => repeat (first | exact (Kd.C_below HR0_1.out HB.out) | (with_reducible refine Kd.C_alloc ?_ _) | (with_reducible refine Kd.C_drewN ?_ _) | (with_reducible refine Kd.C_drew ?_))); (case side4 => exact HC0_1.out); (case side5 => repeat (first | exact (Kd.C_below HR1.out HB.out) | (with_reducible refine Kd.C_alloc ?_ _) | (with_reducible refine Kd.C_drewN ?_ _) | (with_reducible refine Kd.C_drew ?_))); (case side6 => exact HC1.out); rintro e w21 ⟨v258, rfl, ho0, hb⟩; refine ⟨_, rfl, ?_⟩; have HO259 := Aside0.mk (Kd.R_lower ho0 (below_size (by repeat (first | (with_reducible first | exact HB.out | apply below_alloc | apply pw_below_drewN | apply below_drew1 | refine below_set ?_ GE254.out) | exact HB.out)))); replace BK254 := Aside0.mk (blk_below (g := gb254) (o := .cells #[.slice A0_0 l0_0.length c0_0, .slice A0_1 l0_1.length c0_1] 25 (0, 0)) (by (with_reducible repeat (first | refine blk_drewN ?_ _ | refine blk_drew ?_ | refine blk_alloc ?_ _)); exact BK254.out) hb); replace HB := Aside0.mk (below_step (by repeat (first | (with_reducible first | exact HB.out | apply below_alloc | apply pw_below_drewN | apply below_drew1 | refine below_set ?_ GE254.out) | exact HB.out)) hb); (try clear hb); (try clear ho0)))
     (try simp only [Act.put, List.setIfInBounds_toArray, List.set_cons_zero, List.set_cons_succ])
     go_cut [55] (fun v55 wc => ∃ (kq : Nat) (x55_18 : Bool), v55 = .bool x55_18 ∧ Aside0 (stillagelaw07_ReachBoth.j2 kq l1 (l0_0.length : Int) x6_2 t257 x55_18 l0_0 l0_1 = some r) ∧ Aside0 (kq ≤ k2) ∧ Aside0 (Kd.R (Kd.int .i64) 3 wc w.heap.size (fun _ => True) v258 t257) ∧ Aside0 (wc.heap[gb254]? = some (.cells #[(.slice A0_0 l0_0.length c0_0), (.slice A0_1 l0_1.length c0_1)] 25 (0, 0))) ∧ Aside0 (Below w.heap.size w wc))
     case first =>
      have H := HC19.out
      clear HC19
      by_cases c22 : t260 = 0
      rotate_left
      ·rw [if_neg c22] at H
       have c22b0 : (t260 == 0) = false := beq_eq_false_iff_ne.mpr c22
       have c22b1 : (t260 != 0) = true := bne_iff_ne.mpr c22
       (first | rw [c22b0] | (simp only [i64_w, i32_w]; rw [c22b0]) | skip)
       have H' := Aside0.mk H; clear H
       go_wp2
       go_meet
       case rel => exact ⟨_, (true), (by first | rfl | (simp; done) | (simp [*]; done)), H', ⟨by have := HJ4.out; have := HK2.out; first | omega | exact Nat.le_refl _⟩, ⟨by (with_reducible repeat (first | apply Kd.R_alloc | apply Kd.R_drewN | apply Kd.R_drew)); exact HO259.out⟩, ⟨by (with_reducible repeat (first | refine blk_drewN ?_ _ | refine blk_drew ?_ | refine blk_alloc ?_ _)); exact BK254.out⟩, ⟨by repeat (first | (with_reducible first | exact HB.out | apply below_alloc | apply pw_below_drewN | apply below_drew1 | refine below_set ?_ GE254.out) | exact HB.out)⟩⟩
      rw [if_pos c22] at H
      have c22b0 : (t260 == 0) = true := beq_iff_eq.mpr c22
      have c22b1 : (t260 != 0) = false := bne_eq_false_iff_eq.mpr c22
      clear c22
      (first | rw [c22b0] | (simp only [i64_w, i32_w]; rw [c22b0]) | skip)
      by_cases c23 : (t257.length : Int) = (l0_0.length : Int)
      rotate_left
      ·rw [if_neg c23] at H
       have c23b0 : ((t257.length : Int) == (l0_0.length : Int)) = false := beq_eq_false_iff_ne.mpr c23
       have c23b1 : ((t257.length : Int) != (l0_0.length : Int)) = true := bne_iff_ne.mpr c23
       have c23b2 : (t257.length == l0_0.length) = false := by first | simpa using c23 | (simp at c23 ⊢; omega)
       have H' := Aside0.mk H; clear H
       obtain ⟨Ao27, co27, eo27⟩ := Kd.R_slice HO259.out
       subst eo27
       go_wp2
       go_meet
       case rel => exact ⟨_, (true), (by first | rfl | (simp; done) | (simp [*]; done)), H', ⟨by have := HJ4.out; have := HK2.out; first | omega | exact Nat.le_refl _⟩, ⟨by (with_reducible repeat (first | apply Kd.R_alloc | apply Kd.R_drewN | apply Kd.R_drew)); exact HO259.out⟩, ⟨by (with_reducible repeat (first | refine blk_drewN ?_ _ | refine blk_drew ?_ | refine blk_alloc ?_ _)); exact BK254.out⟩, ⟨by repeat (first | (with_reducible first | exact HB.out | apply below_alloc | apply pw_below_drewN | apply below_drew1 | refine below_set ?_ GE254.out) | exact HB.out)⟩⟩
      rw [if_pos c23] at H
      have c23b0 : ((t257.length : Int) == (l0_0.length : Int)) = true := beq_iff_eq.mpr c23
      have c23b1 : ((t257.length : Int) != (l0_0.length : Int)) = false := bne_eq_false_iff_eq.mpr c23
      have c23b2 : (t257.length == l0_0.length) = true := by first | simpa using c23 | (simp at c23 ⊢; omega)
      clear c23
      by_cases c24 : 0 ≤ x6_2
      rotate_left; ·rw [if_neg c24] at H; exact absurd H (by simp)
      rw [if_pos c24] at H
      have c24b0 : decide (0 ≤ x6_2) = true := decide_eq_true c24
      clear c24
      by_cases c25 : x6_2 < (t257.length : Int)
      rotate_left; ·rw [if_neg c25] at H; exact absurd H (by simp)
      rw [if_pos c25] at H
      have c25b0 : decide (x6_2 < (t257.length : Int)) = true := decide_eq_true c25
      clear c25
      have H' := Aside0.mk H; clear H
      obtain ⟨Ao26, co26, eo26⟩ := Kd.R_slice HO259.out
      subst eo26
      have p261 : 0 ≤ (x6_2 : Int) := of_decide_eq_true (by first | (with_reducible assumption) | assumption)
      have q261 : x6_2 < (t257.length : Int) := of_decide_eq_true (by first | (with_reducible assumption) | assumption)
      obtain ⟨ad261, e261, hx261_0⟩ := Kd.at_int (Kd.R_reads' HO259.out).2.2 x6_2 p261 q261
      cases e261
      replace p261 := eq_true p261
      replace q261 := eq_true q261
      go_wp2
      go_meet
      case rel => exact ⟨_, (((rd t257 x6_2) != 0)), (by first | rfl | (simp; done) | (simp [*]; done)), H', ⟨by have := HJ4.out; have := HK2.out; first | omega | exact Nat.le_refl _⟩, ⟨by (with_reducible repeat (first | apply Kd.R_alloc | apply Kd.R_drewN | apply Kd.R_drew)); exact HO259.out⟩, ⟨by (with_reducible repeat (first | refine blk_drewN ?_ _ | refine blk_drew ?_ | refine blk_alloc ?_ _)); exact BK254.out⟩, ⟨by repeat (first | (with_reducible first | exact HB.out | apply below_alloc | apply pw_below_drewN | apply below_drew1 | refine below_set ?_ GE254.out) | exact HB.out)⟩⟩
     case rest =>
      clear HC19
      obtain ⟨kq, x55_18, rfl, HA, HJ18, HO_7, BK254, HB⟩ := hcut
      cases kq with
      | zero => exact absurd HA.out (by simp [stillagelaw07_ReachBoth.j2])
      | succ kj18 =>
       have H := HA.out
       clear HA
       simp only [stillagelaw07_ReachBoth.j2] at H
       by_cases c28 : x55_18 = true
       ·subst c28
        have H1 : (some false) = some r := by rw [if_pos rfl] at H; exact H
        clear H; have H := H1; clear H1
        obtain rfl := Option.some.inj H
        go_wp2
        go_ret
        exact ⟨by first | rfl | (simp [errW_none, errW_some] <;> rfl) | (simp [*, errW_none, errW_some] <;> rfl), by repeat (first | (with_reducible first | exact HB.out | apply below_alloc | apply pw_below_drewN | apply below_drew1 | refine below_set ?_ GE254.out) | exact HB.out)⟩
       replace c28 := Bool.eq_false_iff.mpr c28
       subst c28
       have H1 : (stillagelaw07_ReachBoth.l1 kj18 l1 (l0_0.length : Int) x6_2 t257 0 l0_0 l0_1) = some r := by rw [if_neg (show ¬ (false = true) by decide)] at H; exact H
       clear H; have H := H1; clear H1
       have H' := Aside0.mk H; clear H
       go_wp2
       go_loopg [9] kj18 (fun kq v9 w' => ∃ (x9_4 : Int), v9 = .int .i64 x9_4 ∧ Aside0 (stillagelaw07_ReachBoth.l1 kq l1 (l0_0.length : Int) x6_2 t257 x9_4 l0_0 l0_1 = some r) ∧ Aside0 (kq ≤ kj18) ∧ Aside0 (Kd.R (Kd.int .i64) 3 w' w.heap.size (fun _ => True) v258 t257) ∧ Aside0 (w'.heap[gb254]? = some (.cells #[(.slice A0_0 l0_0.length c0_0), (.slice A0_1 l0_1.length c0_1)] 25 (0, 0))) ∧ Aside0 (Below w.heap.size w w'))
       case atStart => exact ⟨(0), (by first | rfl | (simp; done) | (simp [*]; done)), H', ⟨Nat.le_refl _⟩, ⟨by (with_reducible repeat (first | apply Kd.R_alloc | apply Kd.R_drewN | apply Kd.R_drew)); exact HO_7.out⟩, ⟨by (with_reducible repeat (first | refine blk_drewN ?_ _ | refine blk_drew ?_ | refine blk_alloc ?_ _)); exact BK254.out⟩, ⟨by repeat (first | (with_reducible first | exact HB.out | apply below_alloc | apply pw_below_drewN | apply below_drew1 | refine below_set ?_ GE254.out) | exact HB.out)⟩⟩
       case round =>
        clear H'
        obtain ⟨x9_4, rfl, HA, HK4, HO_7, BK254, HB⟩ := hrel
        cases gk with
        | zero => exact absurd HA.out (by simp [stillagelaw07_ReachBoth.l1])
        | succ k4 =>
         have H := HA.out
         clear HA
         simp only [stillagelaw07_ReachBoth.l1] at H
         by_cases c29 : x9_4 < (l0_0.length : Int)
         ·rw [if_pos c29] at H
          have c29b0 : decide (x9_4 < (l0_0.length : Int)) = true := decide_eq_true c29
          clear c29
          replace H := Option.bind_eq_some_iff.mp H; obtain ⟨⟨t262, t265⟩, A300, H⟩ := H
          replace H : (if t265 = 0 then (if (t262.length : Int) = (l0_0.length : Int) then (if 0 ≤ x6_2 then (if x6_2 < (t262.length : Int) then (if 0 ≤ x9_4 then (if x9_4 < (t257.length : Int) then (if (rd t262 x6_2) = (rd t257 x9_4) then (stillagelaw07_ReachBoth.l1 k4 l1 (l0_0.length : Int) x6_2 t257 (wrap64 (x9_4 + 1)) l0_0 l0_1) else (some false)) else (none)) else (none)) else (none)) else (none)) else (some false)) else (some false)) = some r := H
          have A30 := Aside0.mk A300
          clear A300
          by_cases c31 : t265 = 0
          rotate_left
          ·rw [if_neg c31] at H
           have c31b0 : (t265 == 0) = false := beq_eq_false_iff_ne.mpr c31
           have c31b1 : (t265 != 0) = true := bne_iff_ne.mpr c31
           obtain rfl := Option.some.inj H
           have hcz52_0 : wr.cell? ⟨gb254, 0, none⟩ = some (.slice A0_0 l0_0.length c0_0) := (blk_cell BK254.out 0).trans rfl
           have hcz52_1 : wr.cell? ⟨gb254, 1, none⟩ = some (.slice A0_1 l0_1.length c0_1) := (blk_cell BK254.out 1).trans rfl
           have hfz52_0 := blk_frozen BK254.out 0
           have hfz52_1 := blk_frozen BK254.out 1
           try go_wp2_with (first | ((with_reducible refine gate_callee (f := 17) rfl ?_); refine goesL_ (some 65) rfl rfl Try.func17 (by kernel_rfl) rfl #[.agg #[.slice A0_0 l0_0.length c0_0, .slice A0_1 l0_1.length c0_1], .slice A1 l1.length c1, .int .i64 x9_4] rfl (by (try simp only [List.map_toArray, List.map_cons, List.map_nil]); first | done | rfl | (simp only [List.length_drop, List.length_take]; rfl)) ?_; (with_reducible refine (reach_To.calls k4 _ _ l0_0 _ _ l0_1 _ _ l1 x9_4 t262 t265 _ ?side1 ?side2 ?side3 ?side4 ?side5 ?side6 A30.out).mono ?_); (case side1 => repeat (first | exact (Kd.C_below HR0_0.out HB.out) | (with_reducible refine Kd.C_alloc ?_ _) | (with_reducible refine Kd.C_drewN ?_ _) | (with_reducible refine Kd.C_drew ?_))); (case side2 => exact HC0_0.out); (case side3 => repeat (first | exact (Kd.C_below HR0_1.out HB.out) | (with_reducible refine Kd.C_alloc ?_ _) | (with_reducible refine Kd.C_drewN ?_ _) | (with_reducible refine Kd.C_drew ?_))); (case side4 => exact HC0_1.out); (case side5 => repeat (first | exact (Kd.C_below HR1.out HB.out) | (with_reducible refine Kd.C_alloc ?_ _) | (with_reducible refine Kd.C_drewN ?_ _) | (with_reducible refine Kd.C_drew ?_))); (case side6 => exact HC1.out); rintro e w53 ⟨v263, rfl, ho0, hb⟩; refine ⟨_, rfl, ?_⟩; have HO264 := Aside0.mk (Kd.R_lower (Kd.R_new' ho0 (Kd.R_lt (by (with_reducible repeat (first | apply Kd.R_alloc | apply Kd.R_drewN | apply Kd.R_drew)); exact HO_7.out))) (below_size (by repeat (first | (with_reducible first | exact HB.out | apply below_alloc | apply pw_below_drewN | apply below_drew1 | refine below_set ?_ GE254.out) | exact HB.out)))); replace HO_7 := Aside0.mk (Kd.R_elder' (by (with_reducible repeat (first | apply Kd.R_alloc | apply Kd.R_drewN | apply Kd.R_drew)); exact HO_7.out) (Kd.R_base ho0) hb); replace BK254 := Aside0.mk (blk_below (g := gb254) (o := .cells #[.slice A0_0 l0_0.length c0_0, .slice A0_1 l0_1.length c0_1] 25 (0, 0)) (by (with_reducible repeat (first | refine blk_drewN ?_ _ | refine blk_drew ?_ | refine blk_alloc ?_ _)); exact BK254.out) hb); replace HB := Aside0.mk (below_step (by repeat (first | (with_reducible first | exact HB.out | apply below_alloc | apply pw_below_drewN | apply below_drew1 | refine below_set ?_ GE254.out) | exact HB.out)) hb); (try clear hb); (try clear ho0)))
           have n0_ := Aside0.mk (Kd.R_drew HO_7.out)
           have n1_ := Aside0.mk (Kd.R_drew HO264.out)
           have n2_ := Aside0.mk (blk_drew BK254.out)
           have n3_ := Aside0.mk (below_drew1 HB.out)
           clear HO_7
           clear HO264
           clear BK254
           clear HB
           have HO_7 := n0_
           have HO264 := n1_
           have BK254 := n2_
           have HB := n3_
           clear n0_ n1_ n2_ n3_
           refine start_ (n := 19) (S := fun w' => True) (ds := []) bq0 (by kernel_rfl) rfl rfl trivial (fun hHeld => ?_); refine with_tabW stillagelaw07_ReachBoth.tab16 stillagelaw07_ReachBoth.bits16 (fun HT_ HW_ => ?_)
           generalize w53.drew = w54 at HO_7 HO264 BK254 HB hHeld ⊢
           refine pp_ 0 68 (v := ?_) (a' := ?_) bq1 HT_ rfl rfl ?_ ?_ ?_
           rotate_left; ·intro w'; go_simp; with_reducible rfl
           rotate_left; ·simp only [Act.put, sa, sz, ss, i64_w, i32_w]; rfl
           refine pp_ 1 69 (v := ?_) (a' := ?_) bq2 HT_ rfl rfl ?_ ?_ ?_
           rotate_left; ·intro w'; go_simp; with_reducible rfl
           rotate_left; ·simp only [Act.put, sa, sz, ss, i64_w, i32_w]; rfl
           refine pp_ 2 70 (v := ?_) (a' := ?_) bq3 HT_ rfl rfl ?_ ?_ ?_
           rotate_left; ·intro w'; go_simp; with_reducible rfl
           rotate_left; ·simp only [Act.put, sa, sz, ss, i64_w, i32_w]; rfl
           refine pu_ 3 71 (a' := ?_) bq4 HT_ rfl rfl ?_ ?_
           rotate_left; ·simp only [Act.put, sa, sz, ss, i64_w, i32_w]; rfl
           refine pu_ 4 72 (a' := ?_) bq5 HT_ rfl rfl ?_ ?_
           rotate_left; ·simp only [Act.put, sa, sz, ss, i64_w, i32_w]; rfl
           refine pu_ 5 73 (a' := ?_) bq6 HT_ rfl rfl ?_ ?_
           rotate_left; ·simp only [Act.put, sa, sz, ss, i64_w, i32_w]; rfl
           refine pu_ 6 74 (a' := ?_) bq7 HT_ rfl rfl ?_ ?_
           rotate_left; ·simp only [Act.put, sa, sz, ss, i64_w, i32_w]; rfl
           refine pp_ 7 75 (v := ?_) (a' := ?_) bq8 HT_ rfl rfl ?_ ?_ ?_
           rotate_left; ·intro w'; go_simp; with_reducible rfl
           rotate_left; ·simp only [Act.put, sa, sz, ss, i64_w, i32_w]; rfl
           refine pp_ 8 76 (v := ?_) (a' := ?_) bq9 HT_ rfl rfl ?_ ?_ ?_
           rotate_left; ·intro w'; go_simp; with_reducible rfl
           rotate_left; ·simp only [Act.put, sa, sz, ss, i64_w, i32_w]; rfl
           refine pu_ 9 77 (a' := ?_) bq10 HT_ rfl rfl ?_ ?_
           rotate_left; ·simp only [Act.put, sa, sz, ss, i64_w, i32_w]; rfl
           refine pu_ 10 78 (a' := ?_) bq11 HT_ rfl rfl ?_ ?_
           rotate_left; ·simp only [Act.put, sa, sz, ss, i64_w, i32_w]; rfl
           refine pu_ 11 79 (a' := ?_) bq12 HT_ rfl rfl ?_ ?_
           rotate_left; ·simp only [Act.put, sa, sz, ss, i64_w, i32_w]; rfl
           refine pu_ 12 80 (a' := ?_) bq13 HT_ rfl rfl ?_ ?_
           rotate_left; ·simp only [Act.put, sa, sz, ss, i64_w, i32_w]; rfl
           refine pu_ 13 81 (a' := ?_) bq14 HT_ rfl rfl ?_ ?_
           rotate_left; ·simp only [Act.put, sa, sz, ss, i64_w, i32_w]; rfl
           refine pu_ 14 82 (a' := ?_) bq15 HT_ rfl rfl ?_ ?_
           rotate_left; ·simp only [Act.put, sa, sz, ss, i64_w, i32_w]; rfl
           refine pu_ 15 83 (a' := ?_) bq16 HT_ rfl rfl ?_ ?_
           rotate_left; ·simp only [Act.put, sa, sz, ss, i64_w, i32_w]; rfl
           refine pu_ 16 84 (a' := ?_) bq17 HT_ rfl rfl ?_ ?_
           rotate_left; ·simp only [Act.put, sa, sz, ss, i64_w, i32_w]; rfl
           refine pu_ 17 85 (a' := ?_) bq18 HT_ rfl rfl ?_ ?_
           rotate_left; ·simp only [Act.put, sa, sz, ss, i64_w, i32_w]; rfl
           refine pp_ 18 86 (v := ?_) (a' := ?_) bq19 HT_ rfl rfl ?_ ?_ ?_
           rotate_left; ·intro w'; go_simp; with_reducible rfl
           rotate_left; ·simp only [Act.put, sa, sz, ss, i64_w, i32_w]; rfl
           refine done_ (done_of HT_.out (by kernel_rfl)) ?_
           try go_wp2
           go_ret
           exact ⟨by first | rfl | (simp [errW_none, errW_some] <;> rfl) | (simp [*, errW_none, errW_some] <;> rfl), by repeat (first | (with_reducible first | exact HB.out | apply below_alloc | apply pw_below_drewN | apply below_drew1 | refine below_set ?_ GE254.out) | exact HB.out)⟩
          rw [if_pos c31] at H
          have c31b0 : (t265 == 0) = true := beq_iff_eq.mpr c31
          have c31b1 : (t265 != 0) = false := bne_eq_false_iff_eq.mpr c31
          clear c31
          by_cases c32 : (t262.length : Int) = (l0_0.length : Int)
          rotate_left
          ·rw [if_neg c32] at H
           have c32b0 : ((t262.length : Int) == (l0_0.length : Int)) = false := beq_eq_false_iff_ne.mpr c32
           have c32b1 : ((t262.length : Int) != (l0_0.length : Int)) = true := bne_iff_ne.mpr c32
           have c32b2 : (t262.length == l0_0.length) = false := by first | simpa using c32 | (simp at c32 ⊢; omega)
           obtain rfl := Option.some.inj H
           have hcz48_0 : wr.cell? ⟨gb254, 0, none⟩ = some (.slice A0_0 l0_0.length c0_0) := (blk_cell BK254.out 0).trans rfl
           have hcz48_1 : wr.cell? ⟨gb254, 1, none⟩ = some (.slice A0_1 l0_1.length c0_1) := (blk_cell BK254.out 1).trans rfl
           have hfz48_0 := blk_frozen BK254.out 0
           have hfz48_1 := blk_frozen BK254.out 1
           try go_wp2_with (first | ((with_reducible refine gate_callee (f := 17) rfl ?_); refine goesL_ (some 65) rfl rfl Try.func17 (by kernel_rfl) rfl #[.agg #[.slice A0_0 l0_0.length c0_0, .slice A0_1 l0_1.length c0_1], .slice A1 l1.length c1, .int .i64 x9_4] rfl (by (try simp only [List.map_toArray, List.map_cons, List.map_nil]); first | done | rfl | (simp only [List.length_drop, List.length_take]; rfl)) ?_; (with_reducible refine (reach_To.calls k4 _ _ l0_0 _ _ l0_1 _ _ l1 x9_4 t262 t265 _ ?side1 ?side2 ?side3 ?side4 ?side5 ?side6 A30.out).mono ?_); (case side1 => repeat (first | exact (Kd.C_below HR0_0.out HB.out) | (with_reducible refine Kd.C_alloc ?_ _) | (with_reducible refine Kd.C_drewN ?_ _) | (with_reducible refine Kd.C_drew ?_))); (case side2 => exact HC0_0.out); (case side3 => repeat (first | exact (Kd.C_below HR0_1.out HB.out) | (with_reducible refine Kd.C_alloc ?_ _) | (with_reducible refine Kd.C_drewN ?_ _) | (with_reducible refine Kd.C_drew ?_))); (case side4 => exact HC0_1.out); (case side5 => repeat (first | exact (Kd.C_below HR1.out HB.out) | (with_reducible refine Kd.C_alloc ?_ _) | (with_reducible refine Kd.C_drewN ?_ _) | (with_reducible refine Kd.C_drew ?_))); (case side6 => exact HC1.out); rintro e w49 ⟨v263, rfl, ho0, hb⟩; refine ⟨_, rfl, ?_⟩; have HO264 := Aside0.mk (Kd.R_lower (Kd.R_new' ho0 (Kd.R_lt (by (with_reducible repeat (first | apply Kd.R_alloc | apply Kd.R_drewN | apply Kd.R_drew)); exact HO_7.out))) (below_size (by repeat (first | (with_reducible first | exact HB.out | apply below_alloc | apply pw_below_drewN | apply below_drew1 | refine below_set ?_ GE254.out) | exact HB.out)))); replace HO_7 := Aside0.mk (Kd.R_elder' (by (with_reducible repeat (first | apply Kd.R_alloc | apply Kd.R_drewN | apply Kd.R_drew)); exact HO_7.out) (Kd.R_base ho0) hb); replace BK254 := Aside0.mk (blk_below (g := gb254) (o := .cells #[.slice A0_0 l0_0.length c0_0, .slice A0_1 l0_1.length c0_1] 25 (0, 0)) (by (with_reducible repeat (first | refine blk_drewN ?_ _ | refine blk_drew ?_ | refine blk_alloc ?_ _)); exact BK254.out) hb); replace HB := Aside0.mk (below_step (by repeat (first | (with_reducible first | exact HB.out | apply below_alloc | apply pw_below_drewN | apply below_drew1 | refine below_set ?_ GE254.out) | exact HB.out)) hb); (try clear hb); (try clear ho0)))
           have n0_ := Aside0.mk (Kd.R_drew HO_7.out)
           have n1_ := Aside0.mk (Kd.R_drew HO264.out)
           have n2_ := Aside0.mk (blk_drew BK254.out)
           have n3_ := Aside0.mk (below_drew1 HB.out)
           clear HO_7
           clear HO264
           clear BK254
           clear HB
           have HO_7 := n0_
           have HO264 := n1_
           have BK254 := n2_
           have HB := n3_
           clear n0_ n1_ n2_ n3_
           obtain ⟨Ao51, co51, eo51⟩ := Kd.R_slice HO264.out
           (first | subst eo51 | (injection eo51 with f1_ f2_ f3_; have f4_ := f1_.symm; have f5_ := f3_.symm; clear f1_ f2_ f3_; subst f4_; subst f5_))
           refine start_ (n := 19) (S := fun w' => True) (ds := []) bq0 (by kernel_rfl) rfl rfl trivial (fun hHeld => ?_); refine with_tabW stillagelaw07_ReachBoth.tab16 stillagelaw07_ReachBoth.bits16 (fun HT_ HW_ => ?_)
           generalize w49.drew = w50 at HO_7 HO264 BK254 HB hHeld ⊢
           refine pp_ 0 68 (v := ?_) (a' := ?_) bq1 HT_ rfl rfl ?_ ?_ ?_
           rotate_left; ·intro w'; go_simp; with_reducible rfl
           rotate_left; ·simp only [Act.put, sa, sz, ss, i64_w, i32_w]; rfl
           refine pp_ 1 69 (v := ?_) (a' := ?_) bq2 HT_ rfl rfl ?_ ?_ ?_
           rotate_left; ·intro w'; go_simp; with_reducible rfl
           rotate_left; ·simp only [Act.put, sa, sz, ss, i64_w, i32_w]; rfl
           refine pp_ 2 70 (v := ?_) (a' := ?_) bq3 HT_ rfl rfl ?_ ?_ ?_
           rotate_left; ·intro w'; go_simp; with_reducible rfl
           rotate_left; ·simp only [Act.put, sa, sz, ss, i64_w, i32_w]; rfl
           refine pp_ 3 71 (v := ?_) (a' := ?_) bq4 HT_ rfl rfl ?_ ?_ ?_
           rotate_left; ·intro w'; go_simp; with_reducible rfl
           rotate_left; ·simp only [Act.put, sa, sz, ss, i64_w, i32_w]; rfl
           refine pp_ 4 72 (v := ?_) (a' := ?_) bq5 HT_ rfl rfl ?_ ?_ ?_
           rotate_left; ·intro w'; go_simp; with_reducible rfl
           rotate_left; ·simp only [Act.put, sa, sz, ss, i64_w, i32_w]; rfl
           refine pp_ 5 73 (v := ?_) (a' := ?_) bq6 HT_ rfl rfl ?_ ?_ ?_
           rotate_left; ·intro w'; go_simp; with_reducible rfl
           rotate_left; ·simp only [Act.put, sa, sz, ss, i64_w, i32_w]; rfl
           refine pp_ 6 74 (v := ?_) (a' := ?_) bq7 HT_ rfl rfl ?_ ?_ ?_
           rotate_left; ·intro w'; go_simp; with_reducible rfl
           rotate_left; ·simp only [Act.put, sa, sz, ss, i64_w, i32_w]; rfl
           refine pp_ 7 75 (v := ?_) (a' := ?_) bq8 HT_ rfl rfl ?_ ?_ ?_
           rotate_left; ·intro w'; go_simp; with_reducible rfl
           rotate_left; ·simp only [Act.put, sa, sz, ss, i64_w, i32_w]; rfl
           refine pp_ 8 76 (v := ?_) (a' := ?_) bq9 HT_ rfl rfl ?_ ?_ ?_
           rotate_left; ·intro w'; go_simp; with_reducible rfl
           rotate_left; ·simp only [Act.put, sa, sz, ss, i64_w, i32_w]; rfl
           refine pu_ 9 77 (a' := ?_) bq10 HT_ rfl rfl ?_ ?_
           rotate_left; ·simp only [Act.put, sa, sz, ss, i64_w, i32_w]; rfl
           refine pu_ 10 78 (a' := ?_) bq11 HT_ rfl rfl ?_ ?_
           rotate_left; ·simp only [Act.put, sa, sz, ss, i64_w, i32_w]; rfl
           refine pu_ 11 79 (a' := ?_) bq12 HT_ rfl rfl ?_ ?_
           rotate_left; ·simp only [Act.put, sa, sz, ss, i64_w, i32_w]; rfl
           refine pu_ 12 80 (a' := ?_) bq13 HT_ rfl rfl ?_ ?_
           rotate_left; ·simp only [Act.put, sa, sz, ss, i64_w, i32_w]; rfl
           refine pu_ 13 81 (a' := ?_) bq14 HT_ rfl rfl ?_ ?_
           rotate_left; ·simp only [Act.put, sa, sz, ss, i64_w, i32_w]; rfl
           refine pu_ 14 82 (a' := ?_) bq15 HT_ rfl rfl ?_ ?_
           rotate_left; ·simp only [Act.put, sa, sz, ss, i64_w, i32_w]; rfl
           refine pu_ 15 83 (a' := ?_) bq16 HT_ rfl rfl ?_ ?_
           rotate_left; ·simp only [Act.put, sa, sz, ss, i64_w, i32_w]; rfl
           refine pu_ 16 84 (a' := ?_) bq17 HT_ rfl rfl ?_ ?_
           rotate_left; ·simp only [Act.put, sa, sz, ss, i64_w, i32_w]; rfl
           refine pu_ 17 85 (a' := ?_) bq18 HT_ rfl rfl ?_ ?_
           rotate_left; ·simp only [Act.put, sa, sz, ss, i64_w, i32_w]; rfl
           refine pp_ 18 86 (v := ?_) (a' := ?_) bq19 HT_ rfl rfl ?_ ?_ ?_
           rotate_left; ·intro w'; go_simp; with_reducible rfl
           rotate_left; ·simp only [Act.put, sa, sz, ss, i64_w, i32_w]; rfl
           refine done_ (done_of HT_.out (by kernel_rfl)) ?_
           try go_wp2
           go_ret
           exact ⟨by first | rfl | (simp [errW_none, errW_some] <;> rfl) | (simp [*, errW_none, errW_some] <;> rfl), by repeat (first | (with_reducible first | exact HB.out | apply below_alloc | apply pw_below_drewN | apply below_drew1 | refine below_set ?_ GE254.out) | exact HB.out)⟩
          rw [if_pos c32] at H
          have c32b0 : ((t262.length : Int) == (l0_0.length : Int)) = true := beq_iff_eq.mpr c32
          have c32b1 : ((t262.length : Int) != (l0_0.length : Int)) = false := bne_eq_false_iff_eq.mpr c32
          have c32b2 : (t262.length == l0_0.length) = true := by first | simpa using c32 | (simp at c32 ⊢; omega)
          clear c32
          by_cases c33 : 0 ≤ x6_2
          rotate_left; ·rw [if_neg c33] at H; exact absurd H (by simp)
          rw [if_pos c33] at H
          have c33b0 : decide (0 ≤ x6_2) = true := decide_eq_true c33
          clear c33
          by_cases c34 : x6_2 < (t262.length : Int)
          rotate_left; ·rw [if_neg c34] at H; exact absurd H (by simp)
          rw [if_pos c34] at H
          have c34b0 : decide (x6_2 < (t262.length : Int)) = true := decide_eq_true c34
          clear c34
          by_cases c35 : 0 ≤ x9_4
          rotate_left; ·rw [if_neg c35] at H; exact absurd H (by simp)
          rw [if_pos c35] at H
          have c35b0 : decide (0 ≤ x9_4) = true := decide_eq_true c35
          clear c35
          by_cases c36 : x9_4 < (t257.length : Int)
          rotate_left; ·rw [if_neg c36] at H; exact absurd H (by simp)
          rw [if_pos c36] at H
          have c36b0 : decide (x9_4 < (t257.length : Int)) = true := decide_eq_true c36
          clear c36
          by_cases c37 : (rd t262 x6_2) = (rd t257 x9_4)
          rotate_left
          ·rw [if_neg c37] at H
           have c37b0 : ((rd t262 x6_2) == (rd t257 x9_4)) = false := beq_eq_false_iff_ne.mpr c37
           have c37b1 : ((rd t262 x6_2) != (rd t257 x9_4)) = true := bne_iff_ne.mpr c37
           obtain rfl := Option.some.inj H
           have hcz43_0 : wr.cell? ⟨gb254, 0, none⟩ = some (.slice A0_0 l0_0.length c0_0) := (blk_cell BK254.out 0).trans rfl
           have hcz43_1 : wr.cell? ⟨gb254, 1, none⟩ = some (.slice A0_1 l0_1.length c0_1) := (blk_cell BK254.out 1).trans rfl
           have hfz43_0 := blk_frozen BK254.out 0
           have hfz43_1 := blk_frozen BK254.out 1
           try go_wp2_with (first | ((with_reducible refine gate_callee (f := 17) rfl ?_); refine goesL_ (some 65) rfl rfl Try.func17 (by kernel_rfl) rfl #[.agg #[.slice A0_0 l0_0.length c0_0, .slice A0_1 l0_1.length c0_1], .slice A1 l1.length c1, .int .i64 x9_4] rfl (by (try simp only [List.map_toArray, List.map_cons, List.map_nil]); first | done | rfl | (simp only [List.length_drop, List.length_take]; rfl)) ?_; (with_reducible refine (reach_To.calls k4 _ _ l0_0 _ _ l0_1 _ _ l1 x9_4 t262 t265 _ ?side1 ?side2 ?side3 ?side4 ?side5 ?side6 A30.out).mono ?_); (case side1 => repeat (first | exact (Kd.C_below HR0_0.out HB.out) | (with_reducible refine Kd.C_alloc ?_ _) | (with_reducible refine Kd.C_drewN ?_ _) | (with_reducible refine Kd.C_drew ?_))); (case side2 => exact HC0_0.out); (case side3 => repeat (first | exact (Kd.C_below HR0_1.out HB.out) | (with_reducible refine Kd.C_alloc ?_ _) | (with_reducible refine Kd.C_drewN ?_ _) | (with_reducible refine Kd.C_drew ?_))); (case side4 => exact HC0_1.out); (case side5 => repeat (first | exact (Kd.C_below HR1.out HB.out) | (with_reducible refine Kd.C_alloc ?_ _) | (with_reducible refine Kd.C_drewN ?_ _) | (with_reducible refine Kd.C_drew ?_))); (case side6 => exact HC1.out); rintro e w44 ⟨v263, rfl, ho0, hb⟩; refine ⟨_, rfl, ?_⟩; have HO264 := Aside0.mk (Kd.R_lower (Kd.R_new' ho0 (Kd.R_lt (by (with_reducible repeat (first | apply Kd.R_alloc | apply Kd.R_drewN | apply Kd.R_drew)); exact HO_7.out))) (below_size (by repeat (first | (with_reducible first | exact HB.out | apply below_alloc | apply pw_below_drewN | apply below_drew1 | refine below_set ?_ GE254.out) | exact HB.out)))); replace HO_7 := Aside0.mk (Kd.R_elder' (by (with_reducible repeat (first | apply Kd.R_alloc | apply Kd.R_drewN | apply Kd.R_drew)); exact HO_7.out) (Kd.R_base ho0) hb); replace BK254 := Aside0.mk (blk_below (g := gb254) (o := .cells #[.slice A0_0 l0_0.length c0_0, .slice A0_1 l0_1.length c0_1] 25 (0, 0)) (by (with_reducible repeat (first | refine blk_drewN ?_ _ | refine blk_drew ?_ | refine blk_alloc ?_ _)); exact BK254.out) hb); replace HB := Aside0.mk (below_step (by repeat (first | (with_reducible first | exact HB.out | apply below_alloc | apply pw_below_drewN | apply below_drew1 | refine below_set ?_ GE254.out) | exact HB.out)) hb); (try clear hb); (try clear ho0)))
           have n0_ := Aside0.mk (Kd.R_drew HO_7.out)
           have n1_ := Aside0.mk (Kd.R_drew HO264.out)
           have n2_ := Aside0.mk (blk_drew BK254.out)
           have n3_ := Aside0.mk (below_drew1 HB.out)
           clear HO_7
           clear HO264
           clear BK254
           clear HB
           have HO_7 := n0_
           have HO264 := n1_
           have BK254 := n2_
           have HB := n3_
           clear n0_ n1_ n2_ n3_
           obtain ⟨Ao46, co46, eo46⟩ := Kd.R_slice HO264.out
           (first | subst eo46 | (injection eo46 with f1_ f2_ f3_; have f4_ := f1_.symm; have f5_ := f3_.symm; clear f1_ f2_ f3_; subst f4_; subst f5_))
           have p266 : 0 ≤ (x6_2 : Int) := of_decide_eq_true (by first | (with_reducible assumption) | assumption)
           have q266 : x6_2 < (t262.length : Int) := of_decide_eq_true (by first | (with_reducible assumption) | assumption)
           obtain ⟨ad266, e266, hx266_0⟩ := Kd.at_int (Kd.R_reads' HO264.out).2.2 x6_2 p266 q266
           cases e266
           replace p266 := eq_true p266
           replace q266 := eq_true q266
           obtain ⟨Ao47, co47, eo47⟩ := Kd.R_slice HO_7.out
           (first | subst eo47 | (injection eo47 with f1_ f2_ f3_; have f4_ := f1_.symm; have f5_ := f3_.symm; clear f1_ f2_ f3_; subst f4_; subst f5_))
           have p267 : 0 ≤ (x9_4 : Int) := of_decide_eq_true (by first | (with_reducible assumption) | assumption)
           have q267 : x9_4 < (t257.length : Int) := of_decide_eq_true (by first | (with_reducible assumption) | assumption)
           obtain ⟨ad267, e267, hx267_0⟩ := Kd.at_int (Kd.R_reads' HO_7.out).2.2 x9_4 p267 q267
           cases e267
           replace p267 := eq_true p267
           replace q267 := eq_true q267
           refine start_ (n := 19) (S := fun w' => w'.cell? (ad266.add (x6_2).toNat) = some (.int .i64 (rd t262 x6_2)) ∧ w'.cell? (ad267.add (x9_4).toNat) = some (.int .i64 (rd t257 x9_4))) (ds := []) bq0 (by kernel_rfl) rfl rfl ⟨hx266_0, hx267_0⟩ (fun hHeld => ?_); refine with_tabW stillagelaw07_ReachBoth.tab16 stillagelaw07_ReachBoth.bits16 (fun HT_ HW_ => ?_)
           generalize w44.drew = w45 at HO_7 HO264 BK254 HB hx266_0 hx267_0 hHeld ⊢
           refine pp_ 0 68 (v := ?_) (a' := ?_) bq1 HT_ rfl rfl ?_ ?_ ?_
           rotate_left; ·intro w'; go_simp; with_reducible rfl
           rotate_left; ·simp only [Act.put, sa, sz, ss, i64_w, i32_w]; rfl
           refine pp_ 1 69 (v := ?_) (a' := ?_) bq2 HT_ rfl rfl ?_ ?_ ?_
           rotate_left; ·intro w'; go_simp; with_reducible rfl
           rotate_left; ·simp only [Act.put, sa, sz, ss, i64_w, i32_w]; rfl
           refine pp_ 2 70 (v := ?_) (a' := ?_) bq3 HT_ rfl rfl ?_ ?_ ?_
           rotate_left; ·intro w'; go_simp; with_reducible rfl
           rotate_left; ·simp only [Act.put, sa, sz, ss, i64_w, i32_w]; rfl
           refine pp_ 3 71 (v := ?_) (a' := ?_) bq4 HT_ rfl rfl ?_ ?_ ?_
           rotate_left; ·intro w'; go_simp; with_reducible rfl
           rotate_left; ·simp only [Act.put, sa, sz, ss, i64_w, i32_w]; rfl
           refine pp_ 4 72 (v := ?_) (a' := ?_) bq5 HT_ rfl rfl ?_ ?_ ?_
           rotate_left; ·intro w'; go_simp; with_reducible rfl
           rotate_left; ·simp only [Act.put, sa, sz, ss, i64_w, i32_w]; rfl
           refine pp_ 5 73 (v := ?_) (a' := ?_) bq6 HT_ rfl rfl ?_ ?_ ?_
           rotate_left; ·intro w'; go_simp; with_reducible rfl
           rotate_left; ·simp only [Act.put, sa, sz, ss, i64_w, i32_w]; rfl
           refine pp_ 6 74 (v := ?_) (a' := ?_) bq7 HT_ rfl rfl ?_ ?_ ?_
           rotate_left; ·intro w'; go_simp; with_reducible rfl
           rotate_left; ·simp only [Act.put, sa, sz, ss, i64_w, i32_w]; rfl
           refine pp_ 7 75 (v := ?_) (a' := ?_) bq8 HT_ rfl rfl ?_ ?_ ?_
           rotate_left; ·intro w'; go_simp; with_reducible rfl
           rotate_left; ·simp only [Act.put, sa, sz, ss, i64_w, i32_w]; rfl
           refine pp_ 8 76 (v := ?_) (a' := ?_) bq9 HT_ rfl rfl ?_ ?_ ?_
           rotate_left; ·intro w'; go_simp; with_reducible rfl
           rotate_left; ·simp only [Act.put, sa, sz, ss, i64_w, i32_w]; rfl
           refine pp_ 9 77 (v := ?_) (a' := ?_) bq10 HT_ rfl rfl ?_ ?_ ?_
           rotate_left; ·intro w'; go_simp; with_reducible rfl
           rotate_left; ·simp only [Act.put, sa, sz, ss, i64_w, i32_w]; rfl
           refine pp_ 10 78 (v := ?_) (a' := ?_) bq11 HT_ rfl rfl ?_ ?_ ?_
           rotate_left; ·intro w'; go_simp; with_reducible rfl
           rotate_left; ·simp only [Act.put, sa, sz, ss, i64_w, i32_w]; rfl
           refine pp_ 11 79 (v := ?_) (a' := ?_) bq12 HT_ rfl rfl ?_ ?_ ?_
           rotate_left; ·intro w'; go_simp; with_reducible rfl
           rotate_left; ·simp only [Act.put, sa, sz, ss, i64_w, i32_w]; rfl
           refine pp_ 13 81 (v := ?_) (a' := ?_) bq20 HT_ rfl rfl ?_ ?_ ?_
           rotate_left; ·intro w'; go_simp; with_reducible rfl
           rotate_left; ·simp only [Act.put, sa, sz, ss, i64_w, i32_w]; rfl
           refine pp_ 14 82 (v := ?_) (a' := ?_) bq21 HT_ rfl rfl ?_ ?_ ?_
           rotate_left; ·intro w'; go_simp; with_reducible rfl
           rotate_left; ·simp only [Act.put, sa, sz, ss, i64_w, i32_w]; rfl
           refine pp_ 15 83 (v := ?_) (a' := ?_) bq22 HT_ rfl rfl ?_ ?_ ?_
           rotate_left; ·intro w'; go_simp; with_reducible rfl
           rotate_left; ·simp only [Act.put, sa, sz, ss, i64_w, i32_w]; rfl
           refine take_ (i := 12) (N := some 80) (v := ?_) (a' := ?_) bq16 rfl rfl (take_ofW HT_.out HW_.out (by kernel_rfl)) (fun _ _ _ h => h) (Or.inl ⟨by rfl, ?_⟩) hHeld ?_ ?_
           rotate_left
           ·rintro w' ⟨s0, s1⟩
            go_simp
            with_reducible rfl
           rotate_left; ·simp only [Act.put, sa, sz, ss, i64_w, i32_w]; rfl
           refine take_ (i := 16) (N := some 84) (v := ?_) (a' := ?_) bq17 rfl rfl (take_ofW HT_.out HW_.out (by kernel_rfl)) (fun _ _ _ h => h) (Or.inl ⟨by rfl, ?_⟩) hHeld ?_ ?_
           rotate_left
           ·rintro w' ⟨s0, s1⟩
            go_simp
            with_reducible rfl
           rotate_left; ·simp only [Act.put, sa, sz, ss, i64_w, i32_w]; rfl
           refine pp_ 17 85 (v := ?_) (a' := ?_) bq18 HT_ rfl rfl ?_ ?_ ?_
           rotate_left; ·intro w'; go_simp; with_reducible rfl
           rotate_left; ·simp only [Act.put, sa, sz, ss, i64_w, i32_w]; rfl
           refine pp_ 18 86 (v := ?_) (a' := ?_) bq19 HT_ rfl rfl ?_ ?_ ?_
           rotate_left; ·intro w'; go_simp; with_reducible rfl
           rotate_left; ·simp only [Act.put, sa, sz, ss, i64_w, i32_w]; rfl
           refine done_ (done_of HT_.out (by kernel_rfl)) ?_
           try go_wp2
           go_ret
           exact ⟨by first | rfl | (simp [errW_none, errW_some] <;> rfl) | (simp [*, errW_none, errW_some] <;> rfl), by repeat (first | (with_reducible first | exact HB.out | apply below_alloc | apply pw_below_drewN | apply below_drew1 | refine below_set ?_ GE254.out) | exact HB.out)⟩
          rw [if_pos c37] at H
          have c37b0 : ((rd t262 x6_2) == (rd t257 x9_4)) = true := beq_iff_eq.mpr c37
          have c37b1 : ((rd t262 x6_2) != (rd t257 x9_4)) = false := bne_eq_false_iff_eq.mpr c37
          clear c37
          have H' := Aside0.mk H; clear H
          have hcz38_0 : wr.cell? ⟨gb254, 0, none⟩ = some (.slice A0_0 l0_0.length c0_0) := (blk_cell BK254.out 0).trans rfl
          have hcz38_1 : wr.cell? ⟨gb254, 1, none⟩ = some (.slice A0_1 l0_1.length c0_1) := (blk_cell BK254.out 1).trans rfl
          have hfz38_0 := blk_frozen BK254.out 0
          have hfz38_1 := blk_frozen BK254.out 1
          try go_wp2_with (first | ((with_reducible refine gate_callee (f := 17) rfl ?_); refine goesL_ (some 65) rfl rfl Try.func17 (by kernel_rfl) rfl #[.agg #[.slice A0_0 l0_0.length c0_0, .slice A0_1 l0_1.length c0_1], .slice A1 l1.length c1, .int .i64 x9_4] rfl (by (try simp only [List.map_toArray, List.map_cons, List.map_nil]); first | done | rfl | (simp only [List.length_drop, List.length_take]; rfl)) ?_; (with_reducible refine (reach_To.calls k4 _ _ l0_0 _ _ l0_1 _ _ l1 x9_4 t262 t265 _ ?side1 ?side2 ?side3 ?side4 ?side5 ?side6 A30.out).mono ?_); (case side1 => repeat (first | exact (Kd.C_below HR0_0.out HB.out) | (with_reducible refine Kd.C_alloc ?_ _) | (with_reducible refine Kd.C_drewN ?_ _) | (with_reducible refine Kd.C_drew ?_))); (case side2 => exact HC0_0.out); (case side3 => repeat (first | exact (Kd.C_below HR0_1.out HB.out) | (with_reducible refine Kd.C_alloc ?_ _) | (with_reducible refine Kd.C_drewN ?_ _) | (with_reducible refine Kd.C_drew ?_))); (case side4 => exact HC0_1.out); (case side5 => repeat (first | exact (Kd.C_below HR1.out HB.out) | (with_reducible refine Kd.C_alloc ?_ _) | (with_reducible refine Kd.C_drewN ?_ _) | (with_reducible refine Kd.C_drew ?_))); (case side6 => exact HC1.out); rintro e w39 ⟨v263, rfl, ho0, hb⟩; refine ⟨_, rfl, ?_⟩; have HO264 := Aside0.mk (Kd.R_lower (Kd.R_new' ho0 (Kd.R_lt (by (with_reducible repeat (first | apply Kd.R_alloc | apply Kd.R_drewN | apply Kd.R_drew)); exact HO_7.out))) (below_size (by repeat (first | (with_reducible first | exact HB.out | apply below_alloc | apply pw_below_drewN | apply below_drew1 | refine below_set ?_ GE254.out) | exact HB.out)))); replace HO_7 := Aside0.mk (Kd.R_elder' (by (with_reducible repeat (first | apply Kd.R_alloc | apply Kd.R_drewN | apply Kd.R_drew)); exact HO_7.out) (Kd.R_base ho0) hb); replace BK254 := Aside0.mk (blk_below (g := gb254) (o := .cells #[.slice A0_0 l0_0.length c0_0, .slice A0_1 l0_1.length c0_1] 25 (0, 0)) (by (with_reducible repeat (first | refine blk_drewN ?_ _ | refine blk_drew ?_ | refine blk_alloc ?_ _)); exact BK254.out) hb); replace HB := Aside0.mk (below_step (by repeat (first | (with_reducible first | exact HB.out | apply below_alloc | apply pw_below_drewN | apply below_drew1 | refine below_set ?_ GE254.out) | exact HB.out)) hb); (try clear hb); (try clear ho0)))
          have n0_ := Aside0.mk (Kd.R_drew HO_7.out)
          have n1_ := Aside0.mk (Kd.R_drew HO264.out)
          have n2_ := Aside0.mk (blk_drew BK254.out)
          have n3_ := Aside0.mk (below_drew1 HB.out)
          clear HO_7
          clear HO264
          clear BK254
          clear HB
          have HO_7 := n0_
          have HO264 := n1_
          have BK254 := n2_
          have HB := n3_
          clear n0_ n1_ n2_ n3_
          obtain ⟨Ao41, co41, eo41⟩ := Kd.R_slice HO264.out
          (first | subst eo41 | (injection eo41 with f1_ f2_ f3_; have f4_ := f1_.symm; have f5_ := f3_.symm; clear f1_ f2_ f3_; subst f4_; subst f5_))
          have p266 : 0 ≤ (x6_2 : Int) := of_decide_eq_true (by first | (with_reducible assumption) | assumption)
          have q266 : x6_2 < (t262.length : Int) := of_decide_eq_true (by first | (with_reducible assumption) | assumption)
          obtain ⟨ad266, e266, hx266_0⟩ := Kd.at_int (Kd.R_reads' HO264.out).2.2 x6_2 p266 q266
          cases e266
          replace p266 := eq_true p266
          replace q266 := eq_true q266
          obtain ⟨Ao42, co42, eo42⟩ := Kd.R_slice HO_7.out
          (first | subst eo42 | (injection eo42 with f1_ f2_ f3_; have f4_ := f1_.symm; have f5_ := f3_.symm; clear f1_ f2_ f3_; subst f4_; subst f5_))
          have p267 : 0 ≤ (x9_4 : Int) := of_decide_eq_true (by first | (with_reducible assumption) | assumption)
          have q267 : x9_4 < (t257.length : Int) := of_decide_eq_true (by first | (with_reducible assumption) | assumption)
          obtain ⟨ad267, e267, hx267_0⟩ := Kd.at_int (Kd.R_reads' HO_7.out).2.2 x9_4 p267 q267
          cases e267
          replace p267 := eq_true p267
          replace q267 := eq_true q267
          refine start_ (n := 19) (S := fun w' => w'.cell? (ad266.add (x6_2).toNat) = some (.int .i64 (rd t262 x6_2)) ∧ w'.cell? (ad267.add (x9_4).toNat) = some (.int .i64 (rd t257 x9_4))) (ds := []) bq0 (by kernel_rfl) rfl rfl ⟨hx266_0, hx267_0⟩ (fun hHeld => ?_); refine with_tabW stillagelaw07_ReachBoth.tab16 stillagelaw07_ReachBoth.bits16 (fun HT_ HW_ => ?_)
          generalize w39.drew = w40 at HO_7 HO264 BK254 HB hx266_0 hx267_0 hHeld ⊢
          refine pp_ 0 68 (v := ?_) (a' := ?_) bq1 HT_ rfl rfl ?_ ?_ ?_
          rotate_left; ·intro w'; go_simp; with_reducible rfl
          rotate_left; ·simp only [Act.put, sa, sz, ss, i64_w, i32_w]; rfl
          refine pp_ 1 69 (v := ?_) (a' := ?_) bq2 HT_ rfl rfl ?_ ?_ ?_
          rotate_left; ·intro w'; go_simp; with_reducible rfl
          rotate_left; ·simp only [Act.put, sa, sz, ss, i64_w, i32_w]; rfl
          refine pp_ 2 70 (v := ?_) (a' := ?_) bq3 HT_ rfl rfl ?_ ?_ ?_
          rotate_left; ·intro w'; go_simp; with_reducible rfl
          rotate_left; ·simp only [Act.put, sa, sz, ss, i64_w, i32_w]; rfl
          refine pp_ 3 71 (v := ?_) (a' := ?_) bq4 HT_ rfl rfl ?_ ?_ ?_
          rotate_left; ·intro w'; go_simp; with_reducible rfl
          rotate_left; ·simp only [Act.put, sa, sz, ss, i64_w, i32_w]; rfl
          refine pp_ 4 72 (v := ?_) (a' := ?_) bq5 HT_ rfl rfl ?_ ?_ ?_
          rotate_left; ·intro w'; go_simp; with_reducible rfl
          rotate_left; ·simp only [Act.put, sa, sz, ss, i64_w, i32_w]; rfl
          refine pp_ 5 73 (v := ?_) (a' := ?_) bq6 HT_ rfl rfl ?_ ?_ ?_
          rotate_left; ·intro w'; go_simp; with_reducible rfl
          rotate_left; ·simp only [Act.put, sa, sz, ss, i64_w, i32_w]; rfl
          refine pp_ 6 74 (v := ?_) (a' := ?_) bq7 HT_ rfl rfl ?_ ?_ ?_
          rotate_left; ·intro w'; go_simp; with_reducible rfl
          rotate_left; ·simp only [Act.put, sa, sz, ss, i64_w, i32_w]; rfl
          refine pp_ 7 75 (v := ?_) (a' := ?_) bq8 HT_ rfl rfl ?_ ?_ ?_
          rotate_left; ·intro w'; go_simp; with_reducible rfl
          rotate_left; ·simp only [Act.put, sa, sz, ss, i64_w, i32_w]; rfl
          refine pp_ 8 76 (v := ?_) (a' := ?_) bq9 HT_ rfl rfl ?_ ?_ ?_
          rotate_left; ·intro w'; go_simp; with_reducible rfl
          rotate_left; ·simp only [Act.put, sa, sz, ss, i64_w, i32_w]; rfl
          refine pp_ 9 77 (v := ?_) (a' := ?_) bq10 HT_ rfl rfl ?_ ?_ ?_
          rotate_left; ·intro w'; go_simp; with_reducible rfl
          rotate_left; ·simp only [Act.put, sa, sz, ss, i64_w, i32_w]; rfl
          refine pp_ 10 78 (v := ?_) (a' := ?_) bq11 HT_ rfl rfl ?_ ?_ ?_
          rotate_left; ·intro w'; go_simp; with_reducible rfl
          rotate_left; ·simp only [Act.put, sa, sz, ss, i64_w, i32_w]; rfl
          refine pp_ 11 79 (v := ?_) (a' := ?_) bq12 HT_ rfl rfl ?_ ?_ ?_
          rotate_left; ·intro w'; go_simp; with_reducible rfl
          rotate_left; ·simp only [Act.put, sa, sz, ss, i64_w, i32_w]; rfl
          refine pp_ 13 81 (v := ?_) (a' := ?_) bq20 HT_ rfl rfl ?_ ?_ ?_
          rotate_left; ·intro w'; go_simp; with_reducible rfl
          rotate_left; ·simp only [Act.put, sa, sz, ss, i64_w, i32_w]; rfl
          refine pp_ 14 82 (v := ?_) (a' := ?_) bq21 HT_ rfl rfl ?_ ?_ ?_
          rotate_left; ·intro w'; go_simp; with_reducible rfl
          rotate_left; ·simp only [Act.put, sa, sz, ss, i64_w, i32_w]; rfl
          refine pp_ 15 83 (v := ?_) (a' := ?_) bq22 HT_ rfl rfl ?_ ?_ ?_
          rotate_left; ·intro w'; go_simp; with_reducible rfl
          rotate_left; ·simp only [Act.put, sa, sz, ss, i64_w, i32_w]; rfl
          refine take_ (i := 12) (N := some 80) (v := ?_) (a' := ?_) bq16 rfl rfl (take_ofW HT_.out HW_.out (by kernel_rfl)) (fun _ _ _ h => h) (Or.inl ⟨by rfl, ?_⟩) hHeld ?_ ?_
          rotate_left
          ·rintro w' ⟨s0, s1⟩
           go_simp
           with_reducible rfl
          rotate_left; ·simp only [Act.put, sa, sz, ss, i64_w, i32_w]; rfl
          refine take_ (i := 16) (N := some 84) (v := ?_) (a' := ?_) bq17 rfl rfl (take_ofW HT_.out HW_.out (by kernel_rfl)) (fun _ _ _ h => h) (Or.inl ⟨by rfl, ?_⟩) hHeld ?_ ?_
          rotate_left
          ·rintro w' ⟨s0, s1⟩
           go_simp
           with_reducible rfl
          rotate_left; ·simp only [Act.put, sa, sz, ss, i64_w, i32_w]; rfl
          refine pp_ 17 85 (v := ?_) (a' := ?_) bq18 HT_ rfl rfl ?_ ?_ ?_
          rotate_left; ·intro w'; go_simp; with_reducible rfl
          rotate_left; ·simp only [Act.put, sa, sz, ss, i64_w, i32_w]; rfl
          refine pp_ 18 86 (v := ?_) (a' := ?_) bq19 HT_ rfl rfl ?_ ?_ ?_
          rotate_left; ·intro w'; go_simp; with_reducible rfl
          rotate_left; ·simp only [Act.put, sa, sz, ss, i64_w, i32_w]; rfl
          refine done_ (done_of HT_.out (by kernel_rfl)) ?_
          try go_wp2
          go_roundg k4
          case measure => have := HJ4.out; have := HK2.out; have := HJ18.out; have := HK4.out; omega
          case rel => exact ⟨(wrap64 (x9_4 + 1)), (by first | rfl | (simp; done) | (simp [*]; done)), H', ⟨by have := HJ4.out; have := HK2.out; have := HJ18.out; have := HK4.out; omega⟩, ⟨by (with_reducible repeat (first | apply Kd.R_alloc | apply Kd.R_drewN | apply Kd.R_drew)); exact Kd.R_mono HO_7.out (fun _ hk => trivial)⟩, ⟨by (with_reducible repeat (first | refine blk_drewN ?_ _ | refine blk_drew ?_ | refine blk_alloc ?_ _)); exact BK254.out⟩, ⟨by repeat (first | (with_reducible first | exact HB.out | apply below_alloc | apply pw_below_drewN | apply below_drew1 | refine below_set ?_ GE254.out) | exact HB.out)⟩⟩
         rw [if_neg c29] at H
         have c29b0 : decide (x9_4 < (l0_0.length : Int)) = false := decide_eq_false c29
         clear c29
         have H' := Aside0.mk H; clear H
         have hcz55_0 : wr.cell? ⟨gb254, 0, none⟩ = some (.slice A0_0 l0_0.length c0_0) := (blk_cell BK254.out 0).trans rfl
         have hcz55_1 : wr.cell? ⟨gb254, 1, none⟩ = some (.slice A0_1 l0_1.length c0_1) := (blk_cell BK254.out 1).trans rfl
         have hfz55_0 := blk_frozen BK254.out 0
         have hfz55_1 := blk_frozen BK254.out 1
         go_wp2
         go_loopg [90] k4 (fun kq v90 w' => ∃ (x90_5 : Int), v90 = .int .i64 x90_5 ∧ Aside0 (stillagelaw07_ReachBoth.l2 kq l1 (l0_0.length : Int) x6_2 t257 l0_1 (l0_1.length : Int) x90_5 l0_0 l0_1 = some r) ∧ Aside0 (kq ≤ k4) ∧ Aside0 (Kd.R (Kd.int .i64) 3 w' w.heap.size (fun _ => True) v258 t257) ∧ Aside0 (w'.heap[gb254]? = some (.cells #[(.slice A0_0 l0_0.length c0_0), (.slice A0_1 l0_1.length c0_1)] 25 (0, 0))) ∧ Aside0 (Below w.heap.size w w'))
         case atStart => exact ⟨(0), (by first | rfl | (simp; done) | (simp [*]; done)), H', ⟨Nat.le_refl _⟩, ⟨by (with_reducible repeat (first | apply Kd.R_alloc | apply Kd.R_drewN | apply Kd.R_drew)); exact HO_7.out⟩, ⟨by (with_reducible repeat (first | refine blk_drewN ?_ _ | refine blk_drew ?_ | refine blk_alloc ?_ _)); exact BK254.out⟩, ⟨by repeat (first | (with_reducible first | exact HB.out | apply below_alloc | apply pw_below_drewN | apply below_drew1 | refine below_set ?_ GE254.out) | exact HB.out)⟩⟩
         case round =>
          clear H'
          obtain ⟨x90_5, rfl, HA, HK5, HO_7, BK254, HB⟩ := hrel
          cases gk with
          | zero => exact absurd HA.out (by simp [stillagelaw07_ReachBoth.l2])
          | succ k5 =>
           have H := HA.out
           clear HA
           simp only [stillagelaw07_ReachBoth.l2] at H
           by_cases c56 : x90_5 < (l0_1.length : Int)
           rotate_left
           ·rw [if_neg c56] at H
            have c56b0 : decide (x90_5 < (l0_1.length : Int)) = false := decide_eq_false c56
            clear c56
            have H' := Aside0.mk H; clear H
            go_wp2
            go_roundg k5
            case measure => have := HJ4.out; have := HK2.out; have := HJ18.out; have := HK4.out; have := HK5.out; omega
            case rel => exact ⟨(wrap64 (x6_2 + 1)), (by first | rfl | (simp; done) | (simp [*]; done)), H', ⟨by have := HJ4.out; have := HK2.out; have := HJ18.out; have := HK4.out; have := HK5.out; omega⟩, ⟨by (with_reducible repeat (first | refine blk_drewN ?_ _ | refine blk_drew ?_ | refine blk_alloc ?_ _)); exact BK254.out⟩, ⟨by repeat (first | (with_reducible first | exact HB.out | apply below_alloc | apply pw_below_drewN | apply below_drew1 | refine below_set ?_ GE254.out) | exact HB.out)⟩⟩
           rw [if_pos c56] at H
           have c56b0 : decide (x90_5 < (l0_1.length : Int)) = true := decide_eq_true c56
           clear c56
           by_cases c57 : 0 ≤ x90_5
           rotate_left; ·rw [if_neg c57] at H; exact absurd H (by simp)
           rw [if_pos c57] at H
           have c57b0 : decide (0 ≤ x90_5) = true := decide_eq_true c57
           clear c57
           by_cases c58 : x90_5 < (l0_1.length : Int)
           rotate_left; ·rw [if_neg c58] at H; exact absurd H (by simp)
           rw [if_pos c58] at H
           have c58b0 : decide (x90_5 < (l0_1.length : Int)) = true := decide_eq_true c58
           clear c58
           replace H := Option.bind_eq_some_iff.mp H; obtain ⟨t270, A590, H⟩ := H
           replace H : (if t270 = true then (if 0 ≤ ((rd_T27 l0_1 x90_5).f0) then (if ((rd_T27 l0_1 x90_5).f0) < (t257.length : Int) then (if (rd t257 ((rd_T27 l0_1 x90_5).f0)) ≥ 0 then (if ((rd_T27 l0_1 x90_5).f0) = x6_2 then (if 0 ≤ ((rd_T27 l0_1 x90_5).f1) then (if ((rd_T27 l0_1 x90_5).f1) < (t257.length : Int) then (if (rd t257 ((rd_T27 l0_1 x90_5).f1)) < 0 then (some false) else (if (rd t257 ((rd_T27 l0_1 x90_5).f1)) > (wrap64 ((rd t257 ((rd_T27 l0_1 x90_5).f0)) + 1)) then (some false) else (stillagelaw07_ReachBoth.l2 k5 l1 (l0_0.length : Int) x6_2 t257 l0_1 (l0_1.length : Int) (wrap64 (x90_5 + 1)) l0_0 l0_1))) else (none)) else (none)) else (if ((rd_T27 l0_1 x90_5).f0) < (l0_0.length : Int) then (if ((rd_T43 l0_0 ((rd_T27 l0_1 x90_5).f0)).f1) = 1 then (if 0 ≤ ((rd_T27 l0_1 x90_5).f1) then (if ((rd_T27 l0_1 x90_5).f1) < (t257.length : Int) then (if (rd t257 ((rd_T27 l0_1 x90_5).f1)) < 0 then (some false) else (if (rd t257 ((rd_T27 l0_1 x90_5).f1)) > (wrap64 ((rd t257 ((rd_T27 l0_1 x90_5).f0)) + 1)) then (some false) else (stillagelaw07_ReachBoth.l2 k5 l1 (l0_0.length : Int) x6_2 t257 l0_1 (l0_1.length : Int) (wrap64 (x90_5 + 1)) l0_0 l0_1))) else (none)) else (none)) else (stillagelaw07_ReachBoth.l2 k5 l1 (l0_0.length : Int) x6_2 t257 l0_1 (l0_1.length : Int) (wrap64 (x90_5 + 1)) l0_0 l0_1)) else (none))) else (stillagelaw07_ReachBoth.l2 k5 l1 (l0_0.length : Int) x6_2 t257 l0_1 (l0_1.length : Int) (wrap64 (x90_5 + 1)) l0_0 l0_1)) else (none)) else (none)) else (stillagelaw07_ReachBoth.l2 k5 l1 (l0_0.length : Int) x6_2 t257 l0_1 (l0_1.length : Int) (wrap64 (x90_5 + 1)) l0_0 l0_1)) = some r := H
           have A59 := Aside0.mk A590
           clear A590
           by_cases c60 : t270 = true
           rotate_left
           ·replace c60 := Bool.eq_false_iff.mpr c60
            subst c60
            have H1 : (stillagelaw07_ReachBoth.l2 k5 l1 (l0_0.length : Int) x6_2 t257 l0_1 (l0_1.length : Int) (wrap64 (x90_5 + 1)) l0_0 l0_1) = some r := by rw [if_neg (show ¬ (false = true) by decide)] at H; exact H
            clear H; have H := H1; clear H1
            have H' := Aside0.mk H; clear H
            have p268 : 0 ≤ (x90_5 : Int) := of_decide_eq_true (by first | (with_reducible assumption) | assumption)
            have q268 : x90_5 < (l0_1.length : Int) := of_decide_eq_true (by first | (with_reducible assumption) | assumption)
            obtain ⟨ad268, e268, hx268_0, hx268_1⟩ := at_T27 HR0_1.out x90_5 p268 q268
            cases e268
            replace hx268_0 := (HB.out.cell (World.block_lt_of_cell? w _ hx268_0)).trans hx268_0
            replace hx268_1 := (HB.out.cell (World.block_lt_of_cell? w _ hx268_1)).trans hx268_1
            replace p268 := eq_true p268
            replace q268 := eq_true q268
            try go_wp2_with (first | ((with_reducible refine gate_dst (N := 13) rfl ?_); (try (refine gate_guard (by rfl) ?_; dsimp only)); refine box_event ?hg (N := 13) ?hd (cs := #[.int .i64 0, .int .i64 0]) (t := 27) ?hr ?_; (case hd => rfl); (case hg => rfl); (case hr => first | (go_simp; done) | (go_simp; rfl)); intro gb269 hg w123 hbox hb; replace HO_7 := Aside0.mk (Kd.R_below (by (with_reducible repeat (first | apply Kd.R_alloc | apply Kd.R_drewN | apply Kd.R_drew)); exact HO_7.out) hb); have BK269 := Aside0.mk (hbox); have GW269 := Aside0.mk ((by rw [hg]; exact (below_size (by repeat (first | (with_reducible first | exact HB.out | apply below_alloc | apply pw_below_drewN | apply below_drew1 | refine below_set ?_ GE254.out) | exact HB.out))) : w.heap.size ≤ gb269)); have GE269 := Aside0.mk ((by rw [hg]; exact (below_size (by repeat (first | (with_reducible first | exact HB.out | apply below_alloc | apply pw_below_drewN | apply below_drew1 | refine below_set ?_ GE254.out) | exact HB.out))) : w.heap.size ≤ gb269)); replace HB := Aside0.mk (below_step (by repeat (first | (with_reducible first | exact HB.out | apply below_alloc | apply pw_below_drewN | apply below_drew1 | refine below_set ?_ GE254.out) | exact HB.out)) hb); have NB254_269 := Aside0.mk ((by rw [hg]; exact Nat.ne_of_lt (blk_lt (g := gb254) (o := .cells #[.slice A0_0 l0_0.length c0_0, .slice (some ad268) l0_1.length c0_1] 25 (0, 0)) (by (with_reducible repeat (first | refine blk_drewN ?_ _ | refine blk_drew ?_ | refine blk_alloc ?_ _)); exact BK254.out)) : gb254 ≠ gb269)); have NB269_254 := Aside0.mk ((by rw [hg]; exact Nat.ne_of_gt (blk_lt (g := gb254) (o := .cells #[.slice A0_0 l0_0.length c0_0, .slice (some ad268) l0_1.length c0_1] 25 (0, 0)) (by (with_reducible repeat (first | refine blk_drewN ?_ _ | refine blk_drew ?_ | refine blk_alloc ?_ _)); exact BK254.out)) : gb269 ≠ gb254)); replace BK254 := Aside0.mk (blk_below (g := gb254) (o := .cells #[.slice A0_0 l0_0.length c0_0, .slice (some ad268) l0_1.length c0_1] 25 (0, 0)) (by (with_reducible repeat (first | refine blk_drewN ?_ _ | refine blk_drew ?_ | refine blk_alloc ?_ _)); exact BK254.out) hb); clear hb hbox hg; have hnb124 := NB269_254.out; have hnc124 := NB254_269.out; have hcz125_0 : w123.cell? ⟨gb269, 0, none⟩ = some (.int .i64 0) := (blk_cell BK269.out 0).trans rfl; have hcz125_1 : w123.cell? ⟨gb269, 1, none⟩ = some (.int .i64 0) := (blk_cell BK269.out 1).trans rfl; have hfz125_0 := blk_frozen BK269.out 0; have hfz125_1 := blk_frozen BK269.out 1))
            have n0_ : Aside0 (Kd.R (Kd.int .i64) 3 ((w123.setCell ⟨gb269, 0, none⟩ (.int .i64 ((rd_T27 l0_1 x90_5).f0))).setCell ⟨gb269, 1, none⟩ (.int .i64 ((rd_T27 l0_1 x90_5).f1))) w.heap.size (fun _ => True) v258 t257) := ⟨by (with_reducible repeat (first | apply Kd.R_alloc | apply Kd.R_drewN | apply Kd.R_drew)); exact Kd.R_mono (Kd.R_far (p := ⟨gb269, 1, none⟩) (Kd.R_far (p := ⟨gb269, 0, none⟩) (Kd.R_types HO_7.out BK269.out (by decide)) (fun _ hk => hk.2) (.int .i64 ((rd_T27 l0_1 x90_5).f0))) (fun _ hk => hk.2) (.int .i64 ((rd_T27 l0_1 x90_5).f1))) (fun _ hk => trivial)⟩
            have n1_ : Aside0 (((w123.setCell ⟨gb269, 0, none⟩ (.int .i64 ((rd_T27 l0_1 x90_5).f0))).setCell ⟨gb269, 1, none⟩ (.int .i64 ((rd_T27 l0_1 x90_5).f1))).heap[gb254]? = some (.cells #[.slice A0_0 l0_0.length c0_0, .slice (some ad268) l0_1.length c0_1] 25 (0, 0))) := ⟨by (with_reducible repeat (first | refine blk_drewN ?_ _ | refine blk_drew ?_ | refine blk_alloc ?_ _)); refine blk_far ?_ NB254_269.out _; (with_reducible repeat (first | refine blk_drewN ?_ _ | refine blk_drew ?_ | refine blk_alloc ?_ _)); refine blk_far ?_ NB254_269.out _; (with_reducible repeat (first | refine blk_drewN ?_ _ | refine blk_drew ?_ | refine blk_alloc ?_ _)); exact BK254.out⟩
            have n2_ : Aside0 (((w123.setCell ⟨gb269, 0, none⟩ (.int .i64 ((rd_T27 l0_1 x90_5).f0))).setCell ⟨gb269, 1, none⟩ (.int .i64 ((rd_T27 l0_1 x90_5).f1))).heap[gb269]? = some (.cells #[.int .i64 ((rd_T27 l0_1 x90_5).f0), .int .i64 ((rd_T27 l0_1 x90_5).f1)] 27 (0, 0))) := ⟨by (with_reducible repeat (first | refine blk_drewN ?_ _ | refine blk_drew ?_ | refine blk_alloc ?_ _)); refine blk_put (cs := #[.int .i64 ((rd_T27 l0_1 x90_5).f0), .int .i64 0]) ?_ 1 _ rfl; (with_reducible repeat (first | refine blk_drewN ?_ _ | refine blk_drew ?_ | refine blk_alloc ?_ _)); refine blk_put (cs := #[.int .i64 0, .int .i64 0]) ?_ 0 _ rfl; (with_reducible repeat (first | refine blk_drewN ?_ _ | refine blk_drew ?_ | refine blk_alloc ?_ _)); exact BK269.out⟩
            have n3_ : Aside0 (Below w.heap.size w ((w123.setCell ⟨gb269, 0, none⟩ (.int .i64 ((rd_T27 l0_1 x90_5).f0))).setCell ⟨gb269, 1, none⟩ (.int .i64 ((rd_T27 l0_1 x90_5).f1)))) := ⟨by repeat (first | (with_reducible first | exact HB.out | apply below_alloc | apply pw_below_drewN | apply below_drew1 | refine below_set ?_ GE254.out | refine below_set ?_ GE269.out) | exact HB.out)⟩
            generalize ((w123.setCell ⟨gb269, 0, none⟩ (.int .i64 ((rd_T27 l0_1 x90_5).f0))).setCell ⟨gb269, 1, none⟩ (.int .i64 ((rd_T27 l0_1 x90_5).f1))) = w126 at n0_ n1_ n2_ n3_ ⊢
            have HO_7 := n0_
            have BK254 := n1_
            have BK269 := n2_
            have HB := n3_
            clear n0_ n1_ n2_ n3_
            have n0_ := Aside0.mk (Kd.R_drew HO_7.out)
            have n1_ := Aside0.mk (blk_drew BK254.out)
            have n2_ := Aside0.mk (blk_drew BK269.out)
            have n3_ := Aside0.mk (below_drew1 HB.out)
            clear HO_7
            clear BK254
            clear BK269
            clear HB
            have HO_7 := n0_
            have BK254 := n1_
            have BK269 := n2_
            have HB := n3_
            clear n0_ n1_ n2_ n3_
            refine start_ (n := 50) (S := fun w' => True) (ds := []) bq23 (by kernel_rfl) rfl rfl trivial (fun hHeld => ?_); refine with_tabW stillagelaw07_ReachBoth.tab21 stillagelaw07_ReachBoth.bits21 (fun HT_ HW_ => ?_)
            generalize w126.drew = w127 at HO_7 BK254 BK269 HB hHeld ⊢
            refine pp_ 0 95 (v := ?_) (a' := ?_) bq24 HT_ rfl rfl ?_ ?_ ?_
            rotate_left; ·intro w'; go_simp; with_reducible rfl
            rotate_left; ·simp only [Act.put, sa, sz, ss, i64_w, i32_w]; rfl
            refine pp_ 1 96 (v := ?_) (a' := ?_) bq25 HT_ rfl rfl ?_ ?_ ?_
            rotate_left; ·intro w'; go_simp; with_reducible rfl
            rotate_left; ·simp only [Act.put, sa, sz, ss, i64_w, i32_w]; rfl
            refine pp_ 2 97 (v := ?_) (a' := ?_) bq26 HT_ rfl rfl ?_ ?_ ?_
            rotate_left; ·intro w'; go_simp; with_reducible rfl
            rotate_left; ·simp only [Act.put, sa, sz, ss, i64_w, i32_w]; rfl
            refine one_ (i := 3) (N := some 98) bq27 rfl rfl (one_of HT_.out (by kernel_rfl)) (by decide) (fun K hK => ?_)
            refine goes_ Try.func21 (by kernel_rfl) rfl #[.slice A1 l1.length c1, .int .i64 (wrap64 (x90_5 + 1))] (by rfl) rfl rfl (by (try simp only [List.map_toArray, List.map_cons, List.map_nil]); first | done | rfl | (simp only [List.length_drop, List.length_take]; rfl)) ?_
            with_reducible refine (stillageref07_Open.calls k5 _ _ l1 (wrap64 (x90_5 + 1)) false _ ?side1 ?side2 A59.out).mono ?_
            (case side1 => repeat (first | exact (Kd.C_below HR1.out HB.out) | (with_reducible refine Kd.C_alloc ?_ _) | (with_reducible refine Kd.C_drewN ?_ _) | (with_reducible refine Kd.C_drew ?_)))
            (case side2 => exact HC1.out)
            rintro e w' ⟨rfl, ⟨nd, rfl⟩⟩
            refine ⟨_, rfl, ?_⟩
            refine hK.out _ _ trivial (fun hHeld => ?_)
            clear hK K
            refine norm_ (a' := ?_) ?_ ?_
            rotate_left
            ·show Act.put _ (some 98) _ = _
             simp only [Act.put, sa, sz, ss, i64_w, i32_w]
             rfl
            refine pp_ 4 99 (v := ?_) (a' := ?_) bq28 HT_ rfl rfl ?_ ?_ ?_
            rotate_left; ·intro w'; go_simp; with_reducible rfl
            rotate_left; ·simp only [Act.put, sa, sz, ss, i64_w, i32_w]; rfl
            refine pu_ 5 100 (a' := ?_) bq29 HT_ rfl rfl ?_ ?_
            rotate_left; ·simp only [Act.put, sa, sz, ss, i64_w, i32_w]; rfl
            refine pu_ 6 101 (a' := ?_) bq30 HT_ rfl rfl ?_ ?_
            rotate_left; ·simp only [Act.put, sa, sz, ss, i64_w, i32_w]; rfl
            refine pu_ 7 102 (a' := ?_) bq31 HT_ rfl rfl ?_ ?_
            rotate_left; ·simp only [Act.put, sa, sz, ss, i64_w, i32_w]; rfl
            refine pu_ 8 103 (a' := ?_) bq32 HT_ rfl rfl ?_ ?_
            rotate_left; ·simp only [Act.put, sa, sz, ss, i64_w, i32_w]; rfl
            refine pu_ 9 104 (a' := ?_) bq33 HT_ rfl rfl ?_ ?_
            rotate_left; ·simp only [Act.put, sa, sz, ss, i64_w, i32_w]; rfl
            refine pu_ 10 105 (a' := ?_) bq34 HT_ rfl rfl ?_ ?_
            rotate_left; ·simp only [Act.put, sa, sz, ss, i64_w, i32_w]; rfl
            refine pp_ 11 106 (v := ?_) (a' := ?_) bq35 HT_ rfl rfl ?_ ?_ ?_
            rotate_left; ·intro w'; go_simp; with_reducible rfl
            rotate_left; ·simp only [Act.put, sa, sz, ss, i64_w, i32_w]; rfl
            refine pp_ 12 107 (v := ?_) (a' := ?_) bq36 HT_ rfl rfl ?_ ?_ ?_
            rotate_left; ·intro w'; go_simp; with_reducible rfl
            rotate_left; ·simp only [Act.put, sa, sz, ss, i64_w, i32_w]; rfl
            refine pu_ 13 108 (a' := ?_) bq37 HT_ rfl rfl ?_ ?_
            rotate_left; ·simp only [Act.put, sa, sz, ss, i64_w, i32_w]; rfl
            refine pu_ 14 109 (a' := ?_) bq38 HT_ rfl rfl ?_ ?_
            rotate_left; ·simp only [Act.put, sa, sz, ss, i64_w, i32_w]; rfl
            refine pu_ 15 110 (a' := ?_) bq39 HT_ rfl rfl ?_ ?_
            rotate_left; ·simp only [Act.put, sa, sz, ss, i64_w, i32_w]; rfl
            refine pu_ 16 111 (a' := ?_) bq40 HT_ rfl rfl ?_ ?_
            rotate_left; ·simp only [Act.put, sa, sz, ss, i64_w, i32_w]; rfl
            refine pu_ 17 112 (a' := ?_) bq41 HT_ rfl rfl ?_ ?_
            rotate_left; ·simp only [Act.put, sa, sz, ss, i64_w, i32_w]; rfl
            refine pu_ 18 113 (a' := ?_) bq42 HT_ rfl rfl ?_ ?_
            rotate_left; ·simp only [Act.put, sa, sz, ss, i64_w, i32_w]; rfl
            refine pu_ 19 114 (a' := ?_) bq43 HT_ rfl rfl ?_ ?_
            rotate_left; ·simp only [Act.put, sa, sz, ss, i64_w, i32_w]; rfl
            refine pu_ 20 115 (a' := ?_) bq44 HT_ rfl rfl ?_ ?_
            rotate_left; ·simp only [Act.put, sa, sz, ss, i64_w, i32_w]; rfl
            refine pu_ 21 116 (a' := ?_) bq45 HT_ rfl rfl ?_ ?_
            rotate_left; ·simp only [Act.put, sa, sz, ss, i64_w, i32_w]; rfl
            refine pu_ 22 117 (a' := ?_) bq46 HT_ rfl rfl ?_ ?_
            rotate_left; ·simp only [Act.put, sa, sz, ss, i64_w, i32_w]; rfl
            refine pu_ 23 118 (a' := ?_) bq47 HT_ rfl rfl ?_ ?_
            rotate_left; ·simp only [Act.put, sa, sz, ss, i64_w, i32_w]; rfl
            refine pu_ 24 119 (a' := ?_) bq48 HT_ rfl rfl ?_ ?_
            rotate_left; ·simp only [Act.put, sa, sz, ss, i64_w, i32_w]; rfl
            refine pu_ 25 120 (a' := ?_) bq49 HT_ rfl rfl ?_ ?_
            rotate_left; ·simp only [Act.put, sa, sz, ss, i64_w, i32_w]; rfl
            refine pu_ 26 121 (a' := ?_) bq50 HT_ rfl rfl ?_ ?_
            rotate_left; ·simp only [Act.put, sa, sz, ss, i64_w, i32_w]; rfl
            refine pp_ 27 122 (v := ?_) (a' := ?_) bq51 HT_ rfl rfl ?_ ?_ ?_
            rotate_left; ·intro w'; go_simp; with_reducible rfl
            rotate_left; ·simp only [Act.put, sa, sz, ss, i64_w, i32_w]; rfl
            refine pp_ 28 123 (v := ?_) (a' := ?_) bq52 HT_ rfl rfl ?_ ?_ ?_
            rotate_left; ·intro w'; go_simp; with_reducible rfl
            rotate_left; ·simp only [Act.put, sa, sz, ss, i64_w, i32_w]; rfl
            refine pu_ 29 124 (a' := ?_) bq53 HT_ rfl rfl ?_ ?_
            rotate_left; ·simp only [Act.put, sa, sz, ss, i64_w, i32_w]; rfl
            refine pu_ 30 125 (a' := ?_) bq54 HT_ rfl rfl ?_ ?_
            rotate_left; ·simp only [Act.put, sa, sz, ss, i64_w, i32_w]; rfl
            refine pu_ 31 126 (a' := ?_) bq55 HT_ rfl rfl ?_ ?_
            rotate_left; ·simp only [Act.put, sa, sz, ss, i64_w, i32_w]; rfl
            refine pu_ 32 127 (a' := ?_) bq56 HT_ rfl rfl ?_ ?_
            rotate_left; ·simp only [Act.put, sa, sz, ss, i64_w, i32_w]; rfl
            refine pu_ 33 128 (a' := ?_) bq57 HT_ rfl rfl ?_ ?_
            rotate_left; ·simp only [Act.put, sa, sz, ss, i64_w, i32_w]; rfl
            refine pu_ 34 129 (a' := ?_) bq58 HT_ rfl rfl ?_ ?_
            rotate_left; ·simp only [Act.put, sa, sz, ss, i64_w, i32_w]; rfl
            refine pu_ 35 130 (a' := ?_) bq59 HT_ rfl rfl ?_ ?_
            rotate_left; ·simp only [Act.put, sa, sz, ss, i64_w, i32_w]; rfl
            refine pu_ 36 131 (a' := ?_) bq60 HT_ rfl rfl ?_ ?_
            rotate_left; ·simp only [Act.put, sa, sz, ss, i64_w, i32_w]; rfl
            refine pu_ 37 132 (a' := ?_) bq61 HT_ rfl rfl ?_ ?_
            rotate_left; ·simp only [Act.put, sa, sz, ss, i64_w, i32_w]; rfl
            refine pu_ 38 133 (a' := ?_) bq62 HT_ rfl rfl ?_ ?_
            rotate_left; ·simp only [Act.put, sa, sz, ss, i64_w, i32_w]; rfl
            refine pu_ 39 134 (a' := ?_) bq63 HT_ rfl rfl ?_ ?_
            rotate_left; ·simp only [Act.put, sa, sz, ss, i64_w, i32_w]; rfl
            refine pu_ 40 135 (a' := ?_) bq64 HT_ rfl rfl ?_ ?_
            rotate_left; ·simp only [Act.put, sa, sz, ss, i64_w, i32_w]; rfl
            refine pu_ 41 136 (a' := ?_) bq65 HT_ rfl rfl ?_ ?_
            rotate_left; ·simp only [Act.put, sa, sz, ss, i64_w, i32_w]; rfl
            refine pu_ 42 137 (a' := ?_) bq66 HT_ rfl rfl ?_ ?_
            rotate_left; ·simp only [Act.put, sa, sz, ss, i64_w, i32_w]; rfl
            refine pu_ 43 138 (a' := ?_) bq67 HT_ rfl rfl ?_ ?_
            rotate_left; ·simp only [Act.put, sa, sz, ss, i64_w, i32_w]; rfl
            refine pu_ 44 139 (a' := ?_) bq68 HT_ rfl rfl ?_ ?_
            rotate_left; ·simp only [Act.put, sa, sz, ss, i64_w, i32_w]; rfl
            refine pu_ 45 140 (a' := ?_) bq69 HT_ rfl rfl ?_ ?_
            rotate_left; ·simp only [Act.put, sa, sz, ss, i64_w, i32_w]; rfl
            refine pu_ 46 141 (a' := ?_) bq70 HT_ rfl rfl ?_ ?_
            rotate_left; ·simp only [Act.put, sa, sz, ss, i64_w, i32_w]; rfl
            refine pu_ 47 142 (a' := ?_) bq71 HT_ rfl rfl ?_ ?_
            rotate_left; ·simp only [Act.put, sa, sz, ss, i64_w, i32_w]; rfl
            refine pu_ 48 143 (a' := ?_) bq72 HT_ rfl rfl ?_ ?_
            rotate_left; ·simp only [Act.put, sa, sz, ss, i64_w, i32_w]; rfl
            refine pp_ 49 144 (v := ?_) (a' := ?_) bq73 HT_ rfl rfl ?_ ?_ ?_
            rotate_left; ·intro w'; go_simp; with_reducible rfl
            rotate_left; ·simp only [Act.put, sa, sz, ss, i64_w, i32_w]; rfl
            refine done_ (done_of HT_.out (by kernel_rfl)) ?_
            try go_wp2
            go_roundg k5
            case measure => have := HJ4.out; have := HK2.out; have := HJ18.out; have := HK4.out; have := HK5.out; omega
            case rel => exact ⟨(wrap64 (x90_5 + 1)), (by first | rfl | (simp; done) | (simp [*]; done)), H', ⟨by have := HJ4.out; have := HK2.out; have := HJ18.out; have := HK4.out; have := HK5.out; omega⟩, ⟨by (with_reducible repeat (first | apply Kd.R_alloc | apply Kd.R_drewN | apply Kd.R_drew)); exact HO_7.out⟩, ⟨by (with_reducible repeat (first | refine blk_drewN ?_ _ | refine blk_drew ?_ | refine blk_alloc ?_ _)); exact BK254.out⟩, ⟨by repeat (first | (with_reducible first | exact HB.out | apply below_alloc | apply pw_below_drewN | apply below_drew1 | refine below_set ?_ GE254.out | refine below_set ?_ GE269.out) | exact HB.out)⟩⟩
           subst c60
           have H1 : (if 0 ≤ ((rd_T27 l0_1 x90_5).f0) then (if ((rd_T27 l0_1 x90_5).f0) < (t257.length : Int) then (if (rd t257 ((rd_T27 l0_1 x90_5).f0)) ≥ 0 then (if ((rd_T27 l0_1 x90_5).f0) = x6_2 then (if 0 ≤ ((rd_T27 l0_1 x90_5).f1) then (if ((rd_T27 l0_1 x90_5).f1) < (t257.length : Int) then (if (rd t257 ((rd_T27 l0_1 x90_5).f1)) < 0 then (some false) else (if (rd t257 ((rd_T27 l0_1 x90_5).f1)) > (wrap64 ((rd t257 ((rd_T27 l0_1 x90_5).f0)) + 1)) then (some false) else (stillagelaw07_ReachBoth.l2 k5 l1 (l0_0.length : Int) x6_2 t257 l0_1 (l0_1.length : Int) (wrap64 (x90_5 + 1)) l0_0 l0_1))) else (none)) else (none)) else (if ((rd_T27 l0_1 x90_5).f0) < (l0_0.length : Int) then (if ((rd_T43 l0_0 ((rd_T27 l0_1 x90_5).f0)).f1) = 1 then (if 0 ≤ ((rd_T27 l0_1 x90_5).f1) then (if ((rd_T27 l0_1 x90_5).f1) < (t257.length : Int) then (if (rd t257 ((rd_T27 l0_1 x90_5).f1)) < 0 then (some false) else (if (rd t257 ((rd_T27 l0_1 x90_5).f1)) > (wrap64 ((rd t257 ((rd_T27 l0_1 x90_5).f0)) + 1)) then (some false) else (stillagelaw07_ReachBoth.l2 k5 l1 (l0_0.length : Int) x6_2 t257 l0_1 (l0_1.length : Int) (wrap64 (x90_5 + 1)) l0_0 l0_1))) else (none)) else (none)) else (stillagelaw07_ReachBoth.l2 k5 l1 (l0_0.length : Int) x6_2 t257 l0_1 (l0_1.length : Int) (wrap64 (x90_5 + 1)) l0_0 l0_1)) else (none))) else (stillagelaw07_ReachBoth.l2 k5 l1 (l0_0.length : Int) x6_2 t257 l0_1 (l0_1.length : Int) (wrap64 (x90_5 + 1)) l0_0 l0_1)) else (none)) else (none)) = some r := by rw [if_pos rfl] at H; exact H
           clear H; have H := H1; clear H1
           by_cases c61 : 0 ≤ ((rd_T27 l0_1 x90_5).f0)
           rotate_left; ·rw [if_neg c61] at H; exact absurd H (by simp)
           rw [if_pos c61] at H
           have c61b0 : decide (0 ≤ ((rd_T27 l0_1 x90_5).f0)) = true := decide_eq_true c61
           clear c61
           by_cases c62 : ((rd_T27 l0_1 x90_5).f0) < (t257.length : Int)
           rotate_left; ·rw [if_neg c62] at H; exact absurd H (by simp)
           rw [if_pos c62] at H
           have c62b0 : decide (((rd_T27 l0_1 x90_5).f0) < (t257.length : Int)) = true := decide_eq_true c62
           clear c62
           by_cases c63 : (rd t257 ((rd_T27 l0_1 x90_5).f0)) ≥ 0
           rotate_left
           ·rw [if_neg c63] at H
            have c63b0 : decide (0 ≤ (rd t257 ((rd_T27 l0_1 x90_5).f0))) = false := decide_eq_false c63
            clear c63
            have H' := Aside0.mk H; clear H
            have p268 : 0 ≤ (x90_5 : Int) := of_decide_eq_true (by first | (with_reducible assumption) | assumption)
            have q268 : x90_5 < (l0_1.length : Int) := of_decide_eq_true (by first | (with_reducible assumption) | assumption)
            obtain ⟨ad268, e268, hx268_0, hx268_1⟩ := at_T27 HR0_1.out x90_5 p268 q268
            cases e268
            replace hx268_0 := (HB.out.cell (World.block_lt_of_cell? w _ hx268_0)).trans hx268_0
            replace hx268_1 := (HB.out.cell (World.block_lt_of_cell? w _ hx268_1)).trans hx268_1
            replace p268 := eq_true p268
            replace q268 := eq_true q268
            try go_wp2_with (first | ((with_reducible refine gate_dst (N := 13) rfl ?_); (try (refine gate_guard (by rfl) ?_; dsimp only)); refine box_event ?hg (N := 13) ?hd (cs := #[.int .i64 0, .int .i64 0]) (t := 27) ?hr ?_; (case hd => rfl); (case hg => rfl); (case hr => first | (go_simp; done) | (go_simp; rfl)); intro gb269 hg w117 hbox hb; replace HO_7 := Aside0.mk (Kd.R_below (by (with_reducible repeat (first | apply Kd.R_alloc | apply Kd.R_drewN | apply Kd.R_drew)); exact HO_7.out) hb); have BK269 := Aside0.mk (hbox); have GW269 := Aside0.mk ((by rw [hg]; exact (below_size (by repeat (first | (with_reducible first | exact HB.out | apply below_alloc | apply pw_below_drewN | apply below_drew1 | refine below_set ?_ GE254.out) | exact HB.out))) : w.heap.size ≤ gb269)); have GE269 := Aside0.mk ((by rw [hg]; exact (below_size (by repeat (first | (with_reducible first | exact HB.out | apply below_alloc | apply pw_below_drewN | apply below_drew1 | refine below_set ?_ GE254.out) | exact HB.out))) : w.heap.size ≤ gb269)); replace HB := Aside0.mk (below_step (by repeat (first | (with_reducible first | exact HB.out | apply below_alloc | apply pw_below_drewN | apply below_drew1 | refine below_set ?_ GE254.out) | exact HB.out)) hb); have NB254_269 := Aside0.mk ((by rw [hg]; exact Nat.ne_of_lt (blk_lt (g := gb254) (o := .cells #[.slice A0_0 l0_0.length c0_0, .slice (some ad268) l0_1.length c0_1] 25 (0, 0)) (by (with_reducible repeat (first | refine blk_drewN ?_ _ | refine blk_drew ?_ | refine blk_alloc ?_ _)); exact BK254.out)) : gb254 ≠ gb269)); have NB269_254 := Aside0.mk ((by rw [hg]; exact Nat.ne_of_gt (blk_lt (g := gb254) (o := .cells #[.slice A0_0 l0_0.length c0_0, .slice (some ad268) l0_1.length c0_1] 25 (0, 0)) (by (with_reducible repeat (first | refine blk_drewN ?_ _ | refine blk_drew ?_ | refine blk_alloc ?_ _)); exact BK254.out)) : gb269 ≠ gb254)); replace BK254 := Aside0.mk (blk_below (g := gb254) (o := .cells #[.slice A0_0 l0_0.length c0_0, .slice (some ad268) l0_1.length c0_1] 25 (0, 0)) (by (with_reducible repeat (first | refine blk_drewN ?_ _ | refine blk_drew ?_ | refine blk_alloc ?_ _)); exact BK254.out) hb); clear hb hbox hg; have hnb118 := NB269_254.out; have hnc118 := NB254_269.out; have hcz119_0 : w117.cell? ⟨gb269, 0, none⟩ = some (.int .i64 0) := (blk_cell BK269.out 0).trans rfl; have hcz119_1 : w117.cell? ⟨gb269, 1, none⟩ = some (.int .i64 0) := (blk_cell BK269.out 1).trans rfl; have hfz119_0 := blk_frozen BK269.out 0; have hfz119_1 := blk_frozen BK269.out 1))
            have n0_ : Aside0 (Kd.R (Kd.int .i64) 3 ((w117.setCell ⟨gb269, 0, none⟩ (.int .i64 ((rd_T27 l0_1 x90_5).f0))).setCell ⟨gb269, 1, none⟩ (.int .i64 ((rd_T27 l0_1 x90_5).f1))) w.heap.size (fun _ => True) v258 t257) := ⟨by (with_reducible repeat (first | apply Kd.R_alloc | apply Kd.R_drewN | apply Kd.R_drew)); exact Kd.R_mono (Kd.R_far (p := ⟨gb269, 1, none⟩) (Kd.R_far (p := ⟨gb269, 0, none⟩) (Kd.R_types HO_7.out BK269.out (by decide)) (fun _ hk => hk.2) (.int .i64 ((rd_T27 l0_1 x90_5).f0))) (fun _ hk => hk.2) (.int .i64 ((rd_T27 l0_1 x90_5).f1))) (fun _ hk => trivial)⟩
            have n1_ : Aside0 (((w117.setCell ⟨gb269, 0, none⟩ (.int .i64 ((rd_T27 l0_1 x90_5).f0))).setCell ⟨gb269, 1, none⟩ (.int .i64 ((rd_T27 l0_1 x90_5).f1))).heap[gb254]? = some (.cells #[.slice A0_0 l0_0.length c0_0, .slice (some ad268) l0_1.length c0_1] 25 (0, 0))) := ⟨by (with_reducible repeat (first | refine blk_drewN ?_ _ | refine blk_drew ?_ | refine blk_alloc ?_ _)); refine blk_far ?_ NB254_269.out _; (with_reducible repeat (first | refine blk_drewN ?_ _ | refine blk_drew ?_ | refine blk_alloc ?_ _)); refine blk_far ?_ NB254_269.out _; (with_reducible repeat (first | refine blk_drewN ?_ _ | refine blk_drew ?_ | refine blk_alloc ?_ _)); exact BK254.out⟩
            have n2_ : Aside0 (((w117.setCell ⟨gb269, 0, none⟩ (.int .i64 ((rd_T27 l0_1 x90_5).f0))).setCell ⟨gb269, 1, none⟩ (.int .i64 ((rd_T27 l0_1 x90_5).f1))).heap[gb269]? = some (.cells #[.int .i64 ((rd_T27 l0_1 x90_5).f0), .int .i64 ((rd_T27 l0_1 x90_5).f1)] 27 (0, 0))) := ⟨by (with_reducible repeat (first | refine blk_drewN ?_ _ | refine blk_drew ?_ | refine blk_alloc ?_ _)); refine blk_put (cs := #[.int .i64 ((rd_T27 l0_1 x90_5).f0), .int .i64 0]) ?_ 1 _ rfl; (with_reducible repeat (first | refine blk_drewN ?_ _ | refine blk_drew ?_ | refine blk_alloc ?_ _)); refine blk_put (cs := #[.int .i64 0, .int .i64 0]) ?_ 0 _ rfl; (with_reducible repeat (first | refine blk_drewN ?_ _ | refine blk_drew ?_ | refine blk_alloc ?_ _)); exact BK269.out⟩
            have n3_ : Aside0 (Below w.heap.size w ((w117.setCell ⟨gb269, 0, none⟩ (.int .i64 ((rd_T27 l0_1 x90_5).f0))).setCell ⟨gb269, 1, none⟩ (.int .i64 ((rd_T27 l0_1 x90_5).f1)))) := ⟨by repeat (first | (with_reducible first | exact HB.out | apply below_alloc | apply pw_below_drewN | apply below_drew1 | refine below_set ?_ GE254.out | refine below_set ?_ GE269.out) | exact HB.out)⟩
            generalize ((w117.setCell ⟨gb269, 0, none⟩ (.int .i64 ((rd_T27 l0_1 x90_5).f0))).setCell ⟨gb269, 1, none⟩ (.int .i64 ((rd_T27 l0_1 x90_5).f1))) = w120 at n0_ n1_ n2_ n3_ ⊢
            have HO_7 := n0_
            have BK254 := n1_
            have BK269 := n2_
            have HB := n3_
            clear n0_ n1_ n2_ n3_
            have n0_ := Aside0.mk (Kd.R_drew HO_7.out)
            have n1_ := Aside0.mk (blk_drew BK254.out)
            have n2_ := Aside0.mk (blk_drew BK269.out)
            have n3_ := Aside0.mk (below_drew1 HB.out)
            clear HO_7
            clear BK254
            clear BK269
            clear HB
            have HO_7 := n0_
            have BK254 := n1_
            have BK269 := n2_
            have HB := n3_
            clear n0_ n1_ n2_ n3_
            obtain ⟨Ao97, co97, eo97⟩ := Kd.R_slice HO_7.out
            (first | subst eo97 | (injection eo97 with f1_ f2_ f3_; have f4_ := f1_.symm; have f5_ := f3_.symm; clear f1_ f2_ f3_; subst f4_; subst f5_))
            have p271 : 0 ≤ (((rd_T27 l0_1 x90_5).f0) : Int) := of_decide_eq_true (by first | (with_reducible assumption) | assumption)
            have q271 : ((rd_T27 l0_1 x90_5).f0) < (t257.length : Int) := of_decide_eq_true (by first | (with_reducible assumption) | assumption)
            obtain ⟨ad271, e271, hx271_0⟩ := Kd.at_int (Kd.R_reads' HO_7.out).2.2 ((rd_T27 l0_1 x90_5).f0) p271 q271
            cases e271
            replace p271 := eq_true p271
            replace q271 := eq_true q271
            refine start_ (n := 50) (S := fun w' => w'.cell? ⟨gb269, 0, none⟩ = some (.int .i64 ((rd_T27 l0_1 x90_5).f0)) ∧ w'.cell? ⟨gb269, 1, none⟩ = some (.int .i64 ((rd_T27 l0_1 x90_5).f1)) ∧ w'.cell? (ad271.add (((rd_T27 l0_1 x90_5).f0)).toNat) = some (.int .i64 (rd t257 ((rd_T27 l0_1 x90_5).f0)))) (ds := []) bq23 (by kernel_rfl) rfl rfl ⟨(blk_cell BK269.out 0).trans rfl, (blk_cell BK269.out 1).trans rfl, hx271_0⟩ (fun hHeld => ?_); refine with_tabW stillagelaw07_ReachBoth.tab21 stillagelaw07_ReachBoth.bits21 (fun HT_ HW_ => ?_)
            generalize w120.drew = w121 at HO_7 BK254 BK269 HB hx271_0 hHeld ⊢
            refine pp_ 0 95 (v := ?_) (a' := ?_) bq24 HT_ rfl rfl ?_ ?_ ?_
            rotate_left; ·intro w'; go_simp; with_reducible rfl
            rotate_left; ·simp only [Act.put, sa, sz, ss, i64_w, i32_w]; rfl
            refine pp_ 1 96 (v := ?_) (a' := ?_) bq25 HT_ rfl rfl ?_ ?_ ?_
            rotate_left; ·intro w'; go_simp; with_reducible rfl
            rotate_left; ·simp only [Act.put, sa, sz, ss, i64_w, i32_w]; rfl
            refine pp_ 2 97 (v := ?_) (a' := ?_) bq26 HT_ rfl rfl ?_ ?_ ?_
            rotate_left; ·intro w'; go_simp; with_reducible rfl
            rotate_left; ·simp only [Act.put, sa, sz, ss, i64_w, i32_w]; rfl
            refine one_ (i := 3) (N := some 98) bq27 rfl rfl (one_of HT_.out (by kernel_rfl)) (by decide) (fun K hK => ?_)
            refine goes_ Try.func21 (by kernel_rfl) rfl #[.slice A1 l1.length c1, .int .i64 (wrap64 (x90_5 + 1))] (by rfl) rfl rfl (by (try simp only [List.map_toArray, List.map_cons, List.map_nil]); first | done | rfl | (simp only [List.length_drop, List.length_take]; rfl)) ?_
            with_reducible refine (stillageref07_Open.calls k5 _ _ l1 (wrap64 (x90_5 + 1)) true _ ?side1 ?side2 A59.out).mono ?_
            (case side1 => repeat (first | exact (Kd.C_below HR1.out HB.out) | (with_reducible refine Kd.C_alloc ?_ _) | (with_reducible refine Kd.C_drewN ?_ _) | (with_reducible refine Kd.C_drew ?_)))
            (case side2 => exact HC1.out)
            rintro e w' ⟨rfl, ⟨nd, rfl⟩⟩
            refine ⟨_, rfl, ?_⟩
            obtain ⟨Ao122, co122, eo122⟩ := Kd.R_slice HO_7.out
            (first | subst eo122 | (injection eo122 with f1_ f2_ f3_; have f4_ := f1_.symm; have f5_ := f3_.symm; clear f1_ f2_ f3_; subst f4_; subst f5_))
            refine hK.out _ _ ⟨(blk_cell BK269.out 0).trans rfl, (blk_cell BK269.out 1).trans rfl, hHeld.2.2⟩ (fun hHeld => ?_)
            clear hK K
            refine norm_ (a' := ?_) ?_ ?_
            rotate_left
            ·show Act.put _ (some 98) _ = _
             simp only [Act.put, sa, sz, ss, i64_w, i32_w]
             rfl
            refine pp_ 4 99 (v := ?_) (a' := ?_) bq28 HT_ rfl rfl ?_ ?_ ?_
            rotate_left; ·intro w'; go_simp; with_reducible rfl
            rotate_left; ·simp only [Act.put, sa, sz, ss, i64_w, i32_w]; rfl
            refine pp_ 5 100 (v := ?_) (a' := ?_) bq29 HT_ rfl rfl ?_ ?_ ?_
            rotate_left; ·intro w'; go_simp; with_reducible rfl
            rotate_left; ·simp only [Act.put, sa, sz, ss, i64_w, i32_w]; rfl
            refine pp_ 6 101 (v := ?_) (a' := ?_) bq30 HT_ rfl rfl ?_ ?_ ?_
            rotate_left; ·intro w'; go_simp; with_reducible rfl
            rotate_left; ·simp only [Act.put, sa, sz, ss, i64_w, i32_w]; rfl
            refine take_ (i := 7) (N := some 102) (v := ?_) (a' := ?_) bq31 rfl rfl (take_ofW HT_.out HW_.out (by kernel_rfl)) (fun _ _ _ h => h) (Or.inl ⟨by rfl, ?_⟩) hHeld ?_ ?_
            rotate_left
            ·rintro w' ⟨s0, s1, s2⟩
             go_simp
             with_reducible rfl
            rotate_left; ·simp only [Act.put, sa, sz, ss, i64_w, i32_w]; rfl
            refine pp_ 8 103 (v := ?_) (a' := ?_) bq32 HT_ rfl rfl ?_ ?_ ?_
            rotate_left; ·intro w'; go_simp; with_reducible rfl
            rotate_left; ·simp only [Act.put, sa, sz, ss, i64_w, i32_w]; rfl
            refine take_ (i := 9) (N := some 104) (v := ?_) (a' := ?_) bq33 rfl rfl (take_ofW HT_.out HW_.out (by kernel_rfl)) (fun _ _ _ h => h) (Or.inl ⟨by rfl, ?_⟩) hHeld ?_ ?_
            rotate_left
            ·rintro w' ⟨s0, s1, s2⟩
             go_simp
             with_reducible rfl
            rotate_left; ·simp only [Act.put, sa, sz, ss, i64_w, i32_w]; rfl
            refine pp_ 10 105 (v := ?_) (a' := ?_) bq34 HT_ rfl rfl ?_ ?_ ?_
            rotate_left; ·intro w'; go_simp; with_reducible rfl
            rotate_left; ·simp only [Act.put, sa, sz, ss, i64_w, i32_w]; rfl
            refine pp_ 11 106 (v := ?_) (a' := ?_) bq35 HT_ rfl rfl ?_ ?_ ?_
            rotate_left; ·intro w'; go_simp; with_reducible rfl
            rotate_left; ·simp only [Act.put, sa, sz, ss, i64_w, i32_w]; rfl
            refine pp_ 12 107 (v := ?_) (a' := ?_) bq36 HT_ rfl rfl ?_ ?_ ?_
            rotate_left; ·intro w'; go_simp; with_reducible rfl
            rotate_left; ·simp only [Act.put, sa, sz, ss, i64_w, i32_w]; rfl
            refine pu_ 13 108 (a' := ?_) bq37 HT_ rfl rfl ?_ ?_
            rotate_left; ·simp only [Act.put, sa, sz, ss, i64_w, i32_w]; rfl
            refine pu_ 14 109 (a' := ?_) bq38 HT_ rfl rfl ?_ ?_
            rotate_left; ·simp only [Act.put, sa, sz, ss, i64_w, i32_w]; rfl
            refine pu_ 15 110 (a' := ?_) bq39 HT_ rfl rfl ?_ ?_
            rotate_left; ·simp only [Act.put, sa, sz, ss, i64_w, i32_w]; rfl
            refine pu_ 16 111 (a' := ?_) bq40 HT_ rfl rfl ?_ ?_
            rotate_left; ·simp only [Act.put, sa, sz, ss, i64_w, i32_w]; rfl
            refine pu_ 17 112 (a' := ?_) bq41 HT_ rfl rfl ?_ ?_
            rotate_left; ·simp only [Act.put, sa, sz, ss, i64_w, i32_w]; rfl
            refine pu_ 18 113 (a' := ?_) bq42 HT_ rfl rfl ?_ ?_
            rotate_left; ·simp only [Act.put, sa, sz, ss, i64_w, i32_w]; rfl
            refine pu_ 19 114 (a' := ?_) bq43 HT_ rfl rfl ?_ ?_
            rotate_left; ·simp only [Act.put, sa, sz, ss, i64_w, i32_w]; rfl
            refine pu_ 20 115 (a' := ?_) bq44 HT_ rfl rfl ?_ ?_
            rotate_left; ·simp only [Act.put, sa, sz, ss, i64_w, i32_w]; rfl
            refine pu_ 21 116 (a' := ?_) bq45 HT_ rfl rfl ?_ ?_
            rotate_left; ·simp only [Act.put, sa, sz, ss, i64_w, i32_w]; rfl
            refine pu_ 22 117 (a' := ?_) bq46 HT_ rfl rfl ?_ ?_
            rotate_left; ·simp only [Act.put, sa, sz, ss, i64_w, i32_w]; rfl
            refine pu_ 23 118 (a' := ?_) bq47 HT_ rfl rfl ?_ ?_
            rotate_left; ·simp only [Act.put, sa, sz, ss, i64_w, i32_w]; rfl
            refine pu_ 24 119 (a' := ?_) bq48 HT_ rfl rfl ?_ ?_
            rotate_left; ·simp only [Act.put, sa, sz, ss, i64_w, i32_w]; rfl
            refine pu_ 25 120 (a' := ?_) bq49 HT_ rfl rfl ?_ ?_
            rotate_left; ·simp only [Act.put, sa, sz, ss, i64_w, i32_w]; rfl
            refine pu_ 26 121 (a' := ?_) bq50 HT_ rfl rfl ?_ ?_
            rotate_left; ·simp only [Act.put, sa, sz, ss, i64_w, i32_w]; rfl
            refine pp_ 27 122 (v := ?_) (a' := ?_) bq51 HT_ rfl rfl ?_ ?_ ?_
            rotate_left; ·intro w'; go_simp; with_reducible rfl
            rotate_left; ·simp only [Act.put, sa, sz, ss, i64_w, i32_w]; rfl
            refine pp_ 28 123 (v := ?_) (a' := ?_) bq52 HT_ rfl rfl ?_ ?_ ?_
            rotate_left; ·intro w'; go_simp; with_reducible rfl
            rotate_left; ·simp only [Act.put, sa, sz, ss, i64_w, i32_w]; rfl
            refine pu_ 29 124 (a' := ?_) bq53 HT_ rfl rfl ?_ ?_
            rotate_left; ·simp only [Act.put, sa, sz, ss, i64_w, i32_w]; rfl
            refine pu_ 30 125 (a' := ?_) bq54 HT_ rfl rfl ?_ ?_
            rotate_left; ·simp only [Act.put, sa, sz, ss, i64_w, i32_w]; rfl
            refine pu_ 31 126 (a' := ?_) bq55 HT_ rfl rfl ?_ ?_
            rotate_left; ·simp only [Act.put, sa, sz, ss, i64_w, i32_w]; rfl
            refine pu_ 32 127 (a' := ?_) bq56 HT_ rfl rfl ?_ ?_
            rotate_left; ·simp only [Act.put, sa, sz, ss, i64_w, i32_w]; rfl
            refine pu_ 33 128 (a' := ?_) bq57 HT_ rfl rfl ?_ ?_
            rotate_left; ·simp only [Act.put, sa, sz, ss, i64_w, i32_w]; rfl
            refine pu_ 34 129 (a' := ?_) bq58 HT_ rfl rfl ?_ ?_
            rotate_left; ·simp only [Act.put, sa, sz, ss, i64_w, i32_w]; rfl
            refine pu_ 35 130 (a' := ?_) bq59 HT_ rfl rfl ?_ ?_
            rotate_left; ·simp only [Act.put, sa, sz, ss, i64_w, i32_w]; rfl
            refine pu_ 36 131 (a' := ?_) bq60 HT_ rfl rfl ?_ ?_
            rotate_left; ·simp only [Act.put, sa, sz, ss, i64_w, i32_w]; rfl
            refine pu_ 37 132 (a' := ?_) bq61 HT_ rfl rfl ?_ ?_
            rotate_left; ·simp only [Act.put, sa, sz, ss, i64_w, i32_w]; rfl
            refine pu_ 38 133 (a' := ?_) bq62 HT_ rfl rfl ?_ ?_
            rotate_left; ·simp only [Act.put, sa, sz, ss, i64_w, i32_w]; rfl
            refine pu_ 39 134 (a' := ?_) bq63 HT_ rfl rfl ?_ ?_
            rotate_left; ·simp only [Act.put, sa, sz, ss, i64_w, i32_w]; rfl
            refine pu_ 40 135 (a' := ?_) bq64 HT_ rfl rfl ?_ ?_
            rotate_left; ·simp only [Act.put, sa, sz, ss, i64_w, i32_w]; rfl
            refine pu_ 41 136 (a' := ?_) bq65 HT_ rfl rfl ?_ ?_
            rotate_left; ·simp only [Act.put, sa, sz, ss, i64_w, i32_w]; rfl
            refine pu_ 42 137 (a' := ?_) bq66 HT_ rfl rfl ?_ ?_
            rotate_left; ·simp only [Act.put, sa, sz, ss, i64_w, i32_w]; rfl
            refine pu_ 43 138 (a' := ?_) bq67 HT_ rfl rfl ?_ ?_
            rotate_left; ·simp only [Act.put, sa, sz, ss, i64_w, i32_w]; rfl
            refine pu_ 44 139 (a' := ?_) bq68 HT_ rfl rfl ?_ ?_
            rotate_left; ·simp only [Act.put, sa, sz, ss, i64_w, i32_w]; rfl
            refine pu_ 45 140 (a' := ?_) bq69 HT_ rfl rfl ?_ ?_
            rotate_left; ·simp only [Act.put, sa, sz, ss, i64_w, i32_w]; rfl
            refine pu_ 46 141 (a' := ?_) bq70 HT_ rfl rfl ?_ ?_
            rotate_left; ·simp only [Act.put, sa, sz, ss, i64_w, i32_w]; rfl
            refine pu_ 47 142 (a' := ?_) bq71 HT_ rfl rfl ?_ ?_
            rotate_left; ·simp only [Act.put, sa, sz, ss, i64_w, i32_w]; rfl
            refine pu_ 48 143 (a' := ?_) bq72 HT_ rfl rfl ?_ ?_
            rotate_left; ·simp only [Act.put, sa, sz, ss, i64_w, i32_w]; rfl
            refine pp_ 49 144 (v := ?_) (a' := ?_) bq73 HT_ rfl rfl ?_ ?_ ?_
            rotate_left; ·intro w'; go_simp; with_reducible rfl
            rotate_left; ·simp only [Act.put, sa, sz, ss, i64_w, i32_w]; rfl
            refine done_ (done_of HT_.out (by kernel_rfl)) ?_
            try go_wp2
            go_roundg k5
            case measure => have := HJ4.out; have := HK2.out; have := HJ18.out; have := HK4.out; have := HK5.out; omega
            case rel => exact ⟨(wrap64 (x90_5 + 1)), (by first | rfl | (simp; done) | (simp [*]; done)), H', ⟨by have := HJ4.out; have := HK2.out; have := HJ18.out; have := HK4.out; have := HK5.out; omega⟩, ⟨by (with_reducible repeat (first | apply Kd.R_alloc | apply Kd.R_drewN | apply Kd.R_drew)); exact HO_7.out⟩, ⟨by (with_reducible repeat (first | refine blk_drewN ?_ _ | refine blk_drew ?_ | refine blk_alloc ?_ _)); exact BK254.out⟩, ⟨by repeat (first | (with_reducible first | exact HB.out | apply below_alloc | apply pw_below_drewN | apply below_drew1 | refine below_set ?_ GE254.out | refine below_set ?_ GE269.out) | exact HB.out)⟩⟩
           rw [if_pos c63] at H
           have c63b0 : decide (0 ≤ (rd t257 ((rd_T27 l0_1 x90_5).f0))) = true := decide_eq_true c63
           clear c63
           by_cases c64 : ((rd_T27 l0_1 x90_5).f0) = x6_2
           ·rw [if_pos c64] at H
            have c64b0 : (((rd_T27 l0_1 x90_5).f0) == x6_2) = true := beq_iff_eq.mpr c64
            have c64b1 : (((rd_T27 l0_1 x90_5).f0) != x6_2) = false := bne_eq_false_iff_eq.mpr c64
            clear c64
            by_cases c65 : 0 ≤ ((rd_T27 l0_1 x90_5).f1)
            rotate_left; ·rw [if_neg c65] at H; exact absurd H (by simp)
            rw [if_pos c65] at H
            have c65b0 : decide (0 ≤ ((rd_T27 l0_1 x90_5).f1)) = true := decide_eq_true c65
            clear c65
            by_cases c66 : ((rd_T27 l0_1 x90_5).f1) < (t257.length : Int)
            rotate_left; ·rw [if_neg c66] at H; exact absurd H (by simp)
            rw [if_pos c66] at H
            have c66b0 : decide (((rd_T27 l0_1 x90_5).f1) < (t257.length : Int)) = true := decide_eq_true c66
            clear c66
            by_cases c67 : (rd t257 ((rd_T27 l0_1 x90_5).f1)) < 0
            ·rw [if_pos c67] at H
             have c67b0 : decide ((rd t257 ((rd_T27 l0_1 x90_5).f1)) < 0) = true := decide_eq_true c67
             clear c67
             obtain rfl := Option.some.inj H
             have p268 : 0 ≤ (x90_5 : Int) := of_decide_eq_true (by first | (with_reducible assumption) | assumption)
             have q268 : x90_5 < (l0_1.length : Int) := of_decide_eq_true (by first | (with_reducible assumption) | assumption)
             obtain ⟨ad268, e268, hx268_0, hx268_1⟩ := at_T27 HR0_1.out x90_5 p268 q268
             cases e268
             replace hx268_0 := (HB.out.cell (World.block_lt_of_cell? w _ hx268_0)).trans hx268_0
             replace hx268_1 := (HB.out.cell (World.block_lt_of_cell? w _ hx268_1)).trans hx268_1
             replace p268 := eq_true p268
             replace q268 := eq_true q268
             try go_wp2_with (first | ((with_reducible refine gate_dst (N := 13) rfl ?_); (try (refine gate_guard (by rfl) ?_; dsimp only)); refine box_event ?hg (N := 13) ?hd (cs := #[.int .i64 0, .int .i64 0]) (t := 27) ?hr ?_; (case hd => rfl); (case hg => rfl); (case hr => first | (go_simp; done) | (go_simp; rfl)); intro gb269 hg w68 hbox hb; replace HO_7 := Aside0.mk (Kd.R_below (by (with_reducible repeat (first | apply Kd.R_alloc | apply Kd.R_drewN | apply Kd.R_drew)); exact HO_7.out) hb); have BK269 := Aside0.mk (hbox); have GW269 := Aside0.mk ((by rw [hg]; exact (below_size (by repeat (first | (with_reducible first | exact HB.out | apply below_alloc | apply pw_below_drewN | apply below_drew1 | refine below_set ?_ GE254.out) | exact HB.out))) : w.heap.size ≤ gb269)); have GE269 := Aside0.mk ((by rw [hg]; exact (below_size (by repeat (first | (with_reducible first | exact HB.out | apply below_alloc | apply pw_below_drewN | apply below_drew1 | refine below_set ?_ GE254.out) | exact HB.out))) : w.heap.size ≤ gb269)); replace HB := Aside0.mk (below_step (by repeat (first | (with_reducible first | exact HB.out | apply below_alloc | apply pw_below_drewN | apply below_drew1 | refine below_set ?_ GE254.out) | exact HB.out)) hb); have NB254_269 := Aside0.mk ((by rw [hg]; exact Nat.ne_of_lt (blk_lt (g := gb254) (o := .cells #[.slice A0_0 l0_0.length c0_0, .slice (some ad268) l0_1.length c0_1] 25 (0, 0)) (by (with_reducible repeat (first | refine blk_drewN ?_ _ | refine blk_drew ?_ | refine blk_alloc ?_ _)); exact BK254.out)) : gb254 ≠ gb269)); have NB269_254 := Aside0.mk ((by rw [hg]; exact Nat.ne_of_gt (blk_lt (g := gb254) (o := .cells #[.slice A0_0 l0_0.length c0_0, .slice (some ad268) l0_1.length c0_1] 25 (0, 0)) (by (with_reducible repeat (first | refine blk_drewN ?_ _ | refine blk_drew ?_ | refine blk_alloc ?_ _)); exact BK254.out)) : gb269 ≠ gb254)); replace BK254 := Aside0.mk (blk_below (g := gb254) (o := .cells #[.slice A0_0 l0_0.length c0_0, .slice (some ad268) l0_1.length c0_1] 25 (0, 0)) (by (with_reducible repeat (first | refine blk_drewN ?_ _ | refine blk_drew ?_ | refine blk_alloc ?_ _)); exact BK254.out) hb); clear hb hbox hg; have hnb69 := NB269_254.out; have hnc69 := NB254_269.out; have hcz70_0 : w68.cell? ⟨gb269, 0, none⟩ = some (.int .i64 0) := (blk_cell BK269.out 0).trans rfl; have hcz70_1 : w68.cell? ⟨gb269, 1, none⟩ = some (.int .i64 0) := (blk_cell BK269.out 1).trans rfl; have hfz70_0 := blk_frozen BK269.out 0; have hfz70_1 := blk_frozen BK269.out 1))
             have n0_ : Aside0 (Kd.R (Kd.int .i64) 3 ((w68.setCell ⟨gb269, 0, none⟩ (.int .i64 ((rd_T27 l0_1 x90_5).f0))).setCell ⟨gb269, 1, none⟩ (.int .i64 ((rd_T27 l0_1 x90_5).f1))) w.heap.size (fun _ => True) v258 t257) := ⟨by (with_reducible repeat (first | apply Kd.R_alloc | apply Kd.R_drewN | apply Kd.R_drew)); exact Kd.R_mono (Kd.R_far (p := ⟨gb269, 1, none⟩) (Kd.R_far (p := ⟨gb269, 0, none⟩) (Kd.R_types HO_7.out BK269.out (by decide)) (fun _ hk => hk.2) (.int .i64 ((rd_T27 l0_1 x90_5).f0))) (fun _ hk => hk.2) (.int .i64 ((rd_T27 l0_1 x90_5).f1))) (fun _ hk => trivial)⟩
             have n1_ : Aside0 (((w68.setCell ⟨gb269, 0, none⟩ (.int .i64 ((rd_T27 l0_1 x90_5).f0))).setCell ⟨gb269, 1, none⟩ (.int .i64 ((rd_T27 l0_1 x90_5).f1))).heap[gb254]? = some (.cells #[.slice A0_0 l0_0.length c0_0, .slice (some ad268) l0_1.length c0_1] 25 (0, 0))) := ⟨by (with_reducible repeat (first | refine blk_drewN ?_ _ | refine blk_drew ?_ | refine blk_alloc ?_ _)); refine blk_far ?_ NB254_269.out _; (with_reducible repeat (first | refine blk_drewN ?_ _ | refine blk_drew ?_ | refine blk_alloc ?_ _)); refine blk_far ?_ NB254_269.out _; (with_reducible repeat (first | refine blk_drewN ?_ _ | refine blk_drew ?_ | refine blk_alloc ?_ _)); exact BK254.out⟩
             have n2_ : Aside0 (((w68.setCell ⟨gb269, 0, none⟩ (.int .i64 ((rd_T27 l0_1 x90_5).f0))).setCell ⟨gb269, 1, none⟩ (.int .i64 ((rd_T27 l0_1 x90_5).f1))).heap[gb269]? = some (.cells #[.int .i64 ((rd_T27 l0_1 x90_5).f0), .int .i64 ((rd_T27 l0_1 x90_5).f1)] 27 (0, 0))) := ⟨by (with_reducible repeat (first | refine blk_drewN ?_ _ | refine blk_drew ?_ | refine blk_alloc ?_ _)); refine blk_put (cs := #[.int .i64 ((rd_T27 l0_1 x90_5).f0), .int .i64 0]) ?_ 1 _ rfl; (with_reducible repeat (first | refine blk_drewN ?_ _ | refine blk_drew ?_ | refine blk_alloc ?_ _)); refine blk_put (cs := #[.int .i64 0, .int .i64 0]) ?_ 0 _ rfl; (with_reducible repeat (first | refine blk_drewN ?_ _ | refine blk_drew ?_ | refine blk_alloc ?_ _)); exact BK269.out⟩
             have n3_ : Aside0 (Below w.heap.size w ((w68.setCell ⟨gb269, 0, none⟩ (.int .i64 ((rd_T27 l0_1 x90_5).f0))).setCell ⟨gb269, 1, none⟩ (.int .i64 ((rd_T27 l0_1 x90_5).f1)))) := ⟨by repeat (first | (with_reducible first | exact HB.out | apply below_alloc | apply pw_below_drewN | apply below_drew1 | refine below_set ?_ GE254.out | refine below_set ?_ GE269.out) | exact HB.out)⟩
             generalize ((w68.setCell ⟨gb269, 0, none⟩ (.int .i64 ((rd_T27 l0_1 x90_5).f0))).setCell ⟨gb269, 1, none⟩ (.int .i64 ((rd_T27 l0_1 x90_5).f1))) = w71 at n0_ n1_ n2_ n3_ ⊢
             have HO_7 := n0_
             have BK254 := n1_
             have BK269 := n2_
             have HB := n3_
             clear n0_ n1_ n2_ n3_
             have n0_ := Aside0.mk (Kd.R_drew HO_7.out)
             have n1_ := Aside0.mk (blk_drew BK254.out)
             have n2_ := Aside0.mk (blk_drew BK269.out)
             have n3_ := Aside0.mk (below_drew1 HB.out)
             clear HO_7
             clear BK254
             clear BK269
             clear HB
             have HO_7 := n0_
             have BK254 := n1_
             have BK269 := n2_
             have HB := n3_
             clear n0_ n1_ n2_ n3_
             obtain ⟨Ao90, co90, eo90⟩ := Kd.R_slice HO_7.out
             (first | subst eo90 | (injection eo90 with f1_ f2_ f3_; have f4_ := f1_.symm; have f5_ := f3_.symm; clear f1_ f2_ f3_; subst f4_; subst f5_))
             have p271 : 0 ≤ (((rd_T27 l0_1 x90_5).f0) : Int) := of_decide_eq_true (by first | (with_reducible assumption) | assumption)
             have q271 : ((rd_T27 l0_1 x90_5).f0) < (t257.length : Int) := of_decide_eq_true (by first | (with_reducible assumption) | assumption)
             obtain ⟨ad271, e271, hx271_0⟩ := Kd.at_int (Kd.R_reads' HO_7.out).2.2 ((rd_T27 l0_1 x90_5).f0) p271 q271
             cases e271
             replace p271 := eq_true p271
             replace q271 := eq_true q271
             have p272 : 0 ≤ (((rd_T27 l0_1 x90_5).f1) : Int) := of_decide_eq_true (by first | (with_reducible assumption) | assumption)
             have q272 : ((rd_T27 l0_1 x90_5).f1) < (t257.length : Int) := of_decide_eq_true (by first | (with_reducible assumption) | assumption)
             obtain ⟨ad272, e272, hx272_0⟩ := Kd.at_int (Kd.R_reads' HO_7.out).2.2 ((rd_T27 l0_1 x90_5).f1) p272 q272
             obtain rfl : ad271 = ad272 := (by injection e272)
             replace p272 := eq_true p272
             replace q272 := eq_true q272
             refine start_ (n := 50) (S := fun w' => w'.cell? ⟨gb269, 0, none⟩ = some (.int .i64 ((rd_T27 l0_1 x90_5).f0)) ∧ w'.cell? ⟨gb269, 1, none⟩ = some (.int .i64 ((rd_T27 l0_1 x90_5).f1)) ∧ w'.cell? (ad271.add (((rd_T27 l0_1 x90_5).f0)).toNat) = some (.int .i64 (rd t257 ((rd_T27 l0_1 x90_5).f0))) ∧ w'.cell? (ad271.add (((rd_T27 l0_1 x90_5).f1)).toNat) = some (.int .i64 (rd t257 ((rd_T27 l0_1 x90_5).f1)))) (ds := []) bq23 (by kernel_rfl) rfl rfl ⟨(blk_cell BK269.out 0).trans rfl, (blk_cell BK269.out 1).trans rfl, hx271_0, hx272_0⟩ (fun hHeld => ?_); refine with_tabW stillagelaw07_ReachBoth.tab21 stillagelaw07_ReachBoth.bits21 (fun HT_ HW_ => ?_)
             generalize w71.drew = w72 at HO_7 BK254 BK269 HB hx271_0 hx272_0 hHeld ⊢
             refine pp_ 0 95 (v := ?_) (a' := ?_) bq24 HT_ rfl rfl ?_ ?_ ?_
             rotate_left; ·intro w'; go_simp; with_reducible rfl
             rotate_left; ·simp only [Act.put, sa, sz, ss, i64_w, i32_w]; rfl
             refine pp_ 1 96 (v := ?_) (a' := ?_) bq25 HT_ rfl rfl ?_ ?_ ?_
             rotate_left; ·intro w'; go_simp; with_reducible rfl
             rotate_left; ·simp only [Act.put, sa, sz, ss, i64_w, i32_w]; rfl
             refine pp_ 2 97 (v := ?_) (a' := ?_) bq26 HT_ rfl rfl ?_ ?_ ?_
             rotate_left; ·intro w'; go_simp; with_reducible rfl
             rotate_left; ·simp only [Act.put, sa, sz, ss, i64_w, i32_w]; rfl
             refine one_ (i := 3) (N := some 98) bq27 rfl rfl (one_of HT_.out (by kernel_rfl)) (by decide) (fun K hK => ?_)
             refine goes_ Try.func21 (by kernel_rfl) rfl #[.slice A1 l1.length c1, .int .i64 (wrap64 (x90_5 + 1))] (by rfl) rfl rfl (by (try simp only [List.map_toArray, List.map_cons, List.map_nil]); first | done | rfl | (simp only [List.length_drop, List.length_take]; rfl)) ?_
             with_reducible refine (stillageref07_Open.calls k5 _ _ l1 (wrap64 (x90_5 + 1)) true _ ?side1 ?side2 A59.out).mono ?_
             (case side1 => repeat (first | exact (Kd.C_below HR1.out HB.out) | (with_reducible refine Kd.C_alloc ?_ _) | (with_reducible refine Kd.C_drewN ?_ _) | (with_reducible refine Kd.C_drew ?_)))
             (case side2 => exact HC1.out)
             rintro e w' ⟨rfl, ⟨nd, rfl⟩⟩
             refine ⟨_, rfl, ?_⟩
             obtain ⟨Ao73, co73, eo73⟩ := Kd.R_slice HO_7.out
             (first | subst eo73 | (injection eo73 with f1_ f2_ f3_; have f4_ := f1_.symm; have f5_ := f3_.symm; clear f1_ f2_ f3_; subst f4_; subst f5_))
             refine hK.out _ _ ⟨(blk_cell BK269.out 0).trans rfl, (blk_cell BK269.out 1).trans rfl, hHeld.2.2.1, hHeld.2.2.2⟩ (fun hHeld => ?_)
             clear hK K
             refine norm_ (a' := ?_) ?_ ?_
             rotate_left
             ·show Act.put _ (some 98) _ = _
              simp only [Act.put, sa, sz, ss, i64_w, i32_w]
              rfl
             refine pp_ 4 99 (v := ?_) (a' := ?_) bq28 HT_ rfl rfl ?_ ?_ ?_
             rotate_left; ·intro w'; go_simp; with_reducible rfl
             rotate_left; ·simp only [Act.put, sa, sz, ss, i64_w, i32_w]; rfl
             refine pp_ 5 100 (v := ?_) (a' := ?_) bq29 HT_ rfl rfl ?_ ?_ ?_
             rotate_left; ·intro w'; go_simp; with_reducible rfl
             rotate_left; ·simp only [Act.put, sa, sz, ss, i64_w, i32_w]; rfl
             refine pp_ 6 101 (v := ?_) (a' := ?_) bq30 HT_ rfl rfl ?_ ?_ ?_
             rotate_left; ·intro w'; go_simp; with_reducible rfl
             rotate_left; ·simp only [Act.put, sa, sz, ss, i64_w, i32_w]; rfl
             refine take_ (i := 7) (N := some 102) (v := ?_) (a' := ?_) bq31 rfl rfl (take_ofW HT_.out HW_.out (by kernel_rfl)) (fun _ _ _ h => h) (Or.inl ⟨by rfl, ?_⟩) hHeld ?_ ?_
             rotate_left
             ·rintro w' ⟨s0, s1, s2, s3⟩
              go_simp
              with_reducible rfl
             rotate_left; ·simp only [Act.put, sa, sz, ss, i64_w, i32_w]; rfl
             refine pp_ 8 103 (v := ?_) (a' := ?_) bq32 HT_ rfl rfl ?_ ?_ ?_
             rotate_left; ·intro w'; go_simp; with_reducible rfl
             rotate_left; ·simp only [Act.put, sa, sz, ss, i64_w, i32_w]; rfl
             refine take_ (i := 9) (N := some 104) (v := ?_) (a' := ?_) bq33 rfl rfl (take_ofW HT_.out HW_.out (by kernel_rfl)) (fun _ _ _ h => h) (Or.inl ⟨by rfl, ?_⟩) hHeld ?_ ?_
             rotate_left
             ·rintro w' ⟨s0, s1, s2, s3⟩
              go_simp
              with_reducible rfl
             rotate_left; ·simp only [Act.put, sa, sz, ss, i64_w, i32_w]; rfl
             refine pp_ 10 105 (v := ?_) (a' := ?_) bq34 HT_ rfl rfl ?_ ?_ ?_
             rotate_left; ·intro w'; go_simp; with_reducible rfl
             rotate_left; ·simp only [Act.put, sa, sz, ss, i64_w, i32_w]; rfl
             refine pp_ 11 106 (v := ?_) (a' := ?_) bq35 HT_ rfl rfl ?_ ?_ ?_
             rotate_left; ·intro w'; go_simp; with_reducible rfl
             rotate_left; ·simp only [Act.put, sa, sz, ss, i64_w, i32_w]; rfl
             refine pp_ 12 107 (v := ?_) (a' := ?_) bq36 HT_ rfl rfl ?_ ?_ ?_
             rotate_left; ·intro w'; go_simp; with_reducible rfl
             rotate_left; ·simp only [Act.put, sa, sz, ss, i64_w, i32_w]; rfl
             refine pp_ 13 108 (v := ?_) (a' := ?_) bq37 HT_ rfl rfl ?_ ?_ ?_
             rotate_left; ·intro w'; go_simp; with_reducible rfl
             rotate_left; ·simp only [Act.put, sa, sz, ss, i64_w, i32_w]; rfl
             refine pp_ 15 110 (v := ?_) (a' := ?_) bq74 HT_ rfl rfl ?_ ?_ ?_
             rotate_left; ·intro w'; go_simp; with_reducible rfl
             rotate_left; ·simp only [Act.put, sa, sz, ss, i64_w, i32_w]; rfl
             refine take_ (i := 14) (N := some 109) (v := ?_) (a' := ?_) bq39 rfl rfl (take_ofW HT_.out HW_.out (by kernel_rfl)) (fun _ _ _ h => h) (Or.inl ⟨by rfl, ?_⟩) hHeld ?_ ?_
             rotate_left
             ·rintro w' ⟨s0, s1, s2, s3⟩
              go_simp
              with_reducible rfl
             rotate_left; ·simp only [Act.put, sa, sz, ss, i64_w, i32_w]; rfl
             refine pp_ 16 111 (v := ?_) (a' := ?_) bq40 HT_ rfl rfl ?_ ?_ ?_
             rotate_left; ·intro w'; go_simp; with_reducible rfl
             rotate_left; ·simp only [Act.put, sa, sz, ss, i64_w, i32_w]; rfl
             refine pp_ 17 112 (v := ?_) (a' := ?_) bq41 HT_ rfl rfl ?_ ?_ ?_
             rotate_left; ·intro w'; go_simp; with_reducible rfl
             rotate_left; ·simp only [Act.put, sa, sz, ss, i64_w, i32_w]; rfl
             refine pu_ 18 113 (a' := ?_) bq42 HT_ rfl rfl ?_ ?_
             rotate_left; ·simp only [Act.put, sa, sz, ss, i64_w, i32_w]; rfl
             refine pu_ 19 114 (a' := ?_) bq43 HT_ rfl rfl ?_ ?_
             rotate_left; ·simp only [Act.put, sa, sz, ss, i64_w, i32_w]; rfl
             refine pu_ 20 115 (a' := ?_) bq44 HT_ rfl rfl ?_ ?_
             rotate_left; ·simp only [Act.put, sa, sz, ss, i64_w, i32_w]; rfl
             refine pu_ 21 116 (a' := ?_) bq45 HT_ rfl rfl ?_ ?_
             rotate_left; ·simp only [Act.put, sa, sz, ss, i64_w, i32_w]; rfl
             refine pu_ 22 117 (a' := ?_) bq46 HT_ rfl rfl ?_ ?_
             rotate_left; ·simp only [Act.put, sa, sz, ss, i64_w, i32_w]; rfl
             refine pu_ 23 118 (a' := ?_) bq47 HT_ rfl rfl ?_ ?_
             rotate_left; ·simp only [Act.put, sa, sz, ss, i64_w, i32_w]; rfl
             refine pu_ 24 119 (a' := ?_) bq48 HT_ rfl rfl ?_ ?_
             rotate_left; ·simp only [Act.put, sa, sz, ss, i64_w, i32_w]; rfl
             refine pu_ 25 120 (a' := ?_) bq49 HT_ rfl rfl ?_ ?_
             rotate_left; ·simp only [Act.put, sa, sz, ss, i64_w, i32_w]; rfl
             refine pp_ 26 121 (v := ?_) (a' := ?_) bq50 HT_ rfl rfl ?_ ?_ ?_
             rotate_left; ·intro w'; go_simp; with_reducible rfl
             rotate_left; ·simp only [Act.put, sa, sz, ss, i64_w, i32_w]; rfl
             refine pp_ 27 122 (v := ?_) (a' := ?_) bq51 HT_ rfl rfl ?_ ?_ ?_
             rotate_left; ·intro w'; go_simp; with_reducible rfl
             rotate_left; ·simp only [Act.put, sa, sz, ss, i64_w, i32_w]; rfl
             refine pp_ 28 123 (v := ?_) (a' := ?_) bq52 HT_ rfl rfl ?_ ?_ ?_
             rotate_left; ·intro w'; go_simp; with_reducible rfl
             rotate_left; ·simp only [Act.put, sa, sz, ss, i64_w, i32_w]; rfl
             refine pp_ 29 124 (v := ?_) (a' := ?_) bq53 HT_ rfl rfl ?_ ?_ ?_
             rotate_left; ·intro w'; go_simp; with_reducible rfl
             rotate_left; ·simp only [Act.put, sa, sz, ss, i64_w, i32_w]; rfl
             refine pp_ 30 125 (v := ?_) (a' := ?_) bq54 HT_ rfl rfl ?_ ?_ ?_
             rotate_left; ·intro w'; go_simp; with_reducible rfl
             rotate_left; ·simp only [Act.put, sa, sz, ss, i64_w, i32_w]; rfl
             refine take_ (i := 31) (N := some 126) (v := ?_) (a' := ?_) bq55 rfl rfl (take_ofW HT_.out HW_.out (by kernel_rfl)) (fun _ _ _ h => h) (Or.inl ⟨by rfl, ?_⟩) hHeld ?_ ?_
             rotate_left
             ·rintro w' ⟨s0, s1, s2, s3⟩
              go_simp
              with_reducible rfl
             rotate_left; ·simp only [Act.put, sa, sz, ss, i64_w, i32_w]; rfl
             refine pp_ 32 127 (v := ?_) (a' := ?_) bq56 HT_ rfl rfl ?_ ?_ ?_
             rotate_left; ·intro w'; go_simp; with_reducible rfl
             rotate_left; ·simp only [Act.put, sa, sz, ss, i64_w, i32_w]; rfl
             refine take_ (i := 33) (N := some 128) (v := ?_) (a' := ?_) bq57 rfl rfl (take_ofW HT_.out HW_.out (by kernel_rfl)) (fun _ _ _ h => h) (Or.inl ⟨by rfl, ?_⟩) hHeld ?_ ?_
             rotate_left
             ·rintro w' ⟨s0, s1, s2, s3⟩
              go_simp
              with_reducible rfl
             rotate_left; ·simp only [Act.put, sa, sz, ss, i64_w, i32_w]; rfl
             refine pp_ 34 129 (v := ?_) (a' := ?_) bq58 HT_ rfl rfl ?_ ?_ ?_
             rotate_left; ·intro w'; go_simp; with_reducible rfl
             rotate_left; ·simp only [Act.put, sa, sz, ss, i64_w, i32_w]; rfl
             refine pp_ 35 130 (v := ?_) (a' := ?_) bq59 HT_ rfl rfl ?_ ?_ ?_
             rotate_left; ·intro w'; go_simp; with_reducible rfl
             rotate_left; ·simp only [Act.put, sa, sz, ss, i64_w, i32_w]; rfl
             refine pu_ 36 131 (a' := ?_) bq60 HT_ rfl rfl ?_ ?_
             rotate_left; ·simp only [Act.put, sa, sz, ss, i64_w, i32_w]; rfl
             refine pu_ 37 132 (a' := ?_) bq61 HT_ rfl rfl ?_ ?_
             rotate_left; ·simp only [Act.put, sa, sz, ss, i64_w, i32_w]; rfl
             refine pu_ 38 133 (a' := ?_) bq62 HT_ rfl rfl ?_ ?_
             rotate_left; ·simp only [Act.put, sa, sz, ss, i64_w, i32_w]; rfl
             refine pu_ 39 134 (a' := ?_) bq63 HT_ rfl rfl ?_ ?_
             rotate_left; ·simp only [Act.put, sa, sz, ss, i64_w, i32_w]; rfl
             refine pu_ 40 135 (a' := ?_) bq64 HT_ rfl rfl ?_ ?_
             rotate_left; ·simp only [Act.put, sa, sz, ss, i64_w, i32_w]; rfl
             refine pu_ 41 136 (a' := ?_) bq65 HT_ rfl rfl ?_ ?_
             rotate_left; ·simp only [Act.put, sa, sz, ss, i64_w, i32_w]; rfl
             refine pu_ 42 137 (a' := ?_) bq66 HT_ rfl rfl ?_ ?_
             rotate_left; ·simp only [Act.put, sa, sz, ss, i64_w, i32_w]; rfl
             refine pu_ 43 138 (a' := ?_) bq67 HT_ rfl rfl ?_ ?_
             rotate_left; ·simp only [Act.put, sa, sz, ss, i64_w, i32_w]; rfl
             refine pu_ 44 139 (a' := ?_) bq68 HT_ rfl rfl ?_ ?_
             rotate_left; ·simp only [Act.put, sa, sz, ss, i64_w, i32_w]; rfl
             refine pu_ 45 140 (a' := ?_) bq69 HT_ rfl rfl ?_ ?_
             rotate_left; ·simp only [Act.put, sa, sz, ss, i64_w, i32_w]; rfl
             refine pu_ 46 141 (a' := ?_) bq70 HT_ rfl rfl ?_ ?_
             rotate_left; ·simp only [Act.put, sa, sz, ss, i64_w, i32_w]; rfl
             refine pu_ 47 142 (a' := ?_) bq71 HT_ rfl rfl ?_ ?_
             rotate_left; ·simp only [Act.put, sa, sz, ss, i64_w, i32_w]; rfl
             refine pp_ 48 143 (v := ?_) (a' := ?_) bq72 HT_ rfl rfl ?_ ?_ ?_
             rotate_left; ·intro w'; go_simp; with_reducible rfl
             rotate_left; ·simp only [Act.put, sa, sz, ss, i64_w, i32_w]; rfl
             refine pp_ 49 144 (v := ?_) (a' := ?_) bq73 HT_ rfl rfl ?_ ?_ ?_
             rotate_left; ·intro w'; go_simp; with_reducible rfl
             rotate_left; ·simp only [Act.put, sa, sz, ss, i64_w, i32_w]; rfl
             refine done_ (done_of HT_.out (by kernel_rfl)) ?_
             try go_wp2
             go_ret
             exact ⟨by first | rfl | (simp [errW_none, errW_some] <;> rfl) | (simp [*, errW_none, errW_some] <;> rfl), by repeat (first | (with_reducible first | exact HB.out | apply below_alloc | apply pw_below_drewN | apply below_drew1 | refine below_set ?_ GE254.out | refine below_set ?_ GE269.out) | exact HB.out)⟩
            rw [if_neg c67] at H
            have c67b0 : decide ((rd t257 ((rd_T27 l0_1 x90_5).f1)) < 0) = false := decide_eq_false c67
            clear c67
            by_cases c74 : (rd t257 ((rd_T27 l0_1 x90_5).f1)) > (wrap64 ((rd t257 ((rd_T27 l0_1 x90_5).f0)) + 1))
            ·rw [if_pos c74] at H
             have c74b0 : decide ((wrap64 ((rd t257 ((rd_T27 l0_1 x90_5).f0)) + 1)) < (rd t257 ((rd_T27 l0_1 x90_5).f1))) = true := decide_eq_true c74
             clear c74
             obtain rfl := Option.some.inj H
             have p268 : 0 ≤ (x90_5 : Int) := of_decide_eq_true (by first | (with_reducible assumption) | assumption)
             have q268 : x90_5 < (l0_1.length : Int) := of_decide_eq_true (by first | (with_reducible assumption) | assumption)
             obtain ⟨ad268, e268, hx268_0, hx268_1⟩ := at_T27 HR0_1.out x90_5 p268 q268
             cases e268
             replace hx268_0 := (HB.out.cell (World.block_lt_of_cell? w _ hx268_0)).trans hx268_0
             replace hx268_1 := (HB.out.cell (World.block_lt_of_cell? w _ hx268_1)).trans hx268_1
             replace p268 := eq_true p268
             replace q268 := eq_true q268
             try go_wp2_with (first | ((with_reducible refine gate_dst (N := 13) rfl ?_); (try (refine gate_guard (by rfl) ?_; dsimp only)); refine box_event ?hg (N := 13) ?hd (cs := #[.int .i64 0, .int .i64 0]) (t := 27) ?hr ?_; (case hd => rfl); (case hg => rfl); (case hr => first | (go_simp; done) | (go_simp; rfl)); intro gb269 hg w75 hbox hb; replace HO_7 := Aside0.mk (Kd.R_below (by (with_reducible repeat (first | apply Kd.R_alloc | apply Kd.R_drewN | apply Kd.R_drew)); exact HO_7.out) hb); have BK269 := Aside0.mk (hbox); have GW269 := Aside0.mk ((by rw [hg]; exact (below_size (by repeat (first | (with_reducible first | exact HB.out | apply below_alloc | apply pw_below_drewN | apply below_drew1 | refine below_set ?_ GE254.out) | exact HB.out))) : w.heap.size ≤ gb269)); have GE269 := Aside0.mk ((by rw [hg]; exact (below_size (by repeat (first | (with_reducible first | exact HB.out | apply below_alloc | apply pw_below_drewN | apply below_drew1 | refine below_set ?_ GE254.out) | exact HB.out))) : w.heap.size ≤ gb269)); replace HB := Aside0.mk (below_step (by repeat (first | (with_reducible first | exact HB.out | apply below_alloc | apply pw_below_drewN | apply below_drew1 | refine below_set ?_ GE254.out) | exact HB.out)) hb); have NB254_269 := Aside0.mk ((by rw [hg]; exact Nat.ne_of_lt (blk_lt (g := gb254) (o := .cells #[.slice A0_0 l0_0.length c0_0, .slice (some ad268) l0_1.length c0_1] 25 (0, 0)) (by (with_reducible repeat (first | refine blk_drewN ?_ _ | refine blk_drew ?_ | refine blk_alloc ?_ _)); exact BK254.out)) : gb254 ≠ gb269)); have NB269_254 := Aside0.mk ((by rw [hg]; exact Nat.ne_of_gt (blk_lt (g := gb254) (o := .cells #[.slice A0_0 l0_0.length c0_0, .slice (some ad268) l0_1.length c0_1] 25 (0, 0)) (by (with_reducible repeat (first | refine blk_drewN ?_ _ | refine blk_drew ?_ | refine blk_alloc ?_ _)); exact BK254.out)) : gb269 ≠ gb254)); replace BK254 := Aside0.mk (blk_below (g := gb254) (o := .cells #[.slice A0_0 l0_0.length c0_0, .slice (some ad268) l0_1.length c0_1] 25 (0, 0)) (by (with_reducible repeat (first | refine blk_drewN ?_ _ | refine blk_drew ?_ | refine blk_alloc ?_ _)); exact BK254.out) hb); clear hb hbox hg; have hnb76 := NB269_254.out; have hnc76 := NB254_269.out; have hcz77_0 : w75.cell? ⟨gb269, 0, none⟩ = some (.int .i64 0) := (blk_cell BK269.out 0).trans rfl; have hcz77_1 : w75.cell? ⟨gb269, 1, none⟩ = some (.int .i64 0) := (blk_cell BK269.out 1).trans rfl; have hfz77_0 := blk_frozen BK269.out 0; have hfz77_1 := blk_frozen BK269.out 1))
             have n0_ : Aside0 (Kd.R (Kd.int .i64) 3 ((w75.setCell ⟨gb269, 0, none⟩ (.int .i64 ((rd_T27 l0_1 x90_5).f0))).setCell ⟨gb269, 1, none⟩ (.int .i64 ((rd_T27 l0_1 x90_5).f1))) w.heap.size (fun _ => True) v258 t257) := ⟨by (with_reducible repeat (first | apply Kd.R_alloc | apply Kd.R_drewN | apply Kd.R_drew)); exact Kd.R_mono (Kd.R_far (p := ⟨gb269, 1, none⟩) (Kd.R_far (p := ⟨gb269, 0, none⟩) (Kd.R_types HO_7.out BK269.out (by decide)) (fun _ hk => hk.2) (.int .i64 ((rd_T27 l0_1 x90_5).f0))) (fun _ hk => hk.2) (.int .i64 ((rd_T27 l0_1 x90_5).f1))) (fun _ hk => trivial)⟩
             have n1_ : Aside0 (((w75.setCell ⟨gb269, 0, none⟩ (.int .i64 ((rd_T27 l0_1 x90_5).f0))).setCell ⟨gb269, 1, none⟩ (.int .i64 ((rd_T27 l0_1 x90_5).f1))).heap[gb254]? = some (.cells #[.slice A0_0 l0_0.length c0_0, .slice (some ad268) l0_1.length c0_1] 25 (0, 0))) := ⟨by (with_reducible repeat (first | refine blk_drewN ?_ _ | refine blk_drew ?_ | refine blk_alloc ?_ _)); refine blk_far ?_ NB254_269.out _; (with_reducible repeat (first | refine blk_drewN ?_ _ | refine blk_drew ?_ | refine blk_alloc ?_ _)); refine blk_far ?_ NB254_269.out _; (with_reducible repeat (first | refine blk_drewN ?_ _ | refine blk_drew ?_ | refine blk_alloc ?_ _)); exact BK254.out⟩
             have n2_ : Aside0 (((w75.setCell ⟨gb269, 0, none⟩ (.int .i64 ((rd_T27 l0_1 x90_5).f0))).setCell ⟨gb269, 1, none⟩ (.int .i64 ((rd_T27 l0_1 x90_5).f1))).heap[gb269]? = some (.cells #[.int .i64 ((rd_T27 l0_1 x90_5).f0), .int .i64 ((rd_T27 l0_1 x90_5).f1)] 27 (0, 0))) := ⟨by (with_reducible repeat (first | refine blk_drewN ?_ _ | refine blk_drew ?_ | refine blk_alloc ?_ _)); refine blk_put (cs := #[.int .i64 ((rd_T27 l0_1 x90_5).f0), .int .i64 0]) ?_ 1 _ rfl; (with_reducible repeat (first | refine blk_drewN ?_ _ | refine blk_drew ?_ | refine blk_alloc ?_ _)); refine blk_put (cs := #[.int .i64 0, .int .i64 0]) ?_ 0 _ rfl; (with_reducible repeat (first | refine blk_drewN ?_ _ | refine blk_drew ?_ | refine blk_alloc ?_ _)); exact BK269.out⟩
             have n3_ : Aside0 (Below w.heap.size w ((w75.setCell ⟨gb269, 0, none⟩ (.int .i64 ((rd_T27 l0_1 x90_5).f0))).setCell ⟨gb269, 1, none⟩ (.int .i64 ((rd_T27 l0_1 x90_5).f1)))) := ⟨by repeat (first | (with_reducible first | exact HB.out | apply below_alloc | apply pw_below_drewN | apply below_drew1 | refine below_set ?_ GE254.out | refine below_set ?_ GE269.out) | exact HB.out)⟩
             generalize ((w75.setCell ⟨gb269, 0, none⟩ (.int .i64 ((rd_T27 l0_1 x90_5).f0))).setCell ⟨gb269, 1, none⟩ (.int .i64 ((rd_T27 l0_1 x90_5).f1))) = w78 at n0_ n1_ n2_ n3_ ⊢
             have HO_7 := n0_
             have BK254 := n1_
             have BK269 := n2_
             have HB := n3_
             clear n0_ n1_ n2_ n3_
             have n0_ := Aside0.mk (Kd.R_drew HO_7.out)
             have n1_ := Aside0.mk (blk_drew BK254.out)
             have n2_ := Aside0.mk (blk_drew BK269.out)
             have n3_ := Aside0.mk (below_drew1 HB.out)
             clear HO_7
             clear BK254
             clear BK269
             clear HB
             have HO_7 := n0_
             have BK254 := n1_
             have BK269 := n2_
             have HB := n3_
             clear n0_ n1_ n2_ n3_
             obtain ⟨Ao91, co91, eo91⟩ := Kd.R_slice HO_7.out
             (first | subst eo91 | (injection eo91 with f1_ f2_ f3_; have f4_ := f1_.symm; have f5_ := f3_.symm; clear f1_ f2_ f3_; subst f4_; subst f5_))
             have p271 : 0 ≤ (((rd_T27 l0_1 x90_5).f0) : Int) := of_decide_eq_true (by first | (with_reducible assumption) | assumption)
             have q271 : ((rd_T27 l0_1 x90_5).f0) < (t257.length : Int) := of_decide_eq_true (by first | (with_reducible assumption) | assumption)
             obtain ⟨ad271, e271, hx271_0⟩ := Kd.at_int (Kd.R_reads' HO_7.out).2.2 ((rd_T27 l0_1 x90_5).f0) p271 q271
             cases e271
             replace p271 := eq_true p271
             replace q271 := eq_true q271
             have p272 : 0 ≤ (((rd_T27 l0_1 x90_5).f1) : Int) := of_decide_eq_true (by first | (with_reducible assumption) | assumption)
             have q272 : ((rd_T27 l0_1 x90_5).f1) < (t257.length : Int) := of_decide_eq_true (by first | (with_reducible assumption) | assumption)
             obtain ⟨ad272, e272, hx272_0⟩ := Kd.at_int (Kd.R_reads' HO_7.out).2.2 ((rd_T27 l0_1 x90_5).f1) p272 q272
             obtain rfl : ad271 = ad272 := (by injection e272)
             replace p272 := eq_true p272
             replace q272 := eq_true q272
             have p273 : 0 ≤ (((rd_T27 l0_1 x90_5).f1) : Int) := of_decide_eq_true (by first | (with_reducible assumption) | assumption)
             have q273 : ((rd_T27 l0_1 x90_5).f1) < (t257.length : Int) := of_decide_eq_true (by first | (with_reducible assumption) | assumption)
             obtain ⟨ad273, e273, hx273_0⟩ := Kd.at_int (Kd.R_reads' HO_7.out).2.2 ((rd_T27 l0_1 x90_5).f1) p273 q273
             obtain rfl : ad271 = ad273 := (by injection e273)
             replace p273 := eq_true p273
             replace q273 := eq_true q273
             have p274 : 0 ≤ (((rd_T27 l0_1 x90_5).f0) : Int) := of_decide_eq_true (by first | (with_reducible assumption) | assumption)
             have q274 : ((rd_T27 l0_1 x90_5).f0) < (t257.length : Int) := of_decide_eq_true (by first | (with_reducible assumption) | assumption)
             obtain ⟨ad274, e274, hx274_0⟩ := Kd.at_int (Kd.R_reads' HO_7.out).2.2 ((rd_T27 l0_1 x90_5).f0) p274 q274
             obtain rfl : ad271 = ad274 := (by injection e274)
             replace p274 := eq_true p274
             replace q274 := eq_true q274
             refine start_ (n := 50) (S := fun w' => w'.cell? ⟨gb269, 0, none⟩ = some (.int .i64 ((rd_T27 l0_1 x90_5).f0)) ∧ w'.cell? ⟨gb269, 1, none⟩ = some (.int .i64 ((rd_T27 l0_1 x90_5).f1)) ∧ w'.cell? (ad271.add (((rd_T27 l0_1 x90_5).f0)).toNat) = some (.int .i64 (rd t257 ((rd_T27 l0_1 x90_5).f0))) ∧ w'.cell? (ad271.add (((rd_T27 l0_1 x90_5).f1)).toNat) = some (.int .i64 (rd t257 ((rd_T27 l0_1 x90_5).f1))) ∧ w'.cell? (ad271.add (((rd_T27 l0_1 x90_5).f1)).toNat) = some (.int .i64 (rd t257 ((rd_T27 l0_1 x90_5).f1))) ∧ w'.cell? (ad271.add (((rd_T27 l0_1 x90_5).f0)).toNat) = some (.int .i64 (rd t257 ((rd_T27 l0_1 x90_5).f0)))) (ds := []) bq23 (by kernel_rfl) rfl rfl ⟨(blk_cell BK269.out 0).trans rfl, (blk_cell BK269.out 1).trans rfl, hx271_0, hx272_0, hx273_0, hx274_0⟩ (fun hHeld => ?_); refine with_tabW stillagelaw07_ReachBoth.tab21 stillagelaw07_ReachBoth.bits21 (fun HT_ HW_ => ?_)
             generalize w78.drew = w79 at HO_7 BK254 BK269 HB hx271_0 hx272_0 hx273_0 hx274_0 hHeld ⊢
             refine pp_ 0 95 (v := ?_) (a' := ?_) bq24 HT_ rfl rfl ?_ ?_ ?_
             rotate_left; ·intro w'; go_simp; with_reducible rfl
             rotate_left; ·simp only [Act.put, sa, sz, ss, i64_w, i32_w]; rfl
             refine pp_ 1 96 (v := ?_) (a' := ?_) bq25 HT_ rfl rfl ?_ ?_ ?_
             rotate_left; ·intro w'; go_simp; with_reducible rfl
             rotate_left; ·simp only [Act.put, sa, sz, ss, i64_w, i32_w]; rfl
             refine pp_ 2 97 (v := ?_) (a' := ?_) bq26 HT_ rfl rfl ?_ ?_ ?_
             rotate_left; ·intro w'; go_simp; with_reducible rfl
             rotate_left; ·simp only [Act.put, sa, sz, ss, i64_w, i32_w]; rfl
             refine one_ (i := 3) (N := some 98) bq27 rfl rfl (one_of HT_.out (by kernel_rfl)) (by decide) (fun K hK => ?_)
             refine goes_ Try.func21 (by kernel_rfl) rfl #[.slice A1 l1.length c1, .int .i64 (wrap64 (x90_5 + 1))] (by rfl) rfl rfl (by (try simp only [List.map_toArray, List.map_cons, List.map_nil]); first | done | rfl | (simp only [List.length_drop, List.length_take]; rfl)) ?_
             with_reducible refine (stillageref07_Open.calls k5 _ _ l1 (wrap64 (x90_5 + 1)) true _ ?side1 ?side2 A59.out).mono ?_
             (case side1 => repeat (first | exact (Kd.C_below HR1.out HB.out) | (with_reducible refine Kd.C_alloc ?_ _) | (with_reducible refine Kd.C_drewN ?_ _) | (with_reducible refine Kd.C_drew ?_)))
             (case side2 => exact HC1.out)
             rintro e w' ⟨rfl, ⟨nd, rfl⟩⟩
             refine ⟨_, rfl, ?_⟩
             obtain ⟨Ao80, co80, eo80⟩ := Kd.R_slice HO_7.out
             (first | subst eo80 | (injection eo80 with f1_ f2_ f3_; have f4_ := f1_.symm; have f5_ := f3_.symm; clear f1_ f2_ f3_; subst f4_; subst f5_))
             refine hK.out _ _ ⟨(blk_cell BK269.out 0).trans rfl, (blk_cell BK269.out 1).trans rfl, hHeld.2.2.1, hHeld.2.2.2.1, hHeld.2.2.2.2.1, hHeld.2.2.2.2.2⟩ (fun hHeld => ?_)
             clear hK K
             refine norm_ (a' := ?_) ?_ ?_
             rotate_left
             ·show Act.put _ (some 98) _ = _
              simp only [Act.put, sa, sz, ss, i64_w, i32_w]
              rfl
             refine pp_ 4 99 (v := ?_) (a' := ?_) bq28 HT_ rfl rfl ?_ ?_ ?_
             rotate_left; ·intro w'; go_simp; with_reducible rfl
             rotate_left; ·simp only [Act.put, sa, sz, ss, i64_w, i32_w]; rfl
             refine pp_ 5 100 (v := ?_) (a' := ?_) bq29 HT_ rfl rfl ?_ ?_ ?_
             rotate_left; ·intro w'; go_simp; with_reducible rfl
             rotate_left; ·simp only [Act.put, sa, sz, ss, i64_w, i32_w]; rfl
             refine pp_ 6 101 (v := ?_) (a' := ?_) bq30 HT_ rfl rfl ?_ ?_ ?_
             rotate_left; ·intro w'; go_simp; with_reducible rfl
             rotate_left; ·simp only [Act.put, sa, sz, ss, i64_w, i32_w]; rfl
             refine take_ (i := 7) (N := some 102) (v := ?_) (a' := ?_) bq31 rfl rfl (take_ofW HT_.out HW_.out (by kernel_rfl)) (fun _ _ _ h => h) (Or.inl ⟨by rfl, ?_⟩) hHeld ?_ ?_
             rotate_left
             ·rintro w' ⟨s0, s1, s2, s3, s4, s5⟩
              go_simp
              with_reducible rfl
             rotate_left; ·simp only [Act.put, sa, sz, ss, i64_w, i32_w]; rfl
             refine pp_ 8 103 (v := ?_) (a' := ?_) bq32 HT_ rfl rfl ?_ ?_ ?_
             rotate_left; ·intro w'; go_simp; with_reducible rfl
             rotate_left; ·simp only [Act.put, sa, sz, ss, i64_w, i32_w]; rfl
             refine take_ (i := 9) (N := some 104) (v := ?_) (a' := ?_) bq33 rfl rfl (take_ofW HT_.out HW_.out (by kernel_rfl)) (fun _ _ _ h => h) (Or.inl ⟨by rfl, ?_⟩) hHeld ?_ ?_
             rotate_left
             ·rintro w' ⟨s0, s1, s2, s3, s4, s5⟩
              go_simp
              with_reducible rfl
             rotate_left; ·simp only [Act.put, sa, sz, ss, i64_w, i32_w]; rfl
             refine pp_ 10 105 (v := ?_) (a' := ?_) bq34 HT_ rfl rfl ?_ ?_ ?_
             rotate_left; ·intro w'; go_simp; with_reducible rfl
             rotate_left; ·simp only [Act.put, sa, sz, ss, i64_w, i32_w]; rfl
             refine pp_ 11 106 (v := ?_) (a' := ?_) bq35 HT_ rfl rfl ?_ ?_ ?_
             rotate_left; ·intro w'; go_simp; with_reducible rfl
             rotate_left; ·simp only [Act.put, sa, sz, ss, i64_w, i32_w]; rfl
             refine pp_ 12 107 (v := ?_) (a' := ?_) bq36 HT_ rfl rfl ?_ ?_ ?_
             rotate_left; ·intro w'; go_simp; with_reducible rfl
             rotate_left; ·simp only [Act.put, sa, sz, ss, i64_w, i32_w]; rfl
             refine pp_ 13 108 (v := ?_) (a' := ?_) bq37 HT_ rfl rfl ?_ ?_ ?_
             rotate_left; ·intro w'; go_simp; with_reducible rfl
             rotate_left; ·simp only [Act.put, sa, sz, ss, i64_w, i32_w]; rfl
             refine pp_ 15 110 (v := ?_) (a' := ?_) bq74 HT_ rfl rfl ?_ ?_ ?_
             rotate_left; ·intro w'; go_simp; with_reducible rfl
             rotate_left; ·simp only [Act.put, sa, sz, ss, i64_w, i32_w]; rfl
             refine take_ (i := 14) (N := some 109) (v := ?_) (a' := ?_) bq39 rfl rfl (take_ofW HT_.out HW_.out (by kernel_rfl)) (fun _ _ _ h => h) (Or.inl ⟨by rfl, ?_⟩) hHeld ?_ ?_
             rotate_left
             ·rintro w' ⟨s0, s1, s2, s3, s4, s5⟩
              go_simp
              with_reducible rfl
             rotate_left; ·simp only [Act.put, sa, sz, ss, i64_w, i32_w]; rfl
             refine pp_ 16 111 (v := ?_) (a' := ?_) bq40 HT_ rfl rfl ?_ ?_ ?_
             rotate_left; ·intro w'; go_simp; with_reducible rfl
             rotate_left; ·simp only [Act.put, sa, sz, ss, i64_w, i32_w]; rfl
             refine pp_ 17 112 (v := ?_) (a' := ?_) bq41 HT_ rfl rfl ?_ ?_ ?_
             rotate_left; ·intro w'; go_simp; with_reducible rfl
             rotate_left; ·simp only [Act.put, sa, sz, ss, i64_w, i32_w]; rfl
             refine pu_ 18 113 (a' := ?_) bq42 HT_ rfl rfl ?_ ?_
             rotate_left; ·simp only [Act.put, sa, sz, ss, i64_w, i32_w]; rfl
             refine pu_ 19 114 (a' := ?_) bq43 HT_ rfl rfl ?_ ?_
             rotate_left; ·simp only [Act.put, sa, sz, ss, i64_w, i32_w]; rfl
             refine pu_ 20 115 (a' := ?_) bq44 HT_ rfl rfl ?_ ?_
             rotate_left; ·simp only [Act.put, sa, sz, ss, i64_w, i32_w]; rfl
             refine pu_ 21 116 (a' := ?_) bq45 HT_ rfl rfl ?_ ?_
             rotate_left; ·simp only [Act.put, sa, sz, ss, i64_w, i32_w]; rfl
             refine pu_ 22 117 (a' := ?_) bq46 HT_ rfl rfl ?_ ?_
             rotate_left; ·simp only [Act.put, sa, sz, ss, i64_w, i32_w]; rfl
             refine pu_ 23 118 (a' := ?_) bq47 HT_ rfl rfl ?_ ?_
             rotate_left; ·simp only [Act.put, sa, sz, ss, i64_w, i32_w]; rfl
             refine pu_ 24 119 (a' := ?_) bq48 HT_ rfl rfl ?_ ?_
             rotate_left; ·simp only [Act.put, sa, sz, ss, i64_w, i32_w]; rfl
             refine pu_ 25 120 (a' := ?_) bq49 HT_ rfl rfl ?_ ?_
             rotate_left; ·simp only [Act.put, sa, sz, ss, i64_w, i32_w]; rfl
             refine pp_ 26 121 (v := ?_) (a' := ?_) bq50 HT_ rfl rfl ?_ ?_ ?_
             rotate_left; ·intro w'; go_simp; with_reducible rfl
             rotate_left; ·simp only [Act.put, sa, sz, ss, i64_w, i32_w]; rfl
             refine pp_ 27 122 (v := ?_) (a' := ?_) bq51 HT_ rfl rfl ?_ ?_ ?_
             rotate_left; ·intro w'; go_simp; with_reducible rfl
             rotate_left; ·simp only [Act.put, sa, sz, ss, i64_w, i32_w]; rfl
             refine pp_ 28 123 (v := ?_) (a' := ?_) bq52 HT_ rfl rfl ?_ ?_ ?_
             rotate_left; ·intro w'; go_simp; with_reducible rfl
             rotate_left; ·simp only [Act.put, sa, sz, ss, i64_w, i32_w]; rfl
             refine pp_ 29 124 (v := ?_) (a' := ?_) bq53 HT_ rfl rfl ?_ ?_ ?_
             rotate_left; ·intro w'; go_simp; with_reducible rfl
             rotate_left; ·simp only [Act.put, sa, sz, ss, i64_w, i32_w]; rfl
             refine pp_ 30 125 (v := ?_) (a' := ?_) bq54 HT_ rfl rfl ?_ ?_ ?_
             rotate_left; ·intro w'; go_simp; with_reducible rfl
             rotate_left; ·simp only [Act.put, sa, sz, ss, i64_w, i32_w]; rfl
             refine take_ (i := 31) (N := some 126) (v := ?_) (a' := ?_) bq55 rfl rfl (take_ofW HT_.out HW_.out (by kernel_rfl)) (fun _ _ _ h => h) (Or.inl ⟨by rfl, ?_⟩) hHeld ?_ ?_
             rotate_left
             ·rintro w' ⟨s0, s1, s2, s3, s4, s5⟩
              go_simp
              with_reducible rfl
             rotate_left; ·simp only [Act.put, sa, sz, ss, i64_w, i32_w]; rfl
             refine pp_ 32 127 (v := ?_) (a' := ?_) bq56 HT_ rfl rfl ?_ ?_ ?_
             rotate_left; ·intro w'; go_simp; with_reducible rfl
             rotate_left; ·simp only [Act.put, sa, sz, ss, i64_w, i32_w]; rfl
             refine take_ (i := 33) (N := some 128) (v := ?_) (a' := ?_) bq57 rfl rfl (take_ofW HT_.out HW_.out (by kernel_rfl)) (fun _ _ _ h => h) (Or.inl ⟨by rfl, ?_⟩) hHeld ?_ ?_
             rotate_left
             ·rintro w' ⟨s0, s1, s2, s3, s4, s5⟩
              go_simp
              with_reducible rfl
             rotate_left; ·simp only [Act.put, sa, sz, ss, i64_w, i32_w]; rfl
             refine pp_ 34 129 (v := ?_) (a' := ?_) bq58 HT_ rfl rfl ?_ ?_ ?_
             rotate_left; ·intro w'; go_simp; with_reducible rfl
             rotate_left; ·simp only [Act.put, sa, sz, ss, i64_w, i32_w]; rfl
             refine pp_ 35 130 (v := ?_) (a' := ?_) bq59 HT_ rfl rfl ?_ ?_ ?_
             rotate_left; ·intro w'; go_simp; with_reducible rfl
             rotate_left; ·simp only [Act.put, sa, sz, ss, i64_w, i32_w]; rfl
             refine pp_ 36 131 (v := ?_) (a' := ?_) bq60 HT_ rfl rfl ?_ ?_ ?_
             rotate_left; ·intro w'; go_simp; with_reducible rfl
             rotate_left; ·simp only [Act.put, sa, sz, ss, i64_w, i32_w]; rfl
             refine pp_ 37 132 (v := ?_) (a' := ?_) bq61 HT_ rfl rfl ?_ ?_ ?_
             rotate_left; ·intro w'; go_simp; with_reducible rfl
             rotate_left; ·simp only [Act.put, sa, sz, ss, i64_w, i32_w]; rfl
             refine pp_ 41 136 (v := ?_) (a' := ?_) bq75 HT_ rfl rfl ?_ ?_ ?_
             rotate_left; ·intro w'; go_simp; with_reducible rfl
             rotate_left; ·simp only [Act.put, sa, sz, ss, i64_w, i32_w]; rfl
             refine pp_ 42 137 (v := ?_) (a' := ?_) bq76 HT_ rfl rfl ?_ ?_ ?_
             rotate_left; ·intro w'; go_simp; with_reducible rfl
             rotate_left; ·simp only [Act.put, sa, sz, ss, i64_w, i32_w]; rfl
             refine take_ (i := 38) (N := some 133) (v := ?_) (a' := ?_) bq77 rfl rfl (take_ofW HT_.out HW_.out (by kernel_rfl)) (fun _ _ _ h => h) (Or.inl ⟨by rfl, ?_⟩) hHeld ?_ ?_
             rotate_left
             ·rintro w' ⟨s0, s1, s2, s3, s4, s5⟩
              go_simp
              with_reducible rfl
             rotate_left; ·simp only [Act.put, sa, sz, ss, i64_w, i32_w]; rfl
             refine pp_ 39 134 (v := ?_) (a' := ?_) bq78 HT_ rfl rfl ?_ ?_ ?_
             rotate_left; ·intro w'; go_simp; with_reducible rfl
             rotate_left; ·simp only [Act.put, sa, sz, ss, i64_w, i32_w]; rfl
             refine take_ (i := 40) (N := some 135) (v := ?_) (a' := ?_) bq66 rfl rfl (take_ofW HT_.out HW_.out (by kernel_rfl)) (fun _ _ _ h => h) (Or.inl ⟨by rfl, ?_⟩) hHeld ?_ ?_
             rotate_left
             ·rintro w' ⟨s0, s1, s2, s3, s4, s5⟩
              go_simp
              with_reducible rfl
             rotate_left; ·simp only [Act.put, sa, sz, ss, i64_w, i32_w]; rfl
             refine take_ (i := 43) (N := some 138) (v := ?_) (a' := ?_) bq67 rfl rfl (take_ofW HT_.out HW_.out (by kernel_rfl)) (fun _ _ _ h => h) (Or.inl ⟨by rfl, ?_⟩) hHeld ?_ ?_
             rotate_left
             ·rintro w' ⟨s0, s1, s2, s3, s4, s5⟩
              go_simp
              with_reducible rfl
             rotate_left; ·simp only [Act.put, sa, sz, ss, i64_w, i32_w]; rfl
             refine pp_ 44 139 (v := ?_) (a' := ?_) bq68 HT_ rfl rfl ?_ ?_ ?_
             rotate_left; ·intro w'; go_simp; with_reducible rfl
             rotate_left; ·simp only [Act.put, sa, sz, ss, i64_w, i32_w]; rfl
             refine take_ (i := 45) (N := some 140) (v := ?_) (a' := ?_) bq69 rfl rfl (take_ofW HT_.out HW_.out (by kernel_rfl)) (fun _ _ _ h => h) (Or.inl ⟨by rfl, ?_⟩) hHeld ?_ ?_
             rotate_left
             ·rintro w' ⟨s0, s1, s2, s3, s4, s5⟩
              go_simp
              with_reducible rfl
             rotate_left; ·simp only [Act.put, sa, sz, ss, i64_w, i32_w]; rfl
             refine pp_ 46 141 (v := ?_) (a' := ?_) bq70 HT_ rfl rfl ?_ ?_ ?_
             rotate_left; ·intro w'; go_simp; with_reducible rfl
             rotate_left; ·simp only [Act.put, sa, sz, ss, i64_w, i32_w]; rfl
             refine pp_ 47 142 (v := ?_) (a' := ?_) bq71 HT_ rfl rfl ?_ ?_ ?_
             rotate_left; ·intro w'; go_simp; with_reducible rfl
             rotate_left; ·simp only [Act.put, sa, sz, ss, i64_w, i32_w]; rfl
             refine pp_ 48 143 (v := ?_) (a' := ?_) bq72 HT_ rfl rfl ?_ ?_ ?_
             rotate_left; ·intro w'; go_simp; with_reducible rfl
             rotate_left; ·simp only [Act.put, sa, sz, ss, i64_w, i32_w]; rfl
             refine pp_ 49 144 (v := ?_) (a' := ?_) bq73 HT_ rfl rfl ?_ ?_ ?_
             rotate_left; ·intro w'; go_simp; with_reducible rfl
             rotate_left; ·simp only [Act.put, sa, sz, ss, i64_w, i32_w]; rfl
             refine done_ (done_of HT_.out (by kernel_rfl)) ?_
             try go_wp2
             go_ret
             exact ⟨by first | rfl | (simp [errW_none, errW_some] <;> rfl) | (simp [*, errW_none, errW_some] <;> rfl), by repeat (first | (with_reducible first | exact HB.out | apply below_alloc | apply pw_below_drewN | apply below_drew1 | refine below_set ?_ GE254.out | refine below_set ?_ GE269.out) | exact HB.out)⟩
            rw [if_neg c74] at H
            have c74b0 : decide ((wrap64 ((rd t257 ((rd_T27 l0_1 x90_5).f0)) + 1)) < (rd t257 ((rd_T27 l0_1 x90_5).f1))) = false := decide_eq_false c74
            clear c74
            have H' := Aside0.mk H; clear H
            have p268 : 0 ≤ (x90_5 : Int) := of_decide_eq_true (by first | (with_reducible assumption) | assumption)
            have q268 : x90_5 < (l0_1.length : Int) := of_decide_eq_true (by first | (with_reducible assumption) | assumption)
            obtain ⟨ad268, e268, hx268_0, hx268_1⟩ := at_T27 HR0_1.out x90_5 p268 q268
            cases e268
            replace hx268_0 := (HB.out.cell (World.block_lt_of_cell? w _ hx268_0)).trans hx268_0
            replace hx268_1 := (HB.out.cell (World.block_lt_of_cell? w _ hx268_1)).trans hx268_1
            replace p268 := eq_true p268
            replace q268 := eq_true q268
            try go_wp2_with (first | ((with_reducible refine gate_dst (N := 13) rfl ?_); (try (refine gate_guard (by rfl) ?_; dsimp only)); refine box_event ?hg (N := 13) ?hd (cs := #[.int .i64 0, .int .i64 0]) (t := 27) ?hr ?_; (case hd => rfl); (case hg => rfl); (case hr => first | (go_simp; done) | (go_simp; rfl)); intro gb269 hg w81 hbox hb; replace HO_7 := Aside0.mk (Kd.R_below (by (with_reducible repeat (first | apply Kd.R_alloc | apply Kd.R_drewN | apply Kd.R_drew)); exact HO_7.out) hb); have BK269 := Aside0.mk (hbox); have GW269 := Aside0.mk ((by rw [hg]; exact (below_size (by repeat (first | (with_reducible first | exact HB.out | apply below_alloc | apply pw_below_drewN | apply below_drew1 | refine below_set ?_ GE254.out) | exact HB.out))) : w.heap.size ≤ gb269)); have GE269 := Aside0.mk ((by rw [hg]; exact (below_size (by repeat (first | (with_reducible first | exact HB.out | apply below_alloc | apply pw_below_drewN | apply below_drew1 | refine below_set ?_ GE254.out) | exact HB.out))) : w.heap.size ≤ gb269)); replace HB := Aside0.mk (below_step (by repeat (first | (with_reducible first | exact HB.out | apply below_alloc | apply pw_below_drewN | apply below_drew1 | refine below_set ?_ GE254.out) | exact HB.out)) hb); have NB254_269 := Aside0.mk ((by rw [hg]; exact Nat.ne_of_lt (blk_lt (g := gb254) (o := .cells #[.slice A0_0 l0_0.length c0_0, .slice (some ad268) l0_1.length c0_1] 25 (0, 0)) (by (with_reducible repeat (first | refine blk_drewN ?_ _ | refine blk_drew ?_ | refine blk_alloc ?_ _)); exact BK254.out)) : gb254 ≠ gb269)); have NB269_254 := Aside0.mk ((by rw [hg]; exact Nat.ne_of_gt (blk_lt (g := gb254) (o := .cells #[.slice A0_0 l0_0.length c0_0, .slice (some ad268) l0_1.length c0_1] 25 (0, 0)) (by (with_reducible repeat (first | refine blk_drewN ?_ _ | refine blk_drew ?_ | refine blk_alloc ?_ _)); exact BK254.out)) : gb269 ≠ gb254)); replace BK254 := Aside0.mk (blk_below (g := gb254) (o := .cells #[.slice A0_0 l0_0.length c0_0, .slice (some ad268) l0_1.length c0_1] 25 (0, 0)) (by (with_reducible repeat (first | refine blk_drewN ?_ _ | refine blk_drew ?_ | refine blk_alloc ?_ _)); exact BK254.out) hb); clear hb hbox hg; have hnb82 := NB269_254.out; have hnc82 := NB254_269.out; have hcz83_0 : w81.cell? ⟨gb269, 0, none⟩ = some (.int .i64 0) := (blk_cell BK269.out 0).trans rfl; have hcz83_1 : w81.cell? ⟨gb269, 1, none⟩ = some (.int .i64 0) := (blk_cell BK269.out 1).trans rfl; have hfz83_0 := blk_frozen BK269.out 0; have hfz83_1 := blk_frozen BK269.out 1))
            have n0_ : Aside0 (Kd.R (Kd.int .i64) 3 ((w81.setCell ⟨gb269, 0, none⟩ (.int .i64 ((rd_T27 l0_1 x90_5).f0))).setCell ⟨gb269, 1, none⟩ (.int .i64 ((rd_T27 l0_1 x90_5).f1))) w.heap.size (fun _ => True) v258 t257) := ⟨by (with_reducible repeat (first | apply Kd.R_alloc | apply Kd.R_drewN | apply Kd.R_drew)); exact Kd.R_mono (Kd.R_far (p := ⟨gb269, 1, none⟩) (Kd.R_far (p := ⟨gb269, 0, none⟩) (Kd.R_types HO_7.out BK269.out (by decide)) (fun _ hk => hk.2) (.int .i64 ((rd_T27 l0_1 x90_5).f0))) (fun _ hk => hk.2) (.int .i64 ((rd_T27 l0_1 x90_5).f1))) (fun _ hk => trivial)⟩
            have n1_ : Aside0 (((w81.setCell ⟨gb269, 0, none⟩ (.int .i64 ((rd_T27 l0_1 x90_5).f0))).setCell ⟨gb269, 1, none⟩ (.int .i64 ((rd_T27 l0_1 x90_5).f1))).heap[gb254]? = some (.cells #[.slice A0_0 l0_0.length c0_0, .slice (some ad268) l0_1.length c0_1] 25 (0, 0))) := ⟨by (with_reducible repeat (first | refine blk_drewN ?_ _ | refine blk_drew ?_ | refine blk_alloc ?_ _)); refine blk_far ?_ NB254_269.out _; (with_reducible repeat (first | refine blk_drewN ?_ _ | refine blk_drew ?_ | refine blk_alloc ?_ _)); refine blk_far ?_ NB254_269.out _; (with_reducible repeat (first | refine blk_drewN ?_ _ | refine blk_drew ?_ | refine blk_alloc ?_ _)); exact BK254.out⟩
            have n2_ : Aside0 (((w81.setCell ⟨gb269, 0, none⟩ (.int .i64 ((rd_T27 l0_1 x90_5).f0))).setCell ⟨gb269, 1, none⟩ (.int .i64 ((rd_T27 l0_1 x90_5).f1))).heap[gb269]? = some (.cells #[.int .i64 ((rd_T27 l0_1 x90_5).f0), .int .i64 ((rd_T27 l0_1 x90_5).f1)] 27 (0, 0))) := ⟨by (with_reducible repeat (first | refine blk_drewN ?_ _ | refine blk_drew ?_ | refine blk_alloc ?_ _)); refine blk_put (cs := #[.int .i64 ((rd_T27 l0_1 x90_5).f0), .int .i64 0]) ?_ 1 _ rfl; (with_reducible repeat (first | refine blk_drewN ?_ _ | refine blk_drew ?_ | refine blk_alloc ?_ _)); refine blk_put (cs := #[.int .i64 0, .int .i64 0]) ?_ 0 _ rfl; (with_reducible repeat (first | refine blk_drewN ?_ _ | refine blk_drew ?_ | refine blk_alloc ?_ _)); exact BK269.out⟩
            have n3_ : Aside0 (Below w.heap.size w ((w81.setCell ⟨gb269, 0, none⟩ (.int .i64 ((rd_T27 l0_1 x90_5).f0))).setCell ⟨gb269, 1, none⟩ (.int .i64 ((rd_T27 l0_1 x90_5).f1)))) := ⟨by repeat (first | (with_reducible first | exact HB.out | apply below_alloc | apply pw_below_drewN | apply below_drew1 | refine below_set ?_ GE254.out | refine below_set ?_ GE269.out) | exact HB.out)⟩
            generalize ((w81.setCell ⟨gb269, 0, none⟩ (.int .i64 ((rd_T27 l0_1 x90_5).f0))).setCell ⟨gb269, 1, none⟩ (.int .i64 ((rd_T27 l0_1 x90_5).f1))) = w84 at n0_ n1_ n2_ n3_ ⊢
            have HO_7 := n0_
            have BK254 := n1_
            have BK269 := n2_
            have HB := n3_
            clear n0_ n1_ n2_ n3_
            have n0_ := Aside0.mk (Kd.R_drew HO_7.out)
            have n1_ := Aside0.mk (blk_drew BK254.out)
            have n2_ := Aside0.mk (blk_drew BK269.out)
            have n3_ := Aside0.mk (below_drew1 HB.out)
            clear HO_7
            clear BK254
            clear BK269
            clear HB
            have HO_7 := n0_
            have BK254 := n1_
            have BK269 := n2_
            have HB := n3_
            clear n0_ n1_ n2_ n3_
            obtain ⟨Ao92, co92, eo92⟩ := Kd.R_slice HO_7.out
            (first | subst eo92 | (injection eo92 with f1_ f2_ f3_; have f4_ := f1_.symm; have f5_ := f3_.symm; clear f1_ f2_ f3_; subst f4_; subst f5_))
            have p271 : 0 ≤ (((rd_T27 l0_1 x90_5).f0) : Int) := of_decide_eq_true (by first | (with_reducible assumption) | assumption)
            have q271 : ((rd_T27 l0_1 x90_5).f0) < (t257.length : Int) := of_decide_eq_true (by first | (with_reducible assumption) | assumption)
            obtain ⟨ad271, e271, hx271_0⟩ := Kd.at_int (Kd.R_reads' HO_7.out).2.2 ((rd_T27 l0_1 x90_5).f0) p271 q271
            cases e271
            replace p271 := eq_true p271
            replace q271 := eq_true q271
            have p272 : 0 ≤ (((rd_T27 l0_1 x90_5).f1) : Int) := of_decide_eq_true (by first | (with_reducible assumption) | assumption)
            have q272 : ((rd_T27 l0_1 x90_5).f1) < (t257.length : Int) := of_decide_eq_true (by first | (with_reducible assumption) | assumption)
            obtain ⟨ad272, e272, hx272_0⟩ := Kd.at_int (Kd.R_reads' HO_7.out).2.2 ((rd_T27 l0_1 x90_5).f1) p272 q272
            obtain rfl : ad271 = ad272 := (by injection e272)
            replace p272 := eq_true p272
            replace q272 := eq_true q272
            have p273 : 0 ≤ (((rd_T27 l0_1 x90_5).f1) : Int) := of_decide_eq_true (by first | (with_reducible assumption) | assumption)
            have q273 : ((rd_T27 l0_1 x90_5).f1) < (t257.length : Int) := of_decide_eq_true (by first | (with_reducible assumption) | assumption)
            obtain ⟨ad273, e273, hx273_0⟩ := Kd.at_int (Kd.R_reads' HO_7.out).2.2 ((rd_T27 l0_1 x90_5).f1) p273 q273
            obtain rfl : ad271 = ad273 := (by injection e273)
            replace p273 := eq_true p273
            replace q273 := eq_true q273
            have p274 : 0 ≤ (((rd_T27 l0_1 x90_5).f0) : Int) := of_decide_eq_true (by first | (with_reducible assumption) | assumption)
            have q274 : ((rd_T27 l0_1 x90_5).f0) < (t257.length : Int) := of_decide_eq_true (by first | (with_reducible assumption) | assumption)
            obtain ⟨ad274, e274, hx274_0⟩ := Kd.at_int (Kd.R_reads' HO_7.out).2.2 ((rd_T27 l0_1 x90_5).f0) p274 q274
            obtain rfl : ad271 = ad274 := (by injection e274)
            replace p274 := eq_true p274
            replace q274 := eq_true q274
            refine start_ (n := 50) (S := fun w' => w'.cell? ⟨gb269, 0, none⟩ = some (.int .i64 ((rd_T27 l0_1 x90_5).f0)) ∧ w'.cell? ⟨gb269, 1, none⟩ = some (.int .i64 ((rd_T27 l0_1 x90_5).f1)) ∧ w'.cell? (ad271.add (((rd_T27 l0_1 x90_5).f0)).toNat) = some (.int .i64 (rd t257 ((rd_T27 l0_1 x90_5).f0))) ∧ w'.cell? (ad271.add (((rd_T27 l0_1 x90_5).f1)).toNat) = some (.int .i64 (rd t257 ((rd_T27 l0_1 x90_5).f1))) ∧ w'.cell? (ad271.add (((rd_T27 l0_1 x90_5).f1)).toNat) = some (.int .i64 (rd t257 ((rd_T27 l0_1 x90_5).f1))) ∧ w'.cell? (ad271.add (((rd_T27 l0_1 x90_5).f0)).toNat) = some (.int .i64 (rd t257 ((rd_T27 l0_1 x90_5).f0)))) (ds := []) bq23 (by kernel_rfl) rfl rfl ⟨(blk_cell BK269.out 0).trans rfl, (blk_cell BK269.out 1).trans rfl, hx271_0, hx272_0, hx273_0, hx274_0⟩ (fun hHeld => ?_); refine with_tabW stillagelaw07_ReachBoth.tab21 stillagelaw07_ReachBoth.bits21 (fun HT_ HW_ => ?_)
            generalize w84.drew = w85 at HO_7 BK254 BK269 HB hx271_0 hx272_0 hx273_0 hx274_0 hHeld ⊢
            refine pp_ 0 95 (v := ?_) (a' := ?_) bq24 HT_ rfl rfl ?_ ?_ ?_
            rotate_left; ·intro w'; go_simp; with_reducible rfl
            rotate_left; ·simp only [Act.put, sa, sz, ss, i64_w, i32_w]; rfl
            refine pp_ 1 96 (v := ?_) (a' := ?_) bq25 HT_ rfl rfl ?_ ?_ ?_
            rotate_left; ·intro w'; go_simp; with_reducible rfl
            rotate_left; ·simp only [Act.put, sa, sz, ss, i64_w, i32_w]; rfl
            refine pp_ 2 97 (v := ?_) (a' := ?_) bq26 HT_ rfl rfl ?_ ?_ ?_
            rotate_left; ·intro w'; go_simp; with_reducible rfl
            rotate_left; ·simp only [Act.put, sa, sz, ss, i64_w, i32_w]; rfl
            refine one_ (i := 3) (N := some 98) bq27 rfl rfl (one_of HT_.out (by kernel_rfl)) (by decide) (fun K hK => ?_)
            refine goes_ Try.func21 (by kernel_rfl) rfl #[.slice A1 l1.length c1, .int .i64 (wrap64 (x90_5 + 1))] (by rfl) rfl rfl (by (try simp only [List.map_toArray, List.map_cons, List.map_nil]); first | done | rfl | (simp only [List.length_drop, List.length_take]; rfl)) ?_
            with_reducible refine (stillageref07_Open.calls k5 _ _ l1 (wrap64 (x90_5 + 1)) true _ ?side1 ?side2 A59.out).mono ?_
            (case side1 => repeat (first | exact (Kd.C_below HR1.out HB.out) | (with_reducible refine Kd.C_alloc ?_ _) | (with_reducible refine Kd.C_drewN ?_ _) | (with_reducible refine Kd.C_drew ?_)))
            (case side2 => exact HC1.out)
            rintro e w' ⟨rfl, ⟨nd, rfl⟩⟩
            refine ⟨_, rfl, ?_⟩
            obtain ⟨Ao86, co86, eo86⟩ := Kd.R_slice HO_7.out
            (first | subst eo86 | (injection eo86 with f1_ f2_ f3_; have f4_ := f1_.symm; have f5_ := f3_.symm; clear f1_ f2_ f3_; subst f4_; subst f5_))
            refine hK.out _ _ ⟨(blk_cell BK269.out 0).trans rfl, (blk_cell BK269.out 1).trans rfl, hHeld.2.2.1, hHeld.2.2.2.1, hHeld.2.2.2.2.1, hHeld.2.2.2.2.2⟩ (fun hHeld => ?_)
            clear hK K
            refine norm_ (a' := ?_) ?_ ?_
            rotate_left
            ·show Act.put _ (some 98) _ = _
             simp only [Act.put, sa, sz, ss, i64_w, i32_w]
             rfl
            refine pp_ 4 99 (v := ?_) (a' := ?_) bq28 HT_ rfl rfl ?_ ?_ ?_
            rotate_left; ·intro w'; go_simp; with_reducible rfl
            rotate_left; ·simp only [Act.put, sa, sz, ss, i64_w, i32_w]; rfl
            refine pp_ 5 100 (v := ?_) (a' := ?_) bq29 HT_ rfl rfl ?_ ?_ ?_
            rotate_left; ·intro w'; go_simp; with_reducible rfl
            rotate_left; ·simp only [Act.put, sa, sz, ss, i64_w, i32_w]; rfl
            refine pp_ 6 101 (v := ?_) (a' := ?_) bq30 HT_ rfl rfl ?_ ?_ ?_
            rotate_left; ·intro w'; go_simp; with_reducible rfl
            rotate_left; ·simp only [Act.put, sa, sz, ss, i64_w, i32_w]; rfl
            refine take_ (i := 7) (N := some 102) (v := ?_) (a' := ?_) bq31 rfl rfl (take_ofW HT_.out HW_.out (by kernel_rfl)) (fun _ _ _ h => h) (Or.inl ⟨by rfl, ?_⟩) hHeld ?_ ?_
            rotate_left
            ·rintro w' ⟨s0, s1, s2, s3, s4, s5⟩
             go_simp
             with_reducible rfl
            rotate_left; ·simp only [Act.put, sa, sz, ss, i64_w, i32_w]; rfl
            refine pp_ 8 103 (v := ?_) (a' := ?_) bq32 HT_ rfl rfl ?_ ?_ ?_
            rotate_left; ·intro w'; go_simp; with_reducible rfl
            rotate_left; ·simp only [Act.put, sa, sz, ss, i64_w, i32_w]; rfl
            refine take_ (i := 9) (N := some 104) (v := ?_) (a' := ?_) bq33 rfl rfl (take_ofW HT_.out HW_.out (by kernel_rfl)) (fun _ _ _ h => h) (Or.inl ⟨by rfl, ?_⟩) hHeld ?_ ?_
            rotate_left
            ·rintro w' ⟨s0, s1, s2, s3, s4, s5⟩
             go_simp
             with_reducible rfl
            rotate_left; ·simp only [Act.put, sa, sz, ss, i64_w, i32_w]; rfl
            refine pp_ 10 105 (v := ?_) (a' := ?_) bq34 HT_ rfl rfl ?_ ?_ ?_
            rotate_left; ·intro w'; go_simp; with_reducible rfl
            rotate_left; ·simp only [Act.put, sa, sz, ss, i64_w, i32_w]; rfl
            refine pp_ 11 106 (v := ?_) (a' := ?_) bq35 HT_ rfl rfl ?_ ?_ ?_
            rotate_left; ·intro w'; go_simp; with_reducible rfl
            rotate_left; ·simp only [Act.put, sa, sz, ss, i64_w, i32_w]; rfl
            refine pp_ 12 107 (v := ?_) (a' := ?_) bq36 HT_ rfl rfl ?_ ?_ ?_
            rotate_left; ·intro w'; go_simp; with_reducible rfl
            rotate_left; ·simp only [Act.put, sa, sz, ss, i64_w, i32_w]; rfl
            refine pp_ 13 108 (v := ?_) (a' := ?_) bq37 HT_ rfl rfl ?_ ?_ ?_
            rotate_left; ·intro w'; go_simp; with_reducible rfl
            rotate_left; ·simp only [Act.put, sa, sz, ss, i64_w, i32_w]; rfl
            refine pp_ 15 110 (v := ?_) (a' := ?_) bq74 HT_ rfl rfl ?_ ?_ ?_
            rotate_left; ·intro w'; go_simp; with_reducible rfl
            rotate_left; ·simp only [Act.put, sa, sz, ss, i64_w, i32_w]; rfl
            refine take_ (i := 14) (N := some 109) (v := ?_) (a' := ?_) bq39 rfl rfl (take_ofW HT_.out HW_.out (by kernel_rfl)) (fun _ _ _ h => h) (Or.inl ⟨by rfl, ?_⟩) hHeld ?_ ?_
            rotate_left
            ·rintro w' ⟨s0, s1, s2, s3, s4, s5⟩
             go_simp
             with_reducible rfl
            rotate_left; ·simp only [Act.put, sa, sz, ss, i64_w, i32_w]; rfl
            refine pp_ 16 111 (v := ?_) (a' := ?_) bq40 HT_ rfl rfl ?_ ?_ ?_
            rotate_left; ·intro w'; go_simp; with_reducible rfl
            rotate_left; ·simp only [Act.put, sa, sz, ss, i64_w, i32_w]; rfl
            refine pp_ 17 112 (v := ?_) (a' := ?_) bq41 HT_ rfl rfl ?_ ?_ ?_
            rotate_left; ·intro w'; go_simp; with_reducible rfl
            rotate_left; ·simp only [Act.put, sa, sz, ss, i64_w, i32_w]; rfl
            refine pu_ 18 113 (a' := ?_) bq42 HT_ rfl rfl ?_ ?_
            rotate_left; ·simp only [Act.put, sa, sz, ss, i64_w, i32_w]; rfl
            refine pu_ 19 114 (a' := ?_) bq43 HT_ rfl rfl ?_ ?_
            rotate_left; ·simp only [Act.put, sa, sz, ss, i64_w, i32_w]; rfl
            refine pu_ 20 115 (a' := ?_) bq44 HT_ rfl rfl ?_ ?_
            rotate_left; ·simp only [Act.put, sa, sz, ss, i64_w, i32_w]; rfl
            refine pu_ 21 116 (a' := ?_) bq45 HT_ rfl rfl ?_ ?_
            rotate_left; ·simp only [Act.put, sa, sz, ss, i64_w, i32_w]; rfl
            refine pu_ 22 117 (a' := ?_) bq46 HT_ rfl rfl ?_ ?_
            rotate_left; ·simp only [Act.put, sa, sz, ss, i64_w, i32_w]; rfl
            refine pu_ 23 118 (a' := ?_) bq47 HT_ rfl rfl ?_ ?_
            rotate_left; ·simp only [Act.put, sa, sz, ss, i64_w, i32_w]; rfl
            refine pu_ 24 119 (a' := ?_) bq48 HT_ rfl rfl ?_ ?_
            rotate_left; ·simp only [Act.put, sa, sz, ss, i64_w, i32_w]; rfl
            refine pu_ 25 120 (a' := ?_) bq49 HT_ rfl rfl ?_ ?_
            rotate_left; ·simp only [Act.put, sa, sz, ss, i64_w, i32_w]; rfl
            refine pp_ 26 121 (v := ?_) (a' := ?_) bq50 HT_ rfl rfl ?_ ?_ ?_
            rotate_left; ·intro w'; go_simp; with_reducible rfl
            rotate_left; ·simp only [Act.put, sa, sz, ss, i64_w, i32_w]; rfl
            refine pp_ 27 122 (v := ?_) (a' := ?_) bq51 HT_ rfl rfl ?_ ?_ ?_
            rotate_left; ·intro w'; go_simp; with_reducible rfl
            rotate_left; ·simp only [Act.put, sa, sz, ss, i64_w, i32_w]; rfl
            refine pp_ 28 123 (v := ?_) (a' := ?_) bq52 HT_ rfl rfl ?_ ?_ ?_
            rotate_left; ·intro w'; go_simp; with_reducible rfl
            rotate_left; ·simp only [Act.put, sa, sz, ss, i64_w, i32_w]; rfl
            refine pp_ 29 124 (v := ?_) (a' := ?_) bq53 HT_ rfl rfl ?_ ?_ ?_
            rotate_left; ·intro w'; go_simp; with_reducible rfl
            rotate_left; ·simp only [Act.put, sa, sz, ss, i64_w, i32_w]; rfl
            refine pp_ 30 125 (v := ?_) (a' := ?_) bq54 HT_ rfl rfl ?_ ?_ ?_
            rotate_left; ·intro w'; go_simp; with_reducible rfl
            rotate_left; ·simp only [Act.put, sa, sz, ss, i64_w, i32_w]; rfl
            refine take_ (i := 31) (N := some 126) (v := ?_) (a' := ?_) bq55 rfl rfl (take_ofW HT_.out HW_.out (by kernel_rfl)) (fun _ _ _ h => h) (Or.inl ⟨by rfl, ?_⟩) hHeld ?_ ?_
            rotate_left
            ·rintro w' ⟨s0, s1, s2, s3, s4, s5⟩
             go_simp
             with_reducible rfl
            rotate_left; ·simp only [Act.put, sa, sz, ss, i64_w, i32_w]; rfl
            refine pp_ 32 127 (v := ?_) (a' := ?_) bq56 HT_ rfl rfl ?_ ?_ ?_
            rotate_left; ·intro w'; go_simp; with_reducible rfl
            rotate_left; ·simp only [Act.put, sa, sz, ss, i64_w, i32_w]; rfl
            refine take_ (i := 33) (N := some 128) (v := ?_) (a' := ?_) bq57 rfl rfl (take_ofW HT_.out HW_.out (by kernel_rfl)) (fun _ _ _ h => h) (Or.inl ⟨by rfl, ?_⟩) hHeld ?_ ?_
            rotate_left
            ·rintro w' ⟨s0, s1, s2, s3, s4, s5⟩
             go_simp
             with_reducible rfl
            rotate_left; ·simp only [Act.put, sa, sz, ss, i64_w, i32_w]; rfl
            refine pp_ 34 129 (v := ?_) (a' := ?_) bq58 HT_ rfl rfl ?_ ?_ ?_
            rotate_left; ·intro w'; go_simp; with_reducible rfl
            rotate_left; ·simp only [Act.put, sa, sz, ss, i64_w, i32_w]; rfl
            refine pp_ 35 130 (v := ?_) (a' := ?_) bq59 HT_ rfl rfl ?_ ?_ ?_
            rotate_left; ·intro w'; go_simp; with_reducible rfl
            rotate_left; ·simp only [Act.put, sa, sz, ss, i64_w, i32_w]; rfl
            refine pp_ 36 131 (v := ?_) (a' := ?_) bq60 HT_ rfl rfl ?_ ?_ ?_
            rotate_left; ·intro w'; go_simp; with_reducible rfl
            rotate_left; ·simp only [Act.put, sa, sz, ss, i64_w, i32_w]; rfl
            refine pp_ 37 132 (v := ?_) (a' := ?_) bq61 HT_ rfl rfl ?_ ?_ ?_
            rotate_left; ·intro w'; go_simp; with_reducible rfl
            rotate_left; ·simp only [Act.put, sa, sz, ss, i64_w, i32_w]; rfl
            refine pp_ 41 136 (v := ?_) (a' := ?_) bq75 HT_ rfl rfl ?_ ?_ ?_
            rotate_left; ·intro w'; go_simp; with_reducible rfl
            rotate_left; ·simp only [Act.put, sa, sz, ss, i64_w, i32_w]; rfl
            refine pp_ 42 137 (v := ?_) (a' := ?_) bq76 HT_ rfl rfl ?_ ?_ ?_
            rotate_left; ·intro w'; go_simp; with_reducible rfl
            rotate_left; ·simp only [Act.put, sa, sz, ss, i64_w, i32_w]; rfl
            refine take_ (i := 38) (N := some 133) (v := ?_) (a' := ?_) bq77 rfl rfl (take_ofW HT_.out HW_.out (by kernel_rfl)) (fun _ _ _ h => h) (Or.inl ⟨by rfl, ?_⟩) hHeld ?_ ?_
            rotate_left
            ·rintro w' ⟨s0, s1, s2, s3, s4, s5⟩
             go_simp
             with_reducible rfl
            rotate_left; ·simp only [Act.put, sa, sz, ss, i64_w, i32_w]; rfl
            refine pp_ 39 134 (v := ?_) (a' := ?_) bq78 HT_ rfl rfl ?_ ?_ ?_
            rotate_left; ·intro w'; go_simp; with_reducible rfl
            rotate_left; ·simp only [Act.put, sa, sz, ss, i64_w, i32_w]; rfl
            refine take_ (i := 40) (N := some 135) (v := ?_) (a' := ?_) bq66 rfl rfl (take_ofW HT_.out HW_.out (by kernel_rfl)) (fun _ _ _ h => h) (Or.inl ⟨by rfl, ?_⟩) hHeld ?_ ?_
            rotate_left
            ·rintro w' ⟨s0, s1, s2, s3, s4, s5⟩
             go_simp
             with_reducible rfl
            rotate_left; ·simp only [Act.put, sa, sz, ss, i64_w, i32_w]; rfl
            refine take_ (i := 43) (N := some 138) (v := ?_) (a' := ?_) bq67 rfl rfl (take_ofW HT_.out HW_.out (by kernel_rfl)) (fun _ _ _ h => h) (Or.inl ⟨by rfl, ?_⟩) hHeld ?_ ?_
            rotate_left
            ·rintro w' ⟨s0, s1, s2, s3, s4, s5⟩
             go_simp
             with_reducible rfl
            rotate_left; ·simp only [Act.put, sa, sz, ss, i64_w, i32_w]; rfl
            refine pp_ 44 139 (v := ?_) (a' := ?_) bq68 HT_ rfl rfl ?_ ?_ ?_
            rotate_left; ·intro w'; go_simp; with_reducible rfl
            rotate_left; ·simp only [Act.put, sa, sz, ss, i64_w, i32_w]; rfl
            refine take_ (i := 45) (N := some 140) (v := ?_) (a' := ?_) bq69 rfl rfl (take_ofW HT_.out HW_.out (by kernel_rfl)) (fun _ _ _ h => h) (Or.inl ⟨by rfl, ?_⟩) hHeld ?_ ?_
            rotate_left
            ·rintro w' ⟨s0, s1, s2, s3, s4, s5⟩
             go_simp
             with_reducible rfl
            rotate_left; ·simp only [Act.put, sa, sz, ss, i64_w, i32_w]; rfl
            refine pp_ 46 141 (v := ?_) (a' := ?_) bq70 HT_ rfl rfl ?_ ?_ ?_
            rotate_left; ·intro w'; go_simp; with_reducible rfl
            rotate_left; ·simp only [Act.put, sa, sz, ss, i64_w, i32_w]; rfl
            refine pp_ 47 142 (v := ?_) (a' := ?_) bq71 HT_ rfl rfl ?_ ?_ ?_
            rotate_left; ·intro w'; go_simp; with_reducible rfl
            rotate_left; ·simp only [Act.put, sa, sz, ss, i64_w, i32_w]; rfl
            refine pp_ 48 143 (v := ?_) (a' := ?_) bq72 HT_ rfl rfl ?_ ?_ ?_
            rotate_left; ·intro w'; go_simp; with_reducible rfl
            rotate_left; ·simp only [Act.put, sa, sz, ss, i64_w, i32_w]; rfl
            refine pp_ 49 144 (v := ?_) (a' := ?_) bq73 HT_ rfl rfl ?_ ?_ ?_
            rotate_left; ·intro w'; go_simp; with_reducible rfl
            rotate_left; ·simp only [Act.put, sa, sz, ss, i64_w, i32_w]; rfl
            refine done_ (done_of HT_.out (by kernel_rfl)) ?_
            try go_wp2
            go_roundg k5
            case measure => have := HJ4.out; have := HK2.out; have := HJ18.out; have := HK4.out; have := HK5.out; omega
            case rel => exact ⟨(wrap64 (x90_5 + 1)), (by first | rfl | (simp; done) | (simp [*]; done)), H', ⟨by have := HJ4.out; have := HK2.out; have := HJ18.out; have := HK4.out; have := HK5.out; omega⟩, ⟨by (with_reducible repeat (first | apply Kd.R_alloc | apply Kd.R_drewN | apply Kd.R_drew)); exact HO_7.out⟩, ⟨by (with_reducible repeat (first | refine blk_drewN ?_ _ | refine blk_drew ?_ | refine blk_alloc ?_ _)); exact BK254.out⟩, ⟨by repeat (first | (with_reducible first | exact HB.out | apply below_alloc | apply pw_below_drewN | apply below_drew1 | refine below_set ?_ GE254.out | refine below_set ?_ GE269.out) | exact HB.out)⟩⟩
           rw [if_neg c64] at H
           have c64b0 : (((rd_T27 l0_1 x90_5).f0) == x6_2) = false := beq_eq_false_iff_ne.mpr c64
           have c64b1 : (((rd_T27 l0_1 x90_5).f0) != x6_2) = true := bne_iff_ne.mpr c64
           by_cases c87 : ((rd_T27 l0_1 x90_5).f0) < (l0_0.length : Int)
           rotate_left; ·rw [if_neg c87] at H; exact absurd H (by simp)
           rw [if_pos c87] at H
           have c87b0 : decide (((rd_T27 l0_1 x90_5).f0) < (l0_0.length : Int)) = true := decide_eq_true c87
           clear c87
           by_cases c88 : ((rd_T43 l0_0 ((rd_T27 l0_1 x90_5).f0)).f1) = 1
           rotate_left
           ·rw [if_neg c88] at H
            have c88b0 : (((rd_T43 l0_0 ((rd_T27 l0_1 x90_5).f0)).f1) == 1) = false := beq_eq_false_iff_ne.mpr c88
            have c88b1 : (((rd_T43 l0_0 ((rd_T27 l0_1 x90_5).f0)).f1) != 1) = true := bne_iff_ne.mpr c88
            have H' := Aside0.mk H; clear H
            have p268 : 0 ≤ (x90_5 : Int) := of_decide_eq_true (by first | (with_reducible assumption) | assumption)
            have q268 : x90_5 < (l0_1.length : Int) := of_decide_eq_true (by first | (with_reducible assumption) | assumption)
            obtain ⟨ad268, e268, hx268_0, hx268_1⟩ := at_T27 HR0_1.out x90_5 p268 q268
            cases e268
            replace hx268_0 := (HB.out.cell (World.block_lt_of_cell? w _ hx268_0)).trans hx268_0
            replace hx268_1 := (HB.out.cell (World.block_lt_of_cell? w _ hx268_1)).trans hx268_1
            replace p268 := eq_true p268
            replace q268 := eq_true q268
            try go_wp2_with (first | ((with_reducible refine gate_dst (N := 13) rfl ?_); (try (refine gate_guard (by rfl) ?_; dsimp only)); refine box_event ?hg (N := 13) ?hd (cs := #[.int .i64 0, .int .i64 0]) (t := 27) ?hr ?_; (case hd => rfl); (case hg => rfl); (case hr => first | (go_simp; done) | (go_simp; rfl)); intro gb269 hg w111 hbox hb; replace HO_7 := Aside0.mk (Kd.R_below (by (with_reducible repeat (first | apply Kd.R_alloc | apply Kd.R_drewN | apply Kd.R_drew)); exact HO_7.out) hb); have BK269 := Aside0.mk (hbox); have GW269 := Aside0.mk ((by rw [hg]; exact (below_size (by repeat (first | (with_reducible first | exact HB.out | apply below_alloc | apply pw_below_drewN | apply below_drew1 | refine below_set ?_ GE254.out) | exact HB.out))) : w.heap.size ≤ gb269)); have GE269 := Aside0.mk ((by rw [hg]; exact (below_size (by repeat (first | (with_reducible first | exact HB.out | apply below_alloc | apply pw_below_drewN | apply below_drew1 | refine below_set ?_ GE254.out) | exact HB.out))) : w.heap.size ≤ gb269)); replace HB := Aside0.mk (below_step (by repeat (first | (with_reducible first | exact HB.out | apply below_alloc | apply pw_below_drewN | apply below_drew1 | refine below_set ?_ GE254.out) | exact HB.out)) hb); have NB254_269 := Aside0.mk ((by rw [hg]; exact Nat.ne_of_lt (blk_lt (g := gb254) (o := .cells #[.slice A0_0 l0_0.length c0_0, .slice (some ad268) l0_1.length c0_1] 25 (0, 0)) (by (with_reducible repeat (first | refine blk_drewN ?_ _ | refine blk_drew ?_ | refine blk_alloc ?_ _)); exact BK254.out)) : gb254 ≠ gb269)); have NB269_254 := Aside0.mk ((by rw [hg]; exact Nat.ne_of_gt (blk_lt (g := gb254) (o := .cells #[.slice A0_0 l0_0.length c0_0, .slice (some ad268) l0_1.length c0_1] 25 (0, 0)) (by (with_reducible repeat (first | refine blk_drewN ?_ _ | refine blk_drew ?_ | refine blk_alloc ?_ _)); exact BK254.out)) : gb269 ≠ gb254)); replace BK254 := Aside0.mk (blk_below (g := gb254) (o := .cells #[.slice A0_0 l0_0.length c0_0, .slice (some ad268) l0_1.length c0_1] 25 (0, 0)) (by (with_reducible repeat (first | refine blk_drewN ?_ _ | refine blk_drew ?_ | refine blk_alloc ?_ _)); exact BK254.out) hb); clear hb hbox hg; have hnb112 := NB269_254.out; have hnc112 := NB254_269.out; have hcz113_0 : w111.cell? ⟨gb269, 0, none⟩ = some (.int .i64 0) := (blk_cell BK269.out 0).trans rfl; have hcz113_1 : w111.cell? ⟨gb269, 1, none⟩ = some (.int .i64 0) := (blk_cell BK269.out 1).trans rfl; have hfz113_0 := blk_frozen BK269.out 0; have hfz113_1 := blk_frozen BK269.out 1))
            have n0_ : Aside0 (Kd.R (Kd.int .i64) 3 ((w111.setCell ⟨gb269, 0, none⟩ (.int .i64 ((rd_T27 l0_1 x90_5).f0))).setCell ⟨gb269, 1, none⟩ (.int .i64 ((rd_T27 l0_1 x90_5).f1))) w.heap.size (fun _ => True) v258 t257) := ⟨by (with_reducible repeat (first | apply Kd.R_alloc | apply Kd.R_drewN | apply Kd.R_drew)); exact Kd.R_mono (Kd.R_far (p := ⟨gb269, 1, none⟩) (Kd.R_far (p := ⟨gb269, 0, none⟩) (Kd.R_types HO_7.out BK269.out (by decide)) (fun _ hk => hk.2) (.int .i64 ((rd_T27 l0_1 x90_5).f0))) (fun _ hk => hk.2) (.int .i64 ((rd_T27 l0_1 x90_5).f1))) (fun _ hk => trivial)⟩
            have n1_ : Aside0 (((w111.setCell ⟨gb269, 0, none⟩ (.int .i64 ((rd_T27 l0_1 x90_5).f0))).setCell ⟨gb269, 1, none⟩ (.int .i64 ((rd_T27 l0_1 x90_5).f1))).heap[gb254]? = some (.cells #[.slice A0_0 l0_0.length c0_0, .slice (some ad268) l0_1.length c0_1] 25 (0, 0))) := ⟨by (with_reducible repeat (first | refine blk_drewN ?_ _ | refine blk_drew ?_ | refine blk_alloc ?_ _)); refine blk_far ?_ NB254_269.out _; (with_reducible repeat (first | refine blk_drewN ?_ _ | refine blk_drew ?_ | refine blk_alloc ?_ _)); refine blk_far ?_ NB254_269.out _; (with_reducible repeat (first | refine blk_drewN ?_ _ | refine blk_drew ?_ | refine blk_alloc ?_ _)); exact BK254.out⟩
            have n2_ : Aside0 (((w111.setCell ⟨gb269, 0, none⟩ (.int .i64 ((rd_T27 l0_1 x90_5).f0))).setCell ⟨gb269, 1, none⟩ (.int .i64 ((rd_T27 l0_1 x90_5).f1))).heap[gb269]? = some (.cells #[.int .i64 ((rd_T27 l0_1 x90_5).f0), .int .i64 ((rd_T27 l0_1 x90_5).f1)] 27 (0, 0))) := ⟨by (with_reducible repeat (first | refine blk_drewN ?_ _ | refine blk_drew ?_ | refine blk_alloc ?_ _)); refine blk_put (cs := #[.int .i64 ((rd_T27 l0_1 x90_5).f0), .int .i64 0]) ?_ 1 _ rfl; (with_reducible repeat (first | refine blk_drewN ?_ _ | refine blk_drew ?_ | refine blk_alloc ?_ _)); refine blk_put (cs := #[.int .i64 0, .int .i64 0]) ?_ 0 _ rfl; (with_reducible repeat (first | refine blk_drewN ?_ _ | refine blk_drew ?_ | refine blk_alloc ?_ _)); exact BK269.out⟩
            have n3_ : Aside0 (Below w.heap.size w ((w111.setCell ⟨gb269, 0, none⟩ (.int .i64 ((rd_T27 l0_1 x90_5).f0))).setCell ⟨gb269, 1, none⟩ (.int .i64 ((rd_T27 l0_1 x90_5).f1)))) := ⟨by repeat (first | (with_reducible first | exact HB.out | apply below_alloc | apply pw_below_drewN | apply below_drew1 | refine below_set ?_ GE254.out | refine below_set ?_ GE269.out) | exact HB.out)⟩
            generalize ((w111.setCell ⟨gb269, 0, none⟩ (.int .i64 ((rd_T27 l0_1 x90_5).f0))).setCell ⟨gb269, 1, none⟩ (.int .i64 ((rd_T27 l0_1 x90_5).f1))) = w114 at n0_ n1_ n2_ n3_ ⊢
            have HO_7 := n0_
            have BK254 := n1_
            have BK269 := n2_
            have HB := n3_
            clear n0_ n1_ n2_ n3_
            have n0_ := Aside0.mk (Kd.R_drew HO_7.out)
            have n1_ := Aside0.mk (blk_drew BK254.out)
            have n2_ := Aside0.mk (blk_drew BK269.out)
            have n3_ := Aside0.mk (below_drew1 HB.out)
            clear HO_7
            clear BK254
            clear BK269
            clear HB
            have HO_7 := n0_
            have BK254 := n1_
            have BK269 := n2_
            have HB := n3_
            clear n0_ n1_ n2_ n3_
            obtain ⟨Ao96, co96, eo96⟩ := Kd.R_slice HO_7.out
            (first | subst eo96 | (injection eo96 with f1_ f2_ f3_; have f4_ := f1_.symm; have f5_ := f3_.symm; clear f1_ f2_ f3_; subst f4_; subst f5_))
            have p271 : 0 ≤ (((rd_T27 l0_1 x90_5).f0) : Int) := of_decide_eq_true (by first | (with_reducible assumption) | assumption)
            have q271 : ((rd_T27 l0_1 x90_5).f0) < (t257.length : Int) := of_decide_eq_true (by first | (with_reducible assumption) | assumption)
            obtain ⟨ad271, e271, hx271_0⟩ := Kd.at_int (Kd.R_reads' HO_7.out).2.2 ((rd_T27 l0_1 x90_5).f0) p271 q271
            cases e271
            replace p271 := eq_true p271
            replace q271 := eq_true q271
            have p275 : 0 ≤ (((rd_T27 l0_1 x90_5).f0) : Int) := of_decide_eq_true (by first | (with_reducible assumption) | assumption)
            have q275 : ((rd_T27 l0_1 x90_5).f0) < (l0_0.length : Int) := of_decide_eq_true (by first | (with_reducible assumption) | assumption)
            obtain ⟨ad275, e275, hx275_0, hx275_1, hx275_2⟩ := at_T43 HR0_0.out ((rd_T27 l0_1 x90_5).f0) p275 q275
            have hw275_2 := hx275_2
            have hw275_1 := hx275_1
            have hw275_0 := hx275_0
            cases e275
            replace hx275_0 := (HB.out.cell (World.block_lt_of_cell? w _ hx275_0)).trans hx275_0
            replace hx275_1 := (HB.out.cell (World.block_lt_of_cell? w _ hx275_1)).trans hx275_1
            replace hx275_2 := (HB.out.cell (World.block_lt_of_cell? w _ hx275_2)).trans hx275_2
            replace p275 := eq_true p275
            replace q275 := eq_true q275
            refine start_ (n := 50) (S := fun w' => w'.cell? ⟨gb269, 0, none⟩ = some (.int .i64 ((rd_T27 l0_1 x90_5).f0)) ∧ w'.cell? ⟨gb269, 1, none⟩ = some (.int .i64 ((rd_T27 l0_1 x90_5).f1)) ∧ w'.cell? ⟨gb254, 0, none⟩ = some (.slice (some ad275) l0_0.length c0_0) ∧ w'.cell? ⟨gb254, 1, none⟩ = some (.slice (some ad268) l0_1.length c0_1) ∧ w'.cell? (ad271.add (((rd_T27 l0_1 x90_5).f0)).toNat) = some (.int .i64 (rd t257 ((rd_T27 l0_1 x90_5).f0))) ∧ w'.cell? (ad275.add ((((rd_T27 l0_1 x90_5).f0)).toNat * 3)) = some (.string ((rd_T43 l0_0 ((rd_T27 l0_1 x90_5).f0)).f0)) ∧ w'.cell? ⟨(ad275.add ((((rd_T27 l0_1 x90_5).f0)).toNat * 3)).block, (ad275.add ((((rd_T27 l0_1 x90_5).f0)).toNat * 3)).off + 1, none⟩ = some (.int .i64 ((rd_T43 l0_0 ((rd_T27 l0_1 x90_5).f0)).f1)) ∧ w'.cell? ⟨(ad275.add ((((rd_T27 l0_1 x90_5).f0)).toNat * 3)).block, (ad275.add ((((rd_T27 l0_1 x90_5).f0)).toNat * 3)).off + 2, none⟩ = some (.int .i64 ((rd_T43 l0_0 ((rd_T27 l0_1 x90_5).f0)).f2))) (ds := []) bq23 (by kernel_rfl) rfl rfl ⟨(blk_cell BK269.out 0).trans rfl, (blk_cell BK269.out 1).trans rfl, (blk_cell BK254.out 0).trans rfl, (blk_cell BK254.out 1).trans rfl, hx271_0, ((HB.out.cell (World.block_lt_of_cell? w _ hw275_0)).trans hw275_0), ((HB.out.cell (World.block_lt_of_cell? w _ hw275_1)).trans hw275_1), ((HB.out.cell (World.block_lt_of_cell? w _ hw275_2)).trans hw275_2)⟩ (fun hHeld => ?_); refine with_tabW stillagelaw07_ReachBoth.tab21 stillagelaw07_ReachBoth.bits21 (fun HT_ HW_ => ?_)
            generalize w114.drew = w115 at HO_7 BK254 BK269 HB hx271_0 hx275_0 hx275_1 hx275_2 hHeld ⊢
            refine pp_ 0 95 (v := ?_) (a' := ?_) bq24 HT_ rfl rfl ?_ ?_ ?_
            rotate_left; ·intro w'; go_simp; with_reducible rfl
            rotate_left; ·simp only [Act.put, sa, sz, ss, i64_w, i32_w]; rfl
            refine pp_ 1 96 (v := ?_) (a' := ?_) bq25 HT_ rfl rfl ?_ ?_ ?_
            rotate_left; ·intro w'; go_simp; with_reducible rfl
            rotate_left; ·simp only [Act.put, sa, sz, ss, i64_w, i32_w]; rfl
            refine pp_ 2 97 (v := ?_) (a' := ?_) bq26 HT_ rfl rfl ?_ ?_ ?_
            rotate_left; ·intro w'; go_simp; with_reducible rfl
            rotate_left; ·simp only [Act.put, sa, sz, ss, i64_w, i32_w]; rfl
            refine one_ (i := 3) (N := some 98) bq27 rfl rfl (one_of HT_.out (by kernel_rfl)) (by decide) (fun K hK => ?_)
            refine goes_ Try.func21 (by kernel_rfl) rfl #[.slice A1 l1.length c1, .int .i64 (wrap64 (x90_5 + 1))] (by rfl) rfl rfl (by (try simp only [List.map_toArray, List.map_cons, List.map_nil]); first | done | rfl | (simp only [List.length_drop, List.length_take]; rfl)) ?_
            with_reducible refine (stillageref07_Open.calls k5 _ _ l1 (wrap64 (x90_5 + 1)) true _ ?side1 ?side2 A59.out).mono ?_
            (case side1 => repeat (first | exact (Kd.C_below HR1.out HB.out) | (with_reducible refine Kd.C_alloc ?_ _) | (with_reducible refine Kd.C_drewN ?_ _) | (with_reducible refine Kd.C_drew ?_)))
            (case side2 => exact HC1.out)
            rintro e w' ⟨rfl, ⟨nd, rfl⟩⟩
            refine ⟨_, rfl, ?_⟩
            obtain ⟨Ao116, co116, eo116⟩ := Kd.R_slice HO_7.out
            (first | subst eo116 | (injection eo116 with f1_ f2_ f3_; have f4_ := f1_.symm; have f5_ := f3_.symm; clear f1_ f2_ f3_; subst f4_; subst f5_))
            refine hK.out _ _ ⟨(blk_cell BK269.out 0).trans rfl, (blk_cell BK269.out 1).trans rfl, (blk_cell BK254.out 0).trans rfl, (blk_cell BK254.out 1).trans rfl, hHeld.2.2.2.2.1, ((HB.out.cell (World.block_lt_of_cell? w _ hw275_0)).trans hw275_0), ((HB.out.cell (World.block_lt_of_cell? w _ hw275_1)).trans hw275_1), ((HB.out.cell (World.block_lt_of_cell? w _ hw275_2)).trans hw275_2)⟩ (fun hHeld => ?_)
            clear hK K
            refine norm_ (a' := ?_) ?_ ?_
            rotate_left
            ·show Act.put _ (some 98) _ = _
             simp only [Act.put, sa, sz, ss, i64_w, i32_w]
             rfl
            refine pp_ 4 99 (v := ?_) (a' := ?_) bq28 HT_ rfl rfl ?_ ?_ ?_
            rotate_left; ·intro w'; go_simp; with_reducible rfl
            rotate_left; ·simp only [Act.put, sa, sz, ss, i64_w, i32_w]; rfl
            refine pp_ 5 100 (v := ?_) (a' := ?_) bq29 HT_ rfl rfl ?_ ?_ ?_
            rotate_left; ·intro w'; go_simp; with_reducible rfl
            rotate_left; ·simp only [Act.put, sa, sz, ss, i64_w, i32_w]; rfl
            refine pp_ 6 101 (v := ?_) (a' := ?_) bq30 HT_ rfl rfl ?_ ?_ ?_
            rotate_left; ·intro w'; go_simp; with_reducible rfl
            rotate_left; ·simp only [Act.put, sa, sz, ss, i64_w, i32_w]; rfl
            refine take_ (i := 7) (N := some 102) (v := ?_) (a' := ?_) bq31 rfl rfl (take_ofW HT_.out HW_.out (by kernel_rfl)) (fun _ _ _ h => h) (Or.inl ⟨by rfl, ?_⟩) hHeld ?_ ?_
            rotate_left
            ·rintro w' ⟨s0, s1, s2, s3, s4, s5, s6, s7⟩
             go_simp
             with_reducible rfl
            rotate_left; ·simp only [Act.put, sa, sz, ss, i64_w, i32_w]; rfl
            refine pp_ 8 103 (v := ?_) (a' := ?_) bq32 HT_ rfl rfl ?_ ?_ ?_
            rotate_left; ·intro w'; go_simp; with_reducible rfl
            rotate_left; ·simp only [Act.put, sa, sz, ss, i64_w, i32_w]; rfl
            refine take_ (i := 9) (N := some 104) (v := ?_) (a' := ?_) bq33 rfl rfl (take_ofW HT_.out HW_.out (by kernel_rfl)) (fun _ _ _ h => h) (Or.inl ⟨by rfl, ?_⟩) hHeld ?_ ?_
            rotate_left
            ·rintro w' ⟨s0, s1, s2, s3, s4, s5, s6, s7⟩
             go_simp
             with_reducible rfl
            rotate_left; ·simp only [Act.put, sa, sz, ss, i64_w, i32_w]; rfl
            refine pp_ 10 105 (v := ?_) (a' := ?_) bq34 HT_ rfl rfl ?_ ?_ ?_
            rotate_left; ·intro w'; go_simp; with_reducible rfl
            rotate_left; ·simp only [Act.put, sa, sz, ss, i64_w, i32_w]; rfl
            refine pp_ 11 106 (v := ?_) (a' := ?_) bq35 HT_ rfl rfl ?_ ?_ ?_
            rotate_left; ·intro w'; go_simp; with_reducible rfl
            rotate_left; ·simp only [Act.put, sa, sz, ss, i64_w, i32_w]; rfl
            refine pp_ 12 107 (v := ?_) (a' := ?_) bq36 HT_ rfl rfl ?_ ?_ ?_
            rotate_left; ·intro w'; go_simp; with_reducible rfl
            rotate_left; ·simp only [Act.put, sa, sz, ss, i64_w, i32_w]; rfl
            refine pp_ 13 108 (v := ?_) (a' := ?_) bq37 HT_ rfl rfl ?_ ?_ ?_
            rotate_left; ·intro w'; go_simp; with_reducible rfl
            rotate_left; ·simp only [Act.put, sa, sz, ss, i64_w, i32_w]; rfl
            refine pp_ 15 110 (v := ?_) (a' := ?_) bq74 HT_ rfl rfl ?_ ?_ ?_
            rotate_left; ·intro w'; go_simp; with_reducible rfl
            rotate_left; ·simp only [Act.put, sa, sz, ss, i64_w, i32_w]; rfl
            refine take_ (i := 14) (N := some 109) (v := ?_) (a' := ?_) bq39 rfl rfl (take_ofW HT_.out HW_.out (by kernel_rfl)) (fun _ _ _ h => h) (Or.inl ⟨by rfl, ?_⟩) hHeld ?_ ?_
            rotate_left
            ·rintro w' ⟨s0, s1, s2, s3, s4, s5, s6, s7⟩
             go_simp
             with_reducible rfl
            rotate_left; ·simp only [Act.put, sa, sz, ss, i64_w, i32_w]; rfl
            refine pp_ 16 111 (v := ?_) (a' := ?_) bq40 HT_ rfl rfl ?_ ?_ ?_
            rotate_left; ·intro w'; go_simp; with_reducible rfl
            rotate_left; ·simp only [Act.put, sa, sz, ss, i64_w, i32_w]; rfl
            refine pp_ 17 112 (v := ?_) (a' := ?_) bq41 HT_ rfl rfl ?_ ?_ ?_
            rotate_left; ·intro w'; go_simp; with_reducible rfl
            rotate_left; ·simp only [Act.put, sa, sz, ss, i64_w, i32_w]; rfl
            refine pp_ 18 113 (v := ?_) (a' := ?_) bq42 HT_ rfl rfl ?_ ?_ ?_
            rotate_left; ·intro w'; go_simp; with_reducible rfl
            rotate_left; ·simp only [Act.put, sa, sz, ss, i64_w, i32_w]; rfl
            refine pp_ 20 115 (v := ?_) (a' := ?_) bq79 HT_ rfl rfl ?_ ?_ ?_
            rotate_left; ·intro w'; go_simp; with_reducible rfl
            rotate_left; ·simp only [Act.put, sa, sz, ss, i64_w, i32_w]; rfl
            refine take_ (i := 19) (N := some 114) (v := ?_) (a' := ?_) bq44 rfl rfl (take_ofW HT_.out HW_.out (by kernel_rfl)) (fun _ _ _ h => h) (Or.inl ⟨by rfl, ?_⟩) hHeld ?_ ?_
            rotate_left
            ·rintro w' ⟨s0, s1, s2, s3, s4, s5, s6, s7⟩
             go_simp
             with_reducible rfl
            rotate_left; ·simp only [Act.put, sa, sz, ss, i64_w, i32_w]; rfl
            refine take_ (i := 21) (N := some 116) (v := ?_) (a' := ?_) bq45 rfl rfl (take_ofW HT_.out HW_.out (by kernel_rfl)) (fun _ _ _ h => h) (Or.inl ⟨by rfl, ?_⟩) hHeld ?_ ?_
            rotate_left
            ·rintro w' ⟨s0, s1, s2, s3, s4, s5, s6, s7⟩
             go_simp
             with_reducible rfl
            rotate_left; ·simp only [Act.put, sa, sz, ss, i64_w, i32_w]; rfl
            refine pp_ 22 117 (v := ?_) (a' := ?_) bq46 HT_ rfl rfl ?_ ?_ ?_
            rotate_left; ·intro w'; go_simp; with_reducible rfl
            rotate_left; ·simp only [Act.put, sa, sz, ss, i64_w, i32_w]; rfl
            refine pp_ 23 118 (v := ?_) (a' := ?_) bq47 HT_ rfl rfl ?_ ?_ ?_
            rotate_left; ·intro w'; go_simp; with_reducible rfl
            rotate_left; ·simp only [Act.put, sa, sz, ss, i64_w, i32_w]; rfl
            refine take_ (i := 24) (N := some 119) (v := ?_) (a' := ?_) bq48 rfl rfl (take_ofW HT_.out HW_.out (by kernel_rfl)) (fun _ _ _ h => h) (Or.inl ⟨by rfl, ?_⟩) hHeld ?_ ?_
            rotate_left
            ·rintro w' ⟨s0, s1, s2, s3, s4, s5, s6, s7⟩
             go_simp
             with_reducible rfl
            rotate_left; ·simp only [Act.put, sa, sz, ss, i64_w, i32_w]; rfl
            refine pp_ 25 120 (v := ?_) (a' := ?_) bq49 HT_ rfl rfl ?_ ?_ ?_
            rotate_left; ·intro w'; go_simp; with_reducible rfl
            rotate_left; ·simp only [Act.put, sa, sz, ss, i64_w, i32_w]; rfl
            refine pp_ 26 121 (v := ?_) (a' := ?_) bq50 HT_ rfl rfl ?_ ?_ ?_
            rotate_left; ·intro w'; go_simp; with_reducible rfl
            rotate_left; ·simp only [Act.put, sa, sz, ss, i64_w, i32_w]; rfl
            refine pp_ 27 122 (v := ?_) (a' := ?_) bq51 HT_ rfl rfl ?_ ?_ ?_
            rotate_left; ·intro w'; go_simp; with_reducible rfl
            rotate_left; ·simp only [Act.put, sa, sz, ss, i64_w, i32_w]; rfl
            refine pp_ 28 123 (v := ?_) (a' := ?_) bq52 HT_ rfl rfl ?_ ?_ ?_
            rotate_left; ·intro w'; go_simp; with_reducible rfl
            rotate_left; ·simp only [Act.put, sa, sz, ss, i64_w, i32_w]; rfl
            refine pu_ 29 124 (a' := ?_) bq53 HT_ rfl rfl ?_ ?_
            rotate_left; ·simp only [Act.put, sa, sz, ss, i64_w, i32_w]; rfl
            refine pu_ 30 125 (a' := ?_) bq54 HT_ rfl rfl ?_ ?_
            rotate_left; ·simp only [Act.put, sa, sz, ss, i64_w, i32_w]; rfl
            refine pu_ 31 126 (a' := ?_) bq55 HT_ rfl rfl ?_ ?_
            rotate_left; ·simp only [Act.put, sa, sz, ss, i64_w, i32_w]; rfl
            refine pu_ 32 127 (a' := ?_) bq56 HT_ rfl rfl ?_ ?_
            rotate_left; ·simp only [Act.put, sa, sz, ss, i64_w, i32_w]; rfl
            refine pu_ 33 128 (a' := ?_) bq57 HT_ rfl rfl ?_ ?_
            rotate_left; ·simp only [Act.put, sa, sz, ss, i64_w, i32_w]; rfl
            refine pu_ 34 129 (a' := ?_) bq58 HT_ rfl rfl ?_ ?_
            rotate_left; ·simp only [Act.put, sa, sz, ss, i64_w, i32_w]; rfl
            refine pu_ 35 130 (a' := ?_) bq59 HT_ rfl rfl ?_ ?_
            rotate_left; ·simp only [Act.put, sa, sz, ss, i64_w, i32_w]; rfl
            refine pu_ 36 131 (a' := ?_) bq60 HT_ rfl rfl ?_ ?_
            rotate_left; ·simp only [Act.put, sa, sz, ss, i64_w, i32_w]; rfl
            refine pu_ 37 132 (a' := ?_) bq61 HT_ rfl rfl ?_ ?_
            rotate_left; ·simp only [Act.put, sa, sz, ss, i64_w, i32_w]; rfl
            refine pu_ 38 133 (a' := ?_) bq62 HT_ rfl rfl ?_ ?_
            rotate_left; ·simp only [Act.put, sa, sz, ss, i64_w, i32_w]; rfl
            refine pu_ 39 134 (a' := ?_) bq63 HT_ rfl rfl ?_ ?_
            rotate_left; ·simp only [Act.put, sa, sz, ss, i64_w, i32_w]; rfl
            refine pu_ 40 135 (a' := ?_) bq64 HT_ rfl rfl ?_ ?_
            rotate_left; ·simp only [Act.put, sa, sz, ss, i64_w, i32_w]; rfl
            refine pu_ 41 136 (a' := ?_) bq65 HT_ rfl rfl ?_ ?_
            rotate_left; ·simp only [Act.put, sa, sz, ss, i64_w, i32_w]; rfl
            refine pu_ 42 137 (a' := ?_) bq66 HT_ rfl rfl ?_ ?_
            rotate_left; ·simp only [Act.put, sa, sz, ss, i64_w, i32_w]; rfl
            refine pu_ 43 138 (a' := ?_) bq67 HT_ rfl rfl ?_ ?_
            rotate_left; ·simp only [Act.put, sa, sz, ss, i64_w, i32_w]; rfl
            refine pu_ 44 139 (a' := ?_) bq68 HT_ rfl rfl ?_ ?_
            rotate_left; ·simp only [Act.put, sa, sz, ss, i64_w, i32_w]; rfl
            refine pu_ 45 140 (a' := ?_) bq69 HT_ rfl rfl ?_ ?_
            rotate_left; ·simp only [Act.put, sa, sz, ss, i64_w, i32_w]; rfl
            refine pu_ 46 141 (a' := ?_) bq70 HT_ rfl rfl ?_ ?_
            rotate_left; ·simp only [Act.put, sa, sz, ss, i64_w, i32_w]; rfl
            refine pu_ 47 142 (a' := ?_) bq71 HT_ rfl rfl ?_ ?_
            rotate_left; ·simp only [Act.put, sa, sz, ss, i64_w, i32_w]; rfl
            refine pu_ 48 143 (a' := ?_) bq72 HT_ rfl rfl ?_ ?_
            rotate_left; ·simp only [Act.put, sa, sz, ss, i64_w, i32_w]; rfl
            refine pp_ 49 144 (v := ?_) (a' := ?_) bq73 HT_ rfl rfl ?_ ?_ ?_
            rotate_left; ·intro w'; go_simp; with_reducible rfl
            rotate_left; ·simp only [Act.put, sa, sz, ss, i64_w, i32_w]; rfl
            refine done_ (done_of HT_.out (by kernel_rfl)) ?_
            try go_wp2
            go_roundg k5
            case measure => have := HJ4.out; have := HK2.out; have := HJ18.out; have := HK4.out; have := HK5.out; omega
            case rel => exact ⟨(wrap64 (x90_5 + 1)), (by first | rfl | (simp; done) | (simp [*]; done)), H', ⟨by have := HJ4.out; have := HK2.out; have := HJ18.out; have := HK4.out; have := HK5.out; omega⟩, ⟨by (with_reducible repeat (first | apply Kd.R_alloc | apply Kd.R_drewN | apply Kd.R_drew)); exact HO_7.out⟩, ⟨by (with_reducible repeat (first | refine blk_drewN ?_ _ | refine blk_drew ?_ | refine blk_alloc ?_ _)); exact BK254.out⟩, ⟨by repeat (first | (with_reducible first | exact HB.out | apply below_alloc | apply pw_below_drewN | apply below_drew1 | refine below_set ?_ GE254.out | refine below_set ?_ GE269.out) | exact HB.out)⟩⟩
           rw [if_pos c88] at H
           have c88b0 : (((rd_T43 l0_0 ((rd_T27 l0_1 x90_5).f0)).f1) == 1) = true := beq_iff_eq.mpr c88
           have c88b1 : (((rd_T43 l0_0 ((rd_T27 l0_1 x90_5).f0)).f1) != 1) = false := bne_eq_false_iff_eq.mpr c88
           clear c88
           by_cases c89 : 0 ≤ ((rd_T27 l0_1 x90_5).f1)
           rotate_left; ·rw [if_neg c89] at H; exact absurd H (by simp)
           rw [if_pos c89] at H
           have c89b0 : decide (0 ≤ ((rd_T27 l0_1 x90_5).f1)) = true := decide_eq_true c89
           clear c89
           by_cases c90 : ((rd_T27 l0_1 x90_5).f1) < (t257.length : Int)
           rotate_left; ·rw [if_neg c90] at H; exact absurd H (by simp)
           rw [if_pos c90] at H
           have c90b0 : decide (((rd_T27 l0_1 x90_5).f1) < (t257.length : Int)) = true := decide_eq_true c90
           clear c90
           by_cases c91 : (rd t257 ((rd_T27 l0_1 x90_5).f1)) < 0
           ·rw [if_pos c91] at H
            have c91b0 : decide ((rd t257 ((rd_T27 l0_1 x90_5).f1)) < 0) = true := decide_eq_true c91
            clear c91
            obtain rfl := Option.some.inj H
            have p268 : 0 ≤ (x90_5 : Int) := of_decide_eq_true (by first | (with_reducible assumption) | assumption)
            have q268 : x90_5 < (l0_1.length : Int) := of_decide_eq_true (by first | (with_reducible assumption) | assumption)
            obtain ⟨ad268, e268, hx268_0, hx268_1⟩ := at_T27 HR0_1.out x90_5 p268 q268
            cases e268
            replace hx268_0 := (HB.out.cell (World.block_lt_of_cell? w _ hx268_0)).trans hx268_0
            replace hx268_1 := (HB.out.cell (World.block_lt_of_cell? w _ hx268_1)).trans hx268_1
            replace p268 := eq_true p268
            replace q268 := eq_true q268
            try go_wp2_with (first | ((with_reducible refine gate_dst (N := 13) rfl ?_); (try (refine gate_guard (by rfl) ?_; dsimp only)); refine box_event ?hg (N := 13) ?hd (cs := #[.int .i64 0, .int .i64 0]) (t := 27) ?hr ?_; (case hd => rfl); (case hg => rfl); (case hr => first | (go_simp; done) | (go_simp; rfl)); intro gb269 hg w92 hbox hb; replace HO_7 := Aside0.mk (Kd.R_below (by (with_reducible repeat (first | apply Kd.R_alloc | apply Kd.R_drewN | apply Kd.R_drew)); exact HO_7.out) hb); have BK269 := Aside0.mk (hbox); have GW269 := Aside0.mk ((by rw [hg]; exact (below_size (by repeat (first | (with_reducible first | exact HB.out | apply below_alloc | apply pw_below_drewN | apply below_drew1 | refine below_set ?_ GE254.out) | exact HB.out))) : w.heap.size ≤ gb269)); have GE269 := Aside0.mk ((by rw [hg]; exact (below_size (by repeat (first | (with_reducible first | exact HB.out | apply below_alloc | apply pw_below_drewN | apply below_drew1 | refine below_set ?_ GE254.out) | exact HB.out))) : w.heap.size ≤ gb269)); replace HB := Aside0.mk (below_step (by repeat (first | (with_reducible first | exact HB.out | apply below_alloc | apply pw_below_drewN | apply below_drew1 | refine below_set ?_ GE254.out) | exact HB.out)) hb); have NB254_269 := Aside0.mk ((by rw [hg]; exact Nat.ne_of_lt (blk_lt (g := gb254) (o := .cells #[.slice A0_0 l0_0.length c0_0, .slice (some ad268) l0_1.length c0_1] 25 (0, 0)) (by (with_reducible repeat (first | refine blk_drewN ?_ _ | refine blk_drew ?_ | refine blk_alloc ?_ _)); exact BK254.out)) : gb254 ≠ gb269)); have NB269_254 := Aside0.mk ((by rw [hg]; exact Nat.ne_of_gt (blk_lt (g := gb254) (o := .cells #[.slice A0_0 l0_0.length c0_0, .slice (some ad268) l0_1.length c0_1] 25 (0, 0)) (by (with_reducible repeat (first | refine blk_drewN ?_ _ | refine blk_drew ?_ | refine blk_alloc ?_ _)); exact BK254.out)) : gb269 ≠ gb254)); replace BK254 := Aside0.mk (blk_below (g := gb254) (o := .cells #[.slice A0_0 l0_0.length c0_0, .slice (some ad268) l0_1.length c0_1] 25 (0, 0)) (by (with_reducible repeat (first | refine blk_drewN ?_ _ | refine blk_drew ?_ | refine blk_alloc ?_ _)); exact BK254.out) hb); clear hb hbox hg; have hnb93 := NB269_254.out; have hnc93 := NB254_269.out; have hcz94_0 : w92.cell? ⟨gb269, 0, none⟩ = some (.int .i64 0) := (blk_cell BK269.out 0).trans rfl; have hcz94_1 : w92.cell? ⟨gb269, 1, none⟩ = some (.int .i64 0) := (blk_cell BK269.out 1).trans rfl; have hfz94_0 := blk_frozen BK269.out 0; have hfz94_1 := blk_frozen BK269.out 1))
            have n0_ : Aside0 (Kd.R (Kd.int .i64) 3 ((w92.setCell ⟨gb269, 0, none⟩ (.int .i64 ((rd_T27 l0_1 x90_5).f0))).setCell ⟨gb269, 1, none⟩ (.int .i64 ((rd_T27 l0_1 x90_5).f1))) w.heap.size (fun _ => True) v258 t257) := ⟨by (with_reducible repeat (first | apply Kd.R_alloc | apply Kd.R_drewN | apply Kd.R_drew)); exact Kd.R_mono (Kd.R_far (p := ⟨gb269, 1, none⟩) (Kd.R_far (p := ⟨gb269, 0, none⟩) (Kd.R_types HO_7.out BK269.out (by decide)) (fun _ hk => hk.2) (.int .i64 ((rd_T27 l0_1 x90_5).f0))) (fun _ hk => hk.2) (.int .i64 ((rd_T27 l0_1 x90_5).f1))) (fun _ hk => trivial)⟩
            have n1_ : Aside0 (((w92.setCell ⟨gb269, 0, none⟩ (.int .i64 ((rd_T27 l0_1 x90_5).f0))).setCell ⟨gb269, 1, none⟩ (.int .i64 ((rd_T27 l0_1 x90_5).f1))).heap[gb254]? = some (.cells #[.slice A0_0 l0_0.length c0_0, .slice (some ad268) l0_1.length c0_1] 25 (0, 0))) := ⟨by (with_reducible repeat (first | refine blk_drewN ?_ _ | refine blk_drew ?_ | refine blk_alloc ?_ _)); refine blk_far ?_ NB254_269.out _; (with_reducible repeat (first | refine blk_drewN ?_ _ | refine blk_drew ?_ | refine blk_alloc ?_ _)); refine blk_far ?_ NB254_269.out _; (with_reducible repeat (first | refine blk_drewN ?_ _ | refine blk_drew ?_ | refine blk_alloc ?_ _)); exact BK254.out⟩
            have n2_ : Aside0 (((w92.setCell ⟨gb269, 0, none⟩ (.int .i64 ((rd_T27 l0_1 x90_5).f0))).setCell ⟨gb269, 1, none⟩ (.int .i64 ((rd_T27 l0_1 x90_5).f1))).heap[gb269]? = some (.cells #[.int .i64 ((rd_T27 l0_1 x90_5).f0), .int .i64 ((rd_T27 l0_1 x90_5).f1)] 27 (0, 0))) := ⟨by (with_reducible repeat (first | refine blk_drewN ?_ _ | refine blk_drew ?_ | refine blk_alloc ?_ _)); refine blk_put (cs := #[.int .i64 ((rd_T27 l0_1 x90_5).f0), .int .i64 0]) ?_ 1 _ rfl; (with_reducible repeat (first | refine blk_drewN ?_ _ | refine blk_drew ?_ | refine blk_alloc ?_ _)); refine blk_put (cs := #[.int .i64 0, .int .i64 0]) ?_ 0 _ rfl; (with_reducible repeat (first | refine blk_drewN ?_ _ | refine blk_drew ?_ | refine blk_alloc ?_ _)); exact BK269.out⟩
            have n3_ : Aside0 (Below w.heap.size w ((w92.setCell ⟨gb269, 0, none⟩ (.int .i64 ((rd_T27 l0_1 x90_5).f0))).setCell ⟨gb269, 1, none⟩ (.int .i64 ((rd_T27 l0_1 x90_5).f1)))) := ⟨by repeat (first | (with_reducible first | exact HB.out | apply below_alloc | apply pw_below_drewN | apply below_drew1 | refine below_set ?_ GE254.out | refine below_set ?_ GE269.out) | exact HB.out)⟩
            generalize ((w92.setCell ⟨gb269, 0, none⟩ (.int .i64 ((rd_T27 l0_1 x90_5).f0))).setCell ⟨gb269, 1, none⟩ (.int .i64 ((rd_T27 l0_1 x90_5).f1))) = w95 at n0_ n1_ n2_ n3_ ⊢
            have HO_7 := n0_
            have BK254 := n1_
            have BK269 := n2_
            have HB := n3_
            clear n0_ n1_ n2_ n3_
            have n0_ := Aside0.mk (Kd.R_drew HO_7.out)
            have n1_ := Aside0.mk (blk_drew BK254.out)
            have n2_ := Aside0.mk (blk_drew BK269.out)
            have n3_ := Aside0.mk (below_drew1 HB.out)
            clear HO_7
            clear BK254
            clear BK269
            clear HB
            have HO_7 := n0_
            have BK254 := n1_
            have BK269 := n2_
            have HB := n3_
            clear n0_ n1_ n2_ n3_
            obtain ⟨Ao93, co93, eo93⟩ := Kd.R_slice HO_7.out
            (first | subst eo93 | (injection eo93 with f1_ f2_ f3_; have f4_ := f1_.symm; have f5_ := f3_.symm; clear f1_ f2_ f3_; subst f4_; subst f5_))
            have p271 : 0 ≤ (((rd_T27 l0_1 x90_5).f0) : Int) := of_decide_eq_true (by first | (with_reducible assumption) | assumption)
            have q271 : ((rd_T27 l0_1 x90_5).f0) < (t257.length : Int) := of_decide_eq_true (by first | (with_reducible assumption) | assumption)
            obtain ⟨ad271, e271, hx271_0⟩ := Kd.at_int (Kd.R_reads' HO_7.out).2.2 ((rd_T27 l0_1 x90_5).f0) p271 q271
            cases e271
            replace p271 := eq_true p271
            replace q271 := eq_true q271
            have p275 : 0 ≤ (((rd_T27 l0_1 x90_5).f0) : Int) := of_decide_eq_true (by first | (with_reducible assumption) | assumption)
            have q275 : ((rd_T27 l0_1 x90_5).f0) < (l0_0.length : Int) := of_decide_eq_true (by first | (with_reducible assumption) | assumption)
            obtain ⟨ad275, e275, hx275_0, hx275_1, hx275_2⟩ := at_T43 HR0_0.out ((rd_T27 l0_1 x90_5).f0) p275 q275
            have hw275_2 := hx275_2
            have hw275_1 := hx275_1
            have hw275_0 := hx275_0
            cases e275
            replace hx275_0 := (HB.out.cell (World.block_lt_of_cell? w _ hx275_0)).trans hx275_0
            replace hx275_1 := (HB.out.cell (World.block_lt_of_cell? w _ hx275_1)).trans hx275_1
            replace hx275_2 := (HB.out.cell (World.block_lt_of_cell? w _ hx275_2)).trans hx275_2
            replace p275 := eq_true p275
            replace q275 := eq_true q275
            have p276 : 0 ≤ (((rd_T27 l0_1 x90_5).f1) : Int) := of_decide_eq_true (by first | (with_reducible assumption) | assumption)
            have q276 : ((rd_T27 l0_1 x90_5).f1) < (t257.length : Int) := of_decide_eq_true (by first | (with_reducible assumption) | assumption)
            obtain ⟨ad276, e276, hx276_0⟩ := Kd.at_int (Kd.R_reads' HO_7.out).2.2 ((rd_T27 l0_1 x90_5).f1) p276 q276
            obtain rfl : ad271 = ad276 := (by injection e276)
            replace p276 := eq_true p276
            replace q276 := eq_true q276
            refine start_ (n := 50) (S := fun w' => w'.cell? ⟨gb269, 0, none⟩ = some (.int .i64 ((rd_T27 l0_1 x90_5).f0)) ∧ w'.cell? ⟨gb269, 1, none⟩ = some (.int .i64 ((rd_T27 l0_1 x90_5).f1)) ∧ w'.cell? ⟨gb254, 0, none⟩ = some (.slice (some ad275) l0_0.length c0_0) ∧ w'.cell? ⟨gb254, 1, none⟩ = some (.slice (some ad268) l0_1.length c0_1) ∧ w'.cell? (ad271.add (((rd_T27 l0_1 x90_5).f0)).toNat) = some (.int .i64 (rd t257 ((rd_T27 l0_1 x90_5).f0))) ∧ w'.cell? (ad275.add ((((rd_T27 l0_1 x90_5).f0)).toNat * 3)) = some (.string ((rd_T43 l0_0 ((rd_T27 l0_1 x90_5).f0)).f0)) ∧ w'.cell? ⟨(ad275.add ((((rd_T27 l0_1 x90_5).f0)).toNat * 3)).block, (ad275.add ((((rd_T27 l0_1 x90_5).f0)).toNat * 3)).off + 1, none⟩ = some (.int .i64 ((rd_T43 l0_0 ((rd_T27 l0_1 x90_5).f0)).f1)) ∧ w'.cell? ⟨(ad275.add ((((rd_T27 l0_1 x90_5).f0)).toNat * 3)).block, (ad275.add ((((rd_T27 l0_1 x90_5).f0)).toNat * 3)).off + 2, none⟩ = some (.int .i64 ((rd_T43 l0_0 ((rd_T27 l0_1 x90_5).f0)).f2)) ∧ w'.cell? (ad271.add (((rd_T27 l0_1 x90_5).f1)).toNat) = some (.int .i64 (rd t257 ((rd_T27 l0_1 x90_5).f1)))) (ds := []) bq23 (by kernel_rfl) rfl rfl ⟨(blk_cell BK269.out 0).trans rfl, (blk_cell BK269.out 1).trans rfl, (blk_cell BK254.out 0).trans rfl, (blk_cell BK254.out 1).trans rfl, hx271_0, ((HB.out.cell (World.block_lt_of_cell? w _ hw275_0)).trans hw275_0), ((HB.out.cell (World.block_lt_of_cell? w _ hw275_1)).trans hw275_1), ((HB.out.cell (World.block_lt_of_cell? w _ hw275_2)).trans hw275_2), hx276_0⟩ (fun hHeld => ?_); refine with_tabW stillagelaw07_ReachBoth.tab21 stillagelaw07_ReachBoth.bits21 (fun HT_ HW_ => ?_)
            generalize w95.drew = w96 at HO_7 BK254 BK269 HB hx271_0 hx275_0 hx275_1 hx275_2 hx276_0 hHeld ⊢
            refine pp_ 0 95 (v := ?_) (a' := ?_) bq24 HT_ rfl rfl ?_ ?_ ?_
            rotate_left; ·intro w'; go_simp; with_reducible rfl
            rotate_left; ·simp only [Act.put, sa, sz, ss, i64_w, i32_w]; rfl
            refine pp_ 1 96 (v := ?_) (a' := ?_) bq25 HT_ rfl rfl ?_ ?_ ?_
            rotate_left; ·intro w'; go_simp; with_reducible rfl
            rotate_left; ·simp only [Act.put, sa, sz, ss, i64_w, i32_w]; rfl
            refine pp_ 2 97 (v := ?_) (a' := ?_) bq26 HT_ rfl rfl ?_ ?_ ?_
            rotate_left; ·intro w'; go_simp; with_reducible rfl
            rotate_left; ·simp only [Act.put, sa, sz, ss, i64_w, i32_w]; rfl
            refine one_ (i := 3) (N := some 98) bq27 rfl rfl (one_of HT_.out (by kernel_rfl)) (by decide) (fun K hK => ?_)
            refine goes_ Try.func21 (by kernel_rfl) rfl #[.slice A1 l1.length c1, .int .i64 (wrap64 (x90_5 + 1))] (by rfl) rfl rfl (by (try simp only [List.map_toArray, List.map_cons, List.map_nil]); first | done | rfl | (simp only [List.length_drop, List.length_take]; rfl)) ?_
            with_reducible refine (stillageref07_Open.calls k5 _ _ l1 (wrap64 (x90_5 + 1)) true _ ?side1 ?side2 A59.out).mono ?_
            (case side1 => repeat (first | exact (Kd.C_below HR1.out HB.out) | (with_reducible refine Kd.C_alloc ?_ _) | (with_reducible refine Kd.C_drewN ?_ _) | (with_reducible refine Kd.C_drew ?_)))
            (case side2 => exact HC1.out)
            rintro e w' ⟨rfl, ⟨nd, rfl⟩⟩
            refine ⟨_, rfl, ?_⟩
            obtain ⟨Ao97, co97, eo97⟩ := Kd.R_slice HO_7.out
            (first | subst eo97 | (injection eo97 with f1_ f2_ f3_; have f4_ := f1_.symm; have f5_ := f3_.symm; clear f1_ f2_ f3_; subst f4_; subst f5_))
            refine hK.out _ _ ⟨(blk_cell BK269.out 0).trans rfl, (blk_cell BK269.out 1).trans rfl, (blk_cell BK254.out 0).trans rfl, (blk_cell BK254.out 1).trans rfl, hHeld.2.2.2.2.1, ((HB.out.cell (World.block_lt_of_cell? w _ hw275_0)).trans hw275_0), ((HB.out.cell (World.block_lt_of_cell? w _ hw275_1)).trans hw275_1), ((HB.out.cell (World.block_lt_of_cell? w _ hw275_2)).trans hw275_2), hHeld.2.2.2.2.2.2.2.2⟩ (fun hHeld => ?_)
            clear hK K
            refine norm_ (a' := ?_) ?_ ?_
            rotate_left
            ·show Act.put _ (some 98) _ = _
             simp only [Act.put, sa, sz, ss, i64_w, i32_w]
             rfl
            refine pp_ 4 99 (v := ?_) (a' := ?_) bq28 HT_ rfl rfl ?_ ?_ ?_
            rotate_left; ·intro w'; go_simp; with_reducible rfl
            rotate_left; ·simp only [Act.put, sa, sz, ss, i64_w, i32_w]; rfl
            refine pp_ 5 100 (v := ?_) (a' := ?_) bq29 HT_ rfl rfl ?_ ?_ ?_
            rotate_left; ·intro w'; go_simp; with_reducible rfl
            rotate_left; ·simp only [Act.put, sa, sz, ss, i64_w, i32_w]; rfl
            refine pp_ 6 101 (v := ?_) (a' := ?_) bq30 HT_ rfl rfl ?_ ?_ ?_
            rotate_left; ·intro w'; go_simp; with_reducible rfl
            rotate_left; ·simp only [Act.put, sa, sz, ss, i64_w, i32_w]; rfl
            refine take_ (i := 7) (N := some 102) (v := ?_) (a' := ?_) bq31 rfl rfl (take_ofW HT_.out HW_.out (by kernel_rfl)) (fun _ _ _ h => h) (Or.inl ⟨by rfl, ?_⟩) hHeld ?_ ?_
            rotate_left
            ·rintro w' ⟨s0, s1, s2, s3, s4, s5, s6, s7, s8⟩
             go_simp
             with_reducible rfl
            rotate_left; ·simp only [Act.put, sa, sz, ss, i64_w, i32_w]; rfl
            refine pp_ 8 103 (v := ?_) (a' := ?_) bq32 HT_ rfl rfl ?_ ?_ ?_
            rotate_left; ·intro w'; go_simp; with_reducible rfl
            rotate_left; ·simp only [Act.put, sa, sz, ss, i64_w, i32_w]; rfl
            refine take_ (i := 9) (N := some 104) (v := ?_) (a' := ?_) bq33 rfl rfl (take_ofW HT_.out HW_.out (by kernel_rfl)) (fun _ _ _ h => h) (Or.inl ⟨by rfl, ?_⟩) hHeld ?_ ?_
            rotate_left
            ·rintro w' ⟨s0, s1, s2, s3, s4, s5, s6, s7, s8⟩
             go_simp
             with_reducible rfl
            rotate_left; ·simp only [Act.put, sa, sz, ss, i64_w, i32_w]; rfl
            refine pp_ 10 105 (v := ?_) (a' := ?_) bq34 HT_ rfl rfl ?_ ?_ ?_
            rotate_left; ·intro w'; go_simp; with_reducible rfl
            rotate_left; ·simp only [Act.put, sa, sz, ss, i64_w, i32_w]; rfl
            refine pp_ 11 106 (v := ?_) (a' := ?_) bq35 HT_ rfl rfl ?_ ?_ ?_
            rotate_left; ·intro w'; go_simp; with_reducible rfl
            rotate_left; ·simp only [Act.put, sa, sz, ss, i64_w, i32_w]; rfl
            refine pp_ 12 107 (v := ?_) (a' := ?_) bq36 HT_ rfl rfl ?_ ?_ ?_
            rotate_left; ·intro w'; go_simp; with_reducible rfl
            rotate_left; ·simp only [Act.put, sa, sz, ss, i64_w, i32_w]; rfl
            refine pp_ 13 108 (v := ?_) (a' := ?_) bq37 HT_ rfl rfl ?_ ?_ ?_
            rotate_left; ·intro w'; go_simp; with_reducible rfl
            rotate_left; ·simp only [Act.put, sa, sz, ss, i64_w, i32_w]; rfl
            refine pp_ 15 110 (v := ?_) (a' := ?_) bq74 HT_ rfl rfl ?_ ?_ ?_
            rotate_left; ·intro w'; go_simp; with_reducible rfl
            rotate_left; ·simp only [Act.put, sa, sz, ss, i64_w, i32_w]; rfl
            refine take_ (i := 14) (N := some 109) (v := ?_) (a' := ?_) bq39 rfl rfl (take_ofW HT_.out HW_.out (by kernel_rfl)) (fun _ _ _ h => h) (Or.inl ⟨by rfl, ?_⟩) hHeld ?_ ?_
            rotate_left
            ·rintro w' ⟨s0, s1, s2, s3, s4, s5, s6, s7, s8⟩
             go_simp
             with_reducible rfl
            rotate_left; ·simp only [Act.put, sa, sz, ss, i64_w, i32_w]; rfl
            refine pp_ 16 111 (v := ?_) (a' := ?_) bq40 HT_ rfl rfl ?_ ?_ ?_
            rotate_left; ·intro w'; go_simp; with_reducible rfl
            rotate_left; ·simp only [Act.put, sa, sz, ss, i64_w, i32_w]; rfl
            refine pp_ 17 112 (v := ?_) (a' := ?_) bq41 HT_ rfl rfl ?_ ?_ ?_
            rotate_left; ·intro w'; go_simp; with_reducible rfl
            rotate_left; ·simp only [Act.put, sa, sz, ss, i64_w, i32_w]; rfl
            refine pp_ 18 113 (v := ?_) (a' := ?_) bq42 HT_ rfl rfl ?_ ?_ ?_
            rotate_left; ·intro w'; go_simp; with_reducible rfl
            rotate_left; ·simp only [Act.put, sa, sz, ss, i64_w, i32_w]; rfl
            refine pp_ 20 115 (v := ?_) (a' := ?_) bq79 HT_ rfl rfl ?_ ?_ ?_
            rotate_left; ·intro w'; go_simp; with_reducible rfl
            rotate_left; ·simp only [Act.put, sa, sz, ss, i64_w, i32_w]; rfl
            refine take_ (i := 19) (N := some 114) (v := ?_) (a' := ?_) bq44 rfl rfl (take_ofW HT_.out HW_.out (by kernel_rfl)) (fun _ _ _ h => h) (Or.inl ⟨by rfl, ?_⟩) hHeld ?_ ?_
            rotate_left
            ·rintro w' ⟨s0, s1, s2, s3, s4, s5, s6, s7, s8⟩
             go_simp
             with_reducible rfl
            rotate_left; ·simp only [Act.put, sa, sz, ss, i64_w, i32_w]; rfl
            refine take_ (i := 21) (N := some 116) (v := ?_) (a' := ?_) bq45 rfl rfl (take_ofW HT_.out HW_.out (by kernel_rfl)) (fun _ _ _ h => h) (Or.inl ⟨by rfl, ?_⟩) hHeld ?_ ?_
            rotate_left
            ·rintro w' ⟨s0, s1, s2, s3, s4, s5, s6, s7, s8⟩
             go_simp
             with_reducible rfl
            rotate_left; ·simp only [Act.put, sa, sz, ss, i64_w, i32_w]; rfl
            refine pp_ 22 117 (v := ?_) (a' := ?_) bq46 HT_ rfl rfl ?_ ?_ ?_
            rotate_left; ·intro w'; go_simp; with_reducible rfl
            rotate_left; ·simp only [Act.put, sa, sz, ss, i64_w, i32_w]; rfl
            refine pp_ 23 118 (v := ?_) (a' := ?_) bq47 HT_ rfl rfl ?_ ?_ ?_
            rotate_left; ·intro w'; go_simp; with_reducible rfl
            rotate_left; ·simp only [Act.put, sa, sz, ss, i64_w, i32_w]; rfl
            refine take_ (i := 24) (N := some 119) (v := ?_) (a' := ?_) bq48 rfl rfl (take_ofW HT_.out HW_.out (by kernel_rfl)) (fun _ _ _ h => h) (Or.inl ⟨by rfl, ?_⟩) hHeld ?_ ?_
            rotate_left
            ·rintro w' ⟨s0, s1, s2, s3, s4, s5, s6, s7, s8⟩
             go_simp
             with_reducible rfl
            rotate_left; ·simp only [Act.put, sa, sz, ss, i64_w, i32_w]; rfl
            refine pp_ 25 120 (v := ?_) (a' := ?_) bq49 HT_ rfl rfl ?_ ?_ ?_
            rotate_left; ·intro w'; go_simp; with_reducible rfl
            rotate_left; ·simp only [Act.put, sa, sz, ss, i64_w, i32_w]; rfl
            refine pp_ 26 121 (v := ?_) (a' := ?_) bq50 HT_ rfl rfl ?_ ?_ ?_
            rotate_left; ·intro w'; go_simp; with_reducible rfl
            rotate_left; ·simp only [Act.put, sa, sz, ss, i64_w, i32_w]; rfl
            refine pp_ 27 122 (v := ?_) (a' := ?_) bq51 HT_ rfl rfl ?_ ?_ ?_
            rotate_left; ·intro w'; go_simp; with_reducible rfl
            rotate_left; ·simp only [Act.put, sa, sz, ss, i64_w, i32_w]; rfl
            refine pp_ 28 123 (v := ?_) (a' := ?_) bq52 HT_ rfl rfl ?_ ?_ ?_
            rotate_left; ·intro w'; go_simp; with_reducible rfl
            rotate_left; ·simp only [Act.put, sa, sz, ss, i64_w, i32_w]; rfl
            refine pp_ 29 124 (v := ?_) (a' := ?_) bq53 HT_ rfl rfl ?_ ?_ ?_
            rotate_left; ·intro w'; go_simp; with_reducible rfl
            rotate_left; ·simp only [Act.put, sa, sz, ss, i64_w, i32_w]; rfl
            refine pp_ 30 125 (v := ?_) (a' := ?_) bq54 HT_ rfl rfl ?_ ?_ ?_
            rotate_left; ·intro w'; go_simp; with_reducible rfl
            rotate_left; ·simp only [Act.put, sa, sz, ss, i64_w, i32_w]; rfl
            refine take_ (i := 31) (N := some 126) (v := ?_) (a' := ?_) bq55 rfl rfl (take_ofW HT_.out HW_.out (by kernel_rfl)) (fun _ _ _ h => h) (Or.inl ⟨by rfl, ?_⟩) hHeld ?_ ?_
            rotate_left
            ·rintro w' ⟨s0, s1, s2, s3, s4, s5, s6, s7, s8⟩
             go_simp
             with_reducible rfl
            rotate_left; ·simp only [Act.put, sa, sz, ss, i64_w, i32_w]; rfl
            refine pp_ 32 127 (v := ?_) (a' := ?_) bq56 HT_ rfl rfl ?_ ?_ ?_
            rotate_left; ·intro w'; go_simp; with_reducible rfl
            rotate_left; ·simp only [Act.put, sa, sz, ss, i64_w, i32_w]; rfl
            refine take_ (i := 33) (N := some 128) (v := ?_) (a' := ?_) bq57 rfl rfl (take_ofW HT_.out HW_.out (by kernel_rfl)) (fun _ _ _ h => h) (Or.inl ⟨by rfl, ?_⟩) hHeld ?_ ?_
            rotate_left
            ·rintro w' ⟨s0, s1, s2, s3, s4, s5, s6, s7, s8⟩
             go_simp
             with_reducible rfl
            rotate_left; ·simp only [Act.put, sa, sz, ss, i64_w, i32_w]; rfl
            refine pp_ 34 129 (v := ?_) (a' := ?_) bq58 HT_ rfl rfl ?_ ?_ ?_
            rotate_left; ·intro w'; go_simp; with_reducible rfl
            rotate_left; ·simp only [Act.put, sa, sz, ss, i64_w, i32_w]; rfl
            refine pp_ 35 130 (v := ?_) (a' := ?_) bq59 HT_ rfl rfl ?_ ?_ ?_
            rotate_left; ·intro w'; go_simp; with_reducible rfl
            rotate_left; ·simp only [Act.put, sa, sz, ss, i64_w, i32_w]; rfl
            refine pu_ 36 131 (a' := ?_) bq60 HT_ rfl rfl ?_ ?_
            rotate_left; ·simp only [Act.put, sa, sz, ss, i64_w, i32_w]; rfl
            refine pu_ 37 132 (a' := ?_) bq61 HT_ rfl rfl ?_ ?_
            rotate_left; ·simp only [Act.put, sa, sz, ss, i64_w, i32_w]; rfl
            refine pu_ 38 133 (a' := ?_) bq62 HT_ rfl rfl ?_ ?_
            rotate_left; ·simp only [Act.put, sa, sz, ss, i64_w, i32_w]; rfl
            refine pu_ 39 134 (a' := ?_) bq63 HT_ rfl rfl ?_ ?_
            rotate_left; ·simp only [Act.put, sa, sz, ss, i64_w, i32_w]; rfl
            refine pu_ 40 135 (a' := ?_) bq64 HT_ rfl rfl ?_ ?_
            rotate_left; ·simp only [Act.put, sa, sz, ss, i64_w, i32_w]; rfl
            refine pu_ 41 136 (a' := ?_) bq65 HT_ rfl rfl ?_ ?_
            rotate_left; ·simp only [Act.put, sa, sz, ss, i64_w, i32_w]; rfl
            refine pu_ 42 137 (a' := ?_) bq66 HT_ rfl rfl ?_ ?_
            rotate_left; ·simp only [Act.put, sa, sz, ss, i64_w, i32_w]; rfl
            refine pu_ 43 138 (a' := ?_) bq67 HT_ rfl rfl ?_ ?_
            rotate_left; ·simp only [Act.put, sa, sz, ss, i64_w, i32_w]; rfl
            refine pu_ 44 139 (a' := ?_) bq68 HT_ rfl rfl ?_ ?_
            rotate_left; ·simp only [Act.put, sa, sz, ss, i64_w, i32_w]; rfl
            refine pu_ 45 140 (a' := ?_) bq69 HT_ rfl rfl ?_ ?_
            rotate_left; ·simp only [Act.put, sa, sz, ss, i64_w, i32_w]; rfl
            refine pu_ 46 141 (a' := ?_) bq70 HT_ rfl rfl ?_ ?_
            rotate_left; ·simp only [Act.put, sa, sz, ss, i64_w, i32_w]; rfl
            refine pu_ 47 142 (a' := ?_) bq71 HT_ rfl rfl ?_ ?_
            rotate_left; ·simp only [Act.put, sa, sz, ss, i64_w, i32_w]; rfl
            refine pp_ 48 143 (v := ?_) (a' := ?_) bq72 HT_ rfl rfl ?_ ?_ ?_
            rotate_left; ·intro w'; go_simp; with_reducible rfl
            rotate_left; ·simp only [Act.put, sa, sz, ss, i64_w, i32_w]; rfl
            refine pp_ 49 144 (v := ?_) (a' := ?_) bq73 HT_ rfl rfl ?_ ?_ ?_
            rotate_left; ·intro w'; go_simp; with_reducible rfl
            rotate_left; ·simp only [Act.put, sa, sz, ss, i64_w, i32_w]; rfl
            refine done_ (done_of HT_.out (by kernel_rfl)) ?_
            try go_wp2
            go_ret
            exact ⟨by first | rfl | (simp [errW_none, errW_some] <;> rfl) | (simp [*, errW_none, errW_some] <;> rfl), by repeat (first | (with_reducible first | exact HB.out | apply below_alloc | apply pw_below_drewN | apply below_drew1 | refine below_set ?_ GE254.out | refine below_set ?_ GE269.out) | exact HB.out)⟩
           rw [if_neg c91] at H
           have c91b0 : decide ((rd t257 ((rd_T27 l0_1 x90_5).f1)) < 0) = false := decide_eq_false c91
           clear c91
           by_cases c98 : (rd t257 ((rd_T27 l0_1 x90_5).f1)) > (wrap64 ((rd t257 ((rd_T27 l0_1 x90_5).f0)) + 1))
           ·rw [if_pos c98] at H
            have c98b0 : decide ((wrap64 ((rd t257 ((rd_T27 l0_1 x90_5).f0)) + 1)) < (rd t257 ((rd_T27 l0_1 x90_5).f1))) = true := decide_eq_true c98
            clear c98
            obtain rfl := Option.some.inj H
            have p268 : 0 ≤ (x90_5 : Int) := of_decide_eq_true (by first | (with_reducible assumption) | assumption)
            have q268 : x90_5 < (l0_1.length : Int) := of_decide_eq_true (by first | (with_reducible assumption) | assumption)
            obtain ⟨ad268, e268, hx268_0, hx268_1⟩ := at_T27 HR0_1.out x90_5 p268 q268
            cases e268
            replace hx268_0 := (HB.out.cell (World.block_lt_of_cell? w _ hx268_0)).trans hx268_0
            replace hx268_1 := (HB.out.cell (World.block_lt_of_cell? w _ hx268_1)).trans hx268_1
            replace p268 := eq_true p268
            replace q268 := eq_true q268
            try go_wp2_with (first | ((with_reducible refine gate_dst (N := 13) rfl ?_); (try (refine gate_guard (by rfl) ?_; dsimp only)); refine box_event ?hg (N := 13) ?hd (cs := #[.int .i64 0, .int .i64 0]) (t := 27) ?hr ?_; (case hd => rfl); (case hg => rfl); (case hr => first | (go_simp; done) | (go_simp; rfl)); intro gb269 hg w99 hbox hb; replace HO_7 := Aside0.mk (Kd.R_below (by (with_reducible repeat (first | apply Kd.R_alloc | apply Kd.R_drewN | apply Kd.R_drew)); exact HO_7.out) hb); have BK269 := Aside0.mk (hbox); have GW269 := Aside0.mk ((by rw [hg]; exact (below_size (by repeat (first | (with_reducible first | exact HB.out | apply below_alloc | apply pw_below_drewN | apply below_drew1 | refine below_set ?_ GE254.out) | exact HB.out))) : w.heap.size ≤ gb269)); have GE269 := Aside0.mk ((by rw [hg]; exact (below_size (by repeat (first | (with_reducible first | exact HB.out | apply below_alloc | apply pw_below_drewN | apply below_drew1 | refine below_set ?_ GE254.out) | exact HB.out))) : w.heap.size ≤ gb269)); replace HB := Aside0.mk (below_step (by repeat (first | (with_reducible first | exact HB.out | apply below_alloc | apply pw_below_drewN | apply below_drew1 | refine below_set ?_ GE254.out) | exact HB.out)) hb); have NB254_269 := Aside0.mk ((by rw [hg]; exact Nat.ne_of_lt (blk_lt (g := gb254) (o := .cells #[.slice A0_0 l0_0.length c0_0, .slice (some ad268) l0_1.length c0_1] 25 (0, 0)) (by (with_reducible repeat (first | refine blk_drewN ?_ _ | refine blk_drew ?_ | refine blk_alloc ?_ _)); exact BK254.out)) : gb254 ≠ gb269)); have NB269_254 := Aside0.mk ((by rw [hg]; exact Nat.ne_of_gt (blk_lt (g := gb254) (o := .cells #[.slice A0_0 l0_0.length c0_0, .slice (some ad268) l0_1.length c0_1] 25 (0, 0)) (by (with_reducible repeat (first | refine blk_drewN ?_ _ | refine blk_drew ?_ | refine blk_alloc ?_ _)); exact BK254.out)) : gb269 ≠ gb254)); replace BK254 := Aside0.mk (blk_below (g := gb254) (o := .cells #[.slice A0_0 l0_0.length c0_0, .slice (some ad268) l0_1.length c0_1] 25 (0, 0)) (by (with_reducible repeat (first | refine blk_drewN ?_ _ | refine blk_drew ?_ | refine blk_alloc ?_ _)); exact BK254.out) hb); clear hb hbox hg; have hnb100 := NB269_254.out; have hnc100 := NB254_269.out; have hcz101_0 : w99.cell? ⟨gb269, 0, none⟩ = some (.int .i64 0) := (blk_cell BK269.out 0).trans rfl; have hcz101_1 : w99.cell? ⟨gb269, 1, none⟩ = some (.int .i64 0) := (blk_cell BK269.out 1).trans rfl; have hfz101_0 := blk_frozen BK269.out 0; have hfz101_1 := blk_frozen BK269.out 1))
            have n0_ : Aside0 (Kd.R (Kd.int .i64) 3 ((w99.setCell ⟨gb269, 0, none⟩ (.int .i64 ((rd_T27 l0_1 x90_5).f0))).setCell ⟨gb269, 1, none⟩ (.int .i64 ((rd_T27 l0_1 x90_5).f1))) w.heap.size (fun _ => True) v258 t257) := ⟨by (with_reducible repeat (first | apply Kd.R_alloc | apply Kd.R_drewN | apply Kd.R_drew)); exact Kd.R_mono (Kd.R_far (p := ⟨gb269, 1, none⟩) (Kd.R_far (p := ⟨gb269, 0, none⟩) (Kd.R_types HO_7.out BK269.out (by decide)) (fun _ hk => hk.2) (.int .i64 ((rd_T27 l0_1 x90_5).f0))) (fun _ hk => hk.2) (.int .i64 ((rd_T27 l0_1 x90_5).f1))) (fun _ hk => trivial)⟩
            have n1_ : Aside0 (((w99.setCell ⟨gb269, 0, none⟩ (.int .i64 ((rd_T27 l0_1 x90_5).f0))).setCell ⟨gb269, 1, none⟩ (.int .i64 ((rd_T27 l0_1 x90_5).f1))).heap[gb254]? = some (.cells #[.slice A0_0 l0_0.length c0_0, .slice (some ad268) l0_1.length c0_1] 25 (0, 0))) := ⟨by (with_reducible repeat (first | refine blk_drewN ?_ _ | refine blk_drew ?_ | refine blk_alloc ?_ _)); refine blk_far ?_ NB254_269.out _; (with_reducible repeat (first | refine blk_drewN ?_ _ | refine blk_drew ?_ | refine blk_alloc ?_ _)); refine blk_far ?_ NB254_269.out _; (with_reducible repeat (first | refine blk_drewN ?_ _ | refine blk_drew ?_ | refine blk_alloc ?_ _)); exact BK254.out⟩
            have n2_ : Aside0 (((w99.setCell ⟨gb269, 0, none⟩ (.int .i64 ((rd_T27 l0_1 x90_5).f0))).setCell ⟨gb269, 1, none⟩ (.int .i64 ((rd_T27 l0_1 x90_5).f1))).heap[gb269]? = some (.cells #[.int .i64 ((rd_T27 l0_1 x90_5).f0), .int .i64 ((rd_T27 l0_1 x90_5).f1)] 27 (0, 0))) := ⟨by (with_reducible repeat (first | refine blk_drewN ?_ _ | refine blk_drew ?_ | refine blk_alloc ?_ _)); refine blk_put (cs := #[.int .i64 ((rd_T27 l0_1 x90_5).f0), .int .i64 0]) ?_ 1 _ rfl; (with_reducible repeat (first | refine blk_drewN ?_ _ | refine blk_drew ?_ | refine blk_alloc ?_ _)); refine blk_put (cs := #[.int .i64 0, .int .i64 0]) ?_ 0 _ rfl; (with_reducible repeat (first | refine blk_drewN ?_ _ | refine blk_drew ?_ | refine blk_alloc ?_ _)); exact BK269.out⟩
            have n3_ : Aside0 (Below w.heap.size w ((w99.setCell ⟨gb269, 0, none⟩ (.int .i64 ((rd_T27 l0_1 x90_5).f0))).setCell ⟨gb269, 1, none⟩ (.int .i64 ((rd_T27 l0_1 x90_5).f1)))) := ⟨by repeat (first | (with_reducible first | exact HB.out | apply below_alloc | apply pw_below_drewN | apply below_drew1 | refine below_set ?_ GE254.out | refine below_set ?_ GE269.out) | exact HB.out)⟩
            generalize ((w99.setCell ⟨gb269, 0, none⟩ (.int .i64 ((rd_T27 l0_1 x90_5).f0))).setCell ⟨gb269, 1, none⟩ (.int .i64 ((rd_T27 l0_1 x90_5).f1))) = w102 at n0_ n1_ n2_ n3_ ⊢
            have HO_7 := n0_
            have BK254 := n1_
            have BK269 := n2_
            have HB := n3_
            clear n0_ n1_ n2_ n3_
            have n0_ := Aside0.mk (Kd.R_drew HO_7.out)
            have n1_ := Aside0.mk (blk_drew BK254.out)
            have n2_ := Aside0.mk (blk_drew BK269.out)
            have n3_ := Aside0.mk (below_drew1 HB.out)
            clear HO_7
            clear BK254
            clear BK269
            clear HB
            have HO_7 := n0_
            have BK254 := n1_
            have BK269 := n2_
            have HB := n3_
            clear n0_ n1_ n2_ n3_
            obtain ⟨Ao94, co94, eo94⟩ := Kd.R_slice HO_7.out
            (first | subst eo94 | (injection eo94 with f1_ f2_ f3_; have f4_ := f1_.symm; have f5_ := f3_.symm; clear f1_ f2_ f3_; subst f4_; subst f5_))
            have p271 : 0 ≤ (((rd_T27 l0_1 x90_5).f0) : Int) := of_decide_eq_true (by first | (with_reducible assumption) | assumption)
            have q271 : ((rd_T27 l0_1 x90_5).f0) < (t257.length : Int) := of_decide_eq_true (by first | (with_reducible assumption) | assumption)
            obtain ⟨ad271, e271, hx271_0⟩ := Kd.at_int (Kd.R_reads' HO_7.out).2.2 ((rd_T27 l0_1 x90_5).f0) p271 q271
            cases e271
            replace p271 := eq_true p271
            replace q271 := eq_true q271
            have p275 : 0 ≤ (((rd_T27 l0_1 x90_5).f0) : Int) := of_decide_eq_true (by first | (with_reducible assumption) | assumption)
            have q275 : ((rd_T27 l0_1 x90_5).f0) < (l0_0.length : Int) := of_decide_eq_true (by first | (with_reducible assumption) | assumption)
            obtain ⟨ad275, e275, hx275_0, hx275_1, hx275_2⟩ := at_T43 HR0_0.out ((rd_T27 l0_1 x90_5).f0) p275 q275
            have hw275_2 := hx275_2
            have hw275_1 := hx275_1
            have hw275_0 := hx275_0
            cases e275
            replace hx275_0 := (HB.out.cell (World.block_lt_of_cell? w _ hx275_0)).trans hx275_0
            replace hx275_1 := (HB.out.cell (World.block_lt_of_cell? w _ hx275_1)).trans hx275_1
            replace hx275_2 := (HB.out.cell (World.block_lt_of_cell? w _ hx275_2)).trans hx275_2
            replace p275 := eq_true p275
            replace q275 := eq_true q275
            have p276 : 0 ≤ (((rd_T27 l0_1 x90_5).f1) : Int) := of_decide_eq_true (by first | (with_reducible assumption) | assumption)
            have q276 : ((rd_T27 l0_1 x90_5).f1) < (t257.length : Int) := of_decide_eq_true (by first | (with_reducible assumption) | assumption)
            obtain ⟨ad276, e276, hx276_0⟩ := Kd.at_int (Kd.R_reads' HO_7.out).2.2 ((rd_T27 l0_1 x90_5).f1) p276 q276
            obtain rfl : ad271 = ad276 := (by injection e276)
            replace p276 := eq_true p276
            replace q276 := eq_true q276
            have p277 : 0 ≤ (((rd_T27 l0_1 x90_5).f1) : Int) := of_decide_eq_true (by first | (with_reducible assumption) | assumption)
            have q277 : ((rd_T27 l0_1 x90_5).f1) < (t257.length : Int) := of_decide_eq_true (by first | (with_reducible assumption) | assumption)
            obtain ⟨ad277, e277, hx277_0⟩ := Kd.at_int (Kd.R_reads' HO_7.out).2.2 ((rd_T27 l0_1 x90_5).f1) p277 q277
            obtain rfl : ad271 = ad277 := (by injection e277)
            replace p277 := eq_true p277
            replace q277 := eq_true q277
            have p278 : 0 ≤ (((rd_T27 l0_1 x90_5).f0) : Int) := of_decide_eq_true (by first | (with_reducible assumption) | assumption)
            have q278 : ((rd_T27 l0_1 x90_5).f0) < (t257.length : Int) := of_decide_eq_true (by first | (with_reducible assumption) | assumption)
            obtain ⟨ad278, e278, hx278_0⟩ := Kd.at_int (Kd.R_reads' HO_7.out).2.2 ((rd_T27 l0_1 x90_5).f0) p278 q278
            obtain rfl : ad271 = ad278 := (by injection e278)
            replace p278 := eq_true p278
            replace q278 := eq_true q278
            refine start_ (n := 50) (S := fun w' => w'.cell? ⟨gb269, 0, none⟩ = some (.int .i64 ((rd_T27 l0_1 x90_5).f0)) ∧ w'.cell? ⟨gb269, 1, none⟩ = some (.int .i64 ((rd_T27 l0_1 x90_5).f1)) ∧ w'.cell? ⟨gb254, 0, none⟩ = some (.slice (some ad275) l0_0.length c0_0) ∧ w'.cell? ⟨gb254, 1, none⟩ = some (.slice (some ad268) l0_1.length c0_1) ∧ w'.cell? (ad271.add (((rd_T27 l0_1 x90_5).f0)).toNat) = some (.int .i64 (rd t257 ((rd_T27 l0_1 x90_5).f0))) ∧ w'.cell? (ad275.add ((((rd_T27 l0_1 x90_5).f0)).toNat * 3)) = some (.string ((rd_T43 l0_0 ((rd_T27 l0_1 x90_5).f0)).f0)) ∧ w'.cell? ⟨(ad275.add ((((rd_T27 l0_1 x90_5).f0)).toNat * 3)).block, (ad275.add ((((rd_T27 l0_1 x90_5).f0)).toNat * 3)).off + 1, none⟩ = some (.int .i64 ((rd_T43 l0_0 ((rd_T27 l0_1 x90_5).f0)).f1)) ∧ w'.cell? ⟨(ad275.add ((((rd_T27 l0_1 x90_5).f0)).toNat * 3)).block, (ad275.add ((((rd_T27 l0_1 x90_5).f0)).toNat * 3)).off + 2, none⟩ = some (.int .i64 ((rd_T43 l0_0 ((rd_T27 l0_1 x90_5).f0)).f2)) ∧ w'.cell? (ad271.add (((rd_T27 l0_1 x90_5).f1)).toNat) = some (.int .i64 (rd t257 ((rd_T27 l0_1 x90_5).f1))) ∧ w'.cell? (ad271.add (((rd_T27 l0_1 x90_5).f1)).toNat) = some (.int .i64 (rd t257 ((rd_T27 l0_1 x90_5).f1))) ∧ w'.cell? (ad271.add (((rd_T27 l0_1 x90_5).f0)).toNat) = some (.int .i64 (rd t257 ((rd_T27 l0_1 x90_5).f0)))) (ds := []) bq23 (by kernel_rfl) rfl rfl ⟨(blk_cell BK269.out 0).trans rfl, (blk_cell BK269.out 1).trans rfl, (blk_cell BK254.out 0).trans rfl, (blk_cell BK254.out 1).trans rfl, hx271_0, ((HB.out.cell (World.block_lt_of_cell? w _ hw275_0)).trans hw275_0), ((HB.out.cell (World.block_lt_of_cell? w _ hw275_1)).trans hw275_1), ((HB.out.cell (World.block_lt_of_cell? w _ hw275_2)).trans hw275_2), hx276_0, hx277_0, hx278_0⟩ (fun hHeld => ?_); refine with_tabW stillagelaw07_ReachBoth.tab21 stillagelaw07_ReachBoth.bits21 (fun HT_ HW_ => ?_)
            generalize w102.drew = w103 at HO_7 BK254 BK269 HB hx271_0 hx275_0 hx275_1 hx275_2 hx276_0 hx277_0 hx278_0 hHeld ⊢
            refine pp_ 0 95 (v := ?_) (a' := ?_) bq24 HT_ rfl rfl ?_ ?_ ?_
            rotate_left; ·intro w'; go_simp; with_reducible rfl
            rotate_left; ·simp only [Act.put, sa, sz, ss, i64_w, i32_w]; rfl
            refine pp_ 1 96 (v := ?_) (a' := ?_) bq25 HT_ rfl rfl ?_ ?_ ?_
            rotate_left; ·intro w'; go_simp; with_reducible rfl
            rotate_left; ·simp only [Act.put, sa, sz, ss, i64_w, i32_w]; rfl
            refine pp_ 2 97 (v := ?_) (a' := ?_) bq26 HT_ rfl rfl ?_ ?_ ?_
            rotate_left; ·intro w'; go_simp; with_reducible rfl
            rotate_left; ·simp only [Act.put, sa, sz, ss, i64_w, i32_w]; rfl
            refine one_ (i := 3) (N := some 98) bq27 rfl rfl (one_of HT_.out (by kernel_rfl)) (by decide) (fun K hK => ?_)
            refine goes_ Try.func21 (by kernel_rfl) rfl #[.slice A1 l1.length c1, .int .i64 (wrap64 (x90_5 + 1))] (by rfl) rfl rfl (by (try simp only [List.map_toArray, List.map_cons, List.map_nil]); first | done | rfl | (simp only [List.length_drop, List.length_take]; rfl)) ?_
            with_reducible refine (stillageref07_Open.calls k5 _ _ l1 (wrap64 (x90_5 + 1)) true _ ?side1 ?side2 A59.out).mono ?_
            (case side1 => repeat (first | exact (Kd.C_below HR1.out HB.out) | (with_reducible refine Kd.C_alloc ?_ _) | (with_reducible refine Kd.C_drewN ?_ _) | (with_reducible refine Kd.C_drew ?_)))
            (case side2 => exact HC1.out)
            rintro e w' ⟨rfl, ⟨nd, rfl⟩⟩
            refine ⟨_, rfl, ?_⟩
            obtain ⟨Ao104, co104, eo104⟩ := Kd.R_slice HO_7.out
            (first | subst eo104 | (injection eo104 with f1_ f2_ f3_; have f4_ := f1_.symm; have f5_ := f3_.symm; clear f1_ f2_ f3_; subst f4_; subst f5_))
            refine hK.out _ _ ⟨(blk_cell BK269.out 0).trans rfl, (blk_cell BK269.out 1).trans rfl, (blk_cell BK254.out 0).trans rfl, (blk_cell BK254.out 1).trans rfl, hHeld.2.2.2.2.1, ((HB.out.cell (World.block_lt_of_cell? w _ hw275_0)).trans hw275_0), ((HB.out.cell (World.block_lt_of_cell? w _ hw275_1)).trans hw275_1), ((HB.out.cell (World.block_lt_of_cell? w _ hw275_2)).trans hw275_2), hHeld.2.2.2.2.2.2.2.2.1, hHeld.2.2.2.2.2.2.2.2.2.1, hHeld.2.2.2.2.2.2.2.2.2.2⟩ (fun hHeld => ?_)
            clear hK K
            refine norm_ (a' := ?_) ?_ ?_
            rotate_left
            ·show Act.put _ (some 98) _ = _
             simp only [Act.put, sa, sz, ss, i64_w, i32_w]
             rfl
            refine pp_ 4 99 (v := ?_) (a' := ?_) bq28 HT_ rfl rfl ?_ ?_ ?_
            rotate_left; ·intro w'; go_simp; with_reducible rfl
            rotate_left; ·simp only [Act.put, sa, sz, ss, i64_w, i32_w]; rfl
            refine pp_ 5 100 (v := ?_) (a' := ?_) bq29 HT_ rfl rfl ?_ ?_ ?_
            rotate_left; ·intro w'; go_simp; with_reducible rfl
            rotate_left; ·simp only [Act.put, sa, sz, ss, i64_w, i32_w]; rfl
            refine pp_ 6 101 (v := ?_) (a' := ?_) bq30 HT_ rfl rfl ?_ ?_ ?_
            rotate_left; ·intro w'; go_simp; with_reducible rfl
            rotate_left; ·simp only [Act.put, sa, sz, ss, i64_w, i32_w]; rfl
            refine take_ (i := 7) (N := some 102) (v := ?_) (a' := ?_) bq31 rfl rfl (take_ofW HT_.out HW_.out (by kernel_rfl)) (fun _ _ _ h => h) (Or.inl ⟨by rfl, ?_⟩) hHeld ?_ ?_
            rotate_left
            ·rintro w' ⟨s0, s1, s2, s3, s4, s5, s6, s7, s8, s9, s10⟩
             go_simp
             with_reducible rfl
            rotate_left; ·simp only [Act.put, sa, sz, ss, i64_w, i32_w]; rfl
            refine pp_ 8 103 (v := ?_) (a' := ?_) bq32 HT_ rfl rfl ?_ ?_ ?_
            rotate_left; ·intro w'; go_simp; with_reducible rfl
            rotate_left; ·simp only [Act.put, sa, sz, ss, i64_w, i32_w]; rfl
            refine take_ (i := 9) (N := some 104) (v := ?_) (a' := ?_) bq33 rfl rfl (take_ofW HT_.out HW_.out (by kernel_rfl)) (fun _ _ _ h => h) (Or.inl ⟨by rfl, ?_⟩) hHeld ?_ ?_
            rotate_left
            ·rintro w' ⟨s0, s1, s2, s3, s4, s5, s6, s7, s8, s9, s10⟩
             go_simp
             with_reducible rfl
            rotate_left; ·simp only [Act.put, sa, sz, ss, i64_w, i32_w]; rfl
            refine pp_ 10 105 (v := ?_) (a' := ?_) bq34 HT_ rfl rfl ?_ ?_ ?_
            rotate_left; ·intro w'; go_simp; with_reducible rfl
            rotate_left; ·simp only [Act.put, sa, sz, ss, i64_w, i32_w]; rfl
            refine pp_ 11 106 (v := ?_) (a' := ?_) bq35 HT_ rfl rfl ?_ ?_ ?_
            rotate_left; ·intro w'; go_simp; with_reducible rfl
            rotate_left; ·simp only [Act.put, sa, sz, ss, i64_w, i32_w]; rfl
            refine pp_ 12 107 (v := ?_) (a' := ?_) bq36 HT_ rfl rfl ?_ ?_ ?_
            rotate_left; ·intro w'; go_simp; with_reducible rfl
            rotate_left; ·simp only [Act.put, sa, sz, ss, i64_w, i32_w]; rfl
            refine pp_ 13 108 (v := ?_) (a' := ?_) bq37 HT_ rfl rfl ?_ ?_ ?_
            rotate_left; ·intro w'; go_simp; with_reducible rfl
            rotate_left; ·simp only [Act.put, sa, sz, ss, i64_w, i32_w]; rfl
            refine pp_ 15 110 (v := ?_) (a' := ?_) bq74 HT_ rfl rfl ?_ ?_ ?_
            rotate_left; ·intro w'; go_simp; with_reducible rfl
            rotate_left; ·simp only [Act.put, sa, sz, ss, i64_w, i32_w]; rfl
            refine take_ (i := 14) (N := some 109) (v := ?_) (a' := ?_) bq39 rfl rfl (take_ofW HT_.out HW_.out (by kernel_rfl)) (fun _ _ _ h => h) (Or.inl ⟨by rfl, ?_⟩) hHeld ?_ ?_
            rotate_left
            ·rintro w' ⟨s0, s1, s2, s3, s4, s5, s6, s7, s8, s9, s10⟩
             go_simp
             with_reducible rfl
            rotate_left; ·simp only [Act.put, sa, sz, ss, i64_w, i32_w]; rfl
            refine pp_ 16 111 (v := ?_) (a' := ?_) bq40 HT_ rfl rfl ?_ ?_ ?_
            rotate_left; ·intro w'; go_simp; with_reducible rfl
            rotate_left; ·simp only [Act.put, sa, sz, ss, i64_w, i32_w]; rfl
            refine pp_ 17 112 (v := ?_) (a' := ?_) bq41 HT_ rfl rfl ?_ ?_ ?_
            rotate_left; ·intro w'; go_simp; with_reducible rfl
            rotate_left; ·simp only [Act.put, sa, sz, ss, i64_w, i32_w]; rfl
            refine pp_ 18 113 (v := ?_) (a' := ?_) bq42 HT_ rfl rfl ?_ ?_ ?_
            rotate_left; ·intro w'; go_simp; with_reducible rfl
            rotate_left; ·simp only [Act.put, sa, sz, ss, i64_w, i32_w]; rfl
            refine pp_ 20 115 (v := ?_) (a' := ?_) bq79 HT_ rfl rfl ?_ ?_ ?_
            rotate_left; ·intro w'; go_simp; with_reducible rfl
            rotate_left; ·simp only [Act.put, sa, sz, ss, i64_w, i32_w]; rfl
            refine take_ (i := 19) (N := some 114) (v := ?_) (a' := ?_) bq44 rfl rfl (take_ofW HT_.out HW_.out (by kernel_rfl)) (fun _ _ _ h => h) (Or.inl ⟨by rfl, ?_⟩) hHeld ?_ ?_
            rotate_left
            ·rintro w' ⟨s0, s1, s2, s3, s4, s5, s6, s7, s8, s9, s10⟩
             go_simp
             with_reducible rfl
            rotate_left; ·simp only [Act.put, sa, sz, ss, i64_w, i32_w]; rfl
            refine take_ (i := 21) (N := some 116) (v := ?_) (a' := ?_) bq45 rfl rfl (take_ofW HT_.out HW_.out (by kernel_rfl)) (fun _ _ _ h => h) (Or.inl ⟨by rfl, ?_⟩) hHeld ?_ ?_
            rotate_left
            ·rintro w' ⟨s0, s1, s2, s3, s4, s5, s6, s7, s8, s9, s10⟩
             go_simp
             with_reducible rfl
            rotate_left; ·simp only [Act.put, sa, sz, ss, i64_w, i32_w]; rfl
            refine pp_ 22 117 (v := ?_) (a' := ?_) bq46 HT_ rfl rfl ?_ ?_ ?_
            rotate_left; ·intro w'; go_simp; with_reducible rfl
            rotate_left; ·simp only [Act.put, sa, sz, ss, i64_w, i32_w]; rfl
            refine pp_ 23 118 (v := ?_) (a' := ?_) bq47 HT_ rfl rfl ?_ ?_ ?_
            rotate_left; ·intro w'; go_simp; with_reducible rfl
            rotate_left; ·simp only [Act.put, sa, sz, ss, i64_w, i32_w]; rfl
            refine take_ (i := 24) (N := some 119) (v := ?_) (a' := ?_) bq48 rfl rfl (take_ofW HT_.out HW_.out (by kernel_rfl)) (fun _ _ _ h => h) (Or.inl ⟨by rfl, ?_⟩) hHeld ?_ ?_
            rotate_left
            ·rintro w' ⟨s0, s1, s2, s3, s4, s5, s6, s7, s8, s9, s10⟩
             go_simp
             with_reducible rfl
            rotate_left; ·simp only [Act.put, sa, sz, ss, i64_w, i32_w]; rfl
            refine pp_ 25 120 (v := ?_) (a' := ?_) bq49 HT_ rfl rfl ?_ ?_ ?_
            rotate_left; ·intro w'; go_simp; with_reducible rfl
            rotate_left; ·simp only [Act.put, sa, sz, ss, i64_w, i32_w]; rfl
            refine pp_ 26 121 (v := ?_) (a' := ?_) bq50 HT_ rfl rfl ?_ ?_ ?_
            rotate_left; ·intro w'; go_simp; with_reducible rfl
            rotate_left; ·simp only [Act.put, sa, sz, ss, i64_w, i32_w]; rfl
            refine pp_ 27 122 (v := ?_) (a' := ?_) bq51 HT_ rfl rfl ?_ ?_ ?_
            rotate_left; ·intro w'; go_simp; with_reducible rfl
            rotate_left; ·simp only [Act.put, sa, sz, ss, i64_w, i32_w]; rfl
            refine pp_ 28 123 (v := ?_) (a' := ?_) bq52 HT_ rfl rfl ?_ ?_ ?_
            rotate_left; ·intro w'; go_simp; with_reducible rfl
            rotate_left; ·simp only [Act.put, sa, sz, ss, i64_w, i32_w]; rfl
            refine pp_ 29 124 (v := ?_) (a' := ?_) bq53 HT_ rfl rfl ?_ ?_ ?_
            rotate_left; ·intro w'; go_simp; with_reducible rfl
            rotate_left; ·simp only [Act.put, sa, sz, ss, i64_w, i32_w]; rfl
            refine pp_ 30 125 (v := ?_) (a' := ?_) bq54 HT_ rfl rfl ?_ ?_ ?_
            rotate_left; ·intro w'; go_simp; with_reducible rfl
            rotate_left; ·simp only [Act.put, sa, sz, ss, i64_w, i32_w]; rfl
            refine take_ (i := 31) (N := some 126) (v := ?_) (a' := ?_) bq55 rfl rfl (take_ofW HT_.out HW_.out (by kernel_rfl)) (fun _ _ _ h => h) (Or.inl ⟨by rfl, ?_⟩) hHeld ?_ ?_
            rotate_left
            ·rintro w' ⟨s0, s1, s2, s3, s4, s5, s6, s7, s8, s9, s10⟩
             go_simp
             with_reducible rfl
            rotate_left; ·simp only [Act.put, sa, sz, ss, i64_w, i32_w]; rfl
            refine pp_ 32 127 (v := ?_) (a' := ?_) bq56 HT_ rfl rfl ?_ ?_ ?_
            rotate_left; ·intro w'; go_simp; with_reducible rfl
            rotate_left; ·simp only [Act.put, sa, sz, ss, i64_w, i32_w]; rfl
            refine take_ (i := 33) (N := some 128) (v := ?_) (a' := ?_) bq57 rfl rfl (take_ofW HT_.out HW_.out (by kernel_rfl)) (fun _ _ _ h => h) (Or.inl ⟨by rfl, ?_⟩) hHeld ?_ ?_
            rotate_left
            ·rintro w' ⟨s0, s1, s2, s3, s4, s5, s6, s7, s8, s9, s10⟩
             go_simp
             with_reducible rfl
            rotate_left; ·simp only [Act.put, sa, sz, ss, i64_w, i32_w]; rfl
            refine pp_ 34 129 (v := ?_) (a' := ?_) bq58 HT_ rfl rfl ?_ ?_ ?_
            rotate_left; ·intro w'; go_simp; with_reducible rfl
            rotate_left; ·simp only [Act.put, sa, sz, ss, i64_w, i32_w]; rfl
            refine pp_ 35 130 (v := ?_) (a' := ?_) bq59 HT_ rfl rfl ?_ ?_ ?_
            rotate_left; ·intro w'; go_simp; with_reducible rfl
            rotate_left; ·simp only [Act.put, sa, sz, ss, i64_w, i32_w]; rfl
            refine pp_ 36 131 (v := ?_) (a' := ?_) bq60 HT_ rfl rfl ?_ ?_ ?_
            rotate_left; ·intro w'; go_simp; with_reducible rfl
            rotate_left; ·simp only [Act.put, sa, sz, ss, i64_w, i32_w]; rfl
            refine pp_ 37 132 (v := ?_) (a' := ?_) bq61 HT_ rfl rfl ?_ ?_ ?_
            rotate_left; ·intro w'; go_simp; with_reducible rfl
            rotate_left; ·simp only [Act.put, sa, sz, ss, i64_w, i32_w]; rfl
            refine pp_ 41 136 (v := ?_) (a' := ?_) bq75 HT_ rfl rfl ?_ ?_ ?_
            rotate_left; ·intro w'; go_simp; with_reducible rfl
            rotate_left; ·simp only [Act.put, sa, sz, ss, i64_w, i32_w]; rfl
            refine pp_ 42 137 (v := ?_) (a' := ?_) bq76 HT_ rfl rfl ?_ ?_ ?_
            rotate_left; ·intro w'; go_simp; with_reducible rfl
            rotate_left; ·simp only [Act.put, sa, sz, ss, i64_w, i32_w]; rfl
            refine take_ (i := 38) (N := some 133) (v := ?_) (a' := ?_) bq77 rfl rfl (take_ofW HT_.out HW_.out (by kernel_rfl)) (fun _ _ _ h => h) (Or.inl ⟨by rfl, ?_⟩) hHeld ?_ ?_
            rotate_left
            ·rintro w' ⟨s0, s1, s2, s3, s4, s5, s6, s7, s8, s9, s10⟩
             go_simp
             with_reducible rfl
            rotate_left; ·simp only [Act.put, sa, sz, ss, i64_w, i32_w]; rfl
            refine pp_ 39 134 (v := ?_) (a' := ?_) bq78 HT_ rfl rfl ?_ ?_ ?_
            rotate_left; ·intro w'; go_simp; with_reducible rfl
            rotate_left; ·simp only [Act.put, sa, sz, ss, i64_w, i32_w]; rfl
            refine take_ (i := 40) (N := some 135) (v := ?_) (a' := ?_) bq66 rfl rfl (take_ofW HT_.out HW_.out (by kernel_rfl)) (fun _ _ _ h => h) (Or.inl ⟨by rfl, ?_⟩) hHeld ?_ ?_
            rotate_left
            ·rintro w' ⟨s0, s1, s2, s3, s4, s5, s6, s7, s8, s9, s10⟩
             go_simp
             with_reducible rfl
            rotate_left; ·simp only [Act.put, sa, sz, ss, i64_w, i32_w]; rfl
            refine take_ (i := 43) (N := some 138) (v := ?_) (a' := ?_) bq67 rfl rfl (take_ofW HT_.out HW_.out (by kernel_rfl)) (fun _ _ _ h => h) (Or.inl ⟨by rfl, ?_⟩) hHeld ?_ ?_
            rotate_left
            ·rintro w' ⟨s0, s1, s2, s3, s4, s5, s6, s7, s8, s9, s10⟩
             go_simp
             with_reducible rfl
            rotate_left; ·simp only [Act.put, sa, sz, ss, i64_w, i32_w]; rfl
            refine pp_ 44 139 (v := ?_) (a' := ?_) bq68 HT_ rfl rfl ?_ ?_ ?_
            rotate_left; ·intro w'; go_simp; with_reducible rfl
            rotate_left; ·simp only [Act.put, sa, sz, ss, i64_w, i32_w]; rfl
            refine take_ (i := 45) (N := some 140) (v := ?_) (a' := ?_) bq69 rfl rfl (take_ofW HT_.out HW_.out (by kernel_rfl)) (fun _ _ _ h => h) (Or.inl ⟨by rfl, ?_⟩) hHeld ?_ ?_
            rotate_left
            ·rintro w' ⟨s0, s1, s2, s3, s4, s5, s6, s7, s8, s9, s10⟩
             go_simp
             with_reducible rfl
            rotate_left; ·simp only [Act.put, sa, sz, ss, i64_w, i32_w]; rfl
            refine pp_ 46 141 (v := ?_) (a' := ?_) bq70 HT_ rfl rfl ?_ ?_ ?_
            rotate_left; ·intro w'; go_simp; with_reducible rfl
            rotate_left; ·simp only [Act.put, sa, sz, ss, i64_w, i32_w]; rfl
            refine pp_ 47 142 (v := ?_) (a' := ?_) bq71 HT_ rfl rfl ?_ ?_ ?_
            rotate_left; ·intro w'; go_simp; with_reducible rfl
            rotate_left; ·simp only [Act.put, sa, sz, ss, i64_w, i32_w]; rfl
            refine pp_ 48 143 (v := ?_) (a' := ?_) bq72 HT_ rfl rfl ?_ ?_ ?_
            rotate_left; ·intro w'; go_simp; with_reducible rfl
            rotate_left; ·simp only [Act.put, sa, sz, ss, i64_w, i32_w]; rfl
            refine pp_ 49 144 (v := ?_) (a' := ?_) bq73 HT_ rfl rfl ?_ ?_ ?_
            rotate_left; ·intro w'; go_simp; with_reducible rfl
            rotate_left; ·simp only [Act.put, sa, sz, ss, i64_w, i32_w]; rfl
            refine done_ (done_of HT_.out (by kernel_rfl)) ?_
            try go_wp2
            go_ret
            exact ⟨by first | rfl | (simp [errW_none, errW_some] <;> rfl) | (simp [*, errW_none, errW_some] <;> rfl), by repeat (first | (with_reducible first | exact HB.out | apply below_alloc | apply pw_below_drewN | apply below_drew1 | refine below_set ?_ GE254.out | refine below_set ?_ GE269.out) | exact HB.out)⟩
           rw [if_neg c98] at H
           have c98b0 : decide ((wrap64 ((rd t257 ((rd_T27 l0_1 x90_5).f0)) + 1)) < (rd t257 ((rd_T27 l0_1 x90_5).f1))) = false := decide_eq_false c98
           clear c98
           have H' := Aside0.mk H; clear H
           have p268 : 0 ≤ (x90_5 : Int) := of_decide_eq_true (by first | (with_reducible assumption) | assumption)
           have q268 : x90_5 < (l0_1.length : Int) := of_decide_eq_true (by first | (with_reducible assumption) | assumption)
           obtain ⟨ad268, e268, hx268_0, hx268_1⟩ := at_T27 HR0_1.out x90_5 p268 q268
           cases e268
           replace hx268_0 := (HB.out.cell (World.block_lt_of_cell? w _ hx268_0)).trans hx268_0
           replace hx268_1 := (HB.out.cell (World.block_lt_of_cell? w _ hx268_1)).trans hx268_1
           replace p268 := eq_true p268
           replace q268 := eq_true q268
           try go_wp2_with (first | ((with_reducible refine gate_dst (N := 13) rfl ?_); (try (refine gate_guard (by rfl) ?_; dsimp only)); refine box_event ?hg (N := 13) ?hd (cs := #[.int .i64 0, .int .i64 0]) (t := 27) ?hr ?_; (case hd => rfl); (case hg => rfl); (case hr => first | (go_simp; done) | (go_simp; rfl)); intro gb269 hg w105 hbox hb; replace HO_7 := Aside0.mk (Kd.R_below (by (with_reducible repeat (first | apply Kd.R_alloc | apply Kd.R_drewN | apply Kd.R_drew)); exact HO_7.out) hb); have BK269 := Aside0.mk (hbox); have GW269 := Aside0.mk ((by rw [hg]; exact (below_size (by repeat (first | (with_reducible first | exact HB.out | apply below_alloc | apply pw_below_drewN | apply below_drew1 | refine below_set ?_ GE254.out) | exact HB.out))) : w.heap.size ≤ gb269)); have GE269 := Aside0.mk ((by rw [hg]; exact (below_size (by repeat (first | (with_reducible first | exact HB.out | apply below_alloc | apply pw_below_drewN | apply below_drew1 | refine below_set ?_ GE254.out) | exact HB.out))) : w.heap.size ≤ gb269)); replace HB := Aside0.mk (below_step (by repeat (first | (with_reducible first | exact HB.out | apply below_alloc | apply pw_below_drewN | apply below_drew1 | refine below_set ?_ GE254.out) | exact HB.out)) hb); have NB254_269 := Aside0.mk ((by rw [hg]; exact Nat.ne_of_lt (blk_lt (g := gb254) (o := .cells #[.slice A0_0 l0_0.length c0_0, .slice (some ad268) l0_1.length c0_1] 25 (0, 0)) (by (with_reducible repeat (first | refine blk_drewN ?_ _ | refine blk_drew ?_ | refine blk_alloc ?_ _)); exact BK254.out)) : gb254 ≠ gb269)); have NB269_254 := Aside0.mk ((by rw [hg]; exact Nat.ne_of_gt (blk_lt (g := gb254) (o := .cells #[.slice A0_0 l0_0.length c0_0, .slice (some ad268) l0_1.length c0_1] 25 (0, 0)) (by (with_reducible repeat (first | refine blk_drewN ?_ _ | refine blk_drew ?_ | refine blk_alloc ?_ _)); exact BK254.out)) : gb269 ≠ gb254)); replace BK254 := Aside0.mk (blk_below (g := gb254) (o := .cells #[.slice A0_0 l0_0.length c0_0, .slice (some ad268) l0_1.length c0_1] 25 (0, 0)) (by (with_reducible repeat (first | refine blk_drewN ?_ _ | refine blk_drew ?_ | refine blk_alloc ?_ _)); exact BK254.out) hb); clear hb hbox hg; have hnb106 := NB269_254.out; have hnc106 := NB254_269.out; have hcz107_0 : w105.cell? ⟨gb269, 0, none⟩ = some (.int .i64 0) := (blk_cell BK269.out 0).trans rfl; have hcz107_1 : w105.cell? ⟨gb269, 1, none⟩ = some (.int .i64 0) := (blk_cell BK269.out 1).trans rfl; have hfz107_0 := blk_frozen BK269.out 0; have hfz107_1 := blk_frozen BK269.out 1))
           have n0_ : Aside0 (Kd.R (Kd.int .i64) 3 ((w105.setCell ⟨gb269, 0, none⟩ (.int .i64 ((rd_T27 l0_1 x90_5).f0))).setCell ⟨gb269, 1, none⟩ (.int .i64 ((rd_T27 l0_1 x90_5).f1))) w.heap.size (fun _ => True) v258 t257) := ⟨by (with_reducible repeat (first | apply Kd.R_alloc | apply Kd.R_drewN | apply Kd.R_drew)); exact Kd.R_mono (Kd.R_far (p := ⟨gb269, 1, none⟩) (Kd.R_far (p := ⟨gb269, 0, none⟩) (Kd.R_types HO_7.out BK269.out (by decide)) (fun _ hk => hk.2) (.int .i64 ((rd_T27 l0_1 x90_5).f0))) (fun _ hk => hk.2) (.int .i64 ((rd_T27 l0_1 x90_5).f1))) (fun _ hk => trivial)⟩
           have n1_ : Aside0 (((w105.setCell ⟨gb269, 0, none⟩ (.int .i64 ((rd_T27 l0_1 x90_5).f0))).setCell ⟨gb269, 1, none⟩ (.int .i64 ((rd_T27 l0_1 x90_5).f1))).heap[gb254]? = some (.cells #[.slice A0_0 l0_0.length c0_0, .slice (some ad268) l0_1.length c0_1] 25 (0, 0))) := ⟨by (with_reducible repeat (first | refine blk_drewN ?_ _ | refine blk_drew ?_ | refine blk_alloc ?_ _)); refine blk_far ?_ NB254_269.out _; (with_reducible repeat (first | refine blk_drewN ?_ _ | refine blk_drew ?_ | refine blk_alloc ?_ _)); refine blk_far ?_ NB254_269.out _; (with_reducible repeat (first | refine blk_drewN ?_ _ | refine blk_drew ?_ | refine blk_alloc ?_ _)); exact BK254.out⟩
           have n2_ : Aside0 (((w105.setCell ⟨gb269, 0, none⟩ (.int .i64 ((rd_T27 l0_1 x90_5).f0))).setCell ⟨gb269, 1, none⟩ (.int .i64 ((rd_T27 l0_1 x90_5).f1))).heap[gb269]? = some (.cells #[.int .i64 ((rd_T27 l0_1 x90_5).f0), .int .i64 ((rd_T27 l0_1 x90_5).f1)] 27 (0, 0))) := ⟨by (with_reducible repeat (first | refine blk_drewN ?_ _ | refine blk_drew ?_ | refine blk_alloc ?_ _)); refine blk_put (cs := #[.int .i64 ((rd_T27 l0_1 x90_5).f0), .int .i64 0]) ?_ 1 _ rfl; (with_reducible repeat (first | refine blk_drewN ?_ _ | refine blk_drew ?_ | refine blk_alloc ?_ _)); refine blk_put (cs := #[.int .i64 0, .int .i64 0]) ?_ 0 _ rfl; (with_reducible repeat (first | refine blk_drewN ?_ _ | refine blk_drew ?_ | refine blk_alloc ?_ _)); exact BK269.out⟩
           have n3_ : Aside0 (Below w.heap.size w ((w105.setCell ⟨gb269, 0, none⟩ (.int .i64 ((rd_T27 l0_1 x90_5).f0))).setCell ⟨gb269, 1, none⟩ (.int .i64 ((rd_T27 l0_1 x90_5).f1)))) := ⟨by repeat (first | (with_reducible first | exact HB.out | apply below_alloc | apply pw_below_drewN | apply below_drew1 | refine below_set ?_ GE254.out | refine below_set ?_ GE269.out) | exact HB.out)⟩
           generalize ((w105.setCell ⟨gb269, 0, none⟩ (.int .i64 ((rd_T27 l0_1 x90_5).f0))).setCell ⟨gb269, 1, none⟩ (.int .i64 ((rd_T27 l0_1 x90_5).f1))) = w108 at n0_ n1_ n2_ n3_ ⊢
           have HO_7 := n0_
           have BK254 := n1_
           have BK269 := n2_
           have HB := n3_
           clear n0_ n1_ n2_ n3_
           have n0_ := Aside0.mk (Kd.R_drew HO_7.out)
           have n1_ := Aside0.mk (blk_drew BK254.out)
           have n2_ := Aside0.mk (blk_drew BK269.out)
           have n3_ := Aside0.mk (below_drew1 HB.out)
           clear HO_7
           clear BK254
           clear BK269
           clear HB
           have HO_7 := n0_
           have BK254 := n1_
           have BK269 := n2_
           have HB := n3_
           clear n0_ n1_ n2_ n3_
           obtain ⟨Ao95, co95, eo95⟩ := Kd.R_slice HO_7.out
           (first | subst eo95 | (injection eo95 with f1_ f2_ f3_; have f4_ := f1_.symm; have f5_ := f3_.symm; clear f1_ f2_ f3_; subst f4_; subst f5_))
           have p271 : 0 ≤ (((rd_T27 l0_1 x90_5).f0) : Int) := of_decide_eq_true (by first | (with_reducible assumption) | assumption)
           have q271 : ((rd_T27 l0_1 x90_5).f0) < (t257.length : Int) := of_decide_eq_true (by first | (with_reducible assumption) | assumption)
           obtain ⟨ad271, e271, hx271_0⟩ := Kd.at_int (Kd.R_reads' HO_7.out).2.2 ((rd_T27 l0_1 x90_5).f0) p271 q271
           cases e271
           replace p271 := eq_true p271
           replace q271 := eq_true q271
           have p275 : 0 ≤ (((rd_T27 l0_1 x90_5).f0) : Int) := of_decide_eq_true (by first | (with_reducible assumption) | assumption)
           have q275 : ((rd_T27 l0_1 x90_5).f0) < (l0_0.length : Int) := of_decide_eq_true (by first | (with_reducible assumption) | assumption)
           obtain ⟨ad275, e275, hx275_0, hx275_1, hx275_2⟩ := at_T43 HR0_0.out ((rd_T27 l0_1 x90_5).f0) p275 q275
           have hw275_2 := hx275_2
           have hw275_1 := hx275_1
           have hw275_0 := hx275_0
           cases e275
           replace hx275_0 := (HB.out.cell (World.block_lt_of_cell? w _ hx275_0)).trans hx275_0
           replace hx275_1 := (HB.out.cell (World.block_lt_of_cell? w _ hx275_1)).trans hx275_1
           replace hx275_2 := (HB.out.cell (World.block_lt_of_cell? w _ hx275_2)).trans hx275_2
           replace p275 := eq_true p275
           replace q275 := eq_true q275
           have p276 : 0 ≤ (((rd_T27 l0_1 x90_5).f1) : Int) := of_decide_eq_true (by first | (with_reducible assumption) | assumption)
           have q276 : ((rd_T27 l0_1 x90_5).f1) < (t257.length : Int) := of_decide_eq_true (by first | (with_reducible assumption) | assumption)
           obtain ⟨ad276, e276, hx276_0⟩ := Kd.at_int (Kd.R_reads' HO_7.out).2.2 ((rd_T27 l0_1 x90_5).f1) p276 q276
           obtain rfl : ad271 = ad276 := (by injection e276)
           replace p276 := eq_true p276
           replace q276 := eq_true q276
           have p277 : 0 ≤ (((rd_T27 l0_1 x90_5).f1) : Int) := of_decide_eq_true (by first | (with_reducible assumption) | assumption)
           have q277 : ((rd_T27 l0_1 x90_5).f1) < (t257.length : Int) := of_decide_eq_true (by first | (with_reducible assumption) | assumption)
           obtain ⟨ad277, e277, hx277_0⟩ := Kd.at_int (Kd.R_reads' HO_7.out).2.2 ((rd_T27 l0_1 x90_5).f1) p277 q277
           obtain rfl : ad271 = ad277 := (by injection e277)
           replace p277 := eq_true p277
           replace q277 := eq_true q277
           have p278 : 0 ≤ (((rd_T27 l0_1 x90_5).f0) : Int) := of_decide_eq_true (by first | (with_reducible assumption) | assumption)
           have q278 : ((rd_T27 l0_1 x90_5).f0) < (t257.length : Int) := of_decide_eq_true (by first | (with_reducible assumption) | assumption)
           obtain ⟨ad278, e278, hx278_0⟩ := Kd.at_int (Kd.R_reads' HO_7.out).2.2 ((rd_T27 l0_1 x90_5).f0) p278 q278
           obtain rfl : ad271 = ad278 := (by injection e278)
           replace p278 := eq_true p278
           replace q278 := eq_true q278
           refine start_ (n := 50) (S := fun w' => w'.cell? ⟨gb269, 0, none⟩ = some (.int .i64 ((rd_T27 l0_1 x90_5).f0)) ∧ w'.cell? ⟨gb269, 1, none⟩ = some (.int .i64 ((rd_T27 l0_1 x90_5).f1)) ∧ w'.cell? ⟨gb254, 0, none⟩ = some (.slice (some ad275) l0_0.length c0_0) ∧ w'.cell? ⟨gb254, 1, none⟩ = some (.slice (some ad268) l0_1.length c0_1) ∧ w'.cell? (ad271.add (((rd_T27 l0_1 x90_5).f0)).toNat) = some (.int .i64 (rd t257 ((rd_T27 l0_1 x90_5).f0))) ∧ w'.cell? (ad275.add ((((rd_T27 l0_1 x90_5).f0)).toNat * 3)) = some (.string ((rd_T43 l0_0 ((rd_T27 l0_1 x90_5).f0)).f0)) ∧ w'.cell? ⟨(ad275.add ((((rd_T27 l0_1 x90_5).f0)).toNat * 3)).block, (ad275.add ((((rd_T27 l0_1 x90_5).f0)).toNat * 3)).off + 1, none⟩ = some (.int .i64 ((rd_T43 l0_0 ((rd_T27 l0_1 x90_5).f0)).f1)) ∧ w'.cell? ⟨(ad275.add ((((rd_T27 l0_1 x90_5).f0)).toNat * 3)).block, (ad275.add ((((rd_T27 l0_1 x90_5).f0)).toNat * 3)).off + 2, none⟩ = some (.int .i64 ((rd_T43 l0_0 ((rd_T27 l0_1 x90_5).f0)).f2)) ∧ w'.cell? (ad271.add (((rd_T27 l0_1 x90_5).f1)).toNat) = some (.int .i64 (rd t257 ((rd_T27 l0_1 x90_5).f1))) ∧ w'.cell? (ad271.add (((rd_T27 l0_1 x90_5).f1)).toNat) = some (.int .i64 (rd t257 ((rd_T27 l0_1 x90_5).f1))) ∧ w'.cell? (ad271.add (((rd_T27 l0_1 x90_5).f0)).toNat) = some (.int .i64 (rd t257 ((rd_T27 l0_1 x90_5).f0)))) (ds := []) bq23 (by kernel_rfl) rfl rfl ⟨(blk_cell BK269.out 0).trans rfl, (blk_cell BK269.out 1).trans rfl, (blk_cell BK254.out 0).trans rfl, (blk_cell BK254.out 1).trans rfl, hx271_0, ((HB.out.cell (World.block_lt_of_cell? w _ hw275_0)).trans hw275_0), ((HB.out.cell (World.block_lt_of_cell? w _ hw275_1)).trans hw275_1), ((HB.out.cell (World.block_lt_of_cell? w _ hw275_2)).trans hw275_2), hx276_0, hx277_0, hx278_0⟩ (fun hHeld => ?_); refine with_tabW stillagelaw07_ReachBoth.tab21 stillagelaw07_ReachBoth.bits21 (fun HT_ HW_ => ?_)
           generalize w108.drew = w109 at HO_7 BK254 BK269 HB hx271_0 hx275_0 hx275_1 hx275_2 hx276_0 hx277_0 hx278_0 hHeld ⊢
           refine pp_ 0 95 (v := ?_) (a' := ?_) bq24 HT_ rfl rfl ?_ ?_ ?_
           rotate_left; ·intro w'; go_simp; with_reducible rfl
           rotate_left; ·simp only [Act.put, sa, sz, ss, i64_w, i32_w]; rfl
           refine pp_ 1 96 (v := ?_) (a' := ?_) bq25 HT_ rfl rfl ?_ ?_ ?_
           rotate_left; ·intro w'; go_simp; with_reducible rfl
           rotate_left; ·simp only [Act.put, sa, sz, ss, i64_w, i32_w]; rfl
           refine pp_ 2 97 (v := ?_) (a' := ?_) bq26 HT_ rfl rfl ?_ ?_ ?_
           rotate_left; ·intro w'; go_simp; with_reducible rfl
           rotate_left; ·simp only [Act.put, sa, sz, ss, i64_w, i32_w]; rfl
           refine one_ (i := 3) (N := some 98) bq27 rfl rfl (one_of HT_.out (by kernel_rfl)) (by decide) (fun K hK => ?_)
           refine goes_ Try.func21 (by kernel_rfl) rfl #[.slice A1 l1.length c1, .int .i64 (wrap64 (x90_5 + 1))] (by rfl) rfl rfl (by (try simp only [List.map_toArray, List.map_cons, List.map_nil]); first | done | rfl | (simp only [List.length_drop, List.length_take]; rfl)) ?_
           with_reducible refine (stillageref07_Open.calls k5 _ _ l1 (wrap64 (x90_5 + 1)) true _ ?side1 ?side2 A59.out).mono ?_
           (case side1 => repeat (first | exact (Kd.C_below HR1.out HB.out) | (with_reducible refine Kd.C_alloc ?_ _) | (with_reducible refine Kd.C_drewN ?_ _) | (with_reducible refine Kd.C_drew ?_)))
           (case side2 => exact HC1.out)
           rintro e w' ⟨rfl, ⟨nd, rfl⟩⟩
           refine ⟨_, rfl, ?_⟩
           obtain ⟨Ao110, co110, eo110⟩ := Kd.R_slice HO_7.out
           (first | subst eo110 | (injection eo110 with f1_ f2_ f3_; have f4_ := f1_.symm; have f5_ := f3_.symm; clear f1_ f2_ f3_; subst f4_; subst f5_))
           refine hK.out _ _ ⟨(blk_cell BK269.out 0).trans rfl, (blk_cell BK269.out 1).trans rfl, (blk_cell BK254.out 0).trans rfl, (blk_cell BK254.out 1).trans rfl, hHeld.2.2.2.2.1, ((HB.out.cell (World.block_lt_of_cell? w _ hw275_0)).trans hw275_0), ((HB.out.cell (World.block_lt_of_cell? w _ hw275_1)).trans hw275_1), ((HB.out.cell (World.block_lt_of_cell? w _ hw275_2)).trans hw275_2), hHeld.2.2.2.2.2.2.2.2.1, hHeld.2.2.2.2.2.2.2.2.2.1, hHeld.2.2.2.2.2.2.2.2.2.2⟩ (fun hHeld => ?_)
           clear hK K
           refine norm_ (a' := ?_) ?_ ?_
           rotate_left
           ·show Act.put _ (some 98) _ = _
            simp only [Act.put, sa, sz, ss, i64_w, i32_w]
            rfl
           refine pp_ 4 99 (v := ?_) (a' := ?_) bq28 HT_ rfl rfl ?_ ?_ ?_
           rotate_left; ·intro w'; go_simp; with_reducible rfl
           rotate_left; ·simp only [Act.put, sa, sz, ss, i64_w, i32_w]; rfl
           refine pp_ 5 100 (v := ?_) (a' := ?_) bq29 HT_ rfl rfl ?_ ?_ ?_
           rotate_left; ·intro w'; go_simp; with_reducible rfl
           rotate_left; ·simp only [Act.put, sa, sz, ss, i64_w, i32_w]; rfl
           refine pp_ 6 101 (v := ?_) (a' := ?_) bq30 HT_ rfl rfl ?_ ?_ ?_
           rotate_left; ·intro w'; go_simp; with_reducible rfl
           rotate_left; ·simp only [Act.put, sa, sz, ss, i64_w, i32_w]; rfl
           refine take_ (i := 7) (N := some 102) (v := ?_) (a' := ?_) bq31 rfl rfl (take_ofW HT_.out HW_.out (by kernel_rfl)) (fun _ _ _ h => h) (Or.inl ⟨by rfl, ?_⟩) hHeld ?_ ?_
           rotate_left
           ·rintro w' ⟨s0, s1, s2, s3, s4, s5, s6, s7, s8, s9, s10⟩
            go_simp
            with_reducible rfl
           rotate_left; ·simp only [Act.put, sa, sz, ss, i64_w, i32_w]; rfl
           refine pp_ 8 103 (v := ?_) (a' := ?_) bq32 HT_ rfl rfl ?_ ?_ ?_
           rotate_left; ·intro w'; go_simp; with_reducible rfl
           rotate_left; ·simp only [Act.put, sa, sz, ss, i64_w, i32_w]; rfl
           refine take_ (i := 9) (N := some 104) (v := ?_) (a' := ?_) bq33 rfl rfl (take_ofW HT_.out HW_.out (by kernel_rfl)) (fun _ _ _ h => h) (Or.inl ⟨by rfl, ?_⟩) hHeld ?_ ?_
           rotate_left
           ·rintro w' ⟨s0, s1, s2, s3, s4, s5, s6, s7, s8, s9, s10⟩
            go_simp
            with_reducible rfl
           rotate_left; ·simp only [Act.put, sa, sz, ss, i64_w, i32_w]; rfl
           refine pp_ 10 105 (v := ?_) (a' := ?_) bq34 HT_ rfl rfl ?_ ?_ ?_
           rotate_left; ·intro w'; go_simp; with_reducible rfl
           rotate_left; ·simp only [Act.put, sa, sz, ss, i64_w, i32_w]; rfl
           refine pp_ 11 106 (v := ?_) (a' := ?_) bq35 HT_ rfl rfl ?_ ?_ ?_
           rotate_left; ·intro w'; go_simp; with_reducible rfl
           rotate_left; ·simp only [Act.put, sa, sz, ss, i64_w, i32_w]; rfl
           refine pp_ 12 107 (v := ?_) (a' := ?_) bq36 HT_ rfl rfl ?_ ?_ ?_
           rotate_left; ·intro w'; go_simp; with_reducible rfl
           rotate_left; ·simp only [Act.put, sa, sz, ss, i64_w, i32_w]; rfl
           refine pp_ 13 108 (v := ?_) (a' := ?_) bq37 HT_ rfl rfl ?_ ?_ ?_
           rotate_left; ·intro w'; go_simp; with_reducible rfl
           rotate_left; ·simp only [Act.put, sa, sz, ss, i64_w, i32_w]; rfl
           refine pp_ 15 110 (v := ?_) (a' := ?_) bq74 HT_ rfl rfl ?_ ?_ ?_
           rotate_left; ·intro w'; go_simp; with_reducible rfl
           rotate_left; ·simp only [Act.put, sa, sz, ss, i64_w, i32_w]; rfl
           refine take_ (i := 14) (N := some 109) (v := ?_) (a' := ?_) bq39 rfl rfl (take_ofW HT_.out HW_.out (by kernel_rfl)) (fun _ _ _ h => h) (Or.inl ⟨by rfl, ?_⟩) hHeld ?_ ?_
           rotate_left
           ·rintro w' ⟨s0, s1, s2, s3, s4, s5, s6, s7, s8, s9, s10⟩
            go_simp
            with_reducible rfl
           rotate_left; ·simp only [Act.put, sa, sz, ss, i64_w, i32_w]; rfl
           refine pp_ 16 111 (v := ?_) (a' := ?_) bq40 HT_ rfl rfl ?_ ?_ ?_
           rotate_left; ·intro w'; go_simp; with_reducible rfl
           rotate_left; ·simp only [Act.put, sa, sz, ss, i64_w, i32_w]; rfl
           refine pp_ 17 112 (v := ?_) (a' := ?_) bq41 HT_ rfl rfl ?_ ?_ ?_
           rotate_left; ·intro w'; go_simp; with_reducible rfl
           rotate_left; ·simp only [Act.put, sa, sz, ss, i64_w, i32_w]; rfl
           refine pp_ 18 113 (v := ?_) (a' := ?_) bq42 HT_ rfl rfl ?_ ?_ ?_
           rotate_left; ·intro w'; go_simp; with_reducible rfl
           rotate_left; ·simp only [Act.put, sa, sz, ss, i64_w, i32_w]; rfl
           refine pp_ 20 115 (v := ?_) (a' := ?_) bq79 HT_ rfl rfl ?_ ?_ ?_
           rotate_left; ·intro w'; go_simp; with_reducible rfl
           rotate_left; ·simp only [Act.put, sa, sz, ss, i64_w, i32_w]; rfl
           refine take_ (i := 19) (N := some 114) (v := ?_) (a' := ?_) bq44 rfl rfl (take_ofW HT_.out HW_.out (by kernel_rfl)) (fun _ _ _ h => h) (Or.inl ⟨by rfl, ?_⟩) hHeld ?_ ?_
           rotate_left
           ·rintro w' ⟨s0, s1, s2, s3, s4, s5, s6, s7, s8, s9, s10⟩
            go_simp
            with_reducible rfl
           rotate_left; ·simp only [Act.put, sa, sz, ss, i64_w, i32_w]; rfl
           refine take_ (i := 21) (N := some 116) (v := ?_) (a' := ?_) bq45 rfl rfl (take_ofW HT_.out HW_.out (by kernel_rfl)) (fun _ _ _ h => h) (Or.inl ⟨by rfl, ?_⟩) hHeld ?_ ?_
           rotate_left
           ·rintro w' ⟨s0, s1, s2, s3, s4, s5, s6, s7, s8, s9, s10⟩
            go_simp
            with_reducible rfl
           rotate_left; ·simp only [Act.put, sa, sz, ss, i64_w, i32_w]; rfl
           refine pp_ 22 117 (v := ?_) (a' := ?_) bq46 HT_ rfl rfl ?_ ?_ ?_
           rotate_left; ·intro w'; go_simp; with_reducible rfl
           rotate_left; ·simp only [Act.put, sa, sz, ss, i64_w, i32_w]; rfl
           refine pp_ 23 118 (v := ?_) (a' := ?_) bq47 HT_ rfl rfl ?_ ?_ ?_
           rotate_left; ·intro w'; go_simp; with_reducible rfl
           rotate_left; ·simp only [Act.put, sa, sz, ss, i64_w, i32_w]; rfl
           refine take_ (i := 24) (N := some 119) (v := ?_) (a' := ?_) bq48 rfl rfl (take_ofW HT_.out HW_.out (by kernel_rfl)) (fun _ _ _ h => h) (Or.inl ⟨by rfl, ?_⟩) hHeld ?_ ?_
           rotate_left
           ·rintro w' ⟨s0, s1, s2, s3, s4, s5, s6, s7, s8, s9, s10⟩
            go_simp
            with_reducible rfl
           rotate_left; ·simp only [Act.put, sa, sz, ss, i64_w, i32_w]; rfl
           refine pp_ 25 120 (v := ?_) (a' := ?_) bq49 HT_ rfl rfl ?_ ?_ ?_
           rotate_left; ·intro w'; go_simp; with_reducible rfl
           rotate_left; ·simp only [Act.put, sa, sz, ss, i64_w, i32_w]; rfl
           refine pp_ 26 121 (v := ?_) (a' := ?_) bq50 HT_ rfl rfl ?_ ?_ ?_
           rotate_left; ·intro w'; go_simp; with_reducible rfl
           rotate_left; ·simp only [Act.put, sa, sz, ss, i64_w, i32_w]; rfl
           refine pp_ 27 122 (v := ?_) (a' := ?_) bq51 HT_ rfl rfl ?_ ?_ ?_
           rotate_left; ·intro w'; go_simp; with_reducible rfl
           rotate_left; ·simp only [Act.put, sa, sz, ss, i64_w, i32_w]; rfl
           refine pp_ 28 123 (v := ?_) (a' := ?_) bq52 HT_ rfl rfl ?_ ?_ ?_
           rotate_left; ·intro w'; go_simp; with_reducible rfl
           rotate_left; ·simp only [Act.put, sa, sz, ss, i64_w, i32_w]; rfl
           refine pp_ 29 124 (v := ?_) (a' := ?_) bq53 HT_ rfl rfl ?_ ?_ ?_
           rotate_left; ·intro w'; go_simp; with_reducible rfl
           rotate_left; ·simp only [Act.put, sa, sz, ss, i64_w, i32_w]; rfl
           refine pp_ 30 125 (v := ?_) (a' := ?_) bq54 HT_ rfl rfl ?_ ?_ ?_
           rotate_left; ·intro w'; go_simp; with_reducible rfl
           rotate_left; ·simp only [Act.put, sa, sz, ss, i64_w, i32_w]; rfl
           refine take_ (i := 31) (N := some 126) (v := ?_) (a' := ?_) bq55 rfl rfl (take_ofW HT_.out HW_.out (by kernel_rfl)) (fun _ _ _ h => h) (Or.inl ⟨by rfl, ?_⟩) hHeld ?_ ?_
           rotate_left
           ·rintro w' ⟨s0, s1, s2, s3, s4, s5, s6, s7, s8, s9, s10⟩
            go_simp
            with_reducible rfl
           rotate_left; ·simp only [Act.put, sa, sz, ss, i64_w, i32_w]; rfl
           refine pp_ 32 127 (v := ?_) (a' := ?_) bq56 HT_ rfl rfl ?_ ?_ ?_
           rotate_left; ·intro w'; go_simp; with_reducible rfl
           rotate_left; ·simp only [Act.put, sa, sz, ss, i64_w, i32_w]; rfl
           refine take_ (i := 33) (N := some 128) (v := ?_) (a' := ?_) bq57 rfl rfl (take_ofW HT_.out HW_.out (by kernel_rfl)) (fun _ _ _ h => h) (Or.inl ⟨by rfl, ?_⟩) hHeld ?_ ?_
           rotate_left
           ·rintro w' ⟨s0, s1, s2, s3, s4, s5, s6, s7, s8, s9, s10⟩
            go_simp
            with_reducible rfl
           rotate_left; ·simp only [Act.put, sa, sz, ss, i64_w, i32_w]; rfl
           refine pp_ 34 129 (v := ?_) (a' := ?_) bq58 HT_ rfl rfl ?_ ?_ ?_
           rotate_left; ·intro w'; go_simp; with_reducible rfl
           rotate_left; ·simp only [Act.put, sa, sz, ss, i64_w, i32_w]; rfl
           refine pp_ 35 130 (v := ?_) (a' := ?_) bq59 HT_ rfl rfl ?_ ?_ ?_
           rotate_left; ·intro w'; go_simp; with_reducible rfl
           rotate_left; ·simp only [Act.put, sa, sz, ss, i64_w, i32_w]; rfl
           refine pp_ 36 131 (v := ?_) (a' := ?_) bq60 HT_ rfl rfl ?_ ?_ ?_
           rotate_left; ·intro w'; go_simp; with_reducible rfl
           rotate_left; ·simp only [Act.put, sa, sz, ss, i64_w, i32_w]; rfl
           refine pp_ 37 132 (v := ?_) (a' := ?_) bq61 HT_ rfl rfl ?_ ?_ ?_
           rotate_left; ·intro w'; go_simp; with_reducible rfl
           rotate_left; ·simp only [Act.put, sa, sz, ss, i64_w, i32_w]; rfl
           refine pp_ 41 136 (v := ?_) (a' := ?_) bq75 HT_ rfl rfl ?_ ?_ ?_
           rotate_left; ·intro w'; go_simp; with_reducible rfl
           rotate_left; ·simp only [Act.put, sa, sz, ss, i64_w, i32_w]; rfl
           refine pp_ 42 137 (v := ?_) (a' := ?_) bq76 HT_ rfl rfl ?_ ?_ ?_
           rotate_left; ·intro w'; go_simp; with_reducible rfl
           rotate_left; ·simp only [Act.put, sa, sz, ss, i64_w, i32_w]; rfl
           refine take_ (i := 38) (N := some 133) (v := ?_) (a' := ?_) bq77 rfl rfl (take_ofW HT_.out HW_.out (by kernel_rfl)) (fun _ _ _ h => h) (Or.inl ⟨by rfl, ?_⟩) hHeld ?_ ?_
           rotate_left
           ·rintro w' ⟨s0, s1, s2, s3, s4, s5, s6, s7, s8, s9, s10⟩
            go_simp
            with_reducible rfl
           rotate_left; ·simp only [Act.put, sa, sz, ss, i64_w, i32_w]; rfl
           refine pp_ 39 134 (v := ?_) (a' := ?_) bq78 HT_ rfl rfl ?_ ?_ ?_
           rotate_left; ·intro w'; go_simp; with_reducible rfl
           rotate_left; ·simp only [Act.put, sa, sz, ss, i64_w, i32_w]; rfl
           refine take_ (i := 40) (N := some 135) (v := ?_) (a' := ?_) bq66 rfl rfl (take_ofW HT_.out HW_.out (by kernel_rfl)) (fun _ _ _ h => h) (Or.inl ⟨by rfl, ?_⟩) hHeld ?_ ?_
           rotate_left
           ·rintro w' ⟨s0, s1, s2, s3, s4, s5, s6, s7, s8, s9, s10⟩
            go_simp
            with_reducible rfl
           rotate_left; ·simp only [Act.put, sa, sz, ss, i64_w, i32_w]; rfl
           refine take_ (i := 43) (N := some 138) (v := ?_) (a' := ?_) bq67 rfl rfl (take_ofW HT_.out HW_.out (by kernel_rfl)) (fun _ _ _ h => h) (Or.inl ⟨by rfl, ?_⟩) hHeld ?_ ?_
           rotate_left
           ·rintro w' ⟨s0, s1, s2, s3, s4, s5, s6, s7, s8, s9, s10⟩
            go_simp
            with_reducible rfl
           rotate_left; ·simp only [Act.put, sa, sz, ss, i64_w, i32_w]; rfl
           refine pp_ 44 139 (v := ?_) (a' := ?_) bq68 HT_ rfl rfl ?_ ?_ ?_
           rotate_left; ·intro w'; go_simp; with_reducible rfl
           rotate_left; ·simp only [Act.put, sa, sz, ss, i64_w, i32_w]; rfl
           refine take_ (i := 45) (N := some 140) (v := ?_) (a' := ?_) bq69 rfl rfl (take_ofW HT_.out HW_.out (by kernel_rfl)) (fun _ _ _ h => h) (Or.inl ⟨by rfl, ?_⟩) hHeld ?_ ?_
           rotate_left
           ·rintro w' ⟨s0, s1, s2, s3, s4, s5, s6, s7, s8, s9, s10⟩
            go_simp
            with_reducible rfl
           rotate_left; ·simp only [Act.put, sa, sz, ss, i64_w, i32_w]; rfl
           refine pp_ 46 141 (v := ?_) (a' := ?_) bq70 HT_ rfl rfl ?_ ?_ ?_
           rotate_left; ·intro w'; go_simp; with_reducible rfl
           rotate_left; ·simp only [Act.put, sa, sz, ss, i64_w, i32_w]; rfl
           refine pp_ 47 142 (v := ?_) (a' := ?_) bq71 HT_ rfl rfl ?_ ?_ ?_
           rotate_left; ·intro w'; go_simp; with_reducible rfl
           rotate_left; ·simp only [Act.put, sa, sz, ss, i64_w, i32_w]; rfl
           refine pp_ 48 143 (v := ?_) (a' := ?_) bq72 HT_ rfl rfl ?_ ?_ ?_
           rotate_left; ·intro w'; go_simp; with_reducible rfl
           rotate_left; ·simp only [Act.put, sa, sz, ss, i64_w, i32_w]; rfl
           refine pp_ 49 144 (v := ?_) (a' := ?_) bq73 HT_ rfl rfl ?_ ?_ ?_
           rotate_left; ·intro w'; go_simp; with_reducible rfl
           rotate_left; ·simp only [Act.put, sa, sz, ss, i64_w, i32_w]; rfl
           refine done_ (done_of HT_.out (by kernel_rfl)) ?_
           try go_wp2
           go_roundg k5
           case measure => have := HJ4.out; have := HK2.out; have := HJ18.out; have := HK4.out; have := HK5.out; omega
           case rel => exact ⟨(wrap64 (x90_5 + 1)), (by first | rfl | (simp; done) | (simp [*]; done)), H', ⟨by have := HJ4.out; have := HK2.out; have := HJ18.out; have := HK4.out; have := HK5.out; omega⟩, ⟨by (with_reducible repeat (first | apply Kd.R_alloc | apply Kd.R_drewN | apply Kd.R_drew)); exact HO_7.out⟩, ⟨by (with_reducible repeat (first | refine blk_drewN ?_ _ | refine blk_drew ?_ | refine blk_alloc ?_ _)); exact BK254.out⟩, ⟨by repeat (first | (with_reducible first | exact HB.out | apply below_alloc | apply pw_below_drewN | apply below_drew1 | refine below_set ?_ GE254.out | refine below_set ?_ GE269.out) | exact HB.out)⟩⟩
end Go.Proofs.Ytkfoicfbmhalbaa.PReachBoth
