-- Written by a program of this session (wip/oprint): after the pattern of the kit's print, which does not take this law. -- trimmed
import Derived.Test.YtabkmjimdpdfaaaPTelePiecesx0
namespace Go.Proofs.Ytabkmjimdpdfaaa.PTelePieces
open Go.RowKit Go.Proofs.YtabkmjimdpdfaaaW.PrintWords Go.Proofs.YtabkmjimdpdfaaaW.PrintLast Go.Proofs.YtabkmjimdpdfaaaW.PrintMore
attribute [local go_sem] max2_int min2_int max_two min_two max_three min_three max_four min_four   -- for this text's walks alone
set_option linter.unusedVariables false
set_option linter.unusedSimpArgs false

/-! ### tele_within: function 25 -/
def tele_within.f (a0 : Int) (a1 : Int) (a2 : Int) : Option (Bool) := if a0 ≥ a1 then (some (decide (a0 ≤ a2))) else (some false)
set_option maxHeartbeats 8000000 in
set_option maxRecDepth 100000 in
theorem tele_within.calls (a0 : Int) (a1 : Int) (a2 : Int) (r : Bool) (w : World) (h : tele_within.f a0 a1 a2 = some r) :
  Calls Try.prog 25 #[.int .u16 a0, .int .u16 a1, .int .u16 a2] w fun e w' => e = .returned (.bool r) ∧ Drawn0 w w' := by
 have H : (if a0 ≥ a1 then (some (decide (a0 ≤ a2))) else (some false)) = some r := h
 clear h
 by_cases c4 : a0 ≥ a1
 ·rw [if_pos c4] at H
  have c4b0 : decide (a1 ≤ a0) = true := decide_eq_true c4
  clear c4
  obtain rfl := Option.some.inj H
  go_enter Try.func25, Try.ntmps25
  go_wp2
  go_ret
  exact ⟨by first | rfl | (simp; done) | (simp [*]; done), by repeat (first | exact Drawn0.refl _ | apply Drawn0.step)⟩
 ·rw [if_neg c4] at H
  have c4b0 : decide (a1 ≤ a0) = false := decide_eq_false c4
  clear c4
  obtain rfl := Option.some.inj H
  go_enter Try.func25, Try.ntmps25
  go_wp2
  go_ret
  exact ⟨by first | rfl | (simp; done) | (simp [*]; done), by repeat (first | exact Drawn0.refl _ | apply Drawn0.step)⟩

/-! ### tele_Check: function 14 -/
mutual
def tele_Check.j0 : Nat → Int → Bool → Int → Int → Int → Int → Int → Option (Int)
 | 0, _, _, _, _, _, _, _ => none
 | k + 1, x5, x6, x102000, x102001, x102002, x102003, x102004 => if x6 = true then ((tele_within.f x102003 1 30).bind fun t102 => (if t102 = true then (if x102004 = 0 then ((tele_within.f x102001 1 200).bind fun t103 => (if t103 = true then (some 0) else (some 24))) else (some 24)) else (some 24))) else (if x5 = 3 then ((tele_within.f x102003 1 30).bind fun t104 => (if t104 = true then ((tele_within.f x102004 1 3).bind fun t105 => (if t105 = true then ((tele_within.f x102001 1 200).bind fun t106 => (if t106 = true then (some 0) else (some 24))) else (some 24))) else (some 24))) else (if x5 = 4 then (tele_Check.j1 k x5 (x5 == 4) x102000 x102001 x102002 x102003 x102004) else (tele_Check.j1 k x5 (x5 == 5) x102000 x102001 x102002 x102003 x102004)))
def tele_Check.j1 : Nat → Int → Bool → Int → Int → Int → Int → Int → Option (Int)
 | 0, _, _, _, _, _, _, _ => none
 | k + 1, x5, x27, x102000, x102001, x102002, x102003, x102004 => if x27 = true then (if x102002 = 0 then (if x102003 = 0 then (if x102004 = 0 then ((tele_within.f x102001 1 200).bind fun t107 => (if t107 = true then (some 0) else (some 24))) else (some 24)) else (some 24)) else (some 24)) else (if x5 = 6 then (if x102003 = 0 then (if x102004 = 0 then ((tele_within.f x102001 1 200).bind fun t108 => (if t108 = true then (some 0) else (some 24))) else (some 24)) else (some 24)) else (if x5 = 7 then (if x102004 ≤ 30 then ((tele_within.f x102001 1 200).bind fun t109 => (if t109 = true then (some 0) else (some 24))) else (some 24)) else (some 23)))
end
def tele_Check.f (k : Nat) (a0_0 : Int) (a0_1 : Int) (a0_2 : Int) (a0_3 : Int) (a0_4 : Int) : Option (Int) := if a0_0 = 1 then (tele_Check.j0 k a0_0 (a0_0 == 1) a0_0 a0_1 a0_2 a0_3 a0_4) else (tele_Check.j0 k a0_0 (a0_0 == 2) a0_0 a0_1 a0_2 a0_3 a0_4)
theorem tele_Check.mono_l : ∀ k, (∀ y0 y1 y2 y3 y4 y5 y6, LeO (tele_Check.j0 k y0 y1 y2 y3 y4 y5 y6) (tele_Check.j0 (k + 1) y0 y1 y2 y3 y4 y5 y6)) ∧ (∀ y0 y1 y2 y3 y4 y5 y6, LeO (tele_Check.j1 k y0 y1 y2 y3 y4 y5 y6) (tele_Check.j1 (k + 1) y0 y1 y2 y3 y4 y5 y6))
 | 0 => ⟨fun _ _ _ _ _ _ _ r h => by simp [tele_Check.j0] at h, fun _ _ _ _ _ _ _ r h => by simp [tele_Check.j1] at h⟩
 | k + 1 => by
  obtain ⟨ih0, ih1⟩ := tele_Check.mono_l k
  refine ⟨?_, ?_⟩
  ·intro y0 y1 y2 y3 y4 y5 y6
   unfold tele_Check.j0
   repeat' first
   | (with_reducible exact ih0 _ _ _ _ _ _ _)
   | (with_reducible exact ih1 _ _ _ _ _ _ _)
   | (with_reducible exact LeO.refl _)
   | (with_reducible exact LeO.none _)
   | (with_reducible refine LeO.ite ?_ ?_)
   | (with_reducible refine LeO.bind ?_ (fun _ => ?_))
   | exact ih0 _ _ _ _ _ _ _
   | exact ih1 _ _ _ _ _ _ _
   | exact LeO.none _
   | refine LeO.ite ?_ ?_
   | refine LeO.bind ?_ (fun _ => ?_)
  ·intro y0 y1 y2 y3 y4 y5 y6
   unfold tele_Check.j1
   repeat' first
   | (with_reducible exact ih0 _ _ _ _ _ _ _)
   | (with_reducible exact ih1 _ _ _ _ _ _ _)
   | (with_reducible exact LeO.refl _)
   | (with_reducible exact LeO.none _)
   | (with_reducible refine LeO.ite ?_ ?_)
   | (with_reducible refine LeO.bind ?_ (fun _ => ?_))
   | exact ih0 _ _ _ _ _ _ _
   | exact ih1 _ _ _ _ _ _ _
   | exact LeO.none _
   | refine LeO.ite ?_ ?_
   | refine LeO.bind ?_ (fun _ => ?_)
theorem tele_Check.mono : ∀ a0 a1 a2 a3 a4 k, LeO (tele_Check.f k a0 a1 a2 a3 a4) (tele_Check.f (k + 1) a0 a1 a2 a3 a4) := by
 intro a0 a1 a2 a3 a4 k
 obtain ⟨ih0, ih1⟩ := tele_Check.mono_l k
 unfold tele_Check.f
 repeat' first
   | (with_reducible exact ih0 _ _ _ _ _ _ _)
   | (with_reducible exact ih1 _ _ _ _ _ _ _)
   | (with_reducible exact LeO.refl _)
   | (with_reducible exact LeO.none _)
   | (with_reducible refine LeO.ite ?_ ?_)
   | (with_reducible refine LeO.bind ?_ (fun _ => ?_))
   | exact ih0 _ _ _ _ _ _ _
   | exact ih1 _ _ _ _ _ _ _
   | exact LeO.none _
   | refine LeO.ite ?_ ?_
   | refine LeO.bind ?_ (fun _ => ?_)
set_option maxHeartbeats 8000000 in
set_option maxRecDepth 100000 in
theorem tele_Check.calls (k : Nat) (a0_0 : Int) (a0_1 : Int) (a0_2 : Int) (a0_3 : Int) (a0_4 : Int) (r : Int) (w : World) (h : tele_Check.f k a0_0 a0_1 a0_2 a0_3 a0_4 = some r) :
  Calls Try.prog 14 #[.agg #[.int .u8 a0_0, .int .u16 a0_1, .int .u16 a0_2, .int .u16 a0_3, .int .u16 a0_4]] w fun e w' => e = .returned (.int .i64 r) ∧ Below w.heap.size w w' := by
 have hu24 := Try.underlying24
 have HB := Aside0.mk (Below.refl w.heap.size w)
 have H : (if a0_0 = 1 then (tele_Check.j0 k a0_0 (a0_0 == 1) a0_0 a0_1 a0_2 a0_3 a0_4) else (tele_Check.j0 k a0_0 (a0_0 == 2) a0_0 a0_1 a0_2 a0_3 a0_4)) = some r := h
 clear h
 have HC2 := Aside0.mk H
 clear H
 go_enter Try.func14, Try.ntmps14
 go_upto_if 6 with (first | ((with_reducible refine gate_dst (N := 1) rfl ?_); refine box_event ?hg (N := 1) ?hd (cs := #[.int .u8 a0_0, .int .u16 a0_1, .int .u16 a0_2, .int .u16 a0_3, .int .u16 a0_4]) (t := 24) ?hr ?_; (case hd => rfl); (case hg => rfl); (case hr => first | (go_simp; done) | (go_simp; rfl)); intro gb101 hg w3 hbox hb; have n0_ := Aside0.mk (below_step (by repeat (first | (with_reducible first | exact HB.out | apply below_alloc | apply pw_below_drewN | apply below_drew1) | exact HB.out)) hb); have n1_ := Aside0.mk (hbox); have n2_ := Aside0.mk ((by rw [hg]; exact (below_size (by repeat (first | (with_reducible first | exact HB.out | apply below_alloc | apply pw_below_drewN | apply below_drew1) | exact HB.out))) : w.heap.size ≤ gb101)); have n3_ := Aside0.mk ((by rw [hg]; exact (below_size (by repeat (first | (with_reducible first | exact HB.out | apply below_alloc | apply pw_below_drewN | apply below_drew1) | exact HB.out))) : w.heap.size ≤ gb101)); clear HB; have HB := n0_; have BK101 := n1_; have GW101 := n2_; have GE101 := n3_; clear n0_ n1_ n2_ n3_; clear hb hbox hg; have hcz4_0 : w3.cell? ⟨gb101, 0, none⟩ = some (.int .u8 a0_0) := (blk_cell BK101.out 0).trans rfl; have hcz4_1 : w3.cell? ⟨gb101, 1, none⟩ = some (.int .u16 a0_1) := (blk_cell BK101.out 1).trans rfl; have hcz4_2 : w3.cell? ⟨gb101, 2, none⟩ = some (.int .u16 a0_2) := (blk_cell BK101.out 2).trans rfl; have hcz4_3 : w3.cell? ⟨gb101, 3, none⟩ = some (.int .u16 a0_3) := (blk_cell BK101.out 3).trans rfl; have hcz4_4 : w3.cell? ⟨gb101, 4, none⟩ = some (.int .u16 a0_4) := (blk_cell BK101.out 4).trans rfl; have hfz4_0 := blk_frozen BK101.out 0; have hfz4_1 := blk_frozen BK101.out 1; have hfz4_2 := blk_frozen BK101.out 2; have hfz4_3 := blk_frozen BK101.out 3; have hfz4_4 := blk_frozen BK101.out 4))
 (try simp only [Act.put, List.setIfInBounds_toArray, List.set_cons_zero, List.set_cons_succ])
 go_cut [6] (fun v6 wc => ∃ (kq : Nat) (x6_1 : Bool), v6 = .bool x6_1 ∧ Aside0 (tele_Check.j0 kq a0_0 x6_1 a0_0 a0_1 a0_2 a0_3 a0_4 = some r) ∧ Aside0 (kq ≤ k) ∧ Aside0 (wc.heap[gb101]? = some (.cells #[.int .u8 a0_0, .int .u16 a0_1, .int .u16 a0_2, .int .u16 a0_3, .int .u16 a0_4] 24 (0, 0))) ∧ Aside0 (Below w.heap.size w wc))
 case first =>
  have H := HC2.out
  clear HC2
  by_cases c5 : a0_0 = 1
  ·rw [if_pos c5] at H
   have c5b0 : (a0_0 == 1) = true := beq_iff_eq.mpr c5
   have c5b1 : (a0_0 != 1) = false := bne_eq_false_iff_eq.mpr c5
   clear c5
   (first | rw [c5b0] | (simp only [i64_w, i32_w]; rw [c5b0]) | skip)
   have H' := Aside0.mk H
   clear H
   go_wp2
   go_meet
   case rel => exact ⟨_, ((a0_0 == 1)), (by first | rfl | (simp; done) | (simp [*]; done)), H', ⟨by first | omega | exact Nat.le_refl _⟩, ⟨by (with_reducible repeat (first | refine blk_drewN ?_ _ | refine blk_drew ?_ | refine blk_alloc ?_ _)); exact BK101.out⟩, ⟨by repeat (first | (with_reducible first | exact HB.out | apply below_alloc | apply pw_below_drewN | apply below_drew1 | refine below_set ?_ GE101.out) | exact HB.out)⟩⟩
  ·rw [if_neg c5] at H
   have c5b0 : (a0_0 == 1) = false := beq_eq_false_iff_ne.mpr c5
   have c5b1 : (a0_0 != 1) = true := bne_iff_ne.mpr c5
   (first | rw [c5b0] | (simp only [i64_w, i32_w]; rw [c5b0]) | skip)
   have H' := Aside0.mk H
   clear H
   go_wp2
   go_meet
   case rel => exact ⟨_, ((a0_0 == 2)), (by first | rfl | (simp; done) | (simp [*]; done)), H', ⟨by first | omega | exact Nat.le_refl _⟩, ⟨by (with_reducible repeat (first | refine blk_drewN ?_ _ | refine blk_drew ?_ | refine blk_alloc ?_ _)); exact BK101.out⟩, ⟨by repeat (first | (with_reducible first | exact HB.out | apply below_alloc | apply pw_below_drewN | apply below_drew1 | refine below_set ?_ GE101.out) | exact HB.out)⟩⟩
 case rest =>
  clear HC2
  try clear c1
  try clear p2
  try clear c5
  try clear c5b0
  try clear c5b1
  try clear hcz4_0
  try clear hcz4_1
  try clear hcz4_2
  try clear hcz4_3
  try clear hcz4_4
  try clear hfz4_0
  try clear hfz4_1
  try clear hfz4_2
  try clear hfz4_3
  try clear hfz4_4
  obtain ⟨kq, x6_1, rfl, HA, HJ1, BK101, HB⟩ := hcut
  cases kq with
  | zero => exact absurd HA.out (by simp [tele_Check.j0])
  | succ kj1 =>
   have H := HA.out
   clear HA
   simp only [tele_Check.j0] at H
   by_cases c6 : x6_1 = true
   ·subst c6
    have H1 : ((tele_within.f a0_3 1 30).bind fun t102 => (if t102 = true then (if a0_4 = 0 then ((tele_within.f a0_1 1 200).bind fun t103 => (if t103 = true then (some 0) else (some 24))) else (some 24)) else (some 24))) = some r := by rw [if_pos rfl] at H; exact H
    clear H
    have H := H1
    clear H1
    replace H := Option.bind_eq_some_iff.mp H
    obtain ⟨t102, A70, H⟩ := H
    replace H : (if t102 = true then (if a0_4 = 0 then ((tele_within.f a0_1 1 200).bind fun t103 => (if t103 = true then (some 0) else (some 24))) else (some 24)) else (some 24)) = some r := H
    have A7 := Aside0.mk A70
    clear A70
    by_cases c8 : t102 = true
    ·subst c8
     have H1 : (if a0_4 = 0 then ((tele_within.f a0_1 1 200).bind fun t103 => (if t103 = true then (some 0) else (some 24))) else (some 24)) = some r := by rw [if_pos rfl] at H; exact H
     clear H
     have H := H1
     clear H1
     by_cases c9 : a0_4 = 0
     ·rw [if_pos c9] at H
      have c9b0 : (a0_4 == 0) = true := beq_iff_eq.mpr c9
      have c9b1 : (a0_4 != 0) = false := bne_eq_false_iff_eq.mpr c9
      clear c9
      replace H := Option.bind_eq_some_iff.mp H
      obtain ⟨t103, A100, H⟩ := H
      replace H : (if t103 = true then (some 0) else (some 24)) = some r := H
      have A10 := Aside0.mk A100
      clear A100
      by_cases c11 : t103 = true
      ·subst c11
       have H1 : (some 0) = some r := by rw [if_pos rfl] at H; exact H
       clear H
       have H := H1
       clear H1
       obtain rfl := Option.some.inj H
       have hcz12_0 : wc.cell? ⟨gb101, 0, none⟩ = some (.int .u8 a0_0) := (blk_cell BK101.out 0).trans rfl
       have hcz12_1 : wc.cell? ⟨gb101, 1, none⟩ = some (.int .u16 a0_1) := (blk_cell BK101.out 1).trans rfl
       have hcz12_2 : wc.cell? ⟨gb101, 2, none⟩ = some (.int .u16 a0_2) := (blk_cell BK101.out 2).trans rfl
       have hcz12_3 : wc.cell? ⟨gb101, 3, none⟩ = some (.int .u16 a0_3) := (blk_cell BK101.out 3).trans rfl
       have hcz12_4 : wc.cell? ⟨gb101, 4, none⟩ = some (.int .u16 a0_4) := (blk_cell BK101.out 4).trans rfl
       have hfz12_0 := blk_frozen BK101.out 0
       have hfz12_1 := blk_frozen BK101.out 1
       have hfz12_2 := blk_frozen BK101.out 2
       have hfz12_3 := blk_frozen BK101.out 3
       have hfz12_4 := blk_frozen BK101.out 4
       go_wp2_with (first | ((with_reducible refine gate_callee (f := 25) rfl ?_); refine goesL_ (some 11) rfl rfl Try.func25 (by kernel_rfl) rfl #[.int .u16 a0_3, .int .u16 1, .int .u16 30] rfl (by (try simp only [List.map_toArray, List.map_cons, List.map_nil]); first | done | rfl | (simp only [List.length_drop, List.length_take]; rfl)) ?_; (with_reducible refine (tele_within.calls a0_3 1 30 true _ A7.out).mono ?_); rintro e w' ⟨rfl, ⟨nd, rfl⟩⟩; refine ⟨_, rfl, ?_⟩) | (go_at_call 25; (with_reducible refine (tele_within.calls a0_1 1 200 true _ A10.out).mono ?_); rintro e w' ⟨rfl, ⟨nd, rfl⟩⟩))
       go_ret
       exact ⟨by first | rfl | (simp [errW_none, errW_some] <;> rfl) | (simp [*, errW_none, errW_some] <;> rfl), by repeat (first | (with_reducible first | exact HB.out | apply below_alloc | apply pw_below_drewN | apply below_drew1 | refine below_set ?_ GE101.out) | exact HB.out)⟩
      ·replace c11 := Bool.eq_false_iff.mpr c11
       subst c11
       have H1 : (some 24) = some r := by rw [if_neg (show ¬ (false = true) by decide)] at H; exact H
       clear H
       have H := H1
       clear H1
       obtain rfl := Option.some.inj H
       have hcz13_0 : wc.cell? ⟨gb101, 0, none⟩ = some (.int .u8 a0_0) := (blk_cell BK101.out 0).trans rfl
       have hcz13_1 : wc.cell? ⟨gb101, 1, none⟩ = some (.int .u16 a0_1) := (blk_cell BK101.out 1).trans rfl
       have hcz13_2 : wc.cell? ⟨gb101, 2, none⟩ = some (.int .u16 a0_2) := (blk_cell BK101.out 2).trans rfl
       have hcz13_3 : wc.cell? ⟨gb101, 3, none⟩ = some (.int .u16 a0_3) := (blk_cell BK101.out 3).trans rfl
       have hcz13_4 : wc.cell? ⟨gb101, 4, none⟩ = some (.int .u16 a0_4) := (blk_cell BK101.out 4).trans rfl
       have hfz13_0 := blk_frozen BK101.out 0
       have hfz13_1 := blk_frozen BK101.out 1
       have hfz13_2 := blk_frozen BK101.out 2
       have hfz13_3 := blk_frozen BK101.out 3
       have hfz13_4 := blk_frozen BK101.out 4
       go_wp2_with (first | ((with_reducible refine gate_callee (f := 25) rfl ?_); refine goesL_ (some 11) rfl rfl Try.func25 (by kernel_rfl) rfl #[.int .u16 a0_3, .int .u16 1, .int .u16 30] rfl (by (try simp only [List.map_toArray, List.map_cons, List.map_nil]); first | done | rfl | (simp only [List.length_drop, List.length_take]; rfl)) ?_; (with_reducible refine (tele_within.calls a0_3 1 30 true _ A7.out).mono ?_); rintro e w' ⟨rfl, ⟨nd, rfl⟩⟩; refine ⟨_, rfl, ?_⟩) | (go_at_call 25; (with_reducible refine (tele_within.calls a0_1 1 200 false _ A10.out).mono ?_); rintro e w' ⟨rfl, ⟨nd, rfl⟩⟩))
       go_ret
       exact ⟨by first | rfl | (simp [errW_none, errW_some] <;> rfl) | (simp [*, errW_none, errW_some] <;> rfl), by repeat (first | (with_reducible first | exact HB.out | apply below_alloc | apply pw_below_drewN | apply below_drew1 | refine below_set ?_ GE101.out) | exact HB.out)⟩
     ·rw [if_neg c9] at H
      have c9b0 : (a0_4 == 0) = false := beq_eq_false_iff_ne.mpr c9
      have c9b1 : (a0_4 != 0) = true := bne_iff_ne.mpr c9
      obtain rfl := Option.some.inj H
      have hcz14_0 : wc.cell? ⟨gb101, 0, none⟩ = some (.int .u8 a0_0) := (blk_cell BK101.out 0).trans rfl
      have hcz14_1 : wc.cell? ⟨gb101, 1, none⟩ = some (.int .u16 a0_1) := (blk_cell BK101.out 1).trans rfl
      have hcz14_2 : wc.cell? ⟨gb101, 2, none⟩ = some (.int .u16 a0_2) := (blk_cell BK101.out 2).trans rfl
      have hcz14_3 : wc.cell? ⟨gb101, 3, none⟩ = some (.int .u16 a0_3) := (blk_cell BK101.out 3).trans rfl
      have hcz14_4 : wc.cell? ⟨gb101, 4, none⟩ = some (.int .u16 a0_4) := (blk_cell BK101.out 4).trans rfl
      have hfz14_0 := blk_frozen BK101.out 0
      have hfz14_1 := blk_frozen BK101.out 1
      have hfz14_2 := blk_frozen BK101.out 2
      have hfz14_3 := blk_frozen BK101.out 3
      have hfz14_4 := blk_frozen BK101.out 4
      go_wp2_with (first | ((with_reducible refine gate_callee (f := 25) rfl ?_); refine goesL_ (some 11) rfl rfl Try.func25 (by kernel_rfl) rfl #[.int .u16 a0_3, .int .u16 1, .int .u16 30] rfl (by (try simp only [List.map_toArray, List.map_cons, List.map_nil]); first | done | rfl | (simp only [List.length_drop, List.length_take]; rfl)) ?_; (with_reducible refine (tele_within.calls a0_3 1 30 true _ A7.out).mono ?_); rintro e w' ⟨rfl, ⟨nd, rfl⟩⟩; refine ⟨_, rfl, ?_⟩))
      go_ret
      exact ⟨by first | rfl | (simp [errW_none, errW_some] <;> rfl) | (simp [*, errW_none, errW_some] <;> rfl), by repeat (first | (with_reducible first | exact HB.out | apply below_alloc | apply pw_below_drewN | apply below_drew1 | refine below_set ?_ GE101.out) | exact HB.out)⟩
    ·replace c8 := Bool.eq_false_iff.mpr c8
     subst c8
     have H1 : (some 24) = some r := by rw [if_neg (show ¬ (false = true) by decide)] at H; exact H
     clear H
     have H := H1
     clear H1
     obtain rfl := Option.some.inj H
     have hcz15_0 : wc.cell? ⟨gb101, 0, none⟩ = some (.int .u8 a0_0) := (blk_cell BK101.out 0).trans rfl
     have hcz15_1 : wc.cell? ⟨gb101, 1, none⟩ = some (.int .u16 a0_1) := (blk_cell BK101.out 1).trans rfl
     have hcz15_2 : wc.cell? ⟨gb101, 2, none⟩ = some (.int .u16 a0_2) := (blk_cell BK101.out 2).trans rfl
     have hcz15_3 : wc.cell? ⟨gb101, 3, none⟩ = some (.int .u16 a0_3) := (blk_cell BK101.out 3).trans rfl
     have hcz15_4 : wc.cell? ⟨gb101, 4, none⟩ = some (.int .u16 a0_4) := (blk_cell BK101.out 4).trans rfl
     have hfz15_0 := blk_frozen BK101.out 0
     have hfz15_1 := blk_frozen BK101.out 1
     have hfz15_2 := blk_frozen BK101.out 2
     have hfz15_3 := blk_frozen BK101.out 3
     have hfz15_4 := blk_frozen BK101.out 4
     go_wp2_with (first | ((with_reducible refine gate_callee (f := 25) rfl ?_); refine goesL_ (some 11) rfl rfl Try.func25 (by kernel_rfl) rfl #[.int .u16 a0_3, .int .u16 1, .int .u16 30] rfl (by (try simp only [List.map_toArray, List.map_cons, List.map_nil]); first | done | rfl | (simp only [List.length_drop, List.length_take]; rfl)) ?_; (with_reducible refine (tele_within.calls a0_3 1 30 false _ A7.out).mono ?_); rintro e w' ⟨rfl, ⟨nd, rfl⟩⟩; refine ⟨_, rfl, ?_⟩))
     go_ret
     exact ⟨by first | rfl | (simp [errW_none, errW_some] <;> rfl) | (simp [*, errW_none, errW_some] <;> rfl), by repeat (first | (with_reducible first | exact HB.out | apply below_alloc | apply pw_below_drewN | apply below_drew1 | refine below_set ?_ GE101.out) | exact HB.out)⟩
   ·replace c6 := Bool.eq_false_iff.mpr c6
    subst c6
    have H1 : (if a0_0 = 3 then ((tele_within.f a0_3 1 30).bind fun t104 => (if t104 = true then ((tele_within.f a0_4 1 3).bind fun t105 => (if t105 = true then ((tele_within.f a0_1 1 200).bind fun t106 => (if t106 = true then (some 0) else (some 24))) else (some 24))) else (some 24))) else (if a0_0 = 4 then (tele_Check.j1 kj1 a0_0 (a0_0 == 4) a0_0 a0_1 a0_2 a0_3 a0_4) else (tele_Check.j1 kj1 a0_0 (a0_0 == 5) a0_0 a0_1 a0_2 a0_3 a0_4))) = some r := by rw [if_neg (show ¬ (false = true) by decide)] at H; exact H
    clear H
    have H := H1
    clear H1
    by_cases c16 : a0_0 = 3
    ·rw [if_pos c16] at H
     have c16b0 : (a0_0 == 3) = true := beq_iff_eq.mpr c16
     have c16b1 : (a0_0 != 3) = false := bne_eq_false_iff_eq.mpr c16
     clear c16
     replace H := Option.bind_eq_some_iff.mp H
     obtain ⟨t104, A170, H⟩ := H
     replace H : (if t104 = true then ((tele_within.f a0_4 1 3).bind fun t105 => (if t105 = true then ((tele_within.f a0_1 1 200).bind fun t106 => (if t106 = true then (some 0) else (some 24))) else (some 24))) else (some 24)) = some r := H
     have A17 := Aside0.mk A170
     clear A170
     by_cases c18 : t104 = true
     ·subst c18
      have H1 : ((tele_within.f a0_4 1 3).bind fun t105 => (if t105 = true then ((tele_within.f a0_1 1 200).bind fun t106 => (if t106 = true then (some 0) else (some 24))) else (some 24))) = some r := by rw [if_pos rfl] at H; exact H
      clear H
      have H := H1
      clear H1
      replace H := Option.bind_eq_some_iff.mp H
      obtain ⟨t105, A190, H⟩ := H
      replace H : (if t105 = true then ((tele_within.f a0_1 1 200).bind fun t106 => (if t106 = true then (some 0) else (some 24))) else (some 24)) = some r := H
      have A19 := Aside0.mk A190
      clear A190
      by_cases c20 : t105 = true
      ·subst c20
       have H1 : ((tele_within.f a0_1 1 200).bind fun t106 => (if t106 = true then (some 0) else (some 24))) = some r := by rw [if_pos rfl] at H; exact H
       clear H
       have H := H1
       clear H1
       replace H := Option.bind_eq_some_iff.mp H
       obtain ⟨t106, A210, H⟩ := H
       replace H : (if t106 = true then (some 0) else (some 24)) = some r := H
       have A21 := Aside0.mk A210
       clear A210
       by_cases c22 : t106 = true
       ·subst c22
        have H1 : (some 0) = some r := by rw [if_pos rfl] at H; exact H
        clear H
        have H := H1
        clear H1
        obtain rfl := Option.some.inj H
        have hcz23_0 : wc.cell? ⟨gb101, 0, none⟩ = some (.int .u8 a0_0) := (blk_cell BK101.out 0).trans rfl
        have hcz23_1 : wc.cell? ⟨gb101, 1, none⟩ = some (.int .u16 a0_1) := (blk_cell BK101.out 1).trans rfl
        have hcz23_2 : wc.cell? ⟨gb101, 2, none⟩ = some (.int .u16 a0_2) := (blk_cell BK101.out 2).trans rfl
        have hcz23_3 : wc.cell? ⟨gb101, 3, none⟩ = some (.int .u16 a0_3) := (blk_cell BK101.out 3).trans rfl
        have hcz23_4 : wc.cell? ⟨gb101, 4, none⟩ = some (.int .u16 a0_4) := (blk_cell BK101.out 4).trans rfl
        have hfz23_0 := blk_frozen BK101.out 0
        have hfz23_1 := blk_frozen BK101.out 1
        have hfz23_2 := blk_frozen BK101.out 2
        have hfz23_3 := blk_frozen BK101.out 3
        have hfz23_4 := blk_frozen BK101.out 4
        go_wp2_with (first | ((with_reducible refine gate_callee (f := 25) rfl ?_); refine goesL_ (some 21) rfl rfl Try.func25 (by kernel_rfl) rfl #[.int .u16 a0_3, .int .u16 1, .int .u16 30] rfl (by (try simp only [List.map_toArray, List.map_cons, List.map_nil]); first | done | rfl | (simp only [List.length_drop, List.length_take]; rfl)) ?_; (with_reducible refine (tele_within.calls a0_3 1 30 true _ A17.out).mono ?_); rintro e w' ⟨rfl, ⟨nd, rfl⟩⟩; refine ⟨_, rfl, ?_⟩) | (go_at_call 25; (with_reducible refine (tele_within.calls a0_4 1 3 true _ A19.out).mono ?_); rintro e w' ⟨rfl, ⟨nd, rfl⟩⟩) | (go_at_call 25; (with_reducible refine (tele_within.calls a0_1 1 200 true _ A21.out).mono ?_); rintro e w' ⟨rfl, ⟨nd, rfl⟩⟩))
        go_ret
        exact ⟨by first | rfl | (simp [errW_none, errW_some] <;> rfl) | (simp [*, errW_none, errW_some] <;> rfl), by repeat (first | (with_reducible first | exact HB.out | apply below_alloc | apply pw_below_drewN | apply below_drew1 | refine below_set ?_ GE101.out) | exact HB.out)⟩
       ·replace c22 := Bool.eq_false_iff.mpr c22
        subst c22
        have H1 : (some 24) = some r := by rw [if_neg (show ¬ (false = true) by decide)] at H; exact H
        clear H
        have H := H1
        clear H1
        obtain rfl := Option.some.inj H
        have hcz24_0 : wc.cell? ⟨gb101, 0, none⟩ = some (.int .u8 a0_0) := (blk_cell BK101.out 0).trans rfl
        have hcz24_1 : wc.cell? ⟨gb101, 1, none⟩ = some (.int .u16 a0_1) := (blk_cell BK101.out 1).trans rfl
        have hcz24_2 : wc.cell? ⟨gb101, 2, none⟩ = some (.int .u16 a0_2) := (blk_cell BK101.out 2).trans rfl
        have hcz24_3 : wc.cell? ⟨gb101, 3, none⟩ = some (.int .u16 a0_3) := (blk_cell BK101.out 3).trans rfl
        have hcz24_4 : wc.cell? ⟨gb101, 4, none⟩ = some (.int .u16 a0_4) := (blk_cell BK101.out 4).trans rfl
        have hfz24_0 := blk_frozen BK101.out 0
        have hfz24_1 := blk_frozen BK101.out 1
        have hfz24_2 := blk_frozen BK101.out 2
        have hfz24_3 := blk_frozen BK101.out 3
        have hfz24_4 := blk_frozen BK101.out 4
        go_wp2_with (first | ((with_reducible refine gate_callee (f := 25) rfl ?_); refine goesL_ (some 21) rfl rfl Try.func25 (by kernel_rfl) rfl #[.int .u16 a0_3, .int .u16 1, .int .u16 30] rfl (by (try simp only [List.map_toArray, List.map_cons, List.map_nil]); first | done | rfl | (simp only [List.length_drop, List.length_take]; rfl)) ?_; (with_reducible refine (tele_within.calls a0_3 1 30 true _ A17.out).mono ?_); rintro e w' ⟨rfl, ⟨nd, rfl⟩⟩; refine ⟨_, rfl, ?_⟩) | (go_at_call 25; (with_reducible refine (tele_within.calls a0_4 1 3 true _ A19.out).mono ?_); rintro e w' ⟨rfl, ⟨nd, rfl⟩⟩) | (go_at_call 25; (with_reducible refine (tele_within.calls a0_1 1 200 false _ A21.out).mono ?_); rintro e w' ⟨rfl, ⟨nd, rfl⟩⟩))
        go_ret
        exact ⟨by first | rfl | (simp [errW_none, errW_some] <;> rfl) | (simp [*, errW_none, errW_some] <;> rfl), by repeat (first | (with_reducible first | exact HB.out | apply below_alloc | apply pw_below_drewN | apply below_drew1 | refine below_set ?_ GE101.out) | exact HB.out)⟩
      ·replace c20 := Bool.eq_false_iff.mpr c20
       subst c20
       have H1 : (some 24) = some r := by rw [if_neg (show ¬ (false = true) by decide)] at H; exact H
       clear H
       have H := H1
       clear H1
       obtain rfl := Option.some.inj H
       have hcz25_0 : wc.cell? ⟨gb101, 0, none⟩ = some (.int .u8 a0_0) := (blk_cell BK101.out 0).trans rfl
       have hcz25_1 : wc.cell? ⟨gb101, 1, none⟩ = some (.int .u16 a0_1) := (blk_cell BK101.out 1).trans rfl
       have hcz25_2 : wc.cell? ⟨gb101, 2, none⟩ = some (.int .u16 a0_2) := (blk_cell BK101.out 2).trans rfl
       have hcz25_3 : wc.cell? ⟨gb101, 3, none⟩ = some (.int .u16 a0_3) := (blk_cell BK101.out 3).trans rfl
       have hcz25_4 : wc.cell? ⟨gb101, 4, none⟩ = some (.int .u16 a0_4) := (blk_cell BK101.out 4).trans rfl
       have hfz25_0 := blk_frozen BK101.out 0
       have hfz25_1 := blk_frozen BK101.out 1
       have hfz25_2 := blk_frozen BK101.out 2
       have hfz25_3 := blk_frozen BK101.out 3
       have hfz25_4 := blk_frozen BK101.out 4
       go_wp2_with (first | ((with_reducible refine gate_callee (f := 25) rfl ?_); refine goesL_ (some 21) rfl rfl Try.func25 (by kernel_rfl) rfl #[.int .u16 a0_3, .int .u16 1, .int .u16 30] rfl (by (try simp only [List.map_toArray, List.map_cons, List.map_nil]); first | done | rfl | (simp only [List.length_drop, List.length_take]; rfl)) ?_; (with_reducible refine (tele_within.calls a0_3 1 30 true _ A17.out).mono ?_); rintro e w' ⟨rfl, ⟨nd, rfl⟩⟩; refine ⟨_, rfl, ?_⟩) | (go_at_call 25; (with_reducible refine (tele_within.calls a0_4 1 3 false _ A19.out).mono ?_); rintro e w' ⟨rfl, ⟨nd, rfl⟩⟩))
       go_ret
       exact ⟨by first | rfl | (simp [errW_none, errW_some] <;> rfl) | (simp [*, errW_none, errW_some] <;> rfl), by repeat (first | (with_reducible first | exact HB.out | apply below_alloc | apply pw_below_drewN | apply below_drew1 | refine below_set ?_ GE101.out) | exact HB.out)⟩
     ·replace c18 := Bool.eq_false_iff.mpr c18
      subst c18
      have H1 : (some 24) = some r := by rw [if_neg (show ¬ (false = true) by decide)] at H; exact H
      clear H
      have H := H1
      clear H1
      obtain rfl := Option.some.inj H
      have hcz26_0 : wc.cell? ⟨gb101, 0, none⟩ = some (.int .u8 a0_0) := (blk_cell BK101.out 0).trans rfl
      have hcz26_1 : wc.cell? ⟨gb101, 1, none⟩ = some (.int .u16 a0_1) := (blk_cell BK101.out 1).trans rfl
      have hcz26_2 : wc.cell? ⟨gb101, 2, none⟩ = some (.int .u16 a0_2) := (blk_cell BK101.out 2).trans rfl
      have hcz26_3 : wc.cell? ⟨gb101, 3, none⟩ = some (.int .u16 a0_3) := (blk_cell BK101.out 3).trans rfl
      have hcz26_4 : wc.cell? ⟨gb101, 4, none⟩ = some (.int .u16 a0_4) := (blk_cell BK101.out 4).trans rfl
      have hfz26_0 := blk_frozen BK101.out 0
      have hfz26_1 := blk_frozen BK101.out 1
      have hfz26_2 := blk_frozen BK101.out 2
      have hfz26_3 := blk_frozen BK101.out 3
      have hfz26_4 := blk_frozen BK101.out 4
      go_wp2_with (first | ((with_reducible refine gate_callee (f := 25) rfl ?_); refine goesL_ (some 21) rfl rfl Try.func25 (by kernel_rfl) rfl #[.int .u16 a0_3, .int .u16 1, .int .u16 30] rfl (by (try simp only [List.map_toArray, List.map_cons, List.map_nil]); first | done | rfl | (simp only [List.length_drop, List.length_take]; rfl)) ?_; (with_reducible refine (tele_within.calls a0_3 1 30 false _ A17.out).mono ?_); rintro e w' ⟨rfl, ⟨nd, rfl⟩⟩; refine ⟨_, rfl, ?_⟩))
      go_ret
      exact ⟨by first | rfl | (simp [errW_none, errW_some] <;> rfl) | (simp [*, errW_none, errW_some] <;> rfl), by repeat (first | (with_reducible first | exact HB.out | apply below_alloc | apply pw_below_drewN | apply below_drew1 | refine below_set ?_ GE101.out) | exact HB.out)⟩
    ·rw [if_neg c16] at H
     have c16b0 : (a0_0 == 3) = false := beq_eq_false_iff_ne.mpr c16
     have c16b1 : (a0_0 != 3) = true := bne_iff_ne.mpr c16
     have HC27 := Aside0.mk H
     clear H
     go_upto_if 27 with (fail)
     go_cut [27] (fun v27 wc => ∃ (kq : Nat) (x27_26 : Bool), v27 = .bool x27_26 ∧ Aside0 (tele_Check.j1 kq a0_0 x27_26 a0_0 a0_1 a0_2 a0_3 a0_4 = some r) ∧ Aside0 (kq ≤ kj1) ∧ Aside0 (wc.heap[gb101]? = some (.cells #[.int .u8 a0_0, .int .u16 a0_1, .int .u16 a0_2, .int .u16 a0_3, .int .u16 a0_4] 24 (0, 0))) ∧ Aside0 (Below w.heap.size w wc))
     case first =>
      have H := HC27.out
      clear HC27
      by_cases c28 : a0_0 = 4
      ·rw [if_pos c28] at H
       have c28b0 : (a0_0 == 4) = true := beq_iff_eq.mpr c28
       have c28b1 : (a0_0 != 4) = false := bne_eq_false_iff_eq.mpr c28
       clear c28
       (first | rw [c28b0] | (simp only [i64_w, i32_w]; rw [c28b0]) | skip)
       have H' := Aside0.mk H
       clear H
       go_wp2
       go_meet
       case rel => exact ⟨_, ((a0_0 == 4)), (by first | rfl | (simp; done) | (simp [*]; done)), H', ⟨by have := HJ1.out; first | omega | exact Nat.le_refl _⟩, ⟨by (with_reducible repeat (first | refine blk_drewN ?_ _ | refine blk_drew ?_ | refine blk_alloc ?_ _)); exact BK101.out⟩, ⟨by repeat (first | (with_reducible first | exact HB.out | apply below_alloc | apply pw_below_drewN | apply below_drew1 | refine below_set ?_ GE101.out) | exact HB.out)⟩⟩
      ·rw [if_neg c28] at H
       have c28b0 : (a0_0 == 4) = false := beq_eq_false_iff_ne.mpr c28
       have c28b1 : (a0_0 != 4) = true := bne_iff_ne.mpr c28
       (first | rw [c28b0] | (simp only [i64_w, i32_w]; rw [c28b0]) | skip)
       have H' := Aside0.mk H
       clear H
       go_wp2
       go_meet
       case rel => exact ⟨_, ((a0_0 == 5)), (by first | rfl | (simp; done) | (simp [*]; done)), H', ⟨by have := HJ1.out; first | omega | exact Nat.le_refl _⟩, ⟨by (with_reducible repeat (first | refine blk_drewN ?_ _ | refine blk_drew ?_ | refine blk_alloc ?_ _)); exact BK101.out⟩, ⟨by repeat (first | (with_reducible first | exact HB.out | apply below_alloc | apply pw_below_drewN | apply below_drew1 | refine below_set ?_ GE101.out) | exact HB.out)⟩⟩
     case rest =>
      clear HC27
      try clear c1
      try clear c2
      try clear p2
      try clear c5
      try clear c5b0
      try clear c5b1
      try clear c6
      try clear c8
      try clear c9
      try clear c9b0
      try clear c9b1
      try clear c11
      try clear c14
      try clear c16
      try clear c16b0
      try clear c16b1
      try clear c18
      try clear c20
      try clear c22
      try clear c25
      try clear c28
      try clear c28b0
      try clear c28b1
      try clear hcz12_0
      try clear hcz12_1
      try clear hcz12_2
      try clear hcz12_3
      try clear hcz12_4
      try clear hcz13_0
      try clear hcz13_1
      try clear hcz13_2
      try clear hcz13_3
      try clear hcz13_4
      try clear hcz14_0
      try clear hcz14_1
      try clear hcz14_2
      try clear hcz14_3
      try clear hcz14_4
      try clear hcz15_0
      try clear hcz15_1
      try clear hcz15_2
      try clear hcz15_3
      try clear hcz15_4
      try clear hcz23_0
      try clear hcz23_1
      try clear hcz23_2
      try clear hcz23_3
      try clear hcz23_4
      try clear hcz24_0
      try clear hcz24_1
      try clear hcz24_2
      try clear hcz24_3
      try clear hcz24_4
      try clear hcz25_0
      try clear hcz25_1
      try clear hcz25_2
      try clear hcz25_3
      try clear hcz25_4
      try clear hcz26_0
      try clear hcz26_1
      try clear hcz26_2
      try clear hcz26_3
      try clear hcz26_4
      try clear hcz4_0
      try clear hcz4_1
      try clear hcz4_2
      try clear hcz4_3
      try clear hcz4_4
      try clear hfz12_0
      try clear hfz12_1
      try clear hfz12_2
      try clear hfz12_3
      try clear hfz12_4
      try clear hfz13_0
      try clear hfz13_1
      try clear hfz13_2
      try clear hfz13_3
      try clear hfz13_4
      try clear hfz14_0
      try clear hfz14_1
      try clear hfz14_2
      try clear hfz14_3
      try clear hfz14_4
      try clear hfz15_0
      try clear hfz15_1
      try clear hfz15_2
      try clear hfz15_3
      try clear hfz15_4
      try clear hfz23_0
      try clear hfz23_1
      try clear hfz23_2
      try clear hfz23_3
      try clear hfz23_4
      try clear hfz24_0
      try clear hfz24_1
      try clear hfz24_2
      try clear hfz24_3
      try clear hfz24_4
      try clear hfz25_0
      try clear hfz25_1
      try clear hfz25_2
      try clear hfz25_3
      try clear hfz25_4
      try clear hfz26_0
      try clear hfz26_1
      try clear hfz26_2
      try clear hfz26_3
      try clear hfz26_4
      try clear hfz4_0
      try clear hfz4_1
      try clear hfz4_2
      try clear hfz4_3
      try clear hfz4_4
      try clear p2
      obtain ⟨kq, x27_26, rfl, HA, HJ26, BK101, HB⟩ := hcut
      cases kq with
      | zero => exact absurd HA.out (by simp [tele_Check.j1])
      | succ kj26 =>
       have H := HA.out
       clear HA
       simp only [tele_Check.j1] at H
       by_cases c29 : x27_26 = true
       ·subst c29
        have H1 : (if a0_2 = 0 then (if a0_3 = 0 then (if a0_4 = 0 then ((tele_within.f a0_1 1 200).bind fun t107 => (if t107 = true then (some 0) else (some 24))) else (some 24)) else (some 24)) else (some 24)) = some r := by rw [if_pos rfl] at H; exact H
        clear H
        have H := H1
        clear H1
        by_cases c30 : a0_2 = 0
        ·rw [if_pos c30] at H
         have c30b0 : (a0_2 == 0) = true := beq_iff_eq.mpr c30
         have c30b1 : (a0_2 != 0) = false := bne_eq_false_iff_eq.mpr c30
         clear c30
         by_cases c31 : a0_3 = 0
         ·rw [if_pos c31] at H
          have c31b0 : (a0_3 == 0) = true := beq_iff_eq.mpr c31
          have c31b1 : (a0_3 != 0) = false := bne_eq_false_iff_eq.mpr c31
          clear c31
          by_cases c32 : a0_4 = 0
          ·rw [if_pos c32] at H
           have c32b0 : (a0_4 == 0) = true := beq_iff_eq.mpr c32
           have c32b1 : (a0_4 != 0) = false := bne_eq_false_iff_eq.mpr c32
           clear c32
           replace H := Option.bind_eq_some_iff.mp H
           obtain ⟨t107, A330, H⟩ := H
           replace H : (if t107 = true then (some 0) else (some 24)) = some r := H
           have A33 := Aside0.mk A330
           clear A330
           by_cases c34 : t107 = true
           ·subst c34
            have H1 : (some 0) = some r := by rw [if_pos rfl] at H; exact H
            clear H
            have H := H1
            clear H1
            obtain rfl := Option.some.inj H
            have hcz35_0 : wc.cell? ⟨gb101, 0, none⟩ = some (.int .u8 a0_0) := (blk_cell BK101.out 0).trans rfl
            have hcz35_1 : wc.cell? ⟨gb101, 1, none⟩ = some (.int .u16 a0_1) := (blk_cell BK101.out 1).trans rfl
            have hcz35_2 : wc.cell? ⟨gb101, 2, none⟩ = some (.int .u16 a0_2) := (blk_cell BK101.out 2).trans rfl
            have hcz35_3 : wc.cell? ⟨gb101, 3, none⟩ = some (.int .u16 a0_3) := (blk_cell BK101.out 3).trans rfl
            have hcz35_4 : wc.cell? ⟨gb101, 4, none⟩ = some (.int .u16 a0_4) := (blk_cell BK101.out 4).trans rfl
            have hfz35_0 := blk_frozen BK101.out 0
            have hfz35_1 := blk_frozen BK101.out 1
            have hfz35_2 := blk_frozen BK101.out 2
            have hfz35_3 := blk_frozen BK101.out 3
            have hfz35_4 := blk_frozen BK101.out 4
            go_wp2_with (first | (go_at_call 25; (with_reducible refine (tele_within.calls a0_1 1 200 true _ A33.out).mono ?_); rintro e w' ⟨rfl, ⟨nd, rfl⟩⟩))
            go_ret
            exact ⟨by first | rfl | (simp [errW_none, errW_some] <;> rfl) | (simp [*, errW_none, errW_some] <;> rfl), by repeat (first | (with_reducible first | exact HB.out | apply below_alloc | apply pw_below_drewN | apply below_drew1 | refine below_set ?_ GE101.out) | exact HB.out)⟩
           ·replace c34 := Bool.eq_false_iff.mpr c34
            subst c34
            have H1 : (some 24) = some r := by rw [if_neg (show ¬ (false = true) by decide)] at H; exact H
            clear H
            have H := H1
            clear H1
            obtain rfl := Option.some.inj H
            have hcz36_0 : wc.cell? ⟨gb101, 0, none⟩ = some (.int .u8 a0_0) := (blk_cell BK101.out 0).trans rfl
            have hcz36_1 : wc.cell? ⟨gb101, 1, none⟩ = some (.int .u16 a0_1) := (blk_cell BK101.out 1).trans rfl
            have hcz36_2 : wc.cell? ⟨gb101, 2, none⟩ = some (.int .u16 a0_2) := (blk_cell BK101.out 2).trans rfl
            have hcz36_3 : wc.cell? ⟨gb101, 3, none⟩ = some (.int .u16 a0_3) := (blk_cell BK101.out 3).trans rfl
            have hcz36_4 : wc.cell? ⟨gb101, 4, none⟩ = some (.int .u16 a0_4) := (blk_cell BK101.out 4).trans rfl
            have hfz36_0 := blk_frozen BK101.out 0
            have hfz36_1 := blk_frozen BK101.out 1
            have hfz36_2 := blk_frozen BK101.out 2
            have hfz36_3 := blk_frozen BK101.out 3
            have hfz36_4 := blk_frozen BK101.out 4
            go_wp2_with (first | (go_at_call 25; (with_reducible refine (tele_within.calls a0_1 1 200 false _ A33.out).mono ?_); rintro e w' ⟨rfl, ⟨nd, rfl⟩⟩))
            go_ret
            exact ⟨by first | rfl | (simp [errW_none, errW_some] <;> rfl) | (simp [*, errW_none, errW_some] <;> rfl), by repeat (first | (with_reducible first | exact HB.out | apply below_alloc | apply pw_below_drewN | apply below_drew1 | refine below_set ?_ GE101.out) | exact HB.out)⟩
          ·rw [if_neg c32] at H
           have c32b0 : (a0_4 == 0) = false := beq_eq_false_iff_ne.mpr c32
           have c32b1 : (a0_4 != 0) = true := bne_iff_ne.mpr c32
           obtain rfl := Option.some.inj H
           have hcz37_0 : wc.cell? ⟨gb101, 0, none⟩ = some (.int .u8 a0_0) := (blk_cell BK101.out 0).trans rfl
           have hcz37_1 : wc.cell? ⟨gb101, 1, none⟩ = some (.int .u16 a0_1) := (blk_cell BK101.out 1).trans rfl
           have hcz37_2 : wc.cell? ⟨gb101, 2, none⟩ = some (.int .u16 a0_2) := (blk_cell BK101.out 2).trans rfl
           have hcz37_3 : wc.cell? ⟨gb101, 3, none⟩ = some (.int .u16 a0_3) := (blk_cell BK101.out 3).trans rfl
           have hcz37_4 : wc.cell? ⟨gb101, 4, none⟩ = some (.int .u16 a0_4) := (blk_cell BK101.out 4).trans rfl
           have hfz37_0 := blk_frozen BK101.out 0
           have hfz37_1 := blk_frozen BK101.out 1
           have hfz37_2 := blk_frozen BK101.out 2
           have hfz37_3 := blk_frozen BK101.out 3
           have hfz37_4 := blk_frozen BK101.out 4
           go_wp2
           go_ret
           exact ⟨by first | rfl | (simp [errW_none, errW_some] <;> rfl) | (simp [*, errW_none, errW_some] <;> rfl), by repeat (first | (with_reducible first | exact HB.out | apply below_alloc | apply pw_below_drewN | apply below_drew1 | refine below_set ?_ GE101.out) | exact HB.out)⟩
         ·rw [if_neg c31] at H
          have c31b0 : (a0_3 == 0) = false := beq_eq_false_iff_ne.mpr c31
          have c31b1 : (a0_3 != 0) = true := bne_iff_ne.mpr c31
          obtain rfl := Option.some.inj H
          have hcz38_0 : wc.cell? ⟨gb101, 0, none⟩ = some (.int .u8 a0_0) := (blk_cell BK101.out 0).trans rfl
          have hcz38_1 : wc.cell? ⟨gb101, 1, none⟩ = some (.int .u16 a0_1) := (blk_cell BK101.out 1).trans rfl
          have hcz38_2 : wc.cell? ⟨gb101, 2, none⟩ = some (.int .u16 a0_2) := (blk_cell BK101.out 2).trans rfl
          have hcz38_3 : wc.cell? ⟨gb101, 3, none⟩ = some (.int .u16 a0_3) := (blk_cell BK101.out 3).trans rfl
          have hcz38_4 : wc.cell? ⟨gb101, 4, none⟩ = some (.int .u16 a0_4) := (blk_cell BK101.out 4).trans rfl
          have hfz38_0 := blk_frozen BK101.out 0
          have hfz38_1 := blk_frozen BK101.out 1
          have hfz38_2 := blk_frozen BK101.out 2
          have hfz38_3 := blk_frozen BK101.out 3
          have hfz38_4 := blk_frozen BK101.out 4
          go_wp2
          go_ret
          exact ⟨by first | rfl | (simp [errW_none, errW_some] <;> rfl) | (simp [*, errW_none, errW_some] <;> rfl), by repeat (first | (with_reducible first | exact HB.out | apply below_alloc | apply pw_below_drewN | apply below_drew1 | refine below_set ?_ GE101.out) | exact HB.out)⟩
        ·rw [if_neg c30] at H
         have c30b0 : (a0_2 == 0) = false := beq_eq_false_iff_ne.mpr c30
         have c30b1 : (a0_2 != 0) = true := bne_iff_ne.mpr c30
         obtain rfl := Option.some.inj H
         have hcz39_0 : wc.cell? ⟨gb101, 0, none⟩ = some (.int .u8 a0_0) := (blk_cell BK101.out 0).trans rfl
         have hcz39_1 : wc.cell? ⟨gb101, 1, none⟩ = some (.int .u16 a0_1) := (blk_cell BK101.out 1).trans rfl
         have hcz39_2 : wc.cell? ⟨gb101, 2, none⟩ = some (.int .u16 a0_2) := (blk_cell BK101.out 2).trans rfl
         have hcz39_3 : wc.cell? ⟨gb101, 3, none⟩ = some (.int .u16 a0_3) := (blk_cell BK101.out 3).trans rfl
         have hcz39_4 : wc.cell? ⟨gb101, 4, none⟩ = some (.int .u16 a0_4) := (blk_cell BK101.out 4).trans rfl
         have hfz39_0 := blk_frozen BK101.out 0
         have hfz39_1 := blk_frozen BK101.out 1
         have hfz39_2 := blk_frozen BK101.out 2
         have hfz39_3 := blk_frozen BK101.out 3
         have hfz39_4 := blk_frozen BK101.out 4
         go_wp2
         go_ret
         exact ⟨by first | rfl | (simp [errW_none, errW_some] <;> rfl) | (simp [*, errW_none, errW_some] <;> rfl), by repeat (first | (with_reducible first | exact HB.out | apply below_alloc | apply pw_below_drewN | apply below_drew1 | refine below_set ?_ GE101.out) | exact HB.out)⟩
       ·replace c29 := Bool.eq_false_iff.mpr c29
        subst c29
        have H1 : (if a0_0 = 6 then (if a0_3 = 0 then (if a0_4 = 0 then ((tele_within.f a0_1 1 200).bind fun t108 => (if t108 = true then (some 0) else (some 24))) else (some 24)) else (some 24)) else (if a0_0 = 7 then (if a0_4 ≤ 30 then ((tele_within.f a0_1 1 200).bind fun t109 => (if t109 = true then (some 0) else (some 24))) else (some 24)) else (some 23))) = some r := by rw [if_neg (show ¬ (false = true) by decide)] at H; exact H
        clear H
        have H := H1
        clear H1
        by_cases c40 : a0_0 = 6
        ·rw [if_pos c40] at H
         have c40b0 : (a0_0 == 6) = true := beq_iff_eq.mpr c40
         have c40b1 : (a0_0 != 6) = false := bne_eq_false_iff_eq.mpr c40
         clear c40
         by_cases c41 : a0_3 = 0
         ·rw [if_pos c41] at H
          have c41b0 : (a0_3 == 0) = true := beq_iff_eq.mpr c41
          have c41b1 : (a0_3 != 0) = false := bne_eq_false_iff_eq.mpr c41
          clear c41
          by_cases c42 : a0_4 = 0
          ·rw [if_pos c42] at H
           have c42b0 : (a0_4 == 0) = true := beq_iff_eq.mpr c42
           have c42b1 : (a0_4 != 0) = false := bne_eq_false_iff_eq.mpr c42
           clear c42
           replace H := Option.bind_eq_some_iff.mp H
           obtain ⟨t108, A430, H⟩ := H
           replace H : (if t108 = true then (some 0) else (some 24)) = some r := H
           have A43 := Aside0.mk A430
           clear A430
           by_cases c44 : t108 = true
           ·subst c44
            have H1 : (some 0) = some r := by rw [if_pos rfl] at H; exact H
            clear H
            have H := H1
            clear H1
            obtain rfl := Option.some.inj H
            have hcz45_0 : wc.cell? ⟨gb101, 0, none⟩ = some (.int .u8 a0_0) := (blk_cell BK101.out 0).trans rfl
            have hcz45_1 : wc.cell? ⟨gb101, 1, none⟩ = some (.int .u16 a0_1) := (blk_cell BK101.out 1).trans rfl
            have hcz45_2 : wc.cell? ⟨gb101, 2, none⟩ = some (.int .u16 a0_2) := (blk_cell BK101.out 2).trans rfl
            have hcz45_3 : wc.cell? ⟨gb101, 3, none⟩ = some (.int .u16 a0_3) := (blk_cell BK101.out 3).trans rfl
            have hcz45_4 : wc.cell? ⟨gb101, 4, none⟩ = some (.int .u16 a0_4) := (blk_cell BK101.out 4).trans rfl
            have hfz45_0 := blk_frozen BK101.out 0
            have hfz45_1 := blk_frozen BK101.out 1
            have hfz45_2 := blk_frozen BK101.out 2
            have hfz45_3 := blk_frozen BK101.out 3
            have hfz45_4 := blk_frozen BK101.out 4
            go_wp2_with (first | (go_at_call 25; (with_reducible refine (tele_within.calls a0_1 1 200 true _ A43.out).mono ?_); rintro e w' ⟨rfl, ⟨nd, rfl⟩⟩))
            go_ret
            exact ⟨by first | rfl | (simp [errW_none, errW_some] <;> rfl) | (simp [*, errW_none, errW_some] <;> rfl), by repeat (first | (with_reducible first | exact HB.out | apply below_alloc | apply pw_below_drewN | apply below_drew1 | refine below_set ?_ GE101.out) | exact HB.out)⟩
           ·replace c44 := Bool.eq_false_iff.mpr c44
            subst c44
            have H1 : (some 24) = some r := by rw [if_neg (show ¬ (false = true) by decide)] at H; exact H
            clear H
            have H := H1
            clear H1
            obtain rfl := Option.some.inj H
            have hcz46_0 : wc.cell? ⟨gb101, 0, none⟩ = some (.int .u8 a0_0) := (blk_cell BK101.out 0).trans rfl
            have hcz46_1 : wc.cell? ⟨gb101, 1, none⟩ = some (.int .u16 a0_1) := (blk_cell BK101.out 1).trans rfl
            have hcz46_2 : wc.cell? ⟨gb101, 2, none⟩ = some (.int .u16 a0_2) := (blk_cell BK101.out 2).trans rfl
            have hcz46_3 : wc.cell? ⟨gb101, 3, none⟩ = some (.int .u16 a0_3) := (blk_cell BK101.out 3).trans rfl
            have hcz46_4 : wc.cell? ⟨gb101, 4, none⟩ = some (.int .u16 a0_4) := (blk_cell BK101.out 4).trans rfl
            have hfz46_0 := blk_frozen BK101.out 0
            have hfz46_1 := blk_frozen BK101.out 1
            have hfz46_2 := blk_frozen BK101.out 2
            have hfz46_3 := blk_frozen BK101.out 3
            have hfz46_4 := blk_frozen BK101.out 4
            go_wp2_with (first | (go_at_call 25; (with_reducible refine (tele_within.calls a0_1 1 200 false _ A43.out).mono ?_); rintro e w' ⟨rfl, ⟨nd, rfl⟩⟩))
            go_ret
            exact ⟨by first | rfl | (simp [errW_none, errW_some] <;> rfl) | (simp [*, errW_none, errW_some] <;> rfl), by repeat (first | (with_reducible first | exact HB.out | apply below_alloc | apply pw_below_drewN | apply below_drew1 | refine below_set ?_ GE101.out) | exact HB.out)⟩
          ·rw [if_neg c42] at H
           have c42b0 : (a0_4 == 0) = false := beq_eq_false_iff_ne.mpr c42
           have c42b1 : (a0_4 != 0) = true := bne_iff_ne.mpr c42
           obtain rfl := Option.some.inj H
           have hcz47_0 : wc.cell? ⟨gb101, 0, none⟩ = some (.int .u8 a0_0) := (blk_cell BK101.out 0).trans rfl
           have hcz47_1 : wc.cell? ⟨gb101, 1, none⟩ = some (.int .u16 a0_1) := (blk_cell BK101.out 1).trans rfl
           have hcz47_2 : wc.cell? ⟨gb101, 2, none⟩ = some (.int .u16 a0_2) := (blk_cell BK101.out 2).trans rfl
           have hcz47_3 : wc.cell? ⟨gb101, 3, none⟩ = some (.int .u16 a0_3) := (blk_cell BK101.out 3).trans rfl
           have hcz47_4 : wc.cell? ⟨gb101, 4, none⟩ = some (.int .u16 a0_4) := (blk_cell BK101.out 4).trans rfl
           have hfz47_0 := blk_frozen BK101.out 0
           have hfz47_1 := blk_frozen BK101.out 1
           have hfz47_2 := blk_frozen BK101.out 2
           have hfz47_3 := blk_frozen BK101.out 3
           have hfz47_4 := blk_frozen BK101.out 4
           go_wp2
           go_ret
           exact ⟨by first | rfl | (simp [errW_none, errW_some] <;> rfl) | (simp [*, errW_none, errW_some] <;> rfl), by repeat (first | (with_reducible first | exact HB.out | apply below_alloc | apply pw_below_drewN | apply below_drew1 | refine below_set ?_ GE101.out) | exact HB.out)⟩
         ·rw [if_neg c41] at H
          have c41b0 : (a0_3 == 0) = false := beq_eq_false_iff_ne.mpr c41
          have c41b1 : (a0_3 != 0) = true := bne_iff_ne.mpr c41
          obtain rfl := Option.some.inj H
          have hcz48_0 : wc.cell? ⟨gb101, 0, none⟩ = some (.int .u8 a0_0) := (blk_cell BK101.out 0).trans rfl
          have hcz48_1 : wc.cell? ⟨gb101, 1, none⟩ = some (.int .u16 a0_1) := (blk_cell BK101.out 1).trans rfl
          have hcz48_2 : wc.cell? ⟨gb101, 2, none⟩ = some (.int .u16 a0_2) := (blk_cell BK101.out 2).trans rfl
          have hcz48_3 : wc.cell? ⟨gb101, 3, none⟩ = some (.int .u16 a0_3) := (blk_cell BK101.out 3).trans rfl
          have hcz48_4 : wc.cell? ⟨gb101, 4, none⟩ = some (.int .u16 a0_4) := (blk_cell BK101.out 4).trans rfl
          have hfz48_0 := blk_frozen BK101.out 0
          have hfz48_1 := blk_frozen BK101.out 1
          have hfz48_2 := blk_frozen BK101.out 2
          have hfz48_3 := blk_frozen BK101.out 3
          have hfz48_4 := blk_frozen BK101.out 4
          go_wp2
          go_ret
          exact ⟨by first | rfl | (simp [errW_none, errW_some] <;> rfl) | (simp [*, errW_none, errW_some] <;> rfl), by repeat (first | (with_reducible first | exact HB.out | apply below_alloc | apply pw_below_drewN | apply below_drew1 | refine below_set ?_ GE101.out) | exact HB.out)⟩
        ·rw [if_neg c40] at H
         have c40b0 : (a0_0 == 6) = false := beq_eq_false_iff_ne.mpr c40
         have c40b1 : (a0_0 != 6) = true := bne_iff_ne.mpr c40
         by_cases c49 : a0_0 = 7
         ·rw [if_pos c49] at H
          have c49b0 : (a0_0 == 7) = true := beq_iff_eq.mpr c49
          have c49b1 : (a0_0 != 7) = false := bne_eq_false_iff_eq.mpr c49
          clear c49
          by_cases c50 : a0_4 ≤ 30
          ·rw [if_pos c50] at H
           have c50b0 : decide (a0_4 ≤ 30) = true := decide_eq_true c50
           clear c50
           replace H := Option.bind_eq_some_iff.mp H
           obtain ⟨t109, A510, H⟩ := H
           replace H : (if t109 = true then (some 0) else (some 24)) = some r := H
           have A51 := Aside0.mk A510
           clear A510
           by_cases c52 : t109 = true
           ·subst c52
            have H1 : (some 0) = some r := by rw [if_pos rfl] at H; exact H
            clear H
            have H := H1
            clear H1
            obtain rfl := Option.some.inj H
            have hcz53_0 : wc.cell? ⟨gb101, 0, none⟩ = some (.int .u8 a0_0) := (blk_cell BK101.out 0).trans rfl
            have hcz53_1 : wc.cell? ⟨gb101, 1, none⟩ = some (.int .u16 a0_1) := (blk_cell BK101.out 1).trans rfl
            have hcz53_2 : wc.cell? ⟨gb101, 2, none⟩ = some (.int .u16 a0_2) := (blk_cell BK101.out 2).trans rfl
            have hcz53_3 : wc.cell? ⟨gb101, 3, none⟩ = some (.int .u16 a0_3) := (blk_cell BK101.out 3).trans rfl
            have hcz53_4 : wc.cell? ⟨gb101, 4, none⟩ = some (.int .u16 a0_4) := (blk_cell BK101.out 4).trans rfl
            have hfz53_0 := blk_frozen BK101.out 0
            have hfz53_1 := blk_frozen BK101.out 1
            have hfz53_2 := blk_frozen BK101.out 2
            have hfz53_3 := blk_frozen BK101.out 3
            have hfz53_4 := blk_frozen BK101.out 4
            go_wp2_with (first | (go_at_call 25; (with_reducible refine (tele_within.calls a0_1 1 200 true _ A51.out).mono ?_); rintro e w' ⟨rfl, ⟨nd, rfl⟩⟩))
            go_ret
            exact ⟨by first | rfl | (simp [errW_none, errW_some] <;> rfl) | (simp [*, errW_none, errW_some] <;> rfl), by repeat (first | (with_reducible first | exact HB.out | apply below_alloc | apply pw_below_drewN | apply below_drew1 | refine below_set ?_ GE101.out) | exact HB.out)⟩
           ·replace c52 := Bool.eq_false_iff.mpr c52
            subst c52
            have H1 : (some 24) = some r := by rw [if_neg (show ¬ (false = true) by decide)] at H; exact H
            clear H
            have H := H1
            clear H1
            obtain rfl := Option.some.inj H
            have hcz54_0 : wc.cell? ⟨gb101, 0, none⟩ = some (.int .u8 a0_0) := (blk_cell BK101.out 0).trans rfl
            have hcz54_1 : wc.cell? ⟨gb101, 1, none⟩ = some (.int .u16 a0_1) := (blk_cell BK101.out 1).trans rfl
            have hcz54_2 : wc.cell? ⟨gb101, 2, none⟩ = some (.int .u16 a0_2) := (blk_cell BK101.out 2).trans rfl
            have hcz54_3 : wc.cell? ⟨gb101, 3, none⟩ = some (.int .u16 a0_3) := (blk_cell BK101.out 3).trans rfl
            have hcz54_4 : wc.cell? ⟨gb101, 4, none⟩ = some (.int .u16 a0_4) := (blk_cell BK101.out 4).trans rfl
            have hfz54_0 := blk_frozen BK101.out 0
            have hfz54_1 := blk_frozen BK101.out 1
            have hfz54_2 := blk_frozen BK101.out 2
            have hfz54_3 := blk_frozen BK101.out 3
            have hfz54_4 := blk_frozen BK101.out 4
            go_wp2_with (first | (go_at_call 25; (with_reducible refine (tele_within.calls a0_1 1 200 false _ A51.out).mono ?_); rintro e w' ⟨rfl, ⟨nd, rfl⟩⟩))
            go_ret
            exact ⟨by first | rfl | (simp [errW_none, errW_some] <;> rfl) | (simp [*, errW_none, errW_some] <;> rfl), by repeat (first | (with_reducible first | exact HB.out | apply below_alloc | apply pw_below_drewN | apply below_drew1 | refine below_set ?_ GE101.out) | exact HB.out)⟩
          ·rw [if_neg c50] at H
           have c50b0 : decide (a0_4 ≤ 30) = false := decide_eq_false c50
           clear c50
           obtain rfl := Option.some.inj H
           have hcz55_0 : wc.cell? ⟨gb101, 0, none⟩ = some (.int .u8 a0_0) := (blk_cell BK101.out 0).trans rfl
           have hcz55_1 : wc.cell? ⟨gb101, 1, none⟩ = some (.int .u16 a0_1) := (blk_cell BK101.out 1).trans rfl
           have hcz55_2 : wc.cell? ⟨gb101, 2, none⟩ = some (.int .u16 a0_2) := (blk_cell BK101.out 2).trans rfl
           have hcz55_3 : wc.cell? ⟨gb101, 3, none⟩ = some (.int .u16 a0_3) := (blk_cell BK101.out 3).trans rfl
           have hcz55_4 : wc.cell? ⟨gb101, 4, none⟩ = some (.int .u16 a0_4) := (blk_cell BK101.out 4).trans rfl
           have hfz55_0 := blk_frozen BK101.out 0
           have hfz55_1 := blk_frozen BK101.out 1
           have hfz55_2 := blk_frozen BK101.out 2
           have hfz55_3 := blk_frozen BK101.out 3
           have hfz55_4 := blk_frozen BK101.out 4
           go_wp2
           go_ret
           exact ⟨by first | rfl | (simp [errW_none, errW_some] <;> rfl) | (simp [*, errW_none, errW_some] <;> rfl), by repeat (first | (with_reducible first | exact HB.out | apply below_alloc | apply pw_below_drewN | apply below_drew1 | refine below_set ?_ GE101.out) | exact HB.out)⟩
         ·rw [if_neg c49] at H
          have c49b0 : (a0_0 == 7) = false := beq_eq_false_iff_ne.mpr c49
          have c49b1 : (a0_0 != 7) = true := bne_iff_ne.mpr c49
          obtain rfl := Option.some.inj H
          go_wp2
          go_ret
          exact ⟨by first | rfl | (simp [errW_none, errW_some] <;> rfl) | (simp [*, errW_none, errW_some] <;> rfl), by repeat (first | (with_reducible first | exact HB.out | apply below_alloc | apply pw_below_drewN | apply below_drew1 | refine below_set ?_ GE101.out) | exact HB.out)⟩

/-! ### slices_Grow_byte_byte: function 30, given -/
def slices_Grow_byte_byte.f (l0 : List Int) (a1 : Int) : Option (List Int) := if 0 ≤ a1 ∧ a1 * 1 ≤ 140737488355328 then some [] else none
set_option maxHeartbeats 1000000 in
set_option maxRecDepth 100000 in
theorem slices_Grow_byte_byte.calls (A0 : Option Addr) (c0 : Nat) (l0 : List Int) (a1 : Int) (r : List Int) (w : World) (hr0 : Kd.C (Kd.int .u8) w A0 l0.length l0) (hc0 : l0.length ≤ c0) (h : slices_Grow_byte_byte.f l0 a1 = some r) (hA : A0 = none ∧ c0 = 0 := by exact ⟨rfl, rfl⟩) :
  Calls Try.prog 30 #[.slice A0 l0.length c0, .int .i64 a1] w fun e w' => ∃ v0_ : Value, e = .returned (v0_) ∧ Kd.R (Kd.int .u8) 5 w' w.heap.size (fun _ => True) v0_ r ∧ Below w.heap.size w w' := by
 unfold slices_Grow_byte_byte.f at h
 split at h
 ·rename_i hb
  obtain rfl := Option.some.inj h
  clear h
  obtain ⟨rfl, rfl⟩ := hA
  obtain rfl : l0 = [] := List.eq_nil_of_length_eq_zero (by omega)
  clear hr0 hc0
  obtain ⟨n, rfl⟩ := Int.eq_ofNat_of_zero_le hb.1
  have HL := Aside0.mk hb.2
  clear hb
  have h1 : decide ((n : Int) < 0) = false := by simp
  rcases Nat.eq_zero_or_pos n with h0 | h0
  ·subst h0
   go_enter Try.func30, Try.ntmps30
   go_wp2
   go_ret
   exact ⟨_, rfl, Kd.R_nil _ _ _ _ _, Below.refl _ _⟩
  ·have hn : wrap64 (n : Int) = n := by unfold wrap64; have := HL.out; omega
   have hn2 : decide (0 < n) = true := decide_eq_true h0
   go_enter Try.func30, Try.ntmps30
   go_wp2_with (first | ((with_reducible refine gate_builtin (b := .append) (xs := #[.tmp 20, .tmp 21]) rfl ?_); at_builtin; refine Kd.R_append_zeros (Kd.int .u8) (w0 := w) w.heap.size rfl (.tmp 20) (.tmp 21) 26 3 5 (.int .u8 0) 1 rfl Try.underlying26 Try.underlying3 info5 rfl (by decide) (by omega) (.slice none 0 0) [] (0 : Int) (wrap64 (n : Int)) (fun _ => True) rfl rfl ?aZ ?aF ?aO ?a0 ?aB ?aS ?aL ?_))
   case aZ => rfl
   case aF => exact (fun _ _ => trivial)
   case aO => exact Kd.R_nil _ _ _ _ _
   case a0 => rw [hn]; exact Int.natCast_nonneg _
   case aB => exact Below.refl _ _
   case aS => simp
   case aL => rw [hn]; have := HL.out; simp; omega
   intro v1 w1 ho hb hg hat
   obtain ⟨A1, c1, rfl⟩ := Kd.R_slice ho
   go_wp2
   go_ret
   refine ⟨_, rfl, ?_, hb⟩
   obtain ⟨_, inner, ⟨h2, h3⟩, _⟩ := ho
   refine ⟨fun _ _ => trivial, [], ⟨by simp, ?_⟩, Reps.none _ _⟩
   rcases h3 with ⟨hv, h4⟩ | ⟨g, cap, cur, hv, h4, h5, h6, h7, h8, h9⟩
   ·simp at h4
    omega
   ·injection hv with hv1 hv2 hv3
    subst hv1 hv3
    exact .inr ⟨g, c1, cur, rfl, h4, h5, Nat.zero_le _, h7, h8, by simp⟩
 ·cases h

end Go.Proofs.Ytabkmjimdpdfaaa.PTelePieces
