-- Written by a program of this session (wip/oprint): after the pattern of the kit's print, which does not take this law. -- trimmed
import Derived.Test.YtkdfohmceokchaaPZoneJoinedx0
namespace Go.Proofs.Ytkdfohmceokchaa.PZoneJoined
open Go.RowKit Go.Proofs.YtkdfohmceokchaaW.PrintWords Go.Proofs.YtkdfohmceokchaaW.PrintLast Go.Proofs.YtkdfohmceokchaaW.PrintMore
attribute [local go_sem] max2_int min2_int max_two min_two max_three min_three max_four min_four   -- for this text's walks alone
set_option linter.unusedVariables false
set_option linter.unusedSimpArgs false

/-! ### stillageref06_Find: function 30 -/
def stillageref06_Find.l0 : Nat → ByteArray → Int → Int → List (S46) → List (S43) → Option (Int)
 | 0, _, _, _, _, _ => none
 | k + 1, x1, x8, x9, x157000, x157001 => if x9 < x8 then (if 0 ≤ x9 then (if x9 < (x157000.length : Int) then (if ((rd_T46 x157000 x9).f0).toList = x1.toList then (some x9) else (stillageref06_Find.l0 k x1 x8 (wrap64 (x9 + 1)) x157000 x157001)) else (none)) else (none)) else (some (-1))
def stillageref06_Find.f (k : Nat) (l0_0 : List (S46)) (l0_1 : List (S43)) (a1 : ByteArray) : Option (Int) := stillageref06_Find.l0 k a1 (l0_0.length : Int) 0 l0_0 l0_1
theorem stillageref06_Find.mono_l : ∀ k, (∀ y0 y1 y2 y3 y4, LeO (stillageref06_Find.l0 k y0 y1 y2 y3 y4) (stillageref06_Find.l0 (k + 1) y0 y1 y2 y3 y4))
 | 0 => fun _ _ _ _ _ r h => by simp [stillageref06_Find.l0] at h
 | k + 1 => by
  have ih0 := stillageref06_Find.mono_l k
  ·intro y0 y1 y2 y3 y4
   unfold stillageref06_Find.l0
   repeat' first
   | (with_reducible exact ih0 _ _ _ _ _)
   | (with_reducible exact LeO.refl _)
   | (with_reducible exact LeO.none _)
   | (with_reducible refine LeO.ite ?_ ?_)
   | (with_reducible refine LeO.bind ?_ (fun _ => ?_))
   | exact ih0 _ _ _ _ _
   | exact LeO.none _
   | refine LeO.ite ?_ ?_
   | refine LeO.bind ?_ (fun _ => ?_)
theorem stillageref06_Find.mono : ∀ a0 a1 a2 k, LeO (stillageref06_Find.f k a0 a1 a2) (stillageref06_Find.f (k + 1) a0 a1 a2) := by
 intro a0 a1 a2 k
 have ih0 := stillageref06_Find.mono_l k
 unfold stillageref06_Find.f
 repeat' first
   | (with_reducible exact ih0 _ _ _ _ _)
   | (with_reducible exact LeO.refl _)
   | (with_reducible exact LeO.none _)
   | (with_reducible refine LeO.ite ?_ ?_)
   | (with_reducible refine LeO.bind ?_ (fun _ => ?_))
   | exact ih0 _ _ _ _ _
   | exact LeO.none _
   | refine LeO.ite ?_ ?_
   | refine LeO.bind ?_ (fun _ => ?_)
set_option maxHeartbeats 8000000 in
set_option maxRecDepth 100000 in
theorem stillageref06_Find.calls (k : Nat) (A0_0 : Option Addr) (c0_0 : Nat) (l0_0 : List (S46)) (A0_1 : Option Addr) (c0_1 : Nat) (l0_1 : List (S43)) (a1 : ByteArray) (r : Int) (w : World) (hr0_0 : Kd.C k46 w A0_0 l0_0.length l0_0) (hc0_0 : l0_0.length ≤ c0_0) (hr0_1 : Kd.C k43 w A0_1 l0_1.length l0_1) (hc0_1 : l0_1.length ≤ c0_1) (h : stillageref06_Find.f k l0_0 l0_1 a1 = some r) :
  Calls Try.prog 30 #[.agg #[.slice A0_0 l0_0.length c0_0, .slice A0_1 l0_1.length c0_1], .string a1] w fun e w' => e = .returned (.int .i64 r) ∧ Below w.heap.size w w' := by
 have hu25 := Try.underlying25
 have HR0_0 := Aside0.mk hr0_0
 have HC0_0 := Aside0.mk hc0_0
 clear hr0_0 hc0_0
 have HR0_1 := Aside0.mk hr0_1
 have HC0_1 := Aside0.mk hc0_1
 clear hr0_1 hc0_1
 have HB := Aside0.mk (Below.refl w.heap.size w)
 have H : (stillageref06_Find.l0 k a1 (l0_0.length : Int) 0 l0_0 l0_1) = some r := h
 clear h
 have H' := Aside0.mk H
 clear H
 go_enter Try.func30, Try.ntmps30
 go_wp2_with (first | ((with_reducible refine gate_dst (N := 2) rfl ?_); refine box_event ?hg (N := 2) ?hd (cs := #[.slice A0_0 l0_0.length c0_0, .slice A0_1 l0_1.length c0_1]) (t := 25) ?hr ?_; (case hd => rfl); (case hg => rfl); (case hr => first | (go_simp; done) | (go_simp; rfl)); intro gb156 hg w3 hbox hb; have n0_ := Aside0.mk (below_step (zb0 HB.out) hb); have n1_ := Aside0.mk (hbox); have n2_ := Aside0.mk ((by rw [hg]; exact (below_size (zb0 HB.out)) : w.heap.size ≤ gb156)); have n3_ := Aside0.mk ((by rw [hg]; exact (below_size (zb0 HB.out)) : w.heap.size ≤ gb156)); clear HB; have HB := n0_; have BK156 := n1_; have GW156 := n2_; have GE156 := n3_; clear n0_ n1_ n2_ n3_; clear hb hbox hg; have hcz4_0 : w3.cell? ⟨gb156, 0, none⟩ = some (.slice A0_0 l0_0.length c0_0) := (blk_cell BK156.out 0).trans rfl; have hcz4_1 : w3.cell? ⟨gb156, 1, none⟩ = some (.slice A0_1 l0_1.length c0_1) := (blk_cell BK156.out 1).trans rfl; have hfz4_0 := blk_frozen BK156.out 0; have hfz4_1 := blk_frozen BK156.out 1))
 go_loopg [9] k (fun kq v9 w' => ∃ (x9_1 : Int), v9 = .int .i64 x9_1 ∧ Aside0 (stillageref06_Find.l0 kq a1 (l0_0.length : Int) x9_1 l0_0 l0_1 = some r) ∧ Aside0 (kq ≤ k) ∧ Aside0 (w'.heap[gb156]? = some (.cells #[(.slice A0_0 l0_0.length c0_0), (.slice A0_1 l0_1.length c0_1)] 25 (0, 0))) ∧ Aside0 (Below w.heap.size w w'))
 case atStart => exact ⟨(0), rs, H', ⟨Nat.le_refl _⟩, ⟨zk BK156.out⟩, ⟨zb1 HB.out GE156.out⟩⟩
 case round =>
  clear H'
  try clear p2
  try clear c3
  try clear hcz4_0
  try clear hcz4_1
  try clear hfz4_0
  try clear hfz4_1
  obtain ⟨x9_1, rfl, HA, HK1, BK156, HB⟩ := hrel
  cases gk with
  | zero => exact absurd HA.out (by simp [stillageref06_Find.l0])
  | succ k1 =>
   have H := HA.out
   clear HA
   simp only [stillageref06_Find.l0] at H
   by_cases c5 : x9_1 < (l0_0.length : Int)
   ·rw [if_pos c5] at H
    have c5b0 : decide (x9_1 < (l0_0.length : Int)) = true := decide_eq_true c5
    clear c5
    by_cases c6 : 0 ≤ x9_1
    ·rw [if_pos c6] at H
     have c6b0 : decide (0 ≤ x9_1) = true := decide_eq_true c6
     clear c6
     by_cases c7 : x9_1 < (l0_0.length : Int)
     ·rw [if_pos c7] at H
      have c7b0 : decide (x9_1 < (l0_0.length : Int)) = true := decide_eq_true c7
      clear c7
      by_cases c8 : ((rd_T46 l0_0 x9_1).f0).toList = a1.toList
      ·rw [if_pos c8] at H
       have c8b0 : (((rd_T46 l0_0 x9_1).f0).toList == a1.toList) = true := beq_iff_eq.mpr c8
       have c8b1 : (((rd_T46 l0_0 x9_1).f0).toList != a1.toList) = false := bne_eq_false_iff_eq.mpr c8
       clear c8
       obtain rfl := Option.some.inj H
       have hcz9_0 : wr.cell? ⟨gb156, 0, none⟩ = some (.slice A0_0 l0_0.length c0_0) := (blk_cell BK156.out 0).trans rfl
       have hcz9_1 : wr.cell? ⟨gb156, 1, none⟩ = some (.slice A0_1 l0_1.length c0_1) := (blk_cell BK156.out 1).trans rfl
       have hfz9_0 := blk_frozen BK156.out 0
       have hfz9_1 := blk_frozen BK156.out 1
       have p157 : 0 ≤ (x9_1 : Int) := oda
       have q157 : x9_1 < (l0_0.length : Int) := oda
       obtain ⟨ad157, e157, hx157_0, hx157_1, hx157_2⟩ := at_T46 HR0_0.out x9_1 p157 q157
       cases e157
       replace hx157_0 := zx HB.out hx157_0
       replace hx157_1 := zx HB.out hx157_1
       replace hx157_2 := zx HB.out hx157_2
       replace p157 := eq_true p157
       replace q157 := eq_true q157
       go_wp2
       go_ret
       exact ⟨by first | rfl | (simp [errW_none, errW_some] <;> rfl) | (simp [*, errW_none, errW_some] <;> rfl), zb1 HB.out GE156.out⟩
      ·rw [if_neg c8] at H
       have c8b0 : (((rd_T46 l0_0 x9_1).f0).toList == a1.toList) = false := beq_eq_false_iff_ne.mpr c8
       have c8b1 : (((rd_T46 l0_0 x9_1).f0).toList != a1.toList) = true := bne_iff_ne.mpr c8
       have H' := Aside0.mk H
       clear H
       have hcz10_0 : wr.cell? ⟨gb156, 0, none⟩ = some (.slice A0_0 l0_0.length c0_0) := (blk_cell BK156.out 0).trans rfl
       have hcz10_1 : wr.cell? ⟨gb156, 1, none⟩ = some (.slice A0_1 l0_1.length c0_1) := (blk_cell BK156.out 1).trans rfl
       have hfz10_0 := blk_frozen BK156.out 0
       have hfz10_1 := blk_frozen BK156.out 1
       have p157 : 0 ≤ (x9_1 : Int) := oda
       have q157 : x9_1 < (l0_0.length : Int) := oda
       obtain ⟨ad157, e157, hx157_0, hx157_1, hx157_2⟩ := at_T46 HR0_0.out x9_1 p157 q157
       cases e157
       replace hx157_0 := zx HB.out hx157_0
       replace hx157_1 := zx HB.out hx157_1
       replace hx157_2 := zx HB.out hx157_2
       replace p157 := eq_true p157
       replace q157 := eq_true q157
       go_wp2
       go_roundg k1
       case measure => have := HK1.out; omega
       case rel => exact ⟨(wrap64 (x9_1 + 1)), rs, H', ⟨by have := HK1.out; omega⟩, ⟨zk BK156.out⟩, ⟨zb1 HB.out GE156.out⟩⟩
     ·rw [if_neg c7] at H
      exact absurd H (by simp)
    ·rw [if_neg c6] at H
     exact absurd H (by simp)
   ·rw [if_neg c5] at H
    have c5b0 : decide (x9_1 < (l0_0.length : Int)) = false := decide_eq_false c5
    clear c5
    obtain rfl := Option.some.inj H
    go_wp2
    go_ret
    exact ⟨by first | rfl | (simp [errW_none, errW_some] <;> rfl) | (simp [*, errW_none, errW_some] <;> rfl), zb1 HB.out GE156.out⟩

end Go.Proofs.Ytkdfohmceokchaa.PZoneJoined
