-- Written by a program of this session (wip/oprint): after the pattern of the kit's print, which does not take this law. -- trimmed
import Derived.Test.YtabkmjimdpdfaaaPTeleSplitsx0
namespace Go.Proofs.Ytabkmjimdpdfaaa.PTeleSplits
open Go.RowKit Go.Proofs.YtabkmjimdpdfaaaW.PrintWords Go.Proofs.YtabkmjimdpdfaaaW.PrintLast Go.Proofs.YtabkmjimdpdfaaaW.PrintMore
attribute [local go_sem] max2_int min2_int max_two min_two max_three min_three max_four min_four   -- for this text's walks alone
set_option linter.unusedVariables false
set_option linter.unusedSimpArgs false

/-! ### stillageref02_Check: function 13 -/
mutual
def stillageref02_Check.j0 : Nat → Int → Bool → Int → Int → Int → Int → Int → Option (Int)
 | 0, _, _, _, _, _, _, _ => none
 | k + 1, x3, x15, x209000, x209001, x209002, x209003, x209004 => if x15 = true then (some 23) else (if x209001 < 1 then (stillageref02_Check.j1 k x3 (wrap64 (x209003)) (wrap64 (x209004)) true x209000 x209001 x209002 x209003 x209004) else (stillageref02_Check.j1 k x3 (wrap64 (x209003)) (wrap64 (x209004)) (decide (x209001 > 200)) x209000 x209001 x209002 x209003 x209004))
def stillageref02_Check.j1 : Nat → Int → Int → Int → Bool → Int → Int → Int → Int → Int → Option (Int)
 | 0, _, _, _, _, _, _, _, _, _ => none
 | k + 1, x3, x4, x5, x6, x209000, x209001, x209002, x209003, x209004 => if x3 ≤ 3 then (if x4 < 1 then (stillageref02_Check.j2 k x3 x4 x5 x6 true x209000 x209001 x209002 x209003 x209004) else (if x4 > 30 then (stillageref02_Check.j2 k x3 x4 x5 x6 true x209000 x209001 x209002 x209003 x209004) else (if x3 ≤ 2 then (if x5 = 0 then (if x3 = 3 then (if x5 < 1 then (stillageref02_Check.j2 k x3 x4 x5 x6 true x209000 x209001 x209002 x209003 x209004) else (stillageref02_Check.j2 k x3 x4 x5 x6 (decide (x5 > 3)) x209000 x209001 x209002 x209003 x209004)) else (stillageref02_Check.j2 k x3 x4 x5 x6 false x209000 x209001 x209002 x209003 x209004)) else (stillageref02_Check.j2 k x3 x4 x5 x6 true x209000 x209001 x209002 x209003 x209004)) else (if x3 ≥ 4 then (if x3 ≤ 6 then (if x5 = 0 then (if x3 = 3 then (if x5 < 1 then (stillageref02_Check.j2 k x3 x4 x5 x6 true x209000 x209001 x209002 x209003 x209004) else (stillageref02_Check.j2 k x3 x4 x5 x6 (decide (x5 > 3)) x209000 x209001 x209002 x209003 x209004)) else (stillageref02_Check.j2 k x3 x4 x5 x6 false x209000 x209001 x209002 x209003 x209004)) else (stillageref02_Check.j2 k x3 x4 x5 x6 true x209000 x209001 x209002 x209003 x209004)) else (if x3 = 3 then (if x5 < 1 then (stillageref02_Check.j2 k x3 x4 x5 x6 true x209000 x209001 x209002 x209003 x209004) else (stillageref02_Check.j2 k x3 x4 x5 x6 (decide (x5 > 3)) x209000 x209001 x209002 x209003 x209004)) else (stillageref02_Check.j2 k x3 x4 x5 x6 false x209000 x209001 x209002 x209003 x209004))) else (if x3 = 3 then (if x5 < 1 then (stillageref02_Check.j2 k x3 x4 x5 x6 true x209000 x209001 x209002 x209003 x209004) else (stillageref02_Check.j2 k x3 x4 x5 x6 (decide (x5 > 3)) x209000 x209001 x209002 x209003 x209004)) else (stillageref02_Check.j2 k x3 x4 x5 x6 false x209000 x209001 x209002 x209003 x209004)))))) else (if x3 ≤ 2 then (if x5 = 0 then (if x3 = 3 then (if x5 < 1 then (stillageref02_Check.j2 k x3 x4 x5 x6 true x209000 x209001 x209002 x209003 x209004) else (stillageref02_Check.j2 k x3 x4 x5 x6 (decide (x5 > 3)) x209000 x209001 x209002 x209003 x209004)) else (stillageref02_Check.j2 k x3 x4 x5 x6 false x209000 x209001 x209002 x209003 x209004)) else (stillageref02_Check.j2 k x3 x4 x5 x6 true x209000 x209001 x209002 x209003 x209004)) else (if x3 ≥ 4 then (if x3 ≤ 6 then (if x5 = 0 then (if x3 = 3 then (if x5 < 1 then (stillageref02_Check.j2 k x3 x4 x5 x6 true x209000 x209001 x209002 x209003 x209004) else (stillageref02_Check.j2 k x3 x4 x5 x6 (decide (x5 > 3)) x209000 x209001 x209002 x209003 x209004)) else (stillageref02_Check.j2 k x3 x4 x5 x6 false x209000 x209001 x209002 x209003 x209004)) else (stillageref02_Check.j2 k x3 x4 x5 x6 true x209000 x209001 x209002 x209003 x209004)) else (if x3 = 3 then (if x5 < 1 then (stillageref02_Check.j2 k x3 x4 x5 x6 true x209000 x209001 x209002 x209003 x209004) else (stillageref02_Check.j2 k x3 x4 x5 x6 (decide (x5 > 3)) x209000 x209001 x209002 x209003 x209004)) else (stillageref02_Check.j2 k x3 x4 x5 x6 false x209000 x209001 x209002 x209003 x209004))) else (if x3 = 3 then (if x5 < 1 then (stillageref02_Check.j2 k x3 x4 x5 x6 true x209000 x209001 x209002 x209003 x209004) else (stillageref02_Check.j2 k x3 x4 x5 x6 (decide (x5 > 3)) x209000 x209001 x209002 x209003 x209004)) else (stillageref02_Check.j2 k x3 x4 x5 x6 false x209000 x209001 x209002 x209003 x209004))))
def stillageref02_Check.j2 : Nat → Int → Int → Int → Bool → Bool → Int → Int → Int → Int → Int → Option (Int)
 | 0, _, _, _, _, _, _, _, _, _, _ => none
 | k + 1, x3, x4, x5, x6, x67, x209000, x209001, x209002, x209003, x209004 => if x67 = true then (stillageref02_Check.j3 k x3 x4 x5 true x209000 x209001 x209002 x209003 x209004) else (stillageref02_Check.j3 k x3 x4 x5 x6 x209000 x209001 x209002 x209003 x209004)
def stillageref02_Check.j3 : Nat → Int → Int → Int → Bool → Int → Int → Int → Int → Int → Option (Int)
 | 0, _, _, _, _, _, _, _, _, _ => none
 | k + 1, x3, x4, x5, x6, x209000, x209001, x209002, x209003, x209004 => if x3 ≥ 4 then (if x3 ≤ 6 then (if x4 = 0 then (if x3 = 4 then (if x209002 = 0 then (if x3 = 7 then (stillageref02_Check.j4 k x6 (decide (x5 > 30))) else (stillageref02_Check.j4 k x6 false)) else (stillageref02_Check.j4 k x6 true)) else (if x3 = 5 then (if x209002 = 0 then (if x3 = 7 then (stillageref02_Check.j4 k x6 (decide (x5 > 30))) else (stillageref02_Check.j4 k x6 false)) else (stillageref02_Check.j4 k x6 true)) else (if x3 = 7 then (stillageref02_Check.j4 k x6 (decide (x5 > 30))) else (stillageref02_Check.j4 k x6 false)))) else (stillageref02_Check.j4 k x6 true)) else (if x3 = 4 then (if x209002 = 0 then (if x3 = 7 then (stillageref02_Check.j4 k x6 (decide (x5 > 30))) else (stillageref02_Check.j4 k x6 false)) else (stillageref02_Check.j4 k x6 true)) else (if x3 = 5 then (if x209002 = 0 then (if x3 = 7 then (stillageref02_Check.j4 k x6 (decide (x5 > 30))) else (stillageref02_Check.j4 k x6 false)) else (stillageref02_Check.j4 k x6 true)) else (if x3 = 7 then (stillageref02_Check.j4 k x6 (decide (x5 > 30))) else (stillageref02_Check.j4 k x6 false))))) else (if x3 = 4 then (if x209002 = 0 then (if x3 = 7 then (stillageref02_Check.j4 k x6 (decide (x5 > 30))) else (stillageref02_Check.j4 k x6 false)) else (stillageref02_Check.j4 k x6 true)) else (if x3 = 5 then (if x209002 = 0 then (if x3 = 7 then (stillageref02_Check.j4 k x6 (decide (x5 > 30))) else (stillageref02_Check.j4 k x6 false)) else (stillageref02_Check.j4 k x6 true)) else (if x3 = 7 then (stillageref02_Check.j4 k x6 (decide (x5 > 30))) else (stillageref02_Check.j4 k x6 false))))
def stillageref02_Check.j4 : Nat → Bool → Bool → Option (Int)
 | 0, _, _ => none
 | k + 1, x6, x98 => if x98 = true then (some 24) else (if x6 = true then (some 24) else (some 0))
end
def stillageref02_Check.f (k : Nat) (a0_0 : Int) (a0_1 : Int) (a0_2 : Int) (a0_3 : Int) (a0_4 : Int) : Option (Int) := if (wrap64 (a0_0)) < 1 then (stillageref02_Check.j0 k (wrap64 (a0_0)) true a0_0 a0_1 a0_2 a0_3 a0_4) else (stillageref02_Check.j0 k (wrap64 (a0_0)) (decide ((wrap64 (a0_0)) > 7)) a0_0 a0_1 a0_2 a0_3 a0_4)
theorem stillageref02_Check.mono_l : ∀ k, (∀ y0 y1 y2 y3 y4 y5 y6, LeO (stillageref02_Check.j0 k y0 y1 y2 y3 y4 y5 y6) (stillageref02_Check.j0 (k + 1) y0 y1 y2 y3 y4 y5 y6)) ∧ (∀ y0 y1 y2 y3 y4 y5 y6 y7 y8, LeO (stillageref02_Check.j1 k y0 y1 y2 y3 y4 y5 y6 y7 y8) (stillageref02_Check.j1 (k + 1) y0 y1 y2 y3 y4 y5 y6 y7 y8)) ∧ (∀ y0 y1 y2 y3 y4 y5 y6 y7 y8 y9, LeO (stillageref02_Check.j2 k y0 y1 y2 y3 y4 y5 y6 y7 y8 y9) (stillageref02_Check.j2 (k + 1) y0 y1 y2 y3 y4 y5 y6 y7 y8 y9)) ∧ (∀ y0 y1 y2 y3 y4 y5 y6 y7 y8, LeO (stillageref02_Check.j3 k y0 y1 y2 y3 y4 y5 y6 y7 y8) (stillageref02_Check.j3 (k + 1) y0 y1 y2 y3 y4 y5 y6 y7 y8)) ∧ (∀ y0 y1, LeO (stillageref02_Check.j4 k y0 y1) (stillageref02_Check.j4 (k + 1) y0 y1))
 | 0 => ⟨fun _ _ _ _ _ _ _ r h => by simp [stillageref02_Check.j0] at h, fun _ _ _ _ _ _ _ _ _ r h => by simp [stillageref02_Check.j1] at h, fun _ _ _ _ _ _ _ _ _ _ r h => by simp [stillageref02_Check.j2] at h, fun _ _ _ _ _ _ _ _ _ r h => by simp [stillageref02_Check.j3] at h, fun _ _ r h => by simp [stillageref02_Check.j4] at h⟩
 | k + 1 => by
  obtain ⟨ih0, ih1, ih2, ih3, ih4⟩ := stillageref02_Check.mono_l k
  refine ⟨?_, ?_, ?_, ?_, ?_⟩
  ·intro y0 y1 y2 y3 y4 y5 y6
   unfold stillageref02_Check.j0
   repeat' first
   | (with_reducible exact ih0 _ _ _ _ _ _ _)
   | (with_reducible exact ih1 _ _ _ _ _ _ _ _ _)
   | (with_reducible exact ih2 _ _ _ _ _ _ _ _ _ _)
   | (with_reducible exact ih3 _ _ _ _ _ _ _ _ _)
   | (with_reducible exact ih4 _ _)
   | (with_reducible exact LeO.refl _)
   | (with_reducible exact LeO.none _)
   | (with_reducible refine LeO.ite ?_ ?_)
   | (with_reducible refine LeO.bind ?_ (fun _ => ?_))
   | exact ih0 _ _ _ _ _ _ _
   | exact ih1 _ _ _ _ _ _ _ _ _
   | exact ih2 _ _ _ _ _ _ _ _ _ _
   | exact ih3 _ _ _ _ _ _ _ _ _
   | exact ih4 _ _
   | exact LeO.none _
   | refine LeO.ite ?_ ?_
   | refine LeO.bind ?_ (fun _ => ?_)
  ·intro y0 y1 y2 y3 y4 y5 y6 y7 y8
   unfold stillageref02_Check.j1
   repeat' first
   | (with_reducible exact ih0 _ _ _ _ _ _ _)
   | (with_reducible exact ih1 _ _ _ _ _ _ _ _ _)
   | (with_reducible exact ih2 _ _ _ _ _ _ _ _ _ _)
   | (with_reducible exact ih3 _ _ _ _ _ _ _ _ _)
   | (with_reducible exact ih4 _ _)
   | (with_reducible exact LeO.refl _)
   | (with_reducible exact LeO.none _)
   | (with_reducible refine LeO.ite ?_ ?_)
   | (with_reducible refine LeO.bind ?_ (fun _ => ?_))
   | exact ih0 _ _ _ _ _ _ _
   | exact ih1 _ _ _ _ _ _ _ _ _
   | exact ih2 _ _ _ _ _ _ _ _ _ _
   | exact ih3 _ _ _ _ _ _ _ _ _
   | exact ih4 _ _
   | exact LeO.none _
   | refine LeO.ite ?_ ?_
   | refine LeO.bind ?_ (fun _ => ?_)
  ·intro y0 y1 y2 y3 y4 y5 y6 y7 y8 y9
   unfold stillageref02_Check.j2
   repeat' first
   | (with_reducible exact ih0 _ _ _ _ _ _ _)
   | (with_reducible exact ih1 _ _ _ _ _ _ _ _ _)
   | (with_reducible exact ih2 _ _ _ _ _ _ _ _ _ _)
   | (with_reducible exact ih3 _ _ _ _ _ _ _ _ _)
   | (with_reducible exact ih4 _ _)
   | (with_reducible exact LeO.refl _)
   | (with_reducible exact LeO.none _)
   | (with_reducible refine LeO.ite ?_ ?_)
   | (with_reducible refine LeO.bind ?_ (fun _ => ?_))
   | exact ih0 _ _ _ _ _ _ _
   | exact ih1 _ _ _ _ _ _ _ _ _
   | exact ih2 _ _ _ _ _ _ _ _ _ _
   | exact ih3 _ _ _ _ _ _ _ _ _
   | exact ih4 _ _
   | exact LeO.none _
   | refine LeO.ite ?_ ?_
   | refine LeO.bind ?_ (fun _ => ?_)
  ·intro y0 y1 y2 y3 y4 y5 y6 y7 y8
   unfold stillageref02_Check.j3
   repeat' first
   | (with_reducible exact ih0 _ _ _ _ _ _ _)
   | (with_reducible exact ih1 _ _ _ _ _ _ _ _ _)
   | (with_reducible exact ih2 _ _ _ _ _ _ _ _ _ _)
   | (with_reducible exact ih3 _ _ _ _ _ _ _ _ _)
   | (with_reducible exact ih4 _ _)
   | (with_reducible exact LeO.refl _)
   | (with_reducible exact LeO.none _)
   | (with_reducible refine LeO.ite ?_ ?_)
   | (with_reducible refine LeO.bind ?_ (fun _ => ?_))
   | exact ih0 _ _ _ _ _ _ _
   | exact ih1 _ _ _ _ _ _ _ _ _
   | exact ih2 _ _ _ _ _ _ _ _ _ _
   | exact ih3 _ _ _ _ _ _ _ _ _
   | exact ih4 _ _
   | exact LeO.none _
   | refine LeO.ite ?_ ?_
   | refine LeO.bind ?_ (fun _ => ?_)
  ·intro y0 y1
   unfold stillageref02_Check.j4
   repeat' first
   | (with_reducible exact ih0 _ _ _ _ _ _ _)
   | (with_reducible exact ih1 _ _ _ _ _ _ _ _ _)
   | (with_reducible exact ih2 _ _ _ _ _ _ _ _ _ _)
   | (with_reducible exact ih3 _ _ _ _ _ _ _ _ _)
   | (with_reducible exact ih4 _ _)
   | (with_reducible exact LeO.refl _)
   | (with_reducible exact LeO.none _)
   | (with_reducible refine LeO.ite ?_ ?_)
   | (with_reducible refine LeO.bind ?_ (fun _ => ?_))
   | exact ih0 _ _ _ _ _ _ _
   | exact ih1 _ _ _ _ _ _ _ _ _
   | exact ih2 _ _ _ _ _ _ _ _ _ _
   | exact ih3 _ _ _ _ _ _ _ _ _
   | exact ih4 _ _
   | exact LeO.none _
   | refine LeO.ite ?_ ?_
   | refine LeO.bind ?_ (fun _ => ?_)
theorem stillageref02_Check.mono : ∀ a0 a1 a2 a3 a4 k, LeO (stillageref02_Check.f k a0 a1 a2 a3 a4) (stillageref02_Check.f (k + 1) a0 a1 a2 a3 a4) := by
 intro a0 a1 a2 a3 a4 k
 obtain ⟨ih0, ih1, ih2, ih3, ih4⟩ := stillageref02_Check.mono_l k
 unfold stillageref02_Check.f
 repeat' first
   | (with_reducible exact ih0 _ _ _ _ _ _ _)
   | (with_reducible exact ih1 _ _ _ _ _ _ _ _ _)
   | (with_reducible exact ih2 _ _ _ _ _ _ _ _ _ _)
   | (with_reducible exact ih3 _ _ _ _ _ _ _ _ _)
   | (with_reducible exact ih4 _ _)
   | (with_reducible exact LeO.refl _)
   | (with_reducible exact LeO.none _)
   | (with_reducible refine LeO.ite ?_ ?_)
   | (with_reducible refine LeO.bind ?_ (fun _ => ?_))
   | exact ih0 _ _ _ _ _ _ _
   | exact ih1 _ _ _ _ _ _ _ _ _
   | exact ih2 _ _ _ _ _ _ _ _ _ _
   | exact ih3 _ _ _ _ _ _ _ _ _
   | exact ih4 _ _
   | exact LeO.none _
   | refine LeO.ite ?_ ?_
   | refine LeO.bind ?_ (fun _ => ?_)
set_option maxHeartbeats 8000000 in
set_option maxRecDepth 100000 in
theorem stillageref02_Check.calls (k : Nat) (a0_0 : Int) (a0_1 : Int) (a0_2 : Int) (a0_3 : Int) (a0_4 : Int) (r : Int) (w : World) (h : stillageref02_Check.f k a0_0 a0_1 a0_2 a0_3 a0_4 = some r) :
  Calls Try.prog 13 #[.agg #[.int .u8 a0_0, .int .u16 a0_1, .int .u16 a0_2, .int .u16 a0_3, .int .u16 a0_4]] w fun e w' => e = .returned (.int .i64 r) ∧ Below w.heap.size w w' := by
 have hu24 := Try.underlying24
 have HB := Aside0.mk (Below.refl w.heap.size w)
 have H : (if (wrap64 (a0_0)) < 1 then (stillageref02_Check.j0 k (wrap64 (a0_0)) true a0_0 a0_1 a0_2 a0_3 a0_4) else (stillageref02_Check.j0 k (wrap64 (a0_0)) (decide ((wrap64 (a0_0)) > 7)) a0_0 a0_1 a0_2 a0_3 a0_4)) = some r := h
 clear h
 have HC2 := Aside0.mk H
 clear H
 go_enter Try.func13, Try.ntmps13
 go_upto_region 2 with (first | ((with_reducible refine gate_dst (N := 1) rfl ?_); refine box_event ?hg (N := 1) ?hd (cs := #[.int .u8 a0_0, .int .u16 a0_1, .int .u16 a0_2, .int .u16 a0_3, .int .u16 a0_4]) (t := 24) ?hr ?_; (case hd => rfl); (case hg => rfl); (case hr => first | (go_simp; done) | (go_simp; rfl)); intro gb208 hg w3 hbox hb; have n0_ := Aside0.mk (below_step (by repeat (first | (with_reducible first | exact HB.out | apply below_alloc | apply pw_below_drewN | apply below_drew1) | exact HB.out)) hb); have n1_ := Aside0.mk (hbox); have n2_ := Aside0.mk ((by rw [hg]; exact (below_size (by repeat (first | (with_reducible first | exact HB.out | apply below_alloc | apply pw_below_drewN | apply below_drew1) | exact HB.out))) : w.heap.size ≤ gb208)); have n3_ := Aside0.mk ((by rw [hg]; exact (below_size (by repeat (first | (with_reducible first | exact HB.out | apply below_alloc | apply pw_below_drewN | apply below_drew1) | exact HB.out))) : w.heap.size ≤ gb208)); clear HB; have HB := n0_; have BK208 := n1_; have GW208 := n2_; have GE208 := n3_; clear n0_ n1_ n2_ n3_; clear hb hbox hg; have hcz4_0 : w3.cell? ⟨gb208, 0, none⟩ = some (.int .u8 a0_0) := (blk_cell BK208.out 0).trans rfl; have hcz4_1 : w3.cell? ⟨gb208, 1, none⟩ = some (.int .u16 a0_1) := (blk_cell BK208.out 1).trans rfl; have hcz4_2 : w3.cell? ⟨gb208, 2, none⟩ = some (.int .u16 a0_2) := (blk_cell BK208.out 2).trans rfl; have hcz4_3 : w3.cell? ⟨gb208, 3, none⟩ = some (.int .u16 a0_3) := (blk_cell BK208.out 3).trans rfl; have hcz4_4 : w3.cell? ⟨gb208, 4, none⟩ = some (.int .u16 a0_4) := (blk_cell BK208.out 4).trans rfl; have hfz4_0 := blk_frozen BK208.out 0; have hfz4_1 := blk_frozen BK208.out 1; have hfz4_2 := blk_frozen BK208.out 2; have hfz4_3 := blk_frozen BK208.out 3; have hfz4_4 := blk_frozen BK208.out 4))
 repeat (go_quiet (first | ((with_reducible refine gate_dst (N := 1) rfl ?_); refine box_event ?hg (N := 1) ?hd (cs := #[.int .u8 a0_0, .int .u16 a0_1, .int .u16 a0_2, .int .u16 a0_3, .int .u16 a0_4]) (t := 24) ?hr ?_; (case hd => rfl); (case hg => rfl); (case hr => first | (go_simp; done) | (go_simp; rfl)); intro gb208 hg w3 hbox hb; have n0_ := Aside0.mk (below_step (by repeat (first | (with_reducible first | exact HB.out | apply below_alloc | apply pw_below_drewN | apply below_drew1) | exact HB.out)) hb); have n1_ := Aside0.mk (hbox); have n2_ := Aside0.mk ((by rw [hg]; exact (below_size (by repeat (first | (with_reducible first | exact HB.out | apply below_alloc | apply pw_below_drewN | apply below_drew1) | exact HB.out))) : w.heap.size ≤ gb208)); have n3_ := Aside0.mk ((by rw [hg]; exact (below_size (by repeat (first | (with_reducible first | exact HB.out | apply below_alloc | apply pw_below_drewN | apply below_drew1) | exact HB.out))) : w.heap.size ≤ gb208)); clear HB; have HB := n0_; have BK208 := n1_; have GW208 := n2_; have GE208 := n3_; clear n0_ n1_ n2_ n3_; clear hb hbox hg; have hcz4_0 : w3.cell? ⟨gb208, 0, none⟩ = some (.int .u8 a0_0) := (blk_cell BK208.out 0).trans rfl; have hcz4_1 : w3.cell? ⟨gb208, 1, none⟩ = some (.int .u16 a0_1) := (blk_cell BK208.out 1).trans rfl; have hcz4_2 : w3.cell? ⟨gb208, 2, none⟩ = some (.int .u16 a0_2) := (blk_cell BK208.out 2).trans rfl; have hcz4_3 : w3.cell? ⟨gb208, 3, none⟩ = some (.int .u16 a0_3) := (blk_cell BK208.out 3).trans rfl; have hcz4_4 : w3.cell? ⟨gb208, 4, none⟩ = some (.int .u16 a0_4) := (blk_cell BK208.out 4).trans rfl; have hfz4_0 := blk_frozen BK208.out 0; have hfz4_1 := blk_frozen BK208.out 1; have hfz4_2 := blk_frozen BK208.out 2; have hfz4_3 := blk_frozen BK208.out 3; have hfz4_4 := blk_frozen BK208.out 4)); go_upto_region 2 with (first | ((with_reducible refine gate_dst (N := 1) rfl ?_); refine box_event ?hg (N := 1) ?hd (cs := #[.int .u8 a0_0, .int .u16 a0_1, .int .u16 a0_2, .int .u16 a0_3, .int .u16 a0_4]) (t := 24) ?hr ?_; (case hd => rfl); (case hg => rfl); (case hr => first | (go_simp; done) | (go_simp; rfl)); intro gb208 hg w3 hbox hb; have n0_ := Aside0.mk (below_step (by repeat (first | (with_reducible first | exact HB.out | apply below_alloc | apply pw_below_drewN | apply below_drew1) | exact HB.out)) hb); have n1_ := Aside0.mk (hbox); have n2_ := Aside0.mk ((by rw [hg]; exact (below_size (by repeat (first | (with_reducible first | exact HB.out | apply below_alloc | apply pw_below_drewN | apply below_drew1) | exact HB.out))) : w.heap.size ≤ gb208)); have n3_ := Aside0.mk ((by rw [hg]; exact (below_size (by repeat (first | (with_reducible first | exact HB.out | apply below_alloc | apply pw_below_drewN | apply below_drew1) | exact HB.out))) : w.heap.size ≤ gb208)); clear HB; have HB := n0_; have BK208 := n1_; have GW208 := n2_; have GE208 := n3_; clear n0_ n1_ n2_ n3_; clear hb hbox hg; have hcz4_0 : w3.cell? ⟨gb208, 0, none⟩ = some (.int .u8 a0_0) := (blk_cell BK208.out 0).trans rfl; have hcz4_1 : w3.cell? ⟨gb208, 1, none⟩ = some (.int .u16 a0_1) := (blk_cell BK208.out 1).trans rfl; have hcz4_2 : w3.cell? ⟨gb208, 2, none⟩ = some (.int .u16 a0_2) := (blk_cell BK208.out 2).trans rfl; have hcz4_3 : w3.cell? ⟨gb208, 3, none⟩ = some (.int .u16 a0_3) := (blk_cell BK208.out 3).trans rfl; have hcz4_4 : w3.cell? ⟨gb208, 4, none⟩ = some (.int .u16 a0_4) := (blk_cell BK208.out 4).trans rfl; have hfz4_0 := blk_frozen BK208.out 0; have hfz4_1 := blk_frozen BK208.out 1; have hfz4_2 := blk_frozen BK208.out 2; have hfz4_3 := blk_frozen BK208.out 3; have hfz4_4 := blk_frozen BK208.out 4)))
 (try simp only [Act.put, List.setIfInBounds_toArray, List.set_cons_zero, List.set_cons_succ])
 go_cut [15] (fun v15 wc => ∃ (kq : Nat) (x15_1 : Bool), v15 = .bool x15_1 ∧ Aside0 (stillageref02_Check.j0 kq (wrap64 (a0_0)) x15_1 a0_0 a0_1 a0_2 a0_3 a0_4 = some r) ∧ Aside0 (kq ≤ k) ∧ Aside0 (wc.heap[gb208]? = some (.cells #[.int .u8 a0_0, .int .u16 a0_1, .int .u16 a0_2, .int .u16 a0_3, .int .u16 a0_4] 24 (0, 0))) ∧ Aside0 (Below w.heap.size w wc))
 case first =>
  have H := HC2.out
  clear HC2
  by_cases c5 : (wrap64 (a0_0)) < 1
  ·rw [if_pos c5] at H
   have c5b0 : decide ((wrap64 (a0_0)) < 1) = true := decide_eq_true c5
   clear c5
   (first | rw [c5b0] | (simp only [i64_w, i32_w]; rw [c5b0]) | skip)
   have H' := Aside0.mk H
   clear H
   go_wp2
   repeat (go_quiet (fail); try go_wp2)
   go_meet
   case rel => exact ⟨_, (true), (by first | rfl | (simp; done) | (simp [*]; done)), H', ⟨by first | omega | exact Nat.le_refl _⟩, ⟨by (with_reducible repeat (first | refine blk_drewN ?_ _ | refine blk_drew ?_ | refine blk_alloc ?_ _)); exact BK208.out⟩, ⟨by repeat (first | (with_reducible first | exact HB.out | apply below_alloc | apply pw_below_drewN | apply below_drew1 | refine below_set ?_ GE208.out) | exact HB.out)⟩⟩
  ·rw [if_neg c5] at H
   have c5b0 : decide ((wrap64 (a0_0)) < 1) = false := decide_eq_false c5
   clear c5
   (first | rw [c5b0] | (simp only [i64_w, i32_w]; rw [c5b0]) | skip)
   have H' := Aside0.mk H
   clear H
   go_wp2
   repeat (go_quiet (fail); try go_wp2)
   go_meet
   case rel => exact ⟨_, (decide ((wrap64 (a0_0)) > 7)), (by first | rfl | (simp; done) | (simp [*]; done)), H', ⟨by first | omega | exact Nat.le_refl _⟩, ⟨by (with_reducible repeat (first | refine blk_drewN ?_ _ | refine blk_drew ?_ | refine blk_alloc ?_ _)); exact BK208.out⟩, ⟨by repeat (first | (with_reducible first | exact HB.out | apply below_alloc | apply pw_below_drewN | apply below_drew1 | refine below_set ?_ GE208.out) | exact HB.out)⟩⟩
 case rest =>
  clear HC2
  try clear c1
  try clear p2
  try clear c5
  try clear c5b0
  try clear hcz4_0
  try clear hcz4_1
  try clear hcz4_2
  try clear hcz4_3
  try clear hcz4_4
  try clear hfz4_0
  try clear hfz4_1
  try clear hfz4_2
  try clear hfz4_3
  try clear hfz4_4
  obtain ⟨kq, x15_1, rfl, HA, HJ1, BK208, HB⟩ := hcut
  cases kq with
  | zero => exact absurd HA.out (by simp [stillageref02_Check.j0])
  | succ kj1 =>
   have H := HA.out
   clear HA
   simp only [stillageref02_Check.j0] at H
   by_cases c6 : x15_1 = true
   ·subst c6
    have H1 : (some 23) = some r := by rw [if_pos rfl] at H; exact H
    clear H
    have H := H1
    clear H1
    obtain rfl := Option.some.inj H
    go_wp2
    repeat (go_quiet (fail); try go_wp2)
    go_ret
    exact ⟨by first | rfl | (simp [errW_none, errW_some] <;> rfl) | (simp [*, errW_none, errW_some] <;> rfl), by repeat (first | (with_reducible first | exact HB.out | apply below_alloc | apply pw_below_drewN | apply below_drew1 | refine below_set ?_ GE208.out) | exact HB.out)⟩
   ·replace c6 := Bool.eq_false_iff.mpr c6
    subst c6
    have H1 : (if a0_1 < 1 then (stillageref02_Check.j1 kj1 (wrap64 (a0_0)) (wrap64 (a0_3)) (wrap64 (a0_4)) true a0_0 a0_1 a0_2 a0_3 a0_4) else (stillageref02_Check.j1 kj1 (wrap64 (a0_0)) (wrap64 (a0_3)) (wrap64 (a0_4)) (decide (a0_1 > 200)) a0_0 a0_1 a0_2 a0_3 a0_4)) = some r := by rw [if_neg (show ¬ (false = true) by decide)] at H; exact H
    clear H
    have H := H1
    clear H1
    have HC7 := Aside0.mk H
    clear H
    have hcz8_0 : wc.cell? ⟨gb208, 0, none⟩ = some (.int .u8 a0_0) := (blk_cell BK208.out 0).trans rfl
    have hcz8_1 : wc.cell? ⟨gb208, 1, none⟩ = some (.int .u16 a0_1) := (blk_cell BK208.out 1).trans rfl
    have hcz8_2 : wc.cell? ⟨gb208, 2, none⟩ = some (.int .u16 a0_2) := (blk_cell BK208.out 2).trans rfl
    have hcz8_3 : wc.cell? ⟨gb208, 3, none⟩ = some (.int .u16 a0_3) := (blk_cell BK208.out 3).trans rfl
    have hcz8_4 : wc.cell? ⟨gb208, 4, none⟩ = some (.int .u16 a0_4) := (blk_cell BK208.out 4).trans rfl
    have hfz8_0 := blk_frozen BK208.out 0
    have hfz8_1 := blk_frozen BK208.out 1
    have hfz8_2 := blk_frozen BK208.out 2
    have hfz8_3 := blk_frozen BK208.out 3
    have hfz8_4 := blk_frozen BK208.out 4
    go_upto_region 5 with (fail)
    repeat (go_quiet (fail); go_upto_region 5 with (fail))
    go_cut [6] (fun v6 wc => ∃ (kq : Nat) (x6_6 : Bool), v6 = .bool x6_6 ∧ Aside0 (stillageref02_Check.j1 kq (wrap64 (a0_0)) (wrap64 (a0_3)) (wrap64 (a0_4)) x6_6 a0_0 a0_1 a0_2 a0_3 a0_4 = some r) ∧ Aside0 (kq ≤ kj1) ∧ Aside0 (wc.heap[gb208]? = some (.cells #[.int .u8 a0_0, .int .u16 a0_1, .int .u16 a0_2, .int .u16 a0_3, .int .u16 a0_4] 24 (0, 0))) ∧ Aside0 (Below w.heap.size w wc))
    case first =>
     have H := HC7.out
     clear HC7
     by_cases c9 : a0_1 < 1
     ·rw [if_pos c9] at H
      have c9b0 : decide (a0_1 < 1) = true := decide_eq_true c9
      clear c9
      (first | rw [c9b0] | (simp only [i64_w, i32_w]; rw [c9b0]) | skip)
      have H' := Aside0.mk H
      clear H
      have hcz10_0 : wc.cell? ⟨gb208, 0, none⟩ = some (.int .u8 a0_0) := (blk_cell BK208.out 0).trans rfl
      have hcz10_1 : wc.cell? ⟨gb208, 1, none⟩ = some (.int .u16 a0_1) := (blk_cell BK208.out 1).trans rfl
      have hcz10_2 : wc.cell? ⟨gb208, 2, none⟩ = some (.int .u16 a0_2) := (blk_cell BK208.out 2).trans rfl
      have hcz10_3 : wc.cell? ⟨gb208, 3, none⟩ = some (.int .u16 a0_3) := (blk_cell BK208.out 3).trans rfl
      have hcz10_4 : wc.cell? ⟨gb208, 4, none⟩ = some (.int .u16 a0_4) := (blk_cell BK208.out 4).trans rfl
      have hfz10_0 := blk_frozen BK208.out 0
      have hfz10_1 := blk_frozen BK208.out 1
      have hfz10_2 := blk_frozen BK208.out 2
      have hfz10_3 := blk_frozen BK208.out 3
      have hfz10_4 := blk_frozen BK208.out 4
      go_wp2
      repeat (go_quiet (fail); try go_wp2)
      go_meet
      case rel => exact ⟨_, (true), (by first | rfl | (simp; done) | (simp [*]; done)), H', ⟨by have := HJ1.out; first | omega | exact Nat.le_refl _⟩, ⟨by (with_reducible repeat (first | refine blk_drewN ?_ _ | refine blk_drew ?_ | refine blk_alloc ?_ _)); exact BK208.out⟩, ⟨by repeat (first | (with_reducible first | exact HB.out | apply below_alloc | apply pw_below_drewN | apply below_drew1 | refine below_set ?_ GE208.out) | exact HB.out)⟩⟩
     ·rw [if_neg c9] at H
      have c9b0 : decide (a0_1 < 1) = false := decide_eq_false c9
      clear c9
      (first | rw [c9b0] | (simp only [i64_w, i32_w]; rw [c9b0]) | skip)
      have H' := Aside0.mk H
      clear H
      have hcz11_0 : wc.cell? ⟨gb208, 0, none⟩ = some (.int .u8 a0_0) := (blk_cell BK208.out 0).trans rfl
      have hcz11_1 : wc.cell? ⟨gb208, 1, none⟩ = some (.int .u16 a0_1) := (blk_cell BK208.out 1).trans rfl
      have hcz11_2 : wc.cell? ⟨gb208, 2, none⟩ = some (.int .u16 a0_2) := (blk_cell BK208.out 2).trans rfl
      have hcz11_3 : wc.cell? ⟨gb208, 3, none⟩ = some (.int .u16 a0_3) := (blk_cell BK208.out 3).trans rfl
      have hcz11_4 : wc.cell? ⟨gb208, 4, none⟩ = some (.int .u16 a0_4) := (blk_cell BK208.out 4).trans rfl
      have hfz11_0 := blk_frozen BK208.out 0
      have hfz11_1 := blk_frozen BK208.out 1
      have hfz11_2 := blk_frozen BK208.out 2
      have hfz11_3 := blk_frozen BK208.out 3
      have hfz11_4 := blk_frozen BK208.out 4
      go_wp2
      repeat (go_quiet (fail); try go_wp2)
      go_meet
      case rel => exact ⟨_, (decide (a0_1 > 200)), (by first | rfl | (simp; done) | (simp [*]; done)), H', ⟨by have := HJ1.out; first | omega | exact Nat.le_refl _⟩, ⟨by (with_reducible repeat (first | refine blk_drewN ?_ _ | refine blk_drew ?_ | refine blk_alloc ?_ _)); exact BK208.out⟩, ⟨by repeat (first | (with_reducible first | exact HB.out | apply below_alloc | apply pw_below_drewN | apply below_drew1 | refine below_set ?_ GE208.out) | exact HB.out)⟩⟩
    case rest =>
     clear HC7
     try clear c1
     try clear p2
     try clear c5
     try clear c5b0
     try clear c6
     try clear p6
     try clear c9
     try clear c9b0
     try clear hcz10_0
     try clear hcz10_1
     try clear hcz10_2
     try clear hcz10_3
     try clear hcz10_4
     try clear hcz11_0
     try clear hcz11_1
     try clear hcz11_2
     try clear hcz11_3
     try clear hcz11_4
     try clear hcz4_0
     try clear hcz4_1
     try clear hcz4_2
     try clear hcz4_3
     try clear hcz4_4
     try clear hcz8_0
     try clear hcz8_1
     try clear hcz8_2
     try clear hcz8_3
     try clear hcz8_4
     try clear hfz10_0
     try clear hfz10_1
     try clear hfz10_2
     try clear hfz10_3
     try clear hfz10_4
     try clear hfz11_0
     try clear hfz11_1
     try clear hfz11_2
     try clear hfz11_3
     try clear hfz11_4
     try clear hfz4_0
     try clear hfz4_1
     try clear hfz4_2
     try clear hfz4_3
     try clear hfz4_4
     try clear hfz8_0
     try clear hfz8_1
     try clear hfz8_2
     try clear hfz8_3
     try clear hfz8_4
     try clear p2
     obtain ⟨kq, x6_6, rfl, HA, HJ6, BK208, HB⟩ := hcut
     cases kq with
     | zero => exact absurd HA.out (by simp [stillageref02_Check.j1])
     | succ kj6 =>
      have H := HA.out
      clear HA
      simp only [stillageref02_Check.j1] at H
      have HC12 := Aside0.mk H
      clear H
      go_upto_region 6 with (fail)
      repeat (go_quiet (fail); go_upto_region 6 with (fail))
      go_cut [67] (fun v67 wc => ∃ (kq : Nat) (x67_11 : Bool), v67 = .bool x67_11 ∧ Aside0 (stillageref02_Check.j2 kq (wrap64 (a0_0)) (wrap64 (a0_3)) (wrap64 (a0_4)) x6_6 x67_11 a0_0 a0_1 a0_2 a0_3 a0_4 = some r) ∧ Aside0 (kq ≤ kj6) ∧ Aside0 (wc.heap[gb208]? = some (.cells #[.int .u8 a0_0, .int .u16 a0_1, .int .u16 a0_2, .int .u16 a0_3, .int .u16 a0_4] 24 (0, 0))) ∧ Aside0 (Below w.heap.size w wc))
      case first =>
       have H := HC12.out
       clear HC12
       by_cases c13 : (wrap64 (a0_0)) ≤ 3
       ·rw [if_pos c13] at H
        have c13b0 : decide ((wrap64 (a0_0)) ≤ 3) = true := decide_eq_true c13
        clear c13
        (first | rw [c13b0] | (simp only [i64_w, i32_w]; rw [c13b0]) | skip)
        by_cases c14 : (wrap64 (a0_3)) < 1
        ·rw [if_pos c14] at H
         have c14b0 : decide ((wrap64 (a0_3)) < 1) = true := decide_eq_true c14
         clear c14
         have H' := Aside0.mk H
         clear H
         go_wp2
         repeat (go_quiet (fail); try go_wp2)
         go_meet
         case rel => exact ⟨_, (true), (by first | rfl | (simp; done) | (simp [*]; done)), H', ⟨by have := HJ1.out; have := HJ6.out; first | omega | exact Nat.le_refl _⟩, ⟨by (with_reducible repeat (first | refine blk_drewN ?_ _ | refine blk_drew ?_ | refine blk_alloc ?_ _)); exact BK208.out⟩, ⟨by repeat (first | (with_reducible first | exact HB.out | apply below_alloc | apply pw_below_drewN | apply below_drew1 | refine below_set ?_ GE208.out) | exact HB.out)⟩⟩
        ·rw [if_neg c14] at H
         have c14b0 : decide ((wrap64 (a0_3)) < 1) = false := decide_eq_false c14
         clear c14
         by_cases c15 : (wrap64 (a0_3)) > 30
         ·rw [if_pos c15] at H
          have c15b0 : decide (30 < (wrap64 (a0_3))) = true := decide_eq_true c15
          clear c15
          have H' := Aside0.mk H
          clear H
          go_wp2
          repeat (go_quiet (fail); try go_wp2)
          go_meet
          case rel => exact ⟨_, (true), (by first | rfl | (simp; done) | (simp [*]; done)), H', ⟨by have := HJ1.out; have := HJ6.out; first | omega | exact Nat.le_refl _⟩, ⟨by (with_reducible repeat (first | refine blk_drewN ?_ _ | refine blk_drew ?_ | refine blk_alloc ?_ _)); exact BK208.out⟩, ⟨by repeat (first | (with_reducible first | exact HB.out | apply below_alloc | apply pw_below_drewN | apply below_drew1 | refine below_set ?_ GE208.out) | exact HB.out)⟩⟩
         ·rw [if_neg c15] at H
          have c15b0 : decide (30 < (wrap64 (a0_3))) = false := decide_eq_false c15
          clear c15
          by_cases c16 : (wrap64 (a0_0)) ≤ 2
          ·rw [if_pos c16] at H
           have c16b0 : decide ((wrap64 (a0_0)) ≤ 2) = true := decide_eq_true c16
           clear c16
           by_cases c17 : (wrap64 (a0_4)) = 0
           ·rw [if_pos c17] at H
            have c17b0 : ((wrap64 (a0_4)) == 0) = true := beq_iff_eq.mpr c17
            have c17b1 : ((wrap64 (a0_4)) != 0) = false := bne_eq_false_iff_eq.mpr c17
            clear c17
            by_cases c18 : (wrap64 (a0_0)) = 3
            ·rw [if_pos c18] at H
             have c18b0 : ((wrap64 (a0_0)) == 3) = true := beq_iff_eq.mpr c18
             have c18b1 : ((wrap64 (a0_0)) != 3) = false := bne_eq_false_iff_eq.mpr c18
             clear c18
             by_cases c19 : (wrap64 (a0_4)) < 1
             ·rw [if_pos c19] at H
              have c19b0 : decide ((wrap64 (a0_4)) < 1) = true := decide_eq_true c19
              clear c19
              have H' := Aside0.mk H
              clear H
              go_wp2
              repeat (go_quiet (fail); try go_wp2)
              go_meet
              case rel => exact ⟨_, (true), (by first | rfl | (simp; done) | (simp [*]; done)), H', ⟨by have := HJ1.out; have := HJ6.out; first | omega | exact Nat.le_refl _⟩, ⟨by (with_reducible repeat (first | refine blk_drewN ?_ _ | refine blk_drew ?_ | refine blk_alloc ?_ _)); exact BK208.out⟩, ⟨by repeat (first | (with_reducible first | exact HB.out | apply below_alloc | apply pw_below_drewN | apply below_drew1 | refine below_set ?_ GE208.out) | exact HB.out)⟩⟩
             ·rw [if_neg c19] at H
              have c19b0 : decide ((wrap64 (a0_4)) < 1) = false := decide_eq_false c19
              clear c19
              have H' := Aside0.mk H
              clear H
              go_wp2
              repeat (go_quiet (fail); try go_wp2)
              go_meet
              case rel => exact ⟨_, (decide ((wrap64 (a0_4)) > 3)), (by first | rfl | (simp; done) | (simp [*]; done)), H', ⟨by have := HJ1.out; have := HJ6.out; first | omega | exact Nat.le_refl _⟩, ⟨by (with_reducible repeat (first | refine blk_drewN ?_ _ | refine blk_drew ?_ | refine blk_alloc ?_ _)); exact BK208.out⟩, ⟨by repeat (first | (with_reducible first | exact HB.out | apply below_alloc | apply pw_below_drewN | apply below_drew1 | refine below_set ?_ GE208.out) | exact HB.out)⟩⟩
            ·rw [if_neg c18] at H
             have c18b0 : ((wrap64 (a0_0)) == 3) = false := beq_eq_false_iff_ne.mpr c18
             have c18b1 : ((wrap64 (a0_0)) != 3) = true := bne_iff_ne.mpr c18
             have H' := Aside0.mk H
             clear H
             go_wp2
             repeat (go_quiet (fail); try go_wp2)
             go_meet
             case rel => exact ⟨_, (false), (by first | rfl | (simp; done) | (simp [*]; done)), H', ⟨by have := HJ1.out; have := HJ6.out; first | omega | exact Nat.le_refl _⟩, ⟨by (with_reducible repeat (first | refine blk_drewN ?_ _ | refine blk_drew ?_ | refine blk_alloc ?_ _)); exact BK208.out⟩, ⟨by repeat (first | (with_reducible first | exact HB.out | apply below_alloc | apply pw_below_drewN | apply below_drew1 | refine below_set ?_ GE208.out) | exact HB.out)⟩⟩
           ·rw [if_neg c17] at H
            have c17b0 : ((wrap64 (a0_4)) == 0) = false := beq_eq_false_iff_ne.mpr c17
            have c17b1 : ((wrap64 (a0_4)) != 0) = true := bne_iff_ne.mpr c17
            have H' := Aside0.mk H
            clear H
            go_wp2
            repeat (go_quiet (fail); try go_wp2)
            go_meet
            case rel => exact ⟨_, (true), (by first | rfl | (simp; done) | (simp [*]; done)), H', ⟨by have := HJ1.out; have := HJ6.out; first | omega | exact Nat.le_refl _⟩, ⟨by (with_reducible repeat (first | refine blk_drewN ?_ _ | refine blk_drew ?_ | refine blk_alloc ?_ _)); exact BK208.out⟩, ⟨by repeat (first | (with_reducible first | exact HB.out | apply below_alloc | apply pw_below_drewN | apply below_drew1 | refine below_set ?_ GE208.out) | exact HB.out)⟩⟩
          ·rw [if_neg c16] at H
           have c16b0 : decide ((wrap64 (a0_0)) ≤ 2) = false := decide_eq_false c16
           clear c16
           by_cases c20 : (wrap64 (a0_0)) ≥ 4
           ·rw [if_pos c20] at H
            have c20b0 : decide (4 ≤ (wrap64 (a0_0))) = true := decide_eq_true c20
            clear c20
            by_cases c21 : (wrap64 (a0_0)) ≤ 6
            ·rw [if_pos c21] at H
             have c21b0 : decide ((wrap64 (a0_0)) ≤ 6) = true := decide_eq_true c21
             clear c21
             by_cases c22 : (wrap64 (a0_4)) = 0
             ·rw [if_pos c22] at H
              have c22b0 : ((wrap64 (a0_4)) == 0) = true := beq_iff_eq.mpr c22
              have c22b1 : ((wrap64 (a0_4)) != 0) = false := bne_eq_false_iff_eq.mpr c22
              clear c22
              by_cases c23 : (wrap64 (a0_0)) = 3
              ·rw [if_pos c23] at H
               have c23b0 : ((wrap64 (a0_0)) == 3) = true := beq_iff_eq.mpr c23
               have c23b1 : ((wrap64 (a0_0)) != 3) = false := bne_eq_false_iff_eq.mpr c23
               clear c23
               by_cases c24 : (wrap64 (a0_4)) < 1
               ·rw [if_pos c24] at H
                have c24b0 : decide ((wrap64 (a0_4)) < 1) = true := decide_eq_true c24
                clear c24
                have H' := Aside0.mk H
                clear H
                go_wp2
                repeat (go_quiet (fail); try go_wp2)
                go_meet
                case rel => exact ⟨_, (true), (by first | rfl | (simp; done) | (simp [*]; done)), H', ⟨by have := HJ1.out; have := HJ6.out; first | omega | exact Nat.le_refl _⟩, ⟨by (with_reducible repeat (first | refine blk_drewN ?_ _ | refine blk_drew ?_ | refine blk_alloc ?_ _)); exact BK208.out⟩, ⟨by repeat (first | (with_reducible first | exact HB.out | apply below_alloc | apply pw_below_drewN | apply below_drew1 | refine below_set ?_ GE208.out) | exact HB.out)⟩⟩
               ·rw [if_neg c24] at H
                have c24b0 : decide ((wrap64 (a0_4)) < 1) = false := decide_eq_false c24
                clear c24
                have H' := Aside0.mk H
                clear H
                go_wp2
                repeat (go_quiet (fail); try go_wp2)
                go_meet
                case rel => exact ⟨_, (decide ((wrap64 (a0_4)) > 3)), (by first | rfl | (simp; done) | (simp [*]; done)), H', ⟨by have := HJ1.out; have := HJ6.out; first | omega | exact Nat.le_refl _⟩, ⟨by (with_reducible repeat (first | refine blk_drewN ?_ _ | refine blk_drew ?_ | refine blk_alloc ?_ _)); exact BK208.out⟩, ⟨by repeat (first | (with_reducible first | exact HB.out | apply below_alloc | apply pw_below_drewN | apply below_drew1 | refine below_set ?_ GE208.out) | exact HB.out)⟩⟩
              ·rw [if_neg c23] at H
               have c23b0 : ((wrap64 (a0_0)) == 3) = false := beq_eq_false_iff_ne.mpr c23
               have c23b1 : ((wrap64 (a0_0)) != 3) = true := bne_iff_ne.mpr c23
               have H' := Aside0.mk H
               clear H
               go_wp2
               repeat (go_quiet (fail); try go_wp2)
               go_meet
               case rel => exact ⟨_, (false), (by first | rfl | (simp; done) | (simp [*]; done)), H', ⟨by have := HJ1.out; have := HJ6.out; first | omega | exact Nat.le_refl _⟩, ⟨by (with_reducible repeat (first | refine blk_drewN ?_ _ | refine blk_drew ?_ | refine blk_alloc ?_ _)); exact BK208.out⟩, ⟨by repeat (first | (with_reducible first | exact HB.out | apply below_alloc | apply pw_below_drewN | apply below_drew1 | refine below_set ?_ GE208.out) | exact HB.out)⟩⟩
             ·rw [if_neg c22] at H
              have c22b0 : ((wrap64 (a0_4)) == 0) = false := beq_eq_false_iff_ne.mpr c22
              have c22b1 : ((wrap64 (a0_4)) != 0) = true := bne_iff_ne.mpr c22
              have H' := Aside0.mk H
              clear H
              go_wp2
              repeat (go_quiet (fail); try go_wp2)
              go_meet
              case rel => exact ⟨_, (true), (by first | rfl | (simp; done) | (simp [*]; done)), H', ⟨by have := HJ1.out; have := HJ6.out; first | omega | exact Nat.le_refl _⟩, ⟨by (with_reducible repeat (first | refine blk_drewN ?_ _ | refine blk_drew ?_ | refine blk_alloc ?_ _)); exact BK208.out⟩, ⟨by repeat (first | (with_reducible first | exact HB.out | apply below_alloc | apply pw_below_drewN | apply below_drew1 | refine below_set ?_ GE208.out) | exact HB.out)⟩⟩
            ·rw [if_neg c21] at H
             have c21b0 : decide ((wrap64 (a0_0)) ≤ 6) = false := decide_eq_false c21
             clear c21
             by_cases c25 : (wrap64 (a0_0)) = 3
             ·rw [if_pos c25] at H
              have c25b0 : ((wrap64 (a0_0)) == 3) = true := beq_iff_eq.mpr c25
              have c25b1 : ((wrap64 (a0_0)) != 3) = false := bne_eq_false_iff_eq.mpr c25
              clear c25
              by_cases c26 : (wrap64 (a0_4)) < 1
              ·rw [if_pos c26] at H
               have c26b0 : decide ((wrap64 (a0_4)) < 1) = true := decide_eq_true c26
               clear c26
               have H' := Aside0.mk H
               clear H
               go_wp2
               repeat (go_quiet (fail); try go_wp2)
               go_meet
               case rel => exact ⟨_, (true), (by first | rfl | (simp; done) | (simp [*]; done)), H', ⟨by have := HJ1.out; have := HJ6.out; first | omega | exact Nat.le_refl _⟩, ⟨by (with_reducible repeat (first | refine blk_drewN ?_ _ | refine blk_drew ?_ | refine blk_alloc ?_ _)); exact BK208.out⟩, ⟨by repeat (first | (with_reducible first | exact HB.out | apply below_alloc | apply pw_below_drewN | apply below_drew1 | refine below_set ?_ GE208.out) | exact HB.out)⟩⟩
              ·rw [if_neg c26] at H
               have c26b0 : decide ((wrap64 (a0_4)) < 1) = false := decide_eq_false c26
               clear c26
               have H' := Aside0.mk H
               clear H
               go_wp2
               repeat (go_quiet (fail); try go_wp2)
               go_meet
               case rel => exact ⟨_, (decide ((wrap64 (a0_4)) > 3)), (by first | rfl | (simp; done) | (simp [*]; done)), H', ⟨by have := HJ1.out; have := HJ6.out; first | omega | exact Nat.le_refl _⟩, ⟨by (with_reducible repeat (first | refine blk_drewN ?_ _ | refine blk_drew ?_ | refine blk_alloc ?_ _)); exact BK208.out⟩, ⟨by repeat (first | (with_reducible first | exact HB.out | apply below_alloc | apply pw_below_drewN | apply below_drew1 | refine below_set ?_ GE208.out) | exact HB.out)⟩⟩
             ·rw [if_neg c25] at H
              have c25b0 : ((wrap64 (a0_0)) == 3) = false := beq_eq_false_iff_ne.mpr c25
              have c25b1 : ((wrap64 (a0_0)) != 3) = true := bne_iff_ne.mpr c25
              have H' := Aside0.mk H
              clear H
              go_wp2
              repeat (go_quiet (fail); try go_wp2)
              go_meet
              case rel => exact ⟨_, (false), (by first | rfl | (simp; done) | (simp [*]; done)), H', ⟨by have := HJ1.out; have := HJ6.out; first | omega | exact Nat.le_refl _⟩, ⟨by (with_reducible repeat (first | refine blk_drewN ?_ _ | refine blk_drew ?_ | refine blk_alloc ?_ _)); exact BK208.out⟩, ⟨by repeat (first | (with_reducible first | exact HB.out | apply below_alloc | apply pw_below_drewN | apply below_drew1 | refine below_set ?_ GE208.out) | exact HB.out)⟩⟩
           ·rw [if_neg c20] at H
            have c20b0 : decide (4 ≤ (wrap64 (a0_0))) = false := decide_eq_false c20
            clear c20
            by_cases c27 : (wrap64 (a0_0)) = 3
            ·rw [if_pos c27] at H
             have c27b0 : ((wrap64 (a0_0)) == 3) = true := beq_iff_eq.mpr c27
             have c27b1 : ((wrap64 (a0_0)) != 3) = false := bne_eq_false_iff_eq.mpr c27
             clear c27
             by_cases c28 : (wrap64 (a0_4)) < 1
             ·rw [if_pos c28] at H
              have c28b0 : decide ((wrap64 (a0_4)) < 1) = true := decide_eq_true c28
              clear c28
              have H' := Aside0.mk H
              clear H
              go_wp2
              repeat (go_quiet (fail); try go_wp2)
              go_meet
              case rel => exact ⟨_, (true), (by first | rfl | (simp; done) | (simp [*]; done)), H', ⟨by have := HJ1.out; have := HJ6.out; first | omega | exact Nat.le_refl _⟩, ⟨by (with_reducible repeat (first | refine blk_drewN ?_ _ | refine blk_drew ?_ | refine blk_alloc ?_ _)); exact BK208.out⟩, ⟨by repeat (first | (with_reducible first | exact HB.out | apply below_alloc | apply pw_below_drewN | apply below_drew1 | refine below_set ?_ GE208.out) | exact HB.out)⟩⟩
             ·rw [if_neg c28] at H
              have c28b0 : decide ((wrap64 (a0_4)) < 1) = false := decide_eq_false c28
              clear c28
              have H' := Aside0.mk H
              clear H
              go_wp2
              repeat (go_quiet (fail); try go_wp2)
              go_meet
              case rel => exact ⟨_, (decide ((wrap64 (a0_4)) > 3)), (by first | rfl | (simp; done) | (simp [*]; done)), H', ⟨by have := HJ1.out; have := HJ6.out; first | omega | exact Nat.le_refl _⟩, ⟨by (with_reducible repeat (first | refine blk_drewN ?_ _ | refine blk_drew ?_ | refine blk_alloc ?_ _)); exact BK208.out⟩, ⟨by repeat (first | (with_reducible first | exact HB.out | apply below_alloc | apply pw_below_drewN | apply below_drew1 | refine below_set ?_ GE208.out) | exact HB.out)⟩⟩
            ·rw [if_neg c27] at H
             have c27b0 : ((wrap64 (a0_0)) == 3) = false := beq_eq_false_iff_ne.mpr c27
             have c27b1 : ((wrap64 (a0_0)) != 3) = true := bne_iff_ne.mpr c27
             have H' := Aside0.mk H
             clear H
             go_wp2
             repeat (go_quiet (fail); try go_wp2)
             go_meet
             case rel => exact ⟨_, (false), (by first | rfl | (simp; done) | (simp [*]; done)), H', ⟨by have := HJ1.out; have := HJ6.out; first | omega | exact Nat.le_refl _⟩, ⟨by (with_reducible repeat (first | refine blk_drewN ?_ _ | refine blk_drew ?_ | refine blk_alloc ?_ _)); exact BK208.out⟩, ⟨by repeat (first | (with_reducible first | exact HB.out | apply below_alloc | apply pw_below_drewN | apply below_drew1 | refine below_set ?_ GE208.out) | exact HB.out)⟩⟩
       ·rw [if_neg c13] at H
        have c13b0 : decide ((wrap64 (a0_0)) ≤ 3) = false := decide_eq_false c13
        clear c13
        (first | rw [c13b0] | (simp only [i64_w, i32_w]; rw [c13b0]) | skip)
        by_cases c29 : (wrap64 (a0_0)) ≤ 2
        ·rw [if_pos c29] at H
         have c29b0 : decide ((wrap64 (a0_0)) ≤ 2) = true := decide_eq_true c29
         clear c29
         by_cases c30 : (wrap64 (a0_4)) = 0
         ·rw [if_pos c30] at H
          have c30b0 : ((wrap64 (a0_4)) == 0) = true := beq_iff_eq.mpr c30
          have c30b1 : ((wrap64 (a0_4)) != 0) = false := bne_eq_false_iff_eq.mpr c30
          clear c30
          by_cases c31 : (wrap64 (a0_0)) = 3
          ·rw [if_pos c31] at H
           have c31b0 : ((wrap64 (a0_0)) == 3) = true := beq_iff_eq.mpr c31
           have c31b1 : ((wrap64 (a0_0)) != 3) = false := bne_eq_false_iff_eq.mpr c31
           clear c31
           by_cases c32 : (wrap64 (a0_4)) < 1
           ·rw [if_pos c32] at H
            have c32b0 : decide ((wrap64 (a0_4)) < 1) = true := decide_eq_true c32
            clear c32
            have H' := Aside0.mk H
            clear H
            go_wp2
            repeat (go_quiet (fail); try go_wp2)
            go_meet
            case rel => exact ⟨_, (true), (by first | rfl | (simp; done) | (simp [*]; done)), H', ⟨by have := HJ1.out; have := HJ6.out; first | omega | exact Nat.le_refl _⟩, ⟨by (with_reducible repeat (first | refine blk_drewN ?_ _ | refine blk_drew ?_ | refine blk_alloc ?_ _)); exact BK208.out⟩, ⟨by repeat (first | (with_reducible first | exact HB.out | apply below_alloc | apply pw_below_drewN | apply below_drew1 | refine below_set ?_ GE208.out) | exact HB.out)⟩⟩
           ·rw [if_neg c32] at H
            have c32b0 : decide ((wrap64 (a0_4)) < 1) = false := decide_eq_false c32
            clear c32
            have H' := Aside0.mk H
            clear H
            go_wp2
            repeat (go_quiet (fail); try go_wp2)
            go_meet
            case rel => exact ⟨_, (decide ((wrap64 (a0_4)) > 3)), (by first | rfl | (simp; done) | (simp [*]; done)), H', ⟨by have := HJ1.out; have := HJ6.out; first | omega | exact Nat.le_refl _⟩, ⟨by (with_reducible repeat (first | refine blk_drewN ?_ _ | refine blk_drew ?_ | refine blk_alloc ?_ _)); exact BK208.out⟩, ⟨by repeat (first | (with_reducible first | exact HB.out | apply below_alloc | apply pw_below_drewN | apply below_drew1 | refine below_set ?_ GE208.out) | exact HB.out)⟩⟩
          ·rw [if_neg c31] at H
           have c31b0 : ((wrap64 (a0_0)) == 3) = false := beq_eq_false_iff_ne.mpr c31
           have c31b1 : ((wrap64 (a0_0)) != 3) = true := bne_iff_ne.mpr c31
           have H' := Aside0.mk H
           clear H
           go_wp2
           repeat (go_quiet (fail); try go_wp2)
           go_meet
           case rel => exact ⟨_, (false), (by first | rfl | (simp; done) | (simp [*]; done)), H', ⟨by have := HJ1.out; have := HJ6.out; first | omega | exact Nat.le_refl _⟩, ⟨by (with_reducible repeat (first | refine blk_drewN ?_ _ | refine blk_drew ?_ | refine blk_alloc ?_ _)); exact BK208.out⟩, ⟨by repeat (first | (with_reducible first | exact HB.out | apply below_alloc | apply pw_below_drewN | apply below_drew1 | refine below_set ?_ GE208.out) | exact HB.out)⟩⟩
         ·rw [if_neg c30] at H
          have c30b0 : ((wrap64 (a0_4)) == 0) = false := beq_eq_false_iff_ne.mpr c30
          have c30b1 : ((wrap64 (a0_4)) != 0) = true := bne_iff_ne.mpr c30
          have H' := Aside0.mk H
          clear H
          go_wp2
          repeat (go_quiet (fail); try go_wp2)
          go_meet
          case rel => exact ⟨_, (true), (by first | rfl | (simp; done) | (simp [*]; done)), H', ⟨by have := HJ1.out; have := HJ6.out; first | omega | exact Nat.le_refl _⟩, ⟨by (with_reducible repeat (first | refine blk_drewN ?_ _ | refine blk_drew ?_ | refine blk_alloc ?_ _)); exact BK208.out⟩, ⟨by repeat (first | (with_reducible first | exact HB.out | apply below_alloc | apply pw_below_drewN | apply below_drew1 | refine below_set ?_ GE208.out) | exact HB.out)⟩⟩
        ·rw [if_neg c29] at H
         have c29b0 : decide ((wrap64 (a0_0)) ≤ 2) = false := decide_eq_false c29
         clear c29
         by_cases c33 : (wrap64 (a0_0)) ≥ 4
         ·rw [if_pos c33] at H
          have c33b0 : decide (4 ≤ (wrap64 (a0_0))) = true := decide_eq_true c33
          clear c33
          by_cases c34 : (wrap64 (a0_0)) ≤ 6
          ·rw [if_pos c34] at H
           have c34b0 : decide ((wrap64 (a0_0)) ≤ 6) = true := decide_eq_true c34
           clear c34
           by_cases c35 : (wrap64 (a0_4)) = 0
           ·rw [if_pos c35] at H
            have c35b0 : ((wrap64 (a0_4)) == 0) = true := beq_iff_eq.mpr c35
            have c35b1 : ((wrap64 (a0_4)) != 0) = false := bne_eq_false_iff_eq.mpr c35
            clear c35
            by_cases c36 : (wrap64 (a0_0)) = 3
            ·rw [if_pos c36] at H
             have c36b0 : ((wrap64 (a0_0)) == 3) = true := beq_iff_eq.mpr c36
             have c36b1 : ((wrap64 (a0_0)) != 3) = false := bne_eq_false_iff_eq.mpr c36
             clear c36
             by_cases c37 : (wrap64 (a0_4)) < 1
             ·rw [if_pos c37] at H
              have c37b0 : decide ((wrap64 (a0_4)) < 1) = true := decide_eq_true c37
              clear c37
              have H' := Aside0.mk H
              clear H
              go_wp2
              repeat (go_quiet (fail); try go_wp2)
              go_meet
              case rel => exact ⟨_, (true), (by first | rfl | (simp; done) | (simp [*]; done)), H', ⟨by have := HJ1.out; have := HJ6.out; first | omega | exact Nat.le_refl _⟩, ⟨by (with_reducible repeat (first | refine blk_drewN ?_ _ | refine blk_drew ?_ | refine blk_alloc ?_ _)); exact BK208.out⟩, ⟨by repeat (first | (with_reducible first | exact HB.out | apply below_alloc | apply pw_below_drewN | apply below_drew1 | refine below_set ?_ GE208.out) | exact HB.out)⟩⟩
             ·rw [if_neg c37] at H
              have c37b0 : decide ((wrap64 (a0_4)) < 1) = false := decide_eq_false c37
              clear c37
              have H' := Aside0.mk H
              clear H
              go_wp2
              repeat (go_quiet (fail); try go_wp2)
              go_meet
              case rel => exact ⟨_, (decide ((wrap64 (a0_4)) > 3)), (by first | rfl | (simp; done) | (simp [*]; done)), H', ⟨by have := HJ1.out; have := HJ6.out; first | omega | exact Nat.le_refl _⟩, ⟨by (with_reducible repeat (first | refine blk_drewN ?_ _ | refine blk_drew ?_ | refine blk_alloc ?_ _)); exact BK208.out⟩, ⟨by repeat (first | (with_reducible first | exact HB.out | apply below_alloc | apply pw_below_drewN | apply below_drew1 | refine below_set ?_ GE208.out) | exact HB.out)⟩⟩
            ·rw [if_neg c36] at H
             have c36b0 : ((wrap64 (a0_0)) == 3) = false := beq_eq_false_iff_ne.mpr c36
             have c36b1 : ((wrap64 (a0_0)) != 3) = true := bne_iff_ne.mpr c36
             have H' := Aside0.mk H
             clear H
             go_wp2
             repeat (go_quiet (fail); try go_wp2)
             go_meet
             case rel => exact ⟨_, (false), (by first | rfl | (simp; done) | (simp [*]; done)), H', ⟨by have := HJ1.out; have := HJ6.out; first | omega | exact Nat.le_refl _⟩, ⟨by (with_reducible repeat (first | refine blk_drewN ?_ _ | refine blk_drew ?_ | refine blk_alloc ?_ _)); exact BK208.out⟩, ⟨by repeat (first | (with_reducible first | exact HB.out | apply below_alloc | apply pw_below_drewN | apply below_drew1 | refine below_set ?_ GE208.out) | exact HB.out)⟩⟩
           ·rw [if_neg c35] at H
            have c35b0 : ((wrap64 (a0_4)) == 0) = false := beq_eq_false_iff_ne.mpr c35
            have c35b1 : ((wrap64 (a0_4)) != 0) = true := bne_iff_ne.mpr c35
            have H' := Aside0.mk H
            clear H
            go_wp2
            repeat (go_quiet (fail); try go_wp2)
            go_meet
            case rel => exact ⟨_, (true), (by first | rfl | (simp; done) | (simp [*]; done)), H', ⟨by have := HJ1.out; have := HJ6.out; first | omega | exact Nat.le_refl _⟩, ⟨by (with_reducible repeat (first | refine blk_drewN ?_ _ | refine blk_drew ?_ | refine blk_alloc ?_ _)); exact BK208.out⟩, ⟨by repeat (first | (with_reducible first | exact HB.out | apply below_alloc | apply pw_below_drewN | apply below_drew1 | refine below_set ?_ GE208.out) | exact HB.out)⟩⟩
          ·rw [if_neg c34] at H
           have c34b0 : decide ((wrap64 (a0_0)) ≤ 6) = false := decide_eq_false c34
           clear c34
           by_cases c38 : (wrap64 (a0_0)) = 3
           ·rw [if_pos c38] at H
            have c38b0 : ((wrap64 (a0_0)) == 3) = true := beq_iff_eq.mpr c38
            have c38b1 : ((wrap64 (a0_0)) != 3) = false := bne_eq_false_iff_eq.mpr c38
            clear c38
            by_cases c39 : (wrap64 (a0_4)) < 1
            ·rw [if_pos c39] at H
             have c39b0 : decide ((wrap64 (a0_4)) < 1) = true := decide_eq_true c39
             clear c39
             have H' := Aside0.mk H
             clear H
             go_wp2
             repeat (go_quiet (fail); try go_wp2)
             go_meet
             case rel => exact ⟨_, (true), (by first | rfl | (simp; done) | (simp [*]; done)), H', ⟨by have := HJ1.out; have := HJ6.out; first | omega | exact Nat.le_refl _⟩, ⟨by (with_reducible repeat (first | refine blk_drewN ?_ _ | refine blk_drew ?_ | refine blk_alloc ?_ _)); exact BK208.out⟩, ⟨by repeat (first | (with_reducible first | exact HB.out | apply below_alloc | apply pw_below_drewN | apply below_drew1 | refine below_set ?_ GE208.out) | exact HB.out)⟩⟩
            ·rw [if_neg c39] at H
             have c39b0 : decide ((wrap64 (a0_4)) < 1) = false := decide_eq_false c39
             clear c39
             have H' := Aside0.mk H
             clear H
             go_wp2
             repeat (go_quiet (fail); try go_wp2)
             go_meet
             case rel => exact ⟨_, (decide ((wrap64 (a0_4)) > 3)), (by first | rfl | (simp; done) | (simp [*]; done)), H', ⟨by have := HJ1.out; have := HJ6.out; first | omega | exact Nat.le_refl _⟩, ⟨by (with_reducible repeat (first | refine blk_drewN ?_ _ | refine blk_drew ?_ | refine blk_alloc ?_ _)); exact BK208.out⟩, ⟨by repeat (first | (with_reducible first | exact HB.out | apply below_alloc | apply pw_below_drewN | apply below_drew1 | refine below_set ?_ GE208.out) | exact HB.out)⟩⟩
           ·rw [if_neg c38] at H
            have c38b0 : ((wrap64 (a0_0)) == 3) = false := beq_eq_false_iff_ne.mpr c38
            have c38b1 : ((wrap64 (a0_0)) != 3) = true := bne_iff_ne.mpr c38
            have H' := Aside0.mk H
            clear H
            go_wp2
            repeat (go_quiet (fail); try go_wp2)
            go_meet
            case rel => exact ⟨_, (false), (by first | rfl | (simp; done) | (simp [*]; done)), H', ⟨by have := HJ1.out; have := HJ6.out; first | omega | exact Nat.le_refl _⟩, ⟨by (with_reducible repeat (first | refine blk_drewN ?_ _ | refine blk_drew ?_ | refine blk_alloc ?_ _)); exact BK208.out⟩, ⟨by repeat (first | (with_reducible first | exact HB.out | apply below_alloc | apply pw_below_drewN | apply below_drew1 | refine below_set ?_ GE208.out) | exact HB.out)⟩⟩
         ·rw [if_neg c33] at H
          have c33b0 : decide (4 ≤ (wrap64 (a0_0))) = false := decide_eq_false c33
          clear c33
          by_cases c40 : (wrap64 (a0_0)) = 3
          ·rw [if_pos c40] at H
           have c40b0 : ((wrap64 (a0_0)) == 3) = true := beq_iff_eq.mpr c40
           have c40b1 : ((wrap64 (a0_0)) != 3) = false := bne_eq_false_iff_eq.mpr c40
           clear c40
           by_cases c41 : (wrap64 (a0_4)) < 1
           ·rw [if_pos c41] at H
            have c41b0 : decide ((wrap64 (a0_4)) < 1) = true := decide_eq_true c41
            clear c41
            have H' := Aside0.mk H
            clear H
            go_wp2
            repeat (go_quiet (fail); try go_wp2)
            go_meet
            case rel => exact ⟨_, (true), (by first | rfl | (simp; done) | (simp [*]; done)), H', ⟨by have := HJ1.out; have := HJ6.out; first | omega | exact Nat.le_refl _⟩, ⟨by (with_reducible repeat (first | refine blk_drewN ?_ _ | refine blk_drew ?_ | refine blk_alloc ?_ _)); exact BK208.out⟩, ⟨by repeat (first | (with_reducible first | exact HB.out | apply below_alloc | apply pw_below_drewN | apply below_drew1 | refine below_set ?_ GE208.out) | exact HB.out)⟩⟩
           ·rw [if_neg c41] at H
            have c41b0 : decide ((wrap64 (a0_4)) < 1) = false := decide_eq_false c41
            clear c41
            have H' := Aside0.mk H
            clear H
            go_wp2
            repeat (go_quiet (fail); try go_wp2)
            go_meet
            case rel => exact ⟨_, (decide ((wrap64 (a0_4)) > 3)), (by first | rfl | (simp; done) | (simp [*]; done)), H', ⟨by have := HJ1.out; have := HJ6.out; first | omega | exact Nat.le_refl _⟩, ⟨by (with_reducible repeat (first | refine blk_drewN ?_ _ | refine blk_drew ?_ | refine blk_alloc ?_ _)); exact BK208.out⟩, ⟨by repeat (first | (with_reducible first | exact HB.out | apply below_alloc | apply pw_below_drewN | apply below_drew1 | refine below_set ?_ GE208.out) | exact HB.out)⟩⟩
          ·rw [if_neg c40] at H
           have c40b0 : ((wrap64 (a0_0)) == 3) = false := beq_eq_false_iff_ne.mpr c40
           have c40b1 : ((wrap64 (a0_0)) != 3) = true := bne_iff_ne.mpr c40
           have H' := Aside0.mk H
           clear H
           go_wp2
           repeat (go_quiet (fail); try go_wp2)
           go_meet
           case rel => exact ⟨_, (false), (by first | rfl | (simp; done) | (simp [*]; done)), H', ⟨by have := HJ1.out; have := HJ6.out; first | omega | exact Nat.le_refl _⟩, ⟨by (with_reducible repeat (first | refine blk_drewN ?_ _ | refine blk_drew ?_ | refine blk_alloc ?_ _)); exact BK208.out⟩, ⟨by repeat (first | (with_reducible first | exact HB.out | apply below_alloc | apply pw_below_drewN | apply below_drew1 | refine below_set ?_ GE208.out) | exact HB.out)⟩⟩
      case rest =>
       clear HC12
       try clear c1
       try clear c2
       try clear p2
       try clear c3
       try clear c4
       try clear c5
       try clear c5b0
       try clear c6
       try clear p6
       try clear c9
       try clear c9b0
       try clear c13
       try clear c13b0
       try clear c14
       try clear c14b0
       try clear c15
       try clear c15b0
       try clear c16
       try clear c16b0
       try clear c17
       try clear c17b0
       try clear c17b1
       try clear c18
       try clear c18b0
       try clear c18b1
       try clear c19
       try clear c19b0
       try clear c20
       try clear c20b0
       try clear c21
       try clear c21b0
       try clear c22
       try clear c22b0
       try clear c22b1
       try clear c23
       try clear c23b0
       try clear c23b1
       try clear c24
       try clear c24b0
       try clear c25
       try clear c25b0
       try clear c25b1
       try clear c26
       try clear c26b0
       try clear c27
       try clear c27b0
       try clear c27b1
       try clear c28
       try clear c28b0
       try clear c29
       try clear c29b0
       try clear c30
       try clear c30b0
       try clear c30b1
       try clear c31
       try clear c31b0
       try clear c31b1
       try clear c32
       try clear c32b0
       try clear c33
       try clear c33b0
       try clear c34
       try clear c34b0
       try clear c35
       try clear c35b0
       try clear c35b1
       try clear c36
       try clear c36b0
       try clear c36b1
       try clear c37
       try clear c37b0
       try clear c38
       try clear c38b0
       try clear c38b1
       try clear c39
       try clear c39b0
       try clear c40
       try clear c40b0
       try clear c40b1
       try clear c41
       try clear c41b0
       try clear hcz10_0
       try clear hcz10_1
       try clear hcz10_2
       try clear hcz10_3
       try clear hcz10_4
       try clear hcz11_0
       try clear hcz11_1
       try clear hcz11_2
       try clear hcz11_3
       try clear hcz11_4
       try clear hcz4_0
       try clear hcz4_1
       try clear hcz4_2
       try clear hcz4_3
       try clear hcz4_4
       try clear hcz8_0
       try clear hcz8_1
       try clear hcz8_2
       try clear hcz8_3
       try clear hcz8_4
       try clear hfz10_0
       try clear hfz10_1
       try clear hfz10_2
       try clear hfz10_3
       try clear hfz10_4
       try clear hfz11_0
       try clear hfz11_1
       try clear hfz11_2
       try clear hfz11_3
       try clear hfz11_4
       try clear hfz4_0
       try clear hfz4_1
       try clear hfz4_2
       try clear hfz4_3
       try clear hfz4_4
       try clear hfz8_0
       try clear hfz8_1
       try clear hfz8_2
       try clear hfz8_3
       try clear hfz8_4
       try clear p2
       try clear p6
       obtain ⟨kq, x67_11, rfl, HA, HJ11, BK208, HB⟩ := hcut
       cases kq with
       | zero => exact absurd HA.out (by simp [stillageref02_Check.j2])
       | succ kj11 =>
        have H := HA.out
        clear HA
        simp only [stillageref02_Check.j2] at H
        have HC42 := Aside0.mk H
        clear H
        go_upto_if 67 with (fail)
        repeat (go_quiet (fail); go_upto_if 67 with (fail))
        go_cut [6] (fun v6 wc => ∃ (kq : Nat) (x6_41 : Bool), v6 = .bool x6_41 ∧ Aside0 (stillageref02_Check.j3 kq (wrap64 (a0_0)) (wrap64 (a0_3)) (wrap64 (a0_4)) x6_41 a0_0 a0_1 a0_2 a0_3 a0_4 = some r) ∧ Aside0 (kq ≤ kj11) ∧ Aside0 (wc.heap[gb208]? = some (.cells #[.int .u8 a0_0, .int .u16 a0_1, .int .u16 a0_2, .int .u16 a0_3, .int .u16 a0_4] 24 (0, 0))) ∧ Aside0 (Below w.heap.size w wc))
        case first =>
         have H := HC42.out
         clear HC42
         by_cases c43 : x67_11 = true
         ·subst c43
          have H1 : (stillageref02_Check.j3 kj11 (wrap64 (a0_0)) (wrap64 (a0_3)) (wrap64 (a0_4)) true a0_0 a0_1 a0_2 a0_3 a0_4) = some r := by rw [if_pos rfl] at H; exact H
          clear H
          have H := H1
          clear H1
          have H' := Aside0.mk H
          clear H
          go_wp2
          repeat (go_quiet (fail); try go_wp2)
          go_meet
          case rel => exact ⟨_, (true), (by first | rfl | (simp; done) | (simp [*]; done)), H', ⟨by have := HJ1.out; have := HJ6.out; have := HJ11.out; first | omega | exact Nat.le_refl _⟩, ⟨by (with_reducible repeat (first | refine blk_drewN ?_ _ | refine blk_drew ?_ | refine blk_alloc ?_ _)); exact BK208.out⟩, ⟨by repeat (first | (with_reducible first | exact HB.out | apply below_alloc | apply pw_below_drewN | apply below_drew1 | refine below_set ?_ GE208.out) | exact HB.out)⟩⟩
         ·replace c43 := Bool.eq_false_iff.mpr c43
          subst c43
          have H1 : (stillageref02_Check.j3 kj11 (wrap64 (a0_0)) (wrap64 (a0_3)) (wrap64 (a0_4)) x6_6 a0_0 a0_1 a0_2 a0_3 a0_4) = some r := by rw [if_neg (show ¬ (false = true) by decide)] at H; exact H
          clear H
          have H := H1
          clear H1
          have H' := Aside0.mk H
          clear H
          go_wp2
          repeat (go_quiet (fail); try go_wp2)
          go_meet
          case rel => exact ⟨_, (x6_6), (by first | rfl | (simp; done) | (simp [*]; done)), H', ⟨by have := HJ1.out; have := HJ6.out; have := HJ11.out; first | omega | exact Nat.le_refl _⟩, ⟨by (with_reducible repeat (first | refine blk_drewN ?_ _ | refine blk_drew ?_ | refine blk_alloc ?_ _)); exact BK208.out⟩, ⟨by repeat (first | (with_reducible first | exact HB.out | apply below_alloc | apply pw_below_drewN | apply below_drew1 | refine below_set ?_ GE208.out) | exact HB.out)⟩⟩
        case rest =>
         clear HC42
         try clear c1
         try clear c2
         try clear p2
         try clear c3
         try clear c4
         try clear c5
         try clear c5b0
         try clear c6
         try clear p6
         try clear c9
         try clear c9b0
         try clear c13
         try clear c13b0
         try clear c14
         try clear c14b0
         try clear c15
         try clear c15b0
         try clear c16
         try clear c16b0
         try clear c17
         try clear c17b0
         try clear c17b1
         try clear c18
         try clear c18b0
         try clear c18b1
         try clear c19
         try clear c19b0
         try clear c20
         try clear c20b0
         try clear c21
         try clear c21b0
         try clear c22
         try clear c22b0
         try clear c22b1
         try clear c23
         try clear c23b0
         try clear c23b1
         try clear c24
         try clear c24b0
         try clear c25
         try clear c25b0
         try clear c25b1
         try clear c26
         try clear c26b0
         try clear c27
         try clear c27b0
         try clear c27b1
         try clear c28
         try clear c28b0
         try clear c29
         try clear c29b0
         try clear c30
         try clear c30b0
         try clear c30b1
         try clear c31
         try clear c31b0
         try clear c31b1
         try clear c32
         try clear c32b0
         try clear c33
         try clear c33b0
         try clear c34
         try clear c34b0
         try clear c35
         try clear c35b0
         try clear c35b1
         try clear c36
         try clear c36b0
         try clear c36b1
         try clear c37
         try clear c37b0
         try clear c38
         try clear c38b0
         try clear c38b1
         try clear c39
         try clear c39b0
         try clear c40
         try clear c40b0
         try clear c40b1
         try clear c41
         try clear c41b0
         try clear c43
         try clear hcz10_0
         try clear hcz10_1
         try clear hcz10_2
         try clear hcz10_3
         try clear hcz10_4
         try clear hcz11_0
         try clear hcz11_1
         try clear hcz11_2
         try clear hcz11_3
         try clear hcz11_4
         try clear hcz4_0
         try clear hcz4_1
         try clear hcz4_2
         try clear hcz4_3
         try clear hcz4_4
         try clear hcz8_0
         try clear hcz8_1
         try clear hcz8_2
         try clear hcz8_3
         try clear hcz8_4
         try clear hfz10_0
         try clear hfz10_1
         try clear hfz10_2
         try clear hfz10_3
         try clear hfz10_4
         try clear hfz11_0
         try clear hfz11_1
         try clear hfz11_2
         try clear hfz11_3
         try clear hfz11_4
         try clear hfz4_0
         try clear hfz4_1
         try clear hfz4_2
         try clear hfz4_3
         try clear hfz4_4
         try clear hfz8_0
         try clear hfz8_1
         try clear hfz8_2
         try clear hfz8_3
         try clear hfz8_4
         try clear p2
         try clear p6
         obtain ⟨kq, x6_41, rfl, HA, HJ41, BK208, HB⟩ := hcut
         cases kq with
         | zero => exact absurd HA.out (by simp [stillageref02_Check.j3])
         | succ kj41 =>
          have H := HA.out
          clear HA
          simp only [stillageref02_Check.j3] at H
          have HC44 := Aside0.mk H
          clear H
          go_upto_region 8 with (fail)
          repeat (go_quiet (fail); go_upto_region 8 with (fail))
          go_cut [98] (fun v98 wc => ∃ (kq : Nat) (x98_43 : Bool), v98 = .bool x98_43 ∧ Aside0 (stillageref02_Check.j4 kq x6_41 x98_43 = some r) ∧ Aside0 (kq ≤ kj41) ∧ Aside0 (wc.heap[gb208]? = some (.cells #[.int .u8 a0_0, .int .u16 a0_1, .int .u16 a0_2, .int .u16 a0_3, .int .u16 a0_4] 24 (0, 0))) ∧ Aside0 (Below w.heap.size w wc))
          case first =>
           have H := HC44.out
           clear HC44
           by_cases c45 : (wrap64 (a0_0)) ≥ 4
           ·rw [if_pos c45] at H
            have c45b0 : decide (4 ≤ (wrap64 (a0_0))) = true := decide_eq_true c45
            clear c45
            (first | rw [c45b0] | (simp only [i64_w, i32_w]; rw [c45b0]) | skip)
            by_cases c46 : (wrap64 (a0_0)) ≤ 6
            ·rw [if_pos c46] at H
             have c46b0 : decide ((wrap64 (a0_0)) ≤ 6) = true := decide_eq_true c46
             clear c46
             by_cases c47 : (wrap64 (a0_3)) = 0
             ·rw [if_pos c47] at H
              have c47b0 : ((wrap64 (a0_3)) == 0) = true := beq_iff_eq.mpr c47
              have c47b1 : ((wrap64 (a0_3)) != 0) = false := bne_eq_false_iff_eq.mpr c47
              clear c47
              by_cases c48 : (wrap64 (a0_0)) = 4
              ·rw [if_pos c48] at H
               have c48b0 : ((wrap64 (a0_0)) == 4) = true := beq_iff_eq.mpr c48
               have c48b1 : ((wrap64 (a0_0)) != 4) = false := bne_eq_false_iff_eq.mpr c48
               clear c48
               by_cases c49 : a0_2 = 0
               ·rw [if_pos c49] at H
                have c49b0 : (a0_2 == 0) = true := beq_iff_eq.mpr c49
                have c49b1 : (a0_2 != 0) = false := bne_eq_false_iff_eq.mpr c49
                clear c49
                by_cases c50 : (wrap64 (a0_0)) = 7
                ·rw [if_pos c50] at H
                 have c50b0 : ((wrap64 (a0_0)) == 7) = true := beq_iff_eq.mpr c50
                 have c50b1 : ((wrap64 (a0_0)) != 7) = false := bne_eq_false_iff_eq.mpr c50
                 clear c50
                 have H' := Aside0.mk H
                 clear H
                 have hcz51_0 : wc.cell? ⟨gb208, 0, none⟩ = some (.int .u8 a0_0) := (blk_cell BK208.out 0).trans rfl
                 have hcz51_1 : wc.cell? ⟨gb208, 1, none⟩ = some (.int .u16 a0_1) := (blk_cell BK208.out 1).trans rfl
                 have hcz51_2 : wc.cell? ⟨gb208, 2, none⟩ = some (.int .u16 a0_2) := (blk_cell BK208.out 2).trans rfl
                 have hcz51_3 : wc.cell? ⟨gb208, 3, none⟩ = some (.int .u16 a0_3) := (blk_cell BK208.out 3).trans rfl
                 have hcz51_4 : wc.cell? ⟨gb208, 4, none⟩ = some (.int .u16 a0_4) := (blk_cell BK208.out 4).trans rfl
                 have hfz51_0 := blk_frozen BK208.out 0
                 have hfz51_1 := blk_frozen BK208.out 1
                 have hfz51_2 := blk_frozen BK208.out 2
                 have hfz51_3 := blk_frozen BK208.out 3
                 have hfz51_4 := blk_frozen BK208.out 4
                 go_wp2
                 repeat (go_quiet (fail); try go_wp2)
                 go_meet
                 case rel => exact ⟨_, (decide ((wrap64 (a0_4)) > 30)), (by first | rfl | (simp; done) | (simp [*]; done)), H', ⟨by have := HJ1.out; have := HJ6.out; have := HJ11.out; have := HJ41.out; first | omega | exact Nat.le_refl _⟩, ⟨by (with_reducible repeat (first | refine blk_drewN ?_ _ | refine blk_drew ?_ | refine blk_alloc ?_ _)); exact BK208.out⟩, ⟨by repeat (first | (with_reducible first | exact HB.out | apply below_alloc | apply pw_below_drewN | apply below_drew1 | refine below_set ?_ GE208.out) | exact HB.out)⟩⟩
                ·rw [if_neg c50] at H
                 have c50b0 : ((wrap64 (a0_0)) == 7) = false := beq_eq_false_iff_ne.mpr c50
                 have c50b1 : ((wrap64 (a0_0)) != 7) = true := bne_iff_ne.mpr c50
                 have H' := Aside0.mk H
                 clear H
                 have hcz52_0 : wc.cell? ⟨gb208, 0, none⟩ = some (.int .u8 a0_0) := (blk_cell BK208.out 0).trans rfl
                 have hcz52_1 : wc.cell? ⟨gb208, 1, none⟩ = some (.int .u16 a0_1) := (blk_cell BK208.out 1).trans rfl
                 have hcz52_2 : wc.cell? ⟨gb208, 2, none⟩ = some (.int .u16 a0_2) := (blk_cell BK208.out 2).trans rfl
                 have hcz52_3 : wc.cell? ⟨gb208, 3, none⟩ = some (.int .u16 a0_3) := (blk_cell BK208.out 3).trans rfl
                 have hcz52_4 : wc.cell? ⟨gb208, 4, none⟩ = some (.int .u16 a0_4) := (blk_cell BK208.out 4).trans rfl
                 have hfz52_0 := blk_frozen BK208.out 0
                 have hfz52_1 := blk_frozen BK208.out 1
                 have hfz52_2 := blk_frozen BK208.out 2
                 have hfz52_3 := blk_frozen BK208.out 3
                 have hfz52_4 := blk_frozen BK208.out 4
                 go_wp2
                 repeat (go_quiet (fail); try go_wp2)
                 go_meet
                 case rel => exact ⟨_, (false), (by first | rfl | (simp; done) | (simp [*]; done)), H', ⟨by have := HJ1.out; have := HJ6.out; have := HJ11.out; have := HJ41.out; first | omega | exact Nat.le_refl _⟩, ⟨by (with_reducible repeat (first | refine blk_drewN ?_ _ | refine blk_drew ?_ | refine blk_alloc ?_ _)); exact BK208.out⟩, ⟨by repeat (first | (with_reducible first | exact HB.out | apply below_alloc | apply pw_below_drewN | apply below_drew1 | refine below_set ?_ GE208.out) | exact HB.out)⟩⟩
               ·rw [if_neg c49] at H
                have c49b0 : (a0_2 == 0) = false := beq_eq_false_iff_ne.mpr c49
                have c49b1 : (a0_2 != 0) = true := bne_iff_ne.mpr c49
                have H' := Aside0.mk H
                clear H
                have hcz53_0 : wc.cell? ⟨gb208, 0, none⟩ = some (.int .u8 a0_0) := (blk_cell BK208.out 0).trans rfl
                have hcz53_1 : wc.cell? ⟨gb208, 1, none⟩ = some (.int .u16 a0_1) := (blk_cell BK208.out 1).trans rfl
                have hcz53_2 : wc.cell? ⟨gb208, 2, none⟩ = some (.int .u16 a0_2) := (blk_cell BK208.out 2).trans rfl
                have hcz53_3 : wc.cell? ⟨gb208, 3, none⟩ = some (.int .u16 a0_3) := (blk_cell BK208.out 3).trans rfl
                have hcz53_4 : wc.cell? ⟨gb208, 4, none⟩ = some (.int .u16 a0_4) := (blk_cell BK208.out 4).trans rfl
                have hfz53_0 := blk_frozen BK208.out 0
                have hfz53_1 := blk_frozen BK208.out 1
                have hfz53_2 := blk_frozen BK208.out 2
                have hfz53_3 := blk_frozen BK208.out 3
                have hfz53_4 := blk_frozen BK208.out 4
                go_wp2
                repeat (go_quiet (fail); try go_wp2)
                go_meet
                case rel => exact ⟨_, (true), (by first | rfl | (simp; done) | (simp [*]; done)), H', ⟨by have := HJ1.out; have := HJ6.out; have := HJ11.out; have := HJ41.out; first | omega | exact Nat.le_refl _⟩, ⟨by (with_reducible repeat (first | refine blk_drewN ?_ _ | refine blk_drew ?_ | refine blk_alloc ?_ _)); exact BK208.out⟩, ⟨by repeat (first | (with_reducible first | exact HB.out | apply below_alloc | apply pw_below_drewN | apply below_drew1 | refine below_set ?_ GE208.out) | exact HB.out)⟩⟩
              ·rw [if_neg c48] at H
               have c48b0 : ((wrap64 (a0_0)) == 4) = false := beq_eq_false_iff_ne.mpr c48
               have c48b1 : ((wrap64 (a0_0)) != 4) = true := bne_iff_ne.mpr c48
               by_cases c54 : (wrap64 (a0_0)) = 5
               ·rw [if_pos c54] at H
                have c54b0 : ((wrap64 (a0_0)) == 5) = true := beq_iff_eq.mpr c54
                have c54b1 : ((wrap64 (a0_0)) != 5) = false := bne_eq_false_iff_eq.mpr c54
                clear c54
                by_cases c55 : a0_2 = 0
                ·rw [if_pos c55] at H
                 have c55b0 : (a0_2 == 0) = true := beq_iff_eq.mpr c55
                 have c55b1 : (a0_2 != 0) = false := bne_eq_false_iff_eq.mpr c55
                 clear c55
                 by_cases c56 : (wrap64 (a0_0)) = 7
                 ·rw [if_pos c56] at H
                  have c56b0 : ((wrap64 (a0_0)) == 7) = true := beq_iff_eq.mpr c56
                  have c56b1 : ((wrap64 (a0_0)) != 7) = false := bne_eq_false_iff_eq.mpr c56
                  clear c56
                  have H' := Aside0.mk H
                  clear H
                  have hcz57_0 : wc.cell? ⟨gb208, 0, none⟩ = some (.int .u8 a0_0) := (blk_cell BK208.out 0).trans rfl
                  have hcz57_1 : wc.cell? ⟨gb208, 1, none⟩ = some (.int .u16 a0_1) := (blk_cell BK208.out 1).trans rfl
                  have hcz57_2 : wc.cell? ⟨gb208, 2, none⟩ = some (.int .u16 a0_2) := (blk_cell BK208.out 2).trans rfl
                  have hcz57_3 : wc.cell? ⟨gb208, 3, none⟩ = some (.int .u16 a0_3) := (blk_cell BK208.out 3).trans rfl
                  have hcz57_4 : wc.cell? ⟨gb208, 4, none⟩ = some (.int .u16 a0_4) := (blk_cell BK208.out 4).trans rfl
                  have hfz57_0 := blk_frozen BK208.out 0
                  have hfz57_1 := blk_frozen BK208.out 1
                  have hfz57_2 := blk_frozen BK208.out 2
                  have hfz57_3 := blk_frozen BK208.out 3
                  have hfz57_4 := blk_frozen BK208.out 4
                  go_wp2
                  repeat (go_quiet (fail); try go_wp2)
                  go_meet
                  case rel => exact ⟨_, (decide ((wrap64 (a0_4)) > 30)), (by first | rfl | (simp; done) | (simp [*]; done)), H', ⟨by have := HJ1.out; have := HJ6.out; have := HJ11.out; have := HJ41.out; first | omega | exact Nat.le_refl _⟩, ⟨by (with_reducible repeat (first | refine blk_drewN ?_ _ | refine blk_drew ?_ | refine blk_alloc ?_ _)); exact BK208.out⟩, ⟨by repeat (first | (with_reducible first | exact HB.out | apply below_alloc | apply pw_below_drewN | apply below_drew1 | refine below_set ?_ GE208.out) | exact HB.out)⟩⟩
                 ·rw [if_neg c56] at H
                  have c56b0 : ((wrap64 (a0_0)) == 7) = false := beq_eq_false_iff_ne.mpr c56
                  have c56b1 : ((wrap64 (a0_0)) != 7) = true := bne_iff_ne.mpr c56
                  have H' := Aside0.mk H
                  clear H
                  have hcz58_0 : wc.cell? ⟨gb208, 0, none⟩ = some (.int .u8 a0_0) := (blk_cell BK208.out 0).trans rfl
                  have hcz58_1 : wc.cell? ⟨gb208, 1, none⟩ = some (.int .u16 a0_1) := (blk_cell BK208.out 1).trans rfl
                  have hcz58_2 : wc.cell? ⟨gb208, 2, none⟩ = some (.int .u16 a0_2) := (blk_cell BK208.out 2).trans rfl
                  have hcz58_3 : wc.cell? ⟨gb208, 3, none⟩ = some (.int .u16 a0_3) := (blk_cell BK208.out 3).trans rfl
                  have hcz58_4 : wc.cell? ⟨gb208, 4, none⟩ = some (.int .u16 a0_4) := (blk_cell BK208.out 4).trans rfl
                  have hfz58_0 := blk_frozen BK208.out 0
                  have hfz58_1 := blk_frozen BK208.out 1
                  have hfz58_2 := blk_frozen BK208.out 2
                  have hfz58_3 := blk_frozen BK208.out 3
                  have hfz58_4 := blk_frozen BK208.out 4
                  go_wp2
                  repeat (go_quiet (fail); try go_wp2)
                  go_meet
                  case rel => exact ⟨_, (false), (by first | rfl | (simp; done) | (simp [*]; done)), H', ⟨by have := HJ1.out; have := HJ6.out; have := HJ11.out; have := HJ41.out; first | omega | exact Nat.le_refl _⟩, ⟨by (with_reducible repeat (first | refine blk_drewN ?_ _ | refine blk_drew ?_ | refine blk_alloc ?_ _)); exact BK208.out⟩, ⟨by repeat (first | (with_reducible first | exact HB.out | apply below_alloc | apply pw_below_drewN | apply below_drew1 | refine below_set ?_ GE208.out) | exact HB.out)⟩⟩
                ·rw [if_neg c55] at H
                 have c55b0 : (a0_2 == 0) = false := beq_eq_false_iff_ne.mpr c55
                 have c55b1 : (a0_2 != 0) = true := bne_iff_ne.mpr c55
                 have H' := Aside0.mk H
                 clear H
                 have hcz59_0 : wc.cell? ⟨gb208, 0, none⟩ = some (.int .u8 a0_0) := (blk_cell BK208.out 0).trans rfl
                 have hcz59_1 : wc.cell? ⟨gb208, 1, none⟩ = some (.int .u16 a0_1) := (blk_cell BK208.out 1).trans rfl
                 have hcz59_2 : wc.cell? ⟨gb208, 2, none⟩ = some (.int .u16 a0_2) := (blk_cell BK208.out 2).trans rfl
                 have hcz59_3 : wc.cell? ⟨gb208, 3, none⟩ = some (.int .u16 a0_3) := (blk_cell BK208.out 3).trans rfl
                 have hcz59_4 : wc.cell? ⟨gb208, 4, none⟩ = some (.int .u16 a0_4) := (blk_cell BK208.out 4).trans rfl
                 have hfz59_0 := blk_frozen BK208.out 0
                 have hfz59_1 := blk_frozen BK208.out 1
                 have hfz59_2 := blk_frozen BK208.out 2
                 have hfz59_3 := blk_frozen BK208.out 3
                 have hfz59_4 := blk_frozen BK208.out 4
                 go_wp2
                 repeat (go_quiet (fail); try go_wp2)
                 go_meet
                 case rel => exact ⟨_, (true), (by first | rfl | (simp; done) | (simp [*]; done)), H', ⟨by have := HJ1.out; have := HJ6.out; have := HJ11.out; have := HJ41.out; first | omega | exact Nat.le_refl _⟩, ⟨by (with_reducible repeat (first | refine blk_drewN ?_ _ | refine blk_drew ?_ | refine blk_alloc ?_ _)); exact BK208.out⟩, ⟨by repeat (first | (with_reducible first | exact HB.out | apply below_alloc | apply pw_below_drewN | apply below_drew1 | refine below_set ?_ GE208.out) | exact HB.out)⟩⟩
               ·rw [if_neg c54] at H
                have c54b0 : ((wrap64 (a0_0)) == 5) = false := beq_eq_false_iff_ne.mpr c54
                have c54b1 : ((wrap64 (a0_0)) != 5) = true := bne_iff_ne.mpr c54
                by_cases c60 : (wrap64 (a0_0)) = 7
                ·rw [if_pos c60] at H
                 have c60b0 : ((wrap64 (a0_0)) == 7) = true := beq_iff_eq.mpr c60
                 have c60b1 : ((wrap64 (a0_0)) != 7) = false := bne_eq_false_iff_eq.mpr c60
                 clear c60
                 have H' := Aside0.mk H
                 clear H
                 go_wp2
                 repeat (go_quiet (fail); try go_wp2)
                 go_meet
                 case rel => exact ⟨_, (decide ((wrap64 (a0_4)) > 30)), (by first | rfl | (simp; done) | (simp [*]; done)), H', ⟨by have := HJ1.out; have := HJ6.out; have := HJ11.out; have := HJ41.out; first | omega | exact Nat.le_refl _⟩, ⟨by (with_reducible repeat (first | refine blk_drewN ?_ _ | refine blk_drew ?_ | refine blk_alloc ?_ _)); exact BK208.out⟩, ⟨by repeat (first | (with_reducible first | exact HB.out | apply below_alloc | apply pw_below_drewN | apply below_drew1 | refine below_set ?_ GE208.out) | exact HB.out)⟩⟩
                ·rw [if_neg c60] at H
                 have c60b0 : ((wrap64 (a0_0)) == 7) = false := beq_eq_false_iff_ne.mpr c60
                 have c60b1 : ((wrap64 (a0_0)) != 7) = true := bne_iff_ne.mpr c60
                 have H' := Aside0.mk H
                 clear H
                 go_wp2
                 repeat (go_quiet (fail); try go_wp2)
                 go_meet
                 case rel => exact ⟨_, (false), (by first | rfl | (simp; done) | (simp [*]; done)), H', ⟨by have := HJ1.out; have := HJ6.out; have := HJ11.out; have := HJ41.out; first | omega | exact Nat.le_refl _⟩, ⟨by (with_reducible repeat (first | refine blk_drewN ?_ _ | refine blk_drew ?_ | refine blk_alloc ?_ _)); exact BK208.out⟩, ⟨by repeat (first | (with_reducible first | exact HB.out | apply below_alloc | apply pw_below_drewN | apply below_drew1 | refine below_set ?_ GE208.out) | exact HB.out)⟩⟩
             ·rw [if_neg c47] at H
              have c47b0 : ((wrap64 (a0_3)) == 0) = false := beq_eq_false_iff_ne.mpr c47
              have c47b1 : ((wrap64 (a0_3)) != 0) = true := bne_iff_ne.mpr c47
              have H' := Aside0.mk H
              clear H
              go_wp2
              repeat (go_quiet (fail); try go_wp2)
              go_meet
              case rel => exact ⟨_, (true), (by first | rfl | (simp; done) | (simp [*]; done)), H', ⟨by have := HJ1.out; have := HJ6.out; have := HJ11.out; have := HJ41.out; first | omega | exact Nat.le_refl _⟩, ⟨by (with_reducible repeat (first | refine blk_drewN ?_ _ | refine blk_drew ?_ | refine blk_alloc ?_ _)); exact BK208.out⟩, ⟨by repeat (first | (with_reducible first | exact HB.out | apply below_alloc | apply pw_below_drewN | apply below_drew1 | refine below_set ?_ GE208.out) | exact HB.out)⟩⟩
            ·rw [if_neg c46] at H
             have c46b0 : decide ((wrap64 (a0_0)) ≤ 6) = false := decide_eq_false c46
             clear c46
             by_cases c61 : (wrap64 (a0_0)) = 4
             ·rw [if_pos c61] at H
              have c61b0 : ((wrap64 (a0_0)) == 4) = true := beq_iff_eq.mpr c61
              have c61b1 : ((wrap64 (a0_0)) != 4) = false := bne_eq_false_iff_eq.mpr c61
              clear c61
              by_cases c62 : a0_2 = 0
              ·rw [if_pos c62] at H
               have c62b0 : (a0_2 == 0) = true := beq_iff_eq.mpr c62
               have c62b1 : (a0_2 != 0) = false := bne_eq_false_iff_eq.mpr c62
               clear c62
               by_cases c63 : (wrap64 (a0_0)) = 7
               ·rw [if_pos c63] at H
                have c63b0 : ((wrap64 (a0_0)) == 7) = true := beq_iff_eq.mpr c63
                have c63b1 : ((wrap64 (a0_0)) != 7) = false := bne_eq_false_iff_eq.mpr c63
                clear c63
                have H' := Aside0.mk H
                clear H
                have hcz64_0 : wc.cell? ⟨gb208, 0, none⟩ = some (.int .u8 a0_0) := (blk_cell BK208.out 0).trans rfl
                have hcz64_1 : wc.cell? ⟨gb208, 1, none⟩ = some (.int .u16 a0_1) := (blk_cell BK208.out 1).trans rfl
                have hcz64_2 : wc.cell? ⟨gb208, 2, none⟩ = some (.int .u16 a0_2) := (blk_cell BK208.out 2).trans rfl
                have hcz64_3 : wc.cell? ⟨gb208, 3, none⟩ = some (.int .u16 a0_3) := (blk_cell BK208.out 3).trans rfl
                have hcz64_4 : wc.cell? ⟨gb208, 4, none⟩ = some (.int .u16 a0_4) := (blk_cell BK208.out 4).trans rfl
                have hfz64_0 := blk_frozen BK208.out 0
                have hfz64_1 := blk_frozen BK208.out 1
                have hfz64_2 := blk_frozen BK208.out 2
                have hfz64_3 := blk_frozen BK208.out 3
                have hfz64_4 := blk_frozen BK208.out 4
                go_wp2
                repeat (go_quiet (fail); try go_wp2)
                go_meet
                case rel => exact ⟨_, (decide ((wrap64 (a0_4)) > 30)), (by first | rfl | (simp; done) | (simp [*]; done)), H', ⟨by have := HJ1.out; have := HJ6.out; have := HJ11.out; have := HJ41.out; first | omega | exact Nat.le_refl _⟩, ⟨by (with_reducible repeat (first | refine blk_drewN ?_ _ | refine blk_drew ?_ | refine blk_alloc ?_ _)); exact BK208.out⟩, ⟨by repeat (first | (with_reducible first | exact HB.out | apply below_alloc | apply pw_below_drewN | apply below_drew1 | refine below_set ?_ GE208.out) | exact HB.out)⟩⟩
               ·rw [if_neg c63] at H
                have c63b0 : ((wrap64 (a0_0)) == 7) = false := beq_eq_false_iff_ne.mpr c63
                have c63b1 : ((wrap64 (a0_0)) != 7) = true := bne_iff_ne.mpr c63
                have H' := Aside0.mk H
                clear H
                have hcz65_0 : wc.cell? ⟨gb208, 0, none⟩ = some (.int .u8 a0_0) := (blk_cell BK208.out 0).trans rfl
                have hcz65_1 : wc.cell? ⟨gb208, 1, none⟩ = some (.int .u16 a0_1) := (blk_cell BK208.out 1).trans rfl
                have hcz65_2 : wc.cell? ⟨gb208, 2, none⟩ = some (.int .u16 a0_2) := (blk_cell BK208.out 2).trans rfl
                have hcz65_3 : wc.cell? ⟨gb208, 3, none⟩ = some (.int .u16 a0_3) := (blk_cell BK208.out 3).trans rfl
                have hcz65_4 : wc.cell? ⟨gb208, 4, none⟩ = some (.int .u16 a0_4) := (blk_cell BK208.out 4).trans rfl
                have hfz65_0 := blk_frozen BK208.out 0
                have hfz65_1 := blk_frozen BK208.out 1
                have hfz65_2 := blk_frozen BK208.out 2
                have hfz65_3 := blk_frozen BK208.out 3
                have hfz65_4 := blk_frozen BK208.out 4
                go_wp2
                repeat (go_quiet (fail); try go_wp2)
                go_meet
                case rel => exact ⟨_, (false), (by first | rfl | (simp; done) | (simp [*]; done)), H', ⟨by have := HJ1.out; have := HJ6.out; have := HJ11.out; have := HJ41.out; first | omega | exact Nat.le_refl _⟩, ⟨by (with_reducible repeat (first | refine blk_drewN ?_ _ | refine blk_drew ?_ | refine blk_alloc ?_ _)); exact BK208.out⟩, ⟨by repeat (first | (with_reducible first | exact HB.out | apply below_alloc | apply pw_below_drewN | apply below_drew1 | refine below_set ?_ GE208.out) | exact HB.out)⟩⟩
              ·rw [if_neg c62] at H
               have c62b0 : (a0_2 == 0) = false := beq_eq_false_iff_ne.mpr c62
               have c62b1 : (a0_2 != 0) = true := bne_iff_ne.mpr c62
               have H' := Aside0.mk H
               clear H
               have hcz66_0 : wc.cell? ⟨gb208, 0, none⟩ = some (.int .u8 a0_0) := (blk_cell BK208.out 0).trans rfl
               have hcz66_1 : wc.cell? ⟨gb208, 1, none⟩ = some (.int .u16 a0_1) := (blk_cell BK208.out 1).trans rfl
               have hcz66_2 : wc.cell? ⟨gb208, 2, none⟩ = some (.int .u16 a0_2) := (blk_cell BK208.out 2).trans rfl
               have hcz66_3 : wc.cell? ⟨gb208, 3, none⟩ = some (.int .u16 a0_3) := (blk_cell BK208.out 3).trans rfl
               have hcz66_4 : wc.cell? ⟨gb208, 4, none⟩ = some (.int .u16 a0_4) := (blk_cell BK208.out 4).trans rfl
               have hfz66_0 := blk_frozen BK208.out 0
               have hfz66_1 := blk_frozen BK208.out 1
               have hfz66_2 := blk_frozen BK208.out 2
               have hfz66_3 := blk_frozen BK208.out 3
               have hfz66_4 := blk_frozen BK208.out 4
               go_wp2
               repeat (go_quiet (fail); try go_wp2)
               go_meet
               case rel => exact ⟨_, (true), (by first | rfl | (simp; done) | (simp [*]; done)), H', ⟨by have := HJ1.out; have := HJ6.out; have := HJ11.out; have := HJ41.out; first | omega | exact Nat.le_refl _⟩, ⟨by (with_reducible repeat (first | refine blk_drewN ?_ _ | refine blk_drew ?_ | refine blk_alloc ?_ _)); exact BK208.out⟩, ⟨by repeat (first | (with_reducible first | exact HB.out | apply below_alloc | apply pw_below_drewN | apply below_drew1 | refine below_set ?_ GE208.out) | exact HB.out)⟩⟩
             ·rw [if_neg c61] at H
              have c61b0 : ((wrap64 (a0_0)) == 4) = false := beq_eq_false_iff_ne.mpr c61
              have c61b1 : ((wrap64 (a0_0)) != 4) = true := bne_iff_ne.mpr c61
              by_cases c67 : (wrap64 (a0_0)) = 5
              ·rw [if_pos c67] at H
               have c67b0 : ((wrap64 (a0_0)) == 5) = true := beq_iff_eq.mpr c67
               have c67b1 : ((wrap64 (a0_0)) != 5) = false := bne_eq_false_iff_eq.mpr c67
               clear c67
               by_cases c68 : a0_2 = 0
               ·rw [if_pos c68] at H
                have c68b0 : (a0_2 == 0) = true := beq_iff_eq.mpr c68
                have c68b1 : (a0_2 != 0) = false := bne_eq_false_iff_eq.mpr c68
                clear c68
                by_cases c69 : (wrap64 (a0_0)) = 7
                ·rw [if_pos c69] at H
                 have c69b0 : ((wrap64 (a0_0)) == 7) = true := beq_iff_eq.mpr c69
                 have c69b1 : ((wrap64 (a0_0)) != 7) = false := bne_eq_false_iff_eq.mpr c69
                 clear c69
                 have H' := Aside0.mk H
                 clear H
                 have hcz70_0 : wc.cell? ⟨gb208, 0, none⟩ = some (.int .u8 a0_0) := (blk_cell BK208.out 0).trans rfl
                 have hcz70_1 : wc.cell? ⟨gb208, 1, none⟩ = some (.int .u16 a0_1) := (blk_cell BK208.out 1).trans rfl
                 have hcz70_2 : wc.cell? ⟨gb208, 2, none⟩ = some (.int .u16 a0_2) := (blk_cell BK208.out 2).trans rfl
                 have hcz70_3 : wc.cell? ⟨gb208, 3, none⟩ = some (.int .u16 a0_3) := (blk_cell BK208.out 3).trans rfl
                 have hcz70_4 : wc.cell? ⟨gb208, 4, none⟩ = some (.int .u16 a0_4) := (blk_cell BK208.out 4).trans rfl
                 have hfz70_0 := blk_frozen BK208.out 0
                 have hfz70_1 := blk_frozen BK208.out 1
                 have hfz70_2 := blk_frozen BK208.out 2
                 have hfz70_3 := blk_frozen BK208.out 3
                 have hfz70_4 := blk_frozen BK208.out 4
                 go_wp2
                 repeat (go_quiet (fail); try go_wp2)
                 go_meet
                 case rel => exact ⟨_, (decide ((wrap64 (a0_4)) > 30)), (by first | rfl | (simp; done) | (simp [*]; done)), H', ⟨by have := HJ1.out; have := HJ6.out; have := HJ11.out; have := HJ41.out; first | omega | exact Nat.le_refl _⟩, ⟨by (with_reducible repeat (first | refine blk_drewN ?_ _ | refine blk_drew ?_ | refine blk_alloc ?_ _)); exact BK208.out⟩, ⟨by repeat (first | (with_reducible first | exact HB.out | apply below_alloc | apply pw_below_drewN | apply below_drew1 | refine below_set ?_ GE208.out) | exact HB.out)⟩⟩
                ·rw [if_neg c69] at H
                 have c69b0 : ((wrap64 (a0_0)) == 7) = false := beq_eq_false_iff_ne.mpr c69
                 have c69b1 : ((wrap64 (a0_0)) != 7) = true := bne_iff_ne.mpr c69
                 have H' := Aside0.mk H
                 clear H
                 have hcz71_0 : wc.cell? ⟨gb208, 0, none⟩ = some (.int .u8 a0_0) := (blk_cell BK208.out 0).trans rfl
                 have hcz71_1 : wc.cell? ⟨gb208, 1, none⟩ = some (.int .u16 a0_1) := (blk_cell BK208.out 1).trans rfl
                 have hcz71_2 : wc.cell? ⟨gb208, 2, none⟩ = some (.int .u16 a0_2) := (blk_cell BK208.out 2).trans rfl
                 have hcz71_3 : wc.cell? ⟨gb208, 3, none⟩ = some (.int .u16 a0_3) := (blk_cell BK208.out 3).trans rfl
                 have hcz71_4 : wc.cell? ⟨gb208, 4, none⟩ = some (.int .u16 a0_4) := (blk_cell BK208.out 4).trans rfl
                 have hfz71_0 := blk_frozen BK208.out 0
                 have hfz71_1 := blk_frozen BK208.out 1
                 have hfz71_2 := blk_frozen BK208.out 2
                 have hfz71_3 := blk_frozen BK208.out 3
                 have hfz71_4 := blk_frozen BK208.out 4
                 go_wp2
                 repeat (go_quiet (fail); try go_wp2)
                 go_meet
                 case rel => exact ⟨_, (false), (by first | rfl | (simp; done) | (simp [*]; done)), H', ⟨by have := HJ1.out; have := HJ6.out; have := HJ11.out; have := HJ41.out; first | omega | exact Nat.le_refl _⟩, ⟨by (with_reducible repeat (first | refine blk_drewN ?_ _ | refine blk_drew ?_ | refine blk_alloc ?_ _)); exact BK208.out⟩, ⟨by repeat (first | (with_reducible first | exact HB.out | apply below_alloc | apply pw_below_drewN | apply below_drew1 | refine below_set ?_ GE208.out) | exact HB.out)⟩⟩
               ·rw [if_neg c68] at H
                have c68b0 : (a0_2 == 0) = false := beq_eq_false_iff_ne.mpr c68
                have c68b1 : (a0_2 != 0) = true := bne_iff_ne.mpr c68
                have H' := Aside0.mk H
                clear H
                have hcz72_0 : wc.cell? ⟨gb208, 0, none⟩ = some (.int .u8 a0_0) := (blk_cell BK208.out 0).trans rfl
                have hcz72_1 : wc.cell? ⟨gb208, 1, none⟩ = some (.int .u16 a0_1) := (blk_cell BK208.out 1).trans rfl
                have hcz72_2 : wc.cell? ⟨gb208, 2, none⟩ = some (.int .u16 a0_2) := (blk_cell BK208.out 2).trans rfl
                have hcz72_3 : wc.cell? ⟨gb208, 3, none⟩ = some (.int .u16 a0_3) := (blk_cell BK208.out 3).trans rfl
                have hcz72_4 : wc.cell? ⟨gb208, 4, none⟩ = some (.int .u16 a0_4) := (blk_cell BK208.out 4).trans rfl
                have hfz72_0 := blk_frozen BK208.out 0
                have hfz72_1 := blk_frozen BK208.out 1
                have hfz72_2 := blk_frozen BK208.out 2
                have hfz72_3 := blk_frozen BK208.out 3
                have hfz72_4 := blk_frozen BK208.out 4
                go_wp2
                repeat (go_quiet (fail); try go_wp2)
                go_meet
                case rel => exact ⟨_, (true), (by first | rfl | (simp; done) | (simp [*]; done)), H', ⟨by have := HJ1.out; have := HJ6.out; have := HJ11.out; have := HJ41.out; first | omega | exact Nat.le_refl _⟩, ⟨by (with_reducible repeat (first | refine blk_drewN ?_ _ | refine blk_drew ?_ | refine blk_alloc ?_ _)); exact BK208.out⟩, ⟨by repeat (first | (with_reducible first | exact HB.out | apply below_alloc | apply pw_below_drewN | apply below_drew1 | refine below_set ?_ GE208.out) | exact HB.out)⟩⟩
              ·rw [if_neg c67] at H
               have c67b0 : ((wrap64 (a0_0)) == 5) = false := beq_eq_false_iff_ne.mpr c67
               have c67b1 : ((wrap64 (a0_0)) != 5) = true := bne_iff_ne.mpr c67
               by_cases c73 : (wrap64 (a0_0)) = 7
               ·rw [if_pos c73] at H
                have c73b0 : ((wrap64 (a0_0)) == 7) = true := beq_iff_eq.mpr c73
                have c73b1 : ((wrap64 (a0_0)) != 7) = false := bne_eq_false_iff_eq.mpr c73
                clear c73
                have H' := Aside0.mk H
                clear H
                go_wp2
                repeat (go_quiet (fail); try go_wp2)
                go_meet
                case rel => exact ⟨_, (decide ((wrap64 (a0_4)) > 30)), (by first | rfl | (simp; done) | (simp [*]; done)), H', ⟨by have := HJ1.out; have := HJ6.out; have := HJ11.out; have := HJ41.out; first | omega | exact Nat.le_refl _⟩, ⟨by (with_reducible repeat (first | refine blk_drewN ?_ _ | refine blk_drew ?_ | refine blk_alloc ?_ _)); exact BK208.out⟩, ⟨by repeat (first | (with_reducible first | exact HB.out | apply below_alloc | apply pw_below_drewN | apply below_drew1 | refine below_set ?_ GE208.out) | exact HB.out)⟩⟩
               ·rw [if_neg c73] at H
                have c73b0 : ((wrap64 (a0_0)) == 7) = false := beq_eq_false_iff_ne.mpr c73
                have c73b1 : ((wrap64 (a0_0)) != 7) = true := bne_iff_ne.mpr c73
                have H' := Aside0.mk H
                clear H
                go_wp2
                repeat (go_quiet (fail); try go_wp2)
                go_meet
                case rel => exact ⟨_, (false), (by first | rfl | (simp; done) | (simp [*]; done)), H', ⟨by have := HJ1.out; have := HJ6.out; have := HJ11.out; have := HJ41.out; first | omega | exact Nat.le_refl _⟩, ⟨by (with_reducible repeat (first | refine blk_drewN ?_ _ | refine blk_drew ?_ | refine blk_alloc ?_ _)); exact BK208.out⟩, ⟨by repeat (first | (with_reducible first | exact HB.out | apply below_alloc | apply pw_below_drewN | apply below_drew1 | refine below_set ?_ GE208.out) | exact HB.out)⟩⟩
           ·rw [if_neg c45] at H
            have c45b0 : decide (4 ≤ (wrap64 (a0_0))) = false := decide_eq_false c45
            clear c45
            (first | rw [c45b0] | (simp only [i64_w, i32_w]; rw [c45b0]) | skip)
            by_cases c74 : (wrap64 (a0_0)) = 4
            ·rw [if_pos c74] at H
             have c74b0 : ((wrap64 (a0_0)) == 4) = true := beq_iff_eq.mpr c74
             have c74b1 : ((wrap64 (a0_0)) != 4) = false := bne_eq_false_iff_eq.mpr c74
             clear c74
             by_cases c75 : a0_2 = 0
             ·rw [if_pos c75] at H
              have c75b0 : (a0_2 == 0) = true := beq_iff_eq.mpr c75
              have c75b1 : (a0_2 != 0) = false := bne_eq_false_iff_eq.mpr c75
              clear c75
              by_cases c76 : (wrap64 (a0_0)) = 7
              ·rw [if_pos c76] at H
               have c76b0 : ((wrap64 (a0_0)) == 7) = true := beq_iff_eq.mpr c76
               have c76b1 : ((wrap64 (a0_0)) != 7) = false := bne_eq_false_iff_eq.mpr c76
               clear c76
               have H' := Aside0.mk H
               clear H
               have hcz77_0 : wc.cell? ⟨gb208, 0, none⟩ = some (.int .u8 a0_0) := (blk_cell BK208.out 0).trans rfl
               have hcz77_1 : wc.cell? ⟨gb208, 1, none⟩ = some (.int .u16 a0_1) := (blk_cell BK208.out 1).trans rfl
               have hcz77_2 : wc.cell? ⟨gb208, 2, none⟩ = some (.int .u16 a0_2) := (blk_cell BK208.out 2).trans rfl
               have hcz77_3 : wc.cell? ⟨gb208, 3, none⟩ = some (.int .u16 a0_3) := (blk_cell BK208.out 3).trans rfl
               have hcz77_4 : wc.cell? ⟨gb208, 4, none⟩ = some (.int .u16 a0_4) := (blk_cell BK208.out 4).trans rfl
               have hfz77_0 := blk_frozen BK208.out 0
               have hfz77_1 := blk_frozen BK208.out 1
               have hfz77_2 := blk_frozen BK208.out 2
               have hfz77_3 := blk_frozen BK208.out 3
               have hfz77_4 := blk_frozen BK208.out 4
               go_wp2
               repeat (go_quiet (fail); try go_wp2)
               go_meet
               case rel => exact ⟨_, (decide ((wrap64 (a0_4)) > 30)), (by first | rfl | (simp; done) | (simp [*]; done)), H', ⟨by have := HJ1.out; have := HJ6.out; have := HJ11.out; have := HJ41.out; first | omega | exact Nat.le_refl _⟩, ⟨by (with_reducible repeat (first | refine blk_drewN ?_ _ | refine blk_drew ?_ | refine blk_alloc ?_ _)); exact BK208.out⟩, ⟨by repeat (first | (with_reducible first | exact HB.out | apply below_alloc | apply pw_below_drewN | apply below_drew1 | refine below_set ?_ GE208.out) | exact HB.out)⟩⟩
              ·rw [if_neg c76] at H
               have c76b0 : ((wrap64 (a0_0)) == 7) = false := beq_eq_false_iff_ne.mpr c76
               have c76b1 : ((wrap64 (a0_0)) != 7) = true := bne_iff_ne.mpr c76
               have H' := Aside0.mk H
               clear H
               have hcz78_0 : wc.cell? ⟨gb208, 0, none⟩ = some (.int .u8 a0_0) := (blk_cell BK208.out 0).trans rfl
               have hcz78_1 : wc.cell? ⟨gb208, 1, none⟩ = some (.int .u16 a0_1) := (blk_cell BK208.out 1).trans rfl
               have hcz78_2 : wc.cell? ⟨gb208, 2, none⟩ = some (.int .u16 a0_2) := (blk_cell BK208.out 2).trans rfl
               have hcz78_3 : wc.cell? ⟨gb208, 3, none⟩ = some (.int .u16 a0_3) := (blk_cell BK208.out 3).trans rfl
               have hcz78_4 : wc.cell? ⟨gb208, 4, none⟩ = some (.int .u16 a0_4) := (blk_cell BK208.out 4).trans rfl
               have hfz78_0 := blk_frozen BK208.out 0
               have hfz78_1 := blk_frozen BK208.out 1
               have hfz78_2 := blk_frozen BK208.out 2
               have hfz78_3 := blk_frozen BK208.out 3
               have hfz78_4 := blk_frozen BK208.out 4
               go_wp2
               repeat (go_quiet (fail); try go_wp2)
               go_meet
               case rel => exact ⟨_, (false), (by first | rfl | (simp; done) | (simp [*]; done)), H', ⟨by have := HJ1.out; have := HJ6.out; have := HJ11.out; have := HJ41.out; first | omega | exact Nat.le_refl _⟩, ⟨by (with_reducible repeat (first | refine blk_drewN ?_ _ | refine blk_drew ?_ | refine blk_alloc ?_ _)); exact BK208.out⟩, ⟨by repeat (first | (with_reducible first | exact HB.out | apply below_alloc | apply pw_below_drewN | apply below_drew1 | refine below_set ?_ GE208.out) | exact HB.out)⟩⟩
             ·rw [if_neg c75] at H
              have c75b0 : (a0_2 == 0) = false := beq_eq_false_iff_ne.mpr c75
              have c75b1 : (a0_2 != 0) = true := bne_iff_ne.mpr c75
              have H' := Aside0.mk H
              clear H
              have hcz79_0 : wc.cell? ⟨gb208, 0, none⟩ = some (.int .u8 a0_0) := (blk_cell BK208.out 0).trans rfl
              have hcz79_1 : wc.cell? ⟨gb208, 1, none⟩ = some (.int .u16 a0_1) := (blk_cell BK208.out 1).trans rfl
              have hcz79_2 : wc.cell? ⟨gb208, 2, none⟩ = some (.int .u16 a0_2) := (blk_cell BK208.out 2).trans rfl
              have hcz79_3 : wc.cell? ⟨gb208, 3, none⟩ = some (.int .u16 a0_3) := (blk_cell BK208.out 3).trans rfl
              have hcz79_4 : wc.cell? ⟨gb208, 4, none⟩ = some (.int .u16 a0_4) := (blk_cell BK208.out 4).trans rfl
              have hfz79_0 := blk_frozen BK208.out 0
              have hfz79_1 := blk_frozen BK208.out 1
              have hfz79_2 := blk_frozen BK208.out 2
              have hfz79_3 := blk_frozen BK208.out 3
              have hfz79_4 := blk_frozen BK208.out 4
              go_wp2
              repeat (go_quiet (fail); try go_wp2)
              go_meet
              case rel => exact ⟨_, (true), (by first | rfl | (simp; done) | (simp [*]; done)), H', ⟨by have := HJ1.out; have := HJ6.out; have := HJ11.out; have := HJ41.out; first | omega | exact Nat.le_refl _⟩, ⟨by (with_reducible repeat (first | refine blk_drewN ?_ _ | refine blk_drew ?_ | refine blk_alloc ?_ _)); exact BK208.out⟩, ⟨by repeat (first | (with_reducible first | exact HB.out | apply below_alloc | apply pw_below_drewN | apply below_drew1 | refine below_set ?_ GE208.out) | exact HB.out)⟩⟩
            ·rw [if_neg c74] at H
             have c74b0 : ((wrap64 (a0_0)) == 4) = false := beq_eq_false_iff_ne.mpr c74
             have c74b1 : ((wrap64 (a0_0)) != 4) = true := bne_iff_ne.mpr c74
             by_cases c80 : (wrap64 (a0_0)) = 5
             ·rw [if_pos c80] at H
              have c80b0 : ((wrap64 (a0_0)) == 5) = true := beq_iff_eq.mpr c80
              have c80b1 : ((wrap64 (a0_0)) != 5) = false := bne_eq_false_iff_eq.mpr c80
              clear c80
              by_cases c81 : a0_2 = 0
              ·rw [if_pos c81] at H
               have c81b0 : (a0_2 == 0) = true := beq_iff_eq.mpr c81
               have c81b1 : (a0_2 != 0) = false := bne_eq_false_iff_eq.mpr c81
               clear c81
               by_cases c82 : (wrap64 (a0_0)) = 7
               ·rw [if_pos c82] at H
                have c82b0 : ((wrap64 (a0_0)) == 7) = true := beq_iff_eq.mpr c82
                have c82b1 : ((wrap64 (a0_0)) != 7) = false := bne_eq_false_iff_eq.mpr c82
                clear c82
                have H' := Aside0.mk H
                clear H
                have hcz83_0 : wc.cell? ⟨gb208, 0, none⟩ = some (.int .u8 a0_0) := (blk_cell BK208.out 0).trans rfl
                have hcz83_1 : wc.cell? ⟨gb208, 1, none⟩ = some (.int .u16 a0_1) := (blk_cell BK208.out 1).trans rfl
                have hcz83_2 : wc.cell? ⟨gb208, 2, none⟩ = some (.int .u16 a0_2) := (blk_cell BK208.out 2).trans rfl
                have hcz83_3 : wc.cell? ⟨gb208, 3, none⟩ = some (.int .u16 a0_3) := (blk_cell BK208.out 3).trans rfl
                have hcz83_4 : wc.cell? ⟨gb208, 4, none⟩ = some (.int .u16 a0_4) := (blk_cell BK208.out 4).trans rfl
                have hfz83_0 := blk_frozen BK208.out 0
                have hfz83_1 := blk_frozen BK208.out 1
                have hfz83_2 := blk_frozen BK208.out 2
                have hfz83_3 := blk_frozen BK208.out 3
                have hfz83_4 := blk_frozen BK208.out 4
                go_wp2
                repeat (go_quiet (fail); try go_wp2)
                go_meet
                case rel => exact ⟨_, (decide ((wrap64 (a0_4)) > 30)), (by first | rfl | (simp; done) | (simp [*]; done)), H', ⟨by have := HJ1.out; have := HJ6.out; have := HJ11.out; have := HJ41.out; first | omega | exact Nat.le_refl _⟩, ⟨by (with_reducible repeat (first | refine blk_drewN ?_ _ | refine blk_drew ?_ | refine blk_alloc ?_ _)); exact BK208.out⟩, ⟨by repeat (first | (with_reducible first | exact HB.out | apply below_alloc | apply pw_below_drewN | apply below_drew1 | refine below_set ?_ GE208.out) | exact HB.out)⟩⟩
               ·rw [if_neg c82] at H
                have c82b0 : ((wrap64 (a0_0)) == 7) = false := beq_eq_false_iff_ne.mpr c82
                have c82b1 : ((wrap64 (a0_0)) != 7) = true := bne_iff_ne.mpr c82
                have H' := Aside0.mk H
                clear H
                have hcz84_0 : wc.cell? ⟨gb208, 0, none⟩ = some (.int .u8 a0_0) := (blk_cell BK208.out 0).trans rfl
                have hcz84_1 : wc.cell? ⟨gb208, 1, none⟩ = some (.int .u16 a0_1) := (blk_cell BK208.out 1).trans rfl
                have hcz84_2 : wc.cell? ⟨gb208, 2, none⟩ = some (.int .u16 a0_2) := (blk_cell BK208.out 2).trans rfl
                have hcz84_3 : wc.cell? ⟨gb208, 3, none⟩ = some (.int .u16 a0_3) := (blk_cell BK208.out 3).trans rfl
                have hcz84_4 : wc.cell? ⟨gb208, 4, none⟩ = some (.int .u16 a0_4) := (blk_cell BK208.out 4).trans rfl
                have hfz84_0 := blk_frozen BK208.out 0
                have hfz84_1 := blk_frozen BK208.out 1
                have hfz84_2 := blk_frozen BK208.out 2
                have hfz84_3 := blk_frozen BK208.out 3
                have hfz84_4 := blk_frozen BK208.out 4
                go_wp2
                repeat (go_quiet (fail); try go_wp2)
                go_meet
                case rel => exact ⟨_, (false), (by first | rfl | (simp; done) | (simp [*]; done)), H', ⟨by have := HJ1.out; have := HJ6.out; have := HJ11.out; have := HJ41.out; first | omega | exact Nat.le_refl _⟩, ⟨by (with_reducible repeat (first | refine blk_drewN ?_ _ | refine blk_drew ?_ | refine blk_alloc ?_ _)); exact BK208.out⟩, ⟨by repeat (first | (with_reducible first | exact HB.out | apply below_alloc | apply pw_below_drewN | apply below_drew1 | refine below_set ?_ GE208.out) | exact HB.out)⟩⟩
              ·rw [if_neg c81] at H
               have c81b0 : (a0_2 == 0) = false := beq_eq_false_iff_ne.mpr c81
               have c81b1 : (a0_2 != 0) = true := bne_iff_ne.mpr c81
               have H' := Aside0.mk H
               clear H
               have hcz85_0 : wc.cell? ⟨gb208, 0, none⟩ = some (.int .u8 a0_0) := (blk_cell BK208.out 0).trans rfl
               have hcz85_1 : wc.cell? ⟨gb208, 1, none⟩ = some (.int .u16 a0_1) := (blk_cell BK208.out 1).trans rfl
               have hcz85_2 : wc.cell? ⟨gb208, 2, none⟩ = some (.int .u16 a0_2) := (blk_cell BK208.out 2).trans rfl
               have hcz85_3 : wc.cell? ⟨gb208, 3, none⟩ = some (.int .u16 a0_3) := (blk_cell BK208.out 3).trans rfl
               have hcz85_4 : wc.cell? ⟨gb208, 4, none⟩ = some (.int .u16 a0_4) := (blk_cell BK208.out 4).trans rfl
               have hfz85_0 := blk_frozen BK208.out 0
               have hfz85_1 := blk_frozen BK208.out 1
               have hfz85_2 := blk_frozen BK208.out 2
               have hfz85_3 := blk_frozen BK208.out 3
               have hfz85_4 := blk_frozen BK208.out 4
               go_wp2
               repeat (go_quiet (fail); try go_wp2)
               go_meet
               case rel => exact ⟨_, (true), (by first | rfl | (simp; done) | (simp [*]; done)), H', ⟨by have := HJ1.out; have := HJ6.out; have := HJ11.out; have := HJ41.out; first | omega | exact Nat.le_refl _⟩, ⟨by (with_reducible repeat (first | refine blk_drewN ?_ _ | refine blk_drew ?_ | refine blk_alloc ?_ _)); exact BK208.out⟩, ⟨by repeat (first | (with_reducible first | exact HB.out | apply below_alloc | apply pw_below_drewN | apply below_drew1 | refine below_set ?_ GE208.out) | exact HB.out)⟩⟩
             ·rw [if_neg c80] at H
              have c80b0 : ((wrap64 (a0_0)) == 5) = false := beq_eq_false_iff_ne.mpr c80
              have c80b1 : ((wrap64 (a0_0)) != 5) = true := bne_iff_ne.mpr c80
              by_cases c86 : (wrap64 (a0_0)) = 7
              ·rw [if_pos c86] at H
               have c86b0 : ((wrap64 (a0_0)) == 7) = true := beq_iff_eq.mpr c86
               have c86b1 : ((wrap64 (a0_0)) != 7) = false := bne_eq_false_iff_eq.mpr c86
               clear c86
               have H' := Aside0.mk H
               clear H
               go_wp2
               repeat (go_quiet (fail); try go_wp2)
               go_meet
               case rel => exact ⟨_, (decide ((wrap64 (a0_4)) > 30)), (by first | rfl | (simp; done) | (simp [*]; done)), H', ⟨by have := HJ1.out; have := HJ6.out; have := HJ11.out; have := HJ41.out; first | omega | exact Nat.le_refl _⟩, ⟨by (with_reducible repeat (first | refine blk_drewN ?_ _ | refine blk_drew ?_ | refine blk_alloc ?_ _)); exact BK208.out⟩, ⟨by repeat (first | (with_reducible first | exact HB.out | apply below_alloc | apply pw_below_drewN | apply below_drew1 | refine below_set ?_ GE208.out) | exact HB.out)⟩⟩
              ·rw [if_neg c86] at H
               have c86b0 : ((wrap64 (a0_0)) == 7) = false := beq_eq_false_iff_ne.mpr c86
               have c86b1 : ((wrap64 (a0_0)) != 7) = true := bne_iff_ne.mpr c86
               have H' := Aside0.mk H
               clear H
               go_wp2
               repeat (go_quiet (fail); try go_wp2)
               go_meet
               case rel => exact ⟨_, (false), (by first | rfl | (simp; done) | (simp [*]; done)), H', ⟨by have := HJ1.out; have := HJ6.out; have := HJ11.out; have := HJ41.out; first | omega | exact Nat.le_refl _⟩, ⟨by (with_reducible repeat (first | refine blk_drewN ?_ _ | refine blk_drew ?_ | refine blk_alloc ?_ _)); exact BK208.out⟩, ⟨by repeat (first | (with_reducible first | exact HB.out | apply below_alloc | apply pw_below_drewN | apply below_drew1 | refine below_set ?_ GE208.out) | exact HB.out)⟩⟩
          case rest =>
           clear HC44
           try clear p2
           try clear c3
           try clear c4
           try clear c5
           try clear c6
           try clear p6
           try clear c7
           try clear c8
           try clear c35
           try clear c35b0
           try clear c35b1
           try clear c36
           try clear c36b0
           try clear c36b1
           try clear c37
           try clear c37b0
           try clear c38
           try clear c38b0
           try clear c38b1
           try clear c39
           try clear c39b0
           try clear c40
           try clear c40b0
           try clear c40b1
           try clear c41
           try clear c41b0
           try clear c43
           try clear c45
           try clear c45b0
           try clear c46
           try clear c46b0
           try clear c47
           try clear c47b0
           try clear c47b1
           try clear c48
           try clear c48b0
           try clear c48b1
           try clear c49
           try clear c49b0
           try clear c49b1
           try clear c50
           try clear c50b0
           try clear c50b1
           try clear c54
           try clear c54b0
           try clear c54b1
           try clear c55
           try clear c55b0
           try clear c55b1
           try clear c56
           try clear c56b0
           try clear c56b1
           try clear c60
           try clear c60b0
           try clear c60b1
           try clear c61
           try clear c61b0
           try clear c61b1
           try clear c62
           try clear c62b0
           try clear c62b1
           try clear c63
           try clear c63b0
           try clear c63b1
           try clear p64
           try clear c67
           try clear c67b0
           try clear c67b1
           try clear c68
           try clear c68b0
           try clear c68b1
           try clear c69
           try clear c69b0
           try clear c69b1
           try clear c73
           try clear c73b0
           try clear c73b1
           try clear c74
           try clear c74b0
           try clear c74b1
           try clear c75
           try clear c75b0
           try clear c75b1
           try clear c76
           try clear c76b0
           try clear c76b1
           try clear c80
           try clear c80b0
           try clear c80b1
           try clear c81
           try clear c81b0
           try clear c81b1
           try clear c82
           try clear c82b0
           try clear c82b1
           try clear c86
           try clear c86b0
           try clear c86b1
           try clear hcz10_0
           try clear hcz10_1
           try clear hcz10_2
           try clear hcz10_3
           try clear hcz10_4
           try clear hcz11_0
           try clear hcz11_1
           try clear hcz11_2
           try clear hcz11_3
           try clear hcz11_4
           try clear hcz4_0
           try clear hcz4_1
           try clear hcz4_2
           try clear hcz4_3
           try clear hcz4_4
           try clear hcz51_0
           try clear hcz51_1
           try clear hcz51_2
           try clear hcz51_3
           try clear hcz51_4
           try clear hcz52_0
           try clear hcz52_1
           try clear hcz52_2
           try clear hcz52_3
           try clear hcz52_4
           try clear hcz53_0
           try clear hcz53_1
           try clear hcz53_2
           try clear hcz53_3
           try clear hcz53_4
           try clear hcz57_0
           try clear hcz57_1
           try clear hcz57_2
           try clear hcz57_3
           try clear hcz57_4
           try clear hcz58_0
           try clear hcz58_1
           try clear hcz58_2
           try clear hcz58_3
           try clear hcz58_4
           try clear hcz59_0
           try clear hcz59_1
           try clear hcz59_2
           try clear hcz59_3
           try clear hcz59_4
           try clear hcz64_0
           try clear hcz64_1
           try clear hcz64_2
           try clear hcz64_3
           try clear hcz64_4
           try clear hcz65_0
           try clear hcz65_1
           try clear hcz65_2
           try clear hcz65_3
           try clear hcz65_4
           try clear hcz66_0
           try clear hcz66_1
           try clear hcz66_2
           try clear hcz66_3
           try clear hcz66_4
           try clear hcz70_0
           try clear hcz70_1
           try clear hcz70_2
           try clear hcz70_3
           try clear hcz70_4
           try clear hcz71_0
           try clear hcz71_1
           try clear hcz71_2
           try clear hcz71_3
           try clear hcz71_4
           try clear hcz72_0
           try clear hcz72_1
           try clear hcz72_2
           try clear hcz72_3
           try clear hcz72_4
           try clear hcz77_0
           try clear hcz77_1
           try clear hcz77_2
           try clear hcz77_3
           try clear hcz77_4
           try clear hcz78_0
           try clear hcz78_1
           try clear hcz78_2
           try clear hcz78_3
           try clear hcz78_4
           try clear hcz79_0
           try clear hcz79_1
           try clear hcz79_2
           try clear hcz79_3
           try clear hcz79_4
           try clear hcz83_0
           try clear hcz83_1
           try clear hcz83_2
           try clear hcz83_3
           try clear hcz83_4
           try clear hcz84_0
           try clear hcz84_1
           try clear hcz84_2
           try clear hcz84_3
           try clear hcz84_4
           try clear hcz85_0
           try clear hcz85_1
           try clear hcz85_2
           try clear hcz85_3
           try clear hcz85_4
           try clear hcz8_0
           try clear hcz8_1
           try clear hcz8_2
           try clear hcz8_3
           try clear hcz8_4
           try clear hfz10_0
           try clear hfz10_1
           try clear hfz10_2
           try clear hfz10_3
           try clear hfz10_4
           try clear hfz11_0
           try clear hfz11_1
           try clear hfz11_2
           try clear hfz11_3
           try clear hfz11_4
           try clear hfz4_0
           try clear hfz4_1
           try clear hfz4_2
           try clear hfz4_3
           try clear hfz4_4
           try clear hfz51_0
           try clear hfz51_1
           try clear hfz51_2
           try clear hfz51_3
           try clear hfz51_4
           try clear hfz52_0
           try clear hfz52_1
           try clear hfz52_2
           try clear hfz52_3
           try clear hfz52_4
           try clear hfz53_0
           try clear hfz53_1
           try clear hfz53_2
           try clear hfz53_3
           try clear hfz53_4
           try clear hfz57_0
           try clear hfz57_1
           try clear hfz57_2
           try clear hfz57_3
           try clear hfz57_4
           try clear hfz58_0
           try clear hfz58_1
           try clear hfz58_2
           try clear hfz58_3
           try clear hfz58_4
           try clear hfz59_0
           try clear hfz59_1
           try clear hfz59_2
           try clear hfz59_3
           try clear hfz59_4
           try clear hfz64_0
           try clear hfz64_1
           try clear hfz64_2
           try clear hfz64_3
           try clear hfz64_4
           try clear hfz65_0
           try clear hfz65_1
           try clear hfz65_2
           try clear hfz65_3
           try clear hfz65_4
           try clear hfz66_0
           try clear hfz66_1
           try clear hfz66_2
           try clear hfz66_3
           try clear hfz66_4
           try clear hfz70_0
           try clear hfz70_1
           try clear hfz70_2
           try clear hfz70_3
           try clear hfz70_4
           try clear hfz71_0
           try clear hfz71_1
           try clear hfz71_2
           try clear hfz71_3
           try clear hfz71_4
           try clear hfz72_0
           try clear hfz72_1
           try clear hfz72_2
           try clear hfz72_3
           try clear hfz72_4
           try clear hfz77_0
           try clear hfz77_1
           try clear hfz77_2
           try clear hfz77_3
           try clear hfz77_4
           try clear hfz78_0
           try clear hfz78_1
           try clear hfz78_2
           try clear hfz78_3
           try clear hfz78_4
           try clear hfz79_0
           try clear hfz79_1
           try clear hfz79_2
           try clear hfz79_3
           try clear hfz79_4
           try clear hfz83_0
           try clear hfz83_1
           try clear hfz83_2
           try clear hfz83_3
           try clear hfz83_4
           try clear hfz84_0
           try clear hfz84_1
           try clear hfz84_2
           try clear hfz84_3
           try clear hfz84_4
           try clear hfz85_0
           try clear hfz85_1
           try clear hfz85_2
           try clear hfz85_3
           try clear hfz85_4
           try clear hfz8_0
           try clear hfz8_1
           try clear hfz8_2
           try clear hfz8_3
           try clear hfz8_4
           try clear p2
           try clear p6
           obtain ⟨kq, x98_43, rfl, HA, HJ43, BK208, HB⟩ := hcut
           cases kq with
           | zero => exact absurd HA.out (by simp [stillageref02_Check.j4])
           | succ kj43 =>
            have H := HA.out
            clear HA
            simp only [stillageref02_Check.j4] at H
            by_cases c87 : x98_43 = true
            ·subst c87
             have H1 : (some 24) = some r := by rw [if_pos rfl] at H; exact H
             clear H
             have H := H1
             clear H1
             obtain rfl := Option.some.inj H
             go_wp2
             repeat (go_quiet (fail); try go_wp2)
             go_ret
             exact ⟨by first | rfl | (simp [errW_none, errW_some] <;> rfl) | (simp [*, errW_none, errW_some] <;> rfl), by repeat (first | (with_reducible first | exact HB.out | apply below_alloc | apply pw_below_drewN | apply below_drew1 | refine below_set ?_ GE208.out) | exact HB.out)⟩
            ·replace c87 := Bool.eq_false_iff.mpr c87
             subst c87
             have H1 : (if x6_41 = true then (some 24) else (some 0)) = some r := by rw [if_neg (show ¬ (false = true) by decide)] at H; exact H
             clear H
             have H := H1
             clear H1
             by_cases c88 : x6_41 = true
             ·subst c88
              have H1 : (some 24) = some r := by rw [if_pos rfl] at H; exact H
              clear H
              have H := H1
              clear H1
              obtain rfl := Option.some.inj H
              go_wp2
              repeat (go_quiet (fail); try go_wp2)
              go_ret
              exact ⟨by first | rfl | (simp [errW_none, errW_some] <;> rfl) | (simp [*, errW_none, errW_some] <;> rfl), by repeat (first | (with_reducible first | exact HB.out | apply below_alloc | apply pw_below_drewN | apply below_drew1 | refine below_set ?_ GE208.out) | exact HB.out)⟩
             ·replace c88 := Bool.eq_false_iff.mpr c88
              subst c88
              have H1 : (some 0) = some r := by rw [if_neg (show ¬ (false = true) by decide)] at H; exact H
              clear H
              have H := H1
              clear H1
              obtain rfl := Option.some.inj H
              go_wp2
              repeat (go_quiet (fail); try go_wp2)
              go_ret
              exact ⟨by first | rfl | (simp [errW_none, errW_some] <;> rfl) | (simp [*, errW_none, errW_some] <;> rfl), by repeat (first | (with_reducible first | exact HB.out | apply below_alloc | apply pw_below_drewN | apply below_drew1 | refine below_set ?_ GE208.out) | exact HB.out)⟩

end Go.Proofs.Ytabkmjimdpdfaaa.PTeleSplits
