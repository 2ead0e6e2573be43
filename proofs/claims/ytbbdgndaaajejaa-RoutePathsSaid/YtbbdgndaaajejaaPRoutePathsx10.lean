-- Written by a program of this session (wip/oprint): after the pattern of the kit's print, which does not take this law. -- trimmed
import Derived.Test.YtbbdgndaaajejaaPRoutePathsx0
import Derived.Test.YtbbdgndaaajejaaPRoutePathsx1
import Derived.Test.YtbbdgndaaajejaaPRoutePathsx9
namespace Go.Proofs.Ytbbdgndaaajejaa.PRoutePaths
open Go.RowKit Go.Proofs.YtbbdgndaaajejaaW.PrintWords Go.Proofs.YtbbdgndaaajejaaW.PrintLast Go.Proofs.YtbbdgndaaajejaaW.PrintMore
attribute [local go_sem] max2_int min2_int max_two min_two max_three min_three max_four min_four   -- for this text's walks alone
set_option linter.unusedVariables false
set_option linter.unusedSimpArgs false

attribute [local go_sem high] eqA38
/-! ### stillageref06_Good: function 25 -/
mutual
def stillageref06_Good.j0 : Nat → Bool → List (S47) → List (S38) → Option (Bool)
 | 0, _, _, _ => none
 | k + 1, x24, x310000, x310001 => if x24 = true then (some false) else (stillageref06_Good.l0 k (x310000.length : Int) 0 x310000 x310001)
def stillageref06_Good.l0 : Nat → Int → Int → List (S47) → List (S38) → Option (Bool)
 | 0, _, _, _, _ => none
 | k + 1, x27, x28, x310000, x310001 => if x28 < x27 then (if 0 ≤ x28 then (if x28 < (x310000.length : Int) then ((stillageref06_Name.f k ((rd_T47 x310000 x28).f0)).bind fun t312 => (if t312 = true then (if ((rd_T47 x310000 x28).f1) < 1 then (some false) else (if ((rd_T47 x310000 x28).f1) > 4 then (some false) else (if ((rd_T47 x310000 x28).f2) < 0 then (some false) else (if ((rd_T47 x310000 x28).f2) > 7 then (some false) else ((stillageref06_Find.f k x310000 x310001 ((rd_T47 x310000 x28).f0)).bind fun t313 => (if t313 = x28 then (stillageref06_Good.l0 k x27 (wrap64 (x28 + 1)) x310000 x310001) else (some false))))))) else (some false))) else (none)) else (none)) else (stillageref06_Good.l1 k (x310001.length : Int) 0 x310000 x310001)
def stillageref06_Good.l1 : Nat → Int → Int → List (S47) → List (S38) → Option (Bool)
 | 0, _, _, _, _ => none
 | k + 1, x71, x72, x310000, x310001 => if x72 < x71 then (if 0 ≤ x72 then (if x72 < (x310001.length : Int) then (if ((rd_T38 x310001 x72).f0) < 0 then (stillageref06_Good.j3 k x72 ((rd_T38 x310001 x72).f0) ((rd_T38 x310001 x72).f1) x71 x72 true x310000 x310001) else (if ((rd_T38 x310001 x72).f1) < 0 then (stillageref06_Good.j3 k x72 ((rd_T38 x310001 x72).f0) ((rd_T38 x310001 x72).f1) x71 x72 true x310000 x310001) else (if ((rd_T38 x310001 x72).f0) ≥ (x310000.length : Int) then (stillageref06_Good.j3 k x72 ((rd_T38 x310001 x72).f0) ((rd_T38 x310001 x72).f1) x71 x72 true x310000 x310001) else (if ((rd_T38 x310001 x72).f1) ≥ (x310000.length : Int) then (stillageref06_Good.j3 k x72 ((rd_T38 x310001 x72).f0) ((rd_T38 x310001 x72).f1) x71 x72 true x310000 x310001) else (stillageref06_Good.j3 k x72 ((rd_T38 x310001 x72).f0) ((rd_T38 x310001 x72).f1) x71 x72 (((rd_T38 x310001 x72).f0) == ((rd_T38 x310001 x72).f1)) x310000 x310001))))) else (none)) else (none)) else (some true)
def stillageref06_Good.j3 : Nat → Int → Int → Int → Int → Int → Bool → List (S47) → List (S38) → Option (Bool)
 | 0, _, _, _, _, _, _, _, _ => none
 | k + 1, x5, x6, x7, x71, x72, x111, x310000, x310001 => if x111 = true then (some false) else (if 0 ≤ x6 then (if x6 < (x310000.length : Int) then (if ((rd_T47 x310000 x6).f1) = 1 then (stillageref06_Good.j4 k x5 x71 x72 false x310000 x310001) else (if 0 ≤ x7 then (if x7 < (x310000.length : Int) then (stillageref06_Good.j4 k x5 x71 x72 (((rd_T47 x310000 x7).f1) != 1) x310000 x310001) else (none)) else (none))) else (none)) else (none))
def stillageref06_Good.j4 : Nat → Int → Int → Int → Bool → List (S47) → List (S38) → Option (Bool)
 | 0, _, _, _, _, _, _ => none
 | k + 1, x5, x71, x72, x127, x310000, x310001 => if x127 = true then (some false) else (stillageref06_Good.l2 k x5 0 x71 x72 x310000 x310001)
def stillageref06_Good.l2 : Nat → Int → Int → Int → Int → List (S47) → List (S38) → Option (Bool)
 | 0, _, _, _, _, _, _ => none
 | k + 1, x5, x8, x71, x72, x310000, x310001 => if x8 < x5 then (if 0 ≤ x8 then (if x8 < (x310001.length : Int) then (if 0 ≤ x5 then (if x5 < (x310001.length : Int) then (if (((rd_T38 x310001 x8).f0) == ((rd_T38 x310001 x5).f0) && (((rd_T38 x310001 x8).f1) == ((rd_T38 x310001 x5).f1))) = true then (some false) else (stillageref06_Good.l2 k x5 (wrap64 (x8 + 1)) x71 x72 x310000 x310001)) else (none)) else (none)) else (none)) else (none)) else (stillageref06_Good.l1 k x71 (wrap64 (x72 + 1)) x310000 x310001)
end
def stillageref06_Good.f (k : Nat) (l0_0 : List (S47)) (l0_1 : List (S38)) : Option (Bool) := if (l0_0.length : Int) < 1 then (stillageref06_Good.j0 k true l0_0 l0_1) else (if (l0_0.length : Int) > 40 then (stillageref06_Good.j0 k true l0_0 l0_1) else (stillageref06_Good.j0 k (decide ((l0_1.length : Int) > 120)) l0_0 l0_1))
theorem stillageref06_Good.mono_l : ∀ k, (∀ y0 y1 y2, LeO (stillageref06_Good.j0 k y0 y1 y2) (stillageref06_Good.j0 (k + 1) y0 y1 y2)) ∧ (∀ y0 y1 y2 y3, LeO (stillageref06_Good.l0 k y0 y1 y2 y3) (stillageref06_Good.l0 (k + 1) y0 y1 y2 y3)) ∧ (∀ y0 y1 y2 y3, LeO (stillageref06_Good.l1 k y0 y1 y2 y3) (stillageref06_Good.l1 (k + 1) y0 y1 y2 y3)) ∧ (∀ y0 y1 y2 y3 y4 y5 y6 y7, LeO (stillageref06_Good.j3 k y0 y1 y2 y3 y4 y5 y6 y7) (stillageref06_Good.j3 (k + 1) y0 y1 y2 y3 y4 y5 y6 y7)) ∧ (∀ y0 y1 y2 y3 y4 y5, LeO (stillageref06_Good.j4 k y0 y1 y2 y3 y4 y5) (stillageref06_Good.j4 (k + 1) y0 y1 y2 y3 y4 y5)) ∧ (∀ y0 y1 y2 y3 y4 y5, LeO (stillageref06_Good.l2 k y0 y1 y2 y3 y4 y5) (stillageref06_Good.l2 (k + 1) y0 y1 y2 y3 y4 y5))
 | 0 => ⟨fun _ _ _ r h => by simp [stillageref06_Good.j0] at h, fun _ _ _ _ r h => by simp [stillageref06_Good.l0] at h, fun _ _ _ _ r h => by simp [stillageref06_Good.l1] at h, fun _ _ _ _ _ _ _ _ r h => by simp [stillageref06_Good.j3] at h, fun _ _ _ _ _ _ r h => by simp [stillageref06_Good.j4] at h, fun _ _ _ _ _ _ r h => by simp [stillageref06_Good.l2] at h⟩
 | k + 1 => by
  obtain ⟨ih0, ih1, ih2, ih3, ih4, ih5⟩ := stillageref06_Good.mono_l k
  refine ⟨?_, ?_, ?_, ?_, ?_, ?_⟩
  ·intro y0 y1 y2
   unfold stillageref06_Good.j0
   repeat' first
   | (with_reducible exact ih0 _ _ _)
   | (with_reducible exact ih1 _ _ _ _)
   | (with_reducible exact ih2 _ _ _ _)
   | (with_reducible exact ih3 _ _ _ _ _ _ _ _)
   | (with_reducible exact ih4 _ _ _ _ _ _)
   | (with_reducible exact ih5 _ _ _ _ _ _)
   | (with_reducible exact stillageref06_Find.mono _ _ _ _)
   | (with_reducible exact stillageref06_Name.mono _ _)
   | (with_reducible exact LeO.refl _)
   | (with_reducible exact LeO.none _)
   | (with_reducible refine LeO.ite ?_ ?_)
   | (with_reducible refine LeO.bind ?_ (fun _ => ?_))
   | exact ih0 _ _ _
   | exact ih1 _ _ _ _
   | exact ih2 _ _ _ _
   | exact ih3 _ _ _ _ _ _ _ _
   | exact ih4 _ _ _ _ _ _
   | exact ih5 _ _ _ _ _ _
   | exact stillageref06_Find.mono _ _ _ _
   | exact stillageref06_Name.mono _ _
   | exact LeO.none _
   | refine LeO.ite ?_ ?_
   | refine LeO.bind ?_ (fun _ => ?_)
  ·intro y0 y1 y2 y3
   unfold stillageref06_Good.l0
   repeat' first
   | (with_reducible exact ih0 _ _ _)
   | (with_reducible exact ih1 _ _ _ _)
   | (with_reducible exact ih2 _ _ _ _)
   | (with_reducible exact ih3 _ _ _ _ _ _ _ _)
   | (with_reducible exact ih4 _ _ _ _ _ _)
   | (with_reducible exact ih5 _ _ _ _ _ _)
   | (with_reducible exact stillageref06_Find.mono _ _ _ _)
   | (with_reducible exact stillageref06_Name.mono _ _)
   | (with_reducible exact LeO.refl _)
   | (with_reducible exact LeO.none _)
   | (with_reducible refine LeO.ite ?_ ?_)
   | (with_reducible refine LeO.bind ?_ (fun _ => ?_))
   | exact ih0 _ _ _
   | exact ih1 _ _ _ _
   | exact ih2 _ _ _ _
   | exact ih3 _ _ _ _ _ _ _ _
   | exact ih4 _ _ _ _ _ _
   | exact ih5 _ _ _ _ _ _
   | exact stillageref06_Find.mono _ _ _ _
   | exact stillageref06_Name.mono _ _
   | exact LeO.none _
   | refine LeO.ite ?_ ?_
   | refine LeO.bind ?_ (fun _ => ?_)
  ·intro y0 y1 y2 y3
   unfold stillageref06_Good.l1
   repeat' first
   | (with_reducible exact ih0 _ _ _)
   | (with_reducible exact ih1 _ _ _ _)
   | (with_reducible exact ih2 _ _ _ _)
   | (with_reducible exact ih3 _ _ _ _ _ _ _ _)
   | (with_reducible exact ih4 _ _ _ _ _ _)
   | (with_reducible exact ih5 _ _ _ _ _ _)
   | (with_reducible exact stillageref06_Find.mono _ _ _ _)
   | (with_reducible exact stillageref06_Name.mono _ _)
   | (with_reducible exact LeO.refl _)
   | (with_reducible exact LeO.none _)
   | (with_reducible refine LeO.ite ?_ ?_)
   | (with_reducible refine LeO.bind ?_ (fun _ => ?_))
   | exact ih0 _ _ _
   | exact ih1 _ _ _ _
   | exact ih2 _ _ _ _
   | exact ih3 _ _ _ _ _ _ _ _
   | exact ih4 _ _ _ _ _ _
   | exact ih5 _ _ _ _ _ _
   | exact stillageref06_Find.mono _ _ _ _
   | exact stillageref06_Name.mono _ _
   | exact LeO.none _
   | refine LeO.ite ?_ ?_
   | refine LeO.bind ?_ (fun _ => ?_)
  ·intro y0 y1 y2 y3 y4 y5 y6 y7
   unfold stillageref06_Good.j3
   repeat' first
   | (with_reducible exact ih0 _ _ _)
   | (with_reducible exact ih1 _ _ _ _)
   | (with_reducible exact ih2 _ _ _ _)
   | (with_reducible exact ih3 _ _ _ _ _ _ _ _)
   | (with_reducible exact ih4 _ _ _ _ _ _)
   | (with_reducible exact ih5 _ _ _ _ _ _)
   | (with_reducible exact stillageref06_Find.mono _ _ _ _)
   | (with_reducible exact stillageref06_Name.mono _ _)
   | (with_reducible exact LeO.refl _)
   | (with_reducible exact LeO.none _)
   | (with_reducible refine LeO.ite ?_ ?_)
   | (with_reducible refine LeO.bind ?_ (fun _ => ?_))
   | exact ih0 _ _ _
   | exact ih1 _ _ _ _
   | exact ih2 _ _ _ _
   | exact ih3 _ _ _ _ _ _ _ _
   | exact ih4 _ _ _ _ _ _
   | exact ih5 _ _ _ _ _ _
   | exact stillageref06_Find.mono _ _ _ _
   | exact stillageref06_Name.mono _ _
   | exact LeO.none _
   | refine LeO.ite ?_ ?_
   | refine LeO.bind ?_ (fun _ => ?_)
  ·intro y0 y1 y2 y3 y4 y5
   unfold stillageref06_Good.j4
   repeat' first
   | (with_reducible exact ih0 _ _ _)
   | (with_reducible exact ih1 _ _ _ _)
   | (with_reducible exact ih2 _ _ _ _)
   | (with_reducible exact ih3 _ _ _ _ _ _ _ _)
   | (with_reducible exact ih4 _ _ _ _ _ _)
   | (with_reducible exact ih5 _ _ _ _ _ _)
   | (with_reducible exact stillageref06_Find.mono _ _ _ _)
   | (with_reducible exact stillageref06_Name.mono _ _)
   | (with_reducible exact LeO.refl _)
   | (with_reducible exact LeO.none _)
   | (with_reducible refine LeO.ite ?_ ?_)
   | (with_reducible refine LeO.bind ?_ (fun _ => ?_))
   | exact ih0 _ _ _
   | exact ih1 _ _ _ _
   | exact ih2 _ _ _ _
   | exact ih3 _ _ _ _ _ _ _ _
   | exact ih4 _ _ _ _ _ _
   | exact ih5 _ _ _ _ _ _
   | exact stillageref06_Find.mono _ _ _ _
   | exact stillageref06_Name.mono _ _
   | exact LeO.none _
   | refine LeO.ite ?_ ?_
   | refine LeO.bind ?_ (fun _ => ?_)
  ·intro y0 y1 y2 y3 y4 y5
   unfold stillageref06_Good.l2
   repeat' first
   | (with_reducible exact ih0 _ _ _)
   | (with_reducible exact ih1 _ _ _ _)
   | (with_reducible exact ih2 _ _ _ _)
   | (with_reducible exact ih3 _ _ _ _ _ _ _ _)
   | (with_reducible exact ih4 _ _ _ _ _ _)
   | (with_reducible exact ih5 _ _ _ _ _ _)
   | (with_reducible exact stillageref06_Find.mono _ _ _ _)
   | (with_reducible exact stillageref06_Name.mono _ _)
   | (with_reducible exact LeO.refl _)
   | (with_reducible exact LeO.none _)
   | (with_reducible refine LeO.ite ?_ ?_)
   | (with_reducible refine LeO.bind ?_ (fun _ => ?_))
   | exact ih0 _ _ _
   | exact ih1 _ _ _ _
   | exact ih2 _ _ _ _
   | exact ih3 _ _ _ _ _ _ _ _
   | exact ih4 _ _ _ _ _ _
   | exact ih5 _ _ _ _ _ _
   | exact stillageref06_Find.mono _ _ _ _
   | exact stillageref06_Name.mono _ _
   | exact LeO.none _
   | refine LeO.ite ?_ ?_
   | refine LeO.bind ?_ (fun _ => ?_)
theorem stillageref06_Good.mono : ∀ a0 a1 k, LeO (stillageref06_Good.f k a0 a1) (stillageref06_Good.f (k + 1) a0 a1) := by
 intro a0 a1 k
 obtain ⟨ih0, ih1, ih2, ih3, ih4, ih5⟩ := stillageref06_Good.mono_l k
 unfold stillageref06_Good.f
 repeat' first
   | (with_reducible exact ih0 _ _ _)
   | (with_reducible exact ih1 _ _ _ _)
   | (with_reducible exact ih2 _ _ _ _)
   | (with_reducible exact ih3 _ _ _ _ _ _ _ _)
   | (with_reducible exact ih4 _ _ _ _ _ _)
   | (with_reducible exact ih5 _ _ _ _ _ _)
   | (with_reducible exact stillageref06_Find.mono _ _ _ _)
   | (with_reducible exact stillageref06_Name.mono _ _)
   | (with_reducible exact LeO.refl _)
   | (with_reducible exact LeO.none _)
   | (with_reducible refine LeO.ite ?_ ?_)
   | (with_reducible refine LeO.bind ?_ (fun _ => ?_))
   | exact ih0 _ _ _
   | exact ih1 _ _ _ _
   | exact ih2 _ _ _ _
   | exact ih3 _ _ _ _ _ _ _ _
   | exact ih4 _ _ _ _ _ _
   | exact ih5 _ _ _ _ _ _
   | exact stillageref06_Find.mono _ _ _ _
   | exact stillageref06_Name.mono _ _
   | exact LeO.none _
   | refine LeO.ite ?_ ?_
   | refine LeO.bind ?_ (fun _ => ?_)
set_option maxHeartbeats 8000000 in
set_option maxRecDepth 100000 in
theorem stillageref06_Good.calls (k : Nat) (A0_0 : Option Addr) (c0_0 : Nat) (l0_0 : List (S47)) (A0_1 : Option Addr) (c0_1 : Nat) (l0_1 : List (S38)) (r : Bool) (w : World) (hr0_0 : Kd.C k47 w A0_0 l0_0.length l0_0) (hc0_0 : l0_0.length ≤ c0_0) (hr0_1 : Kd.C k38 w A0_1 l0_1.length l0_1) (hc0_1 : l0_1.length ≤ c0_1) (h : stillageref06_Good.f k l0_0 l0_1 = some r) :
  Calls Try.prog 25 #[.agg #[.slice A0_0 l0_0.length c0_0, .slice A0_1 l0_1.length c0_1]] w fun e w' => e = .returned (.bool r) ∧ Below w.heap.size w w' := by
 have hu25 := Try.underlying25
 have hu47 := Try.underlying47
 have hu38 := Try.underlying38
 have HR0_0 := Aside0.mk hr0_0
 have HC0_0 := Aside0.mk hc0_0
 clear hr0_0 hc0_0
 have HR0_1 := Aside0.mk hr0_1
 have HC0_1 := Aside0.mk hc0_1
 clear hr0_1 hc0_1
 have HB := Aside0.mk (Below.refl w.heap.size w)
 have H : (if (l0_0.length : Int) < 1 then (stillageref06_Good.j0 k true l0_0 l0_1) else (if (l0_0.length : Int) > 40 then (stillageref06_Good.j0 k true l0_0 l0_1) else (stillageref06_Good.j0 k (decide ((l0_1.length : Int) > 120)) l0_0 l0_1))) = some r := h
 clear h
 have HC2 := Aside0.mk H
 clear H
 go_enter Try.func25, Try.ntmps25
 go_upto_region 1 with (first | ((with_reducible refine gate_dst (N := 1) rfl ?_); (try (refine gate_guard (by rfl) ?_; dsimp only)); refine box_event ?hg (N := 1) ?hd (cs := #[.slice A0_0 l0_0.length c0_0, .slice A0_1 l0_1.length c0_1]) (t := 25) ?hr ?_; (case hd => rfl); (case hg => rfl); (case hr => first | (go_simp; done) | (go_simp; rfl)); intro gb309 hg w3 hbox hb; have BK309 := Aside0.mk (hbox); have GW309 := Aside0.mk ((by rw [hg]; exact (below_size (zb0 HB.out)) : w.heap.size ≤ gb309)); have GE309 := Aside0.mk ((by rw [hg]; exact (below_size (zb0 HB.out)) : w.heap.size ≤ gb309)); replace HB := Aside0.mk (below_step (zb0 HB.out) hb); clear hb hbox hg))
 repeat (go_quiet (first | ((with_reducible refine gate_dst (N := 1) rfl ?_); (try (refine gate_guard (by rfl) ?_; dsimp only)); refine box_event ?hg (N := 1) ?hd (cs := #[.slice A0_0 l0_0.length c0_0, .slice A0_1 l0_1.length c0_1]) (t := 25) ?hr ?_; (case hd => rfl); (case hg => rfl); (case hr => first | (go_simp; done) | (go_simp; rfl)); intro gb309 hg w3 hbox hb; have BK309 := Aside0.mk (hbox); have GW309 := Aside0.mk ((by rw [hg]; exact (below_size (zb0 HB.out)) : w.heap.size ≤ gb309)); have GE309 := Aside0.mk ((by rw [hg]; exact (below_size (zb0 HB.out)) : w.heap.size ≤ gb309)); replace HB := Aside0.mk (below_step (zb0 HB.out) hb); clear hb hbox hg)); go_upto_region 1 with (first | ((with_reducible refine gate_dst (N := 1) rfl ?_); (try (refine gate_guard (by rfl) ?_; dsimp only)); refine box_event ?hg (N := 1) ?hd (cs := #[.slice A0_0 l0_0.length c0_0, .slice A0_1 l0_1.length c0_1]) (t := 25) ?hr ?_; (case hd => rfl); (case hg => rfl); (case hr => first | (go_simp; done) | (go_simp; rfl)); intro gb309 hg w3 hbox hb; have BK309 := Aside0.mk (hbox); have GW309 := Aside0.mk ((by rw [hg]; exact (below_size (zb0 HB.out)) : w.heap.size ≤ gb309)); have GE309 := Aside0.mk ((by rw [hg]; exact (below_size (zb0 HB.out)) : w.heap.size ≤ gb309)); replace HB := Aside0.mk (below_step (zb0 HB.out) hb); clear hb hbox hg)))
 (try simp only [Act.put, List.setIfInBounds_toArray, List.set_cons_zero, List.set_cons_succ])
 go_cut [24] (fun v24 wc => ∃ (kq : Nat) (x24_1 : Bool), v24 = .bool x24_1 ∧ Aside0 (stillageref06_Good.j0 kq x24_1 l0_0 l0_1 = some r) ∧ Aside0 (kq ≤ k) ∧ Aside0 (wc.heap[gb309]? = some (.cells #[(.slice A0_0 l0_0.length c0_0), (.slice A0_1 l0_1.length c0_1)] 25 (0, 0))) ∧ Aside0 (Below w.heap.size w wc))
 case first =>
  have H := HC2.out
  clear HC2
  by_cases c4 : (l0_0.length : Int) < 1
  ·rw [if_pos c4] at H
   have c4b0 : decide ((l0_0.length : Int) < 1) = true := decide_eq_true c4
   have c4b1 : decide (l0_0.length < 1) = true := decide_eq_true (by omega)
   clear c4
   (first | rw [c4b0] | (simp only [i64_w, i32_w]; rw [c4b0]) | skip)
   have H' := Aside0.mk H; clear H
   have hcz5_0 : w3.cell? ⟨gb309, 0, none⟩ = some (.slice A0_0 l0_0.length c0_0) := (blk_cell BK309.out 0).trans rfl
   have hcz5_1 : w3.cell? ⟨gb309, 1, none⟩ = some (.slice A0_1 l0_1.length c0_1) := (blk_cell BK309.out 1).trans rfl
   have hfz5_0 := blk_frozen BK309.out 0
   have hfz5_1 := blk_frozen BK309.out 1
   go_wp2
   repeat (go_quiet (fail); try go_wp2)
   go_meet
   case rel => exact ⟨_, (true), rs, H', ⟨by first | omega | exact Nat.le_refl _⟩, ⟨zk BK309.out⟩, ⟨zb1 HB.out GE309.out⟩⟩
  rw [if_neg c4] at H
  have c4b0 : decide ((l0_0.length : Int) < 1) = false := decide_eq_false c4
  have c4b1 : decide (l0_0.length < 1) = false := decide_eq_false (by omega)
  clear c4
  (first | rw [c4b0] | (simp only [i64_w, i32_w]; rw [c4b0]) | skip)
  by_cases c6 : (l0_0.length : Int) > 40
  ·rw [if_pos c6] at H
   have c6b0 : decide (40 < (l0_0.length : Int)) = true := decide_eq_true c6
   have c6b1 : decide (40 < l0_0.length) = true := decide_eq_true (by omega)
   clear c6
   have H' := Aside0.mk H; clear H
   have hcz7_0 : w3.cell? ⟨gb309, 0, none⟩ = some (.slice A0_0 l0_0.length c0_0) := (blk_cell BK309.out 0).trans rfl
   have hcz7_1 : w3.cell? ⟨gb309, 1, none⟩ = some (.slice A0_1 l0_1.length c0_1) := (blk_cell BK309.out 1).trans rfl
   have hfz7_0 := blk_frozen BK309.out 0
   have hfz7_1 := blk_frozen BK309.out 1
   go_wp2
   repeat (go_quiet (fail); try go_wp2)
   go_meet
   case rel => exact ⟨_, (true), rs, H', ⟨by first | omega | exact Nat.le_refl _⟩, ⟨zk BK309.out⟩, ⟨zb1 HB.out GE309.out⟩⟩
  rw [if_neg c6] at H
  have c6b0 : decide (40 < (l0_0.length : Int)) = false := decide_eq_false c6
  have c6b1 : decide (40 < l0_0.length) = false := decide_eq_false (by omega)
  clear c6
  have H' := Aside0.mk H; clear H
  have hcz8_0 : w3.cell? ⟨gb309, 0, none⟩ = some (.slice A0_0 l0_0.length c0_0) := (blk_cell BK309.out 0).trans rfl
  have hcz8_1 : w3.cell? ⟨gb309, 1, none⟩ = some (.slice A0_1 l0_1.length c0_1) := (blk_cell BK309.out 1).trans rfl
  have hfz8_0 := blk_frozen BK309.out 0
  have hfz8_1 := blk_frozen BK309.out 1
  go_wp2
  repeat (go_quiet (fail); try go_wp2)
  go_meet
  case rel => exact ⟨_, (decide ((l0_1.length : Int) > 120)), rs, H', ⟨by first | omega | exact Nat.le_refl _⟩, ⟨zk BK309.out⟩, ⟨zb1 HB.out GE309.out⟩⟩
 case rest =>
  clear HC2
  obtain ⟨kq, x24_1, rfl, HA, HJ1, BK309, HB⟩ := hcut
  cases kq with
  | zero => exact absurd HA.out (by simp [stillageref06_Good.j0])
  | succ kj1 =>
   have H := HA.out
   clear HA
   simp only [stillageref06_Good.j0] at H
   by_cases c9 : x24_1 = true
   ·subst c9
    have H1 : (some false) = some r := by rw [if_pos rfl] at H; exact H
    clear H; have H := H1; clear H1
    obtain rfl := Option.some.inj H
    go_wp2
    repeat (go_quiet (fail); try go_wp2)
    go_ret
    exact ⟨by first | rfl | (simp [errW_none, errW_some] <;> rfl) | (simp [*, errW_none, errW_some] <;> rfl), zb1 HB.out GE309.out⟩
   replace c9 := Bool.eq_false_iff.mpr c9
   subst c9
   have H1 : (stillageref06_Good.l0 kj1 (l0_0.length : Int) 0 l0_0 l0_1) = some r := by rw [if_neg (show ¬ (false = true) by decide)] at H; exact H
   clear H; have H := H1; clear H1
   have H' := Aside0.mk H; clear H
   have hcz10_0 : wc.cell? ⟨gb309, 0, none⟩ = some (.slice A0_0 l0_0.length c0_0) := (blk_cell BK309.out 0).trans rfl
   have hcz10_1 : wc.cell? ⟨gb309, 1, none⟩ = some (.slice A0_1 l0_1.length c0_1) := (blk_cell BK309.out 1).trans rfl
   have hfz10_0 := blk_frozen BK309.out 0
   have hfz10_1 := blk_frozen BK309.out 1
   go_wp2
   repeat (go_quiet (fail); try go_wp2)
   go_loopg [28] kj1 (fun kq v28 w' => ∃ (x28_2 : Int), v28 = .int .i64 x28_2 ∧ Aside0 (stillageref06_Good.l0 kq (l0_0.length : Int) x28_2 l0_0 l0_1 = some r) ∧ Aside0 (kq ≤ kj1) ∧ Aside0 (w'.heap[gb309]? = some (.cells #[(.slice A0_0 l0_0.length c0_0), (.slice A0_1 l0_1.length c0_1)] 25 (0, 0))) ∧ Aside0 (Below w.heap.size w w'))
   case atStart => exact ⟨(0), rs, H', ⟨Nat.le_refl _⟩, ⟨zk BK309.out⟩, ⟨zb1 HB.out GE309.out⟩⟩
   case round =>
    clear H'
    obtain ⟨x28_2, rfl, HA, HK2, BK309, HB⟩ := hrel
    cases gk with
    | zero => exact absurd HA.out (by simp [stillageref06_Good.l0])
    | succ k2 =>
     have H := HA.out
     clear HA
     simp only [stillageref06_Good.l0] at H
     by_cases c11 : x28_2 < (l0_0.length : Int)
     rotate_left
     ·rw [if_neg c11] at H
      have c11b0 : decide (x28_2 < (l0_0.length : Int)) = false := decide_eq_false c11
      clear c11
      have H' := Aside0.mk H; clear H
      have hcz54_0 : wr.cell? ⟨gb309, 0, none⟩ = some (.slice A0_0 l0_0.length c0_0) := (blk_cell BK309.out 0).trans rfl
      have hcz54_1 : wr.cell? ⟨gb309, 1, none⟩ = some (.slice A0_1 l0_1.length c0_1) := (blk_cell BK309.out 1).trans rfl
      have hfz54_0 := blk_frozen BK309.out 0
      have hfz54_1 := blk_frozen BK309.out 1
      go_wp2
      repeat (go_quiet (fail); try go_wp2)
      go_loopg [72] k2 (fun kq v72 w' => ∃ (x72_3 : Int), v72 = .int .i64 x72_3 ∧ Aside0 (stillageref06_Good.l1 kq (l0_1.length : Int) x72_3 l0_0 l0_1 = some r) ∧ Aside0 (kq ≤ k2) ∧ Aside0 (w'.heap[gb309]? = some (.cells #[(.slice A0_0 l0_0.length c0_0), (.slice A0_1 l0_1.length c0_1)] 25 (0, 0))) ∧ Aside0 (Below w.heap.size w w'))
      case atStart => exact ⟨(0), rs, H', ⟨Nat.le_refl _⟩, ⟨zk BK309.out⟩, ⟨zb1 HB.out GE309.out⟩⟩
      case round =>
       clear H'
       obtain ⟨x72_3, rfl, HA, HK3, BK309, HB⟩ := hrel
       cases gk with
       | zero => exact absurd HA.out (by simp [stillageref06_Good.l1])
       | succ k3 =>
        have H := HA.out
        clear HA
        simp only [stillageref06_Good.l1] at H
        by_cases c55 : x72_3 < (l0_1.length : Int)
        rotate_left
        ·rw [if_neg c55] at H
         have c55b0 : decide (x72_3 < (l0_1.length : Int)) = false := decide_eq_false c55
         clear c55
         obtain rfl := Option.some.inj H
         go_wp2
         repeat (go_quiet (fail); try go_wp2)
         go_ret
         exact ⟨by first | rfl | (simp [errW_none, errW_some] <;> rfl) | (simp [*, errW_none, errW_some] <;> rfl), zb1 HB.out GE309.out⟩

        rw [if_pos c55] at H
        have c55b0 : decide (x72_3 < (l0_1.length : Int)) = true := decide_eq_true c55
        clear c55
        by_cases c56 : 0 ≤ x72_3
        rotate_left; ·rw [if_neg c56] at H; exact absurd H (by simp)
        rw [if_pos c56] at H
        have c56b0 : decide (0 ≤ x72_3) = true := decide_eq_true c56
        clear c56
        by_cases c57 : x72_3 < (l0_1.length : Int)
        rotate_left; ·rw [if_neg c57] at H; exact absurd H (by simp)
        rw [if_pos c57] at H
        have c57b0 : decide (x72_3 < (l0_1.length : Int)) = true := decide_eq_true c57
        clear c57
        have HC58 := Aside0.mk H
        clear H
        have hcz59_0 : wr.cell? ⟨gb309, 0, none⟩ = some (.slice A0_0 l0_0.length c0_0) := (blk_cell BK309.out 0).trans rfl
        have hcz59_1 : wr.cell? ⟨gb309, 1, none⟩ = some (.slice A0_1 l0_1.length c0_1) := (blk_cell BK309.out 1).trans rfl
        have hfz59_0 := blk_frozen BK309.out 0
        have hfz59_1 := blk_frozen BK309.out 1
        have p314 : 0 ≤ (x72_3 : Int) := oda
        have q314 : x72_3 < (l0_1.length : Int) := oda
        obtain ⟨ad314, e314, hx314_0, hx314_1⟩ := at_T38 HR0_1.out x72_3 p314 q314
        cases e314
        replace hx314_0 := zx HB.out hx314_0
        replace hx314_1 := zx HB.out hx314_1
        replace p314 := eq_true p314
        replace q314 := eq_true q314
        have p315 : 0 ≤ (x72_3 : Int) := oda
        have q315 : x72_3 < (l0_1.length : Int) := oda
        obtain ⟨ad315, e315, hx315_0, hx315_1⟩ := at_T38 HR0_1.out x72_3 p315 q315
        obtain rfl : ad314 = ad315 := (by injection e315)
        replace hx315_0 := zx HB.out hx315_0
        replace hx315_1 := zx HB.out hx315_1
        replace p315 := eq_true p315
        replace q315 := eq_true q315
        go_upto_region 14 with (fail)
        repeat (go_quiet (fail); go_upto_region 14 with (fail))
        go_cut [111] (fun v111 wc => ∃ (kq : Nat) (x111_57 : Bool), v111 = .bool x111_57 ∧ Aside0 (stillageref06_Good.j3 kq x72_3 ((rd_T38 l0_1 x72_3).f0) ((rd_T38 l0_1 x72_3).f1) (l0_1.length : Int) x72_3 x111_57 l0_0 l0_1 = some r) ∧ Aside0 (kq ≤ k3) ∧ Aside0 (wc.heap[gb309]? = some (.cells #[(.slice A0_0 l0_0.length c0_0), (.slice (some ad314) l0_1.length c0_1)] 25 (0, 0))) ∧ Aside0 (Below w.heap.size w wc))
        case first =>
         have H := HC58.out
         clear HC58
         by_cases c60 : ((rd_T38 l0_1 x72_3).f0) < 0
         ·rw [if_pos c60] at H
          have c60b0 : decide (((rd_T38 l0_1 x72_3).f0) < 0) = true := decide_eq_true c60
          clear c60
          (first | rw [c60b0] | (simp only [i64_w, i32_w]; rw [c60b0]) | skip)
          have H' := Aside0.mk H; clear H
          go_wp2
          repeat (go_quiet (fail); try go_wp2)
          go_meet
          case rel => exact ⟨_, (true), rs, H', ⟨by have := HJ1.out; have := HK2.out; have := HK3.out; first | omega | exact Nat.le_refl _⟩, ⟨zk BK309.out⟩, ⟨zb1 HB.out GE309.out⟩⟩
         rw [if_neg c60] at H
         have c60b0 : decide (((rd_T38 l0_1 x72_3).f0) < 0) = false := decide_eq_false c60
         clear c60
         (first | rw [c60b0] | (simp only [i64_w, i32_w]; rw [c60b0]) | skip)
         by_cases c61 : ((rd_T38 l0_1 x72_3).f1) < 0
         ·rw [if_pos c61] at H
          have c61b0 : decide (((rd_T38 l0_1 x72_3).f1) < 0) = true := decide_eq_true c61
          clear c61
          have H' := Aside0.mk H; clear H
          go_wp2
          repeat (go_quiet (fail); try go_wp2)
          go_meet
          case rel => exact ⟨_, (true), rs, H', ⟨by have := HJ1.out; have := HK2.out; have := HK3.out; first | omega | exact Nat.le_refl _⟩, ⟨zk BK309.out⟩, ⟨zb1 HB.out GE309.out⟩⟩
         rw [if_neg c61] at H
         have c61b0 : decide (((rd_T38 l0_1 x72_3).f1) < 0) = false := decide_eq_false c61
         clear c61
         by_cases c62 : ((rd_T38 l0_1 x72_3).f0) ≥ (l0_0.length : Int)
         ·rw [if_pos c62] at H
          have c62b0 : decide ((l0_0.length : Int) ≤ ((rd_T38 l0_1 x72_3).f0)) = true := decide_eq_true c62
          clear c62
          have H' := Aside0.mk H; clear H
          have hcz63_0 : wr.cell? ⟨gb309, 0, none⟩ = some (.slice A0_0 l0_0.length c0_0) := (blk_cell BK309.out 0).trans rfl
          have hcz63_1 : wr.cell? ⟨gb309, 1, none⟩ = some (.slice (some ad314) l0_1.length c0_1) := (blk_cell BK309.out 1).trans rfl
          have hfz63_0 := blk_frozen BK309.out 0
          have hfz63_1 := blk_frozen BK309.out 1
          go_wp2
          repeat (go_quiet (fail); try go_wp2)
          go_meet
          case rel => exact ⟨_, (true), rs, H', ⟨by have := HJ1.out; have := HK2.out; have := HK3.out; first | omega | exact Nat.le_refl _⟩, ⟨zk BK309.out⟩, ⟨zb1 HB.out GE309.out⟩⟩
         rw [if_neg c62] at H
         have c62b0 : decide ((l0_0.length : Int) ≤ ((rd_T38 l0_1 x72_3).f0)) = false := decide_eq_false c62
         clear c62
         by_cases c64 : ((rd_T38 l0_1 x72_3).f1) ≥ (l0_0.length : Int)
         ·rw [if_pos c64] at H
          have c64b0 : decide ((l0_0.length : Int) ≤ ((rd_T38 l0_1 x72_3).f1)) = true := decide_eq_true c64
          clear c64
          have H' := Aside0.mk H; clear H
          have hcz65_0 : wr.cell? ⟨gb309, 0, none⟩ = some (.slice A0_0 l0_0.length c0_0) := (blk_cell BK309.out 0).trans rfl
          have hcz65_1 : wr.cell? ⟨gb309, 1, none⟩ = some (.slice (some ad314) l0_1.length c0_1) := (blk_cell BK309.out 1).trans rfl
          have hfz65_0 := blk_frozen BK309.out 0
          have hfz65_1 := blk_frozen BK309.out 1
          go_wp2
          repeat (go_quiet (fail); try go_wp2)
          go_meet
          case rel => exact ⟨_, (true), rs, H', ⟨by have := HJ1.out; have := HK2.out; have := HK3.out; first | omega | exact Nat.le_refl _⟩, ⟨zk BK309.out⟩, ⟨zb1 HB.out GE309.out⟩⟩
         rw [if_neg c64] at H
         have c64b0 : decide ((l0_0.length : Int) ≤ ((rd_T38 l0_1 x72_3).f1)) = false := decide_eq_false c64
         clear c64
         have H' := Aside0.mk H; clear H
         have hcz66_0 : wr.cell? ⟨gb309, 0, none⟩ = some (.slice A0_0 l0_0.length c0_0) := (blk_cell BK309.out 0).trans rfl
         have hcz66_1 : wr.cell? ⟨gb309, 1, none⟩ = some (.slice (some ad314) l0_1.length c0_1) := (blk_cell BK309.out 1).trans rfl
         have hfz66_0 := blk_frozen BK309.out 0
         have hfz66_1 := blk_frozen BK309.out 1
         go_wp2
         repeat (go_quiet (fail); try go_wp2)
         go_meet
         case rel => exact ⟨_, ((((rd_T38 l0_1 x72_3).f0) == ((rd_T38 l0_1 x72_3).f1))), rs, H', ⟨by have := HJ1.out; have := HK2.out; have := HK3.out; first | omega | exact Nat.le_refl _⟩, ⟨zk BK309.out⟩, ⟨zb1 HB.out GE309.out⟩⟩
        case rest =>
         clear HC58
         obtain ⟨kq, x111_57, rfl, HA, HJ57, BK309, HB⟩ := hcut
         cases kq with
         | zero => exact absurd HA.out (by simp [stillageref06_Good.j3])
         | succ kj57 =>
          have H := HA.out
          clear HA
          simp only [stillageref06_Good.j3] at H
          by_cases c67 : x111_57 = true
          ·subst c67
           have H1 : (some false) = some r := by rw [if_pos rfl] at H; exact H
           clear H; have H := H1; clear H1
           obtain rfl := Option.some.inj H
           go_wp2
           repeat (go_quiet (fail); try go_wp2)
           go_ret
           exact ⟨by first | rfl | (simp [errW_none, errW_some] <;> rfl) | (simp [*, errW_none, errW_some] <;> rfl), zb1 HB.out GE309.out⟩
          replace c67 := Bool.eq_false_iff.mpr c67
          subst c67
          have H1 : (if 0 ≤ ((rd_T38 l0_1 x72_3).f0) then (if ((rd_T38 l0_1 x72_3).f0) < (l0_0.length : Int) then (if ((rd_T47 l0_0 ((rd_T38 l0_1 x72_3).f0)).f1) = 1 then (stillageref06_Good.j4 kj57 x72_3 (l0_1.length : Int) x72_3 false l0_0 l0_1) else (if 0 ≤ ((rd_T38 l0_1 x72_3).f1) then (if ((rd_T38 l0_1 x72_3).f1) < (l0_0.length : Int) then (stillageref06_Good.j4 kj57 x72_3 (l0_1.length : Int) x72_3 (((rd_T47 l0_0 ((rd_T38 l0_1 x72_3).f1)).f1) != 1) l0_0 l0_1) else (none)) else (none))) else (none)) else (none)) = some r := by rw [if_neg (show ¬ (false = true) by decide)] at H; exact H
          clear H; have H := H1; clear H1
          have HC68 := Aside0.mk H
          clear H
          go_upto_region 16 with (fail)
          repeat (go_quiet (fail); go_upto_region 16 with (fail))
          go_cut [127] (fun v127 wc => ∃ (kq : Nat) (x127_67 : Bool), v127 = .bool x127_67 ∧ Aside0 (stillageref06_Good.j4 kq x72_3 (l0_1.length : Int) x72_3 x127_67 l0_0 l0_1 = some r) ∧ Aside0 (kq ≤ kj57) ∧ Aside0 (wc.heap[gb309]? = some (.cells #[(.slice A0_0 l0_0.length c0_0), (.slice (some ad314) l0_1.length c0_1)] 25 (0, 0))) ∧ Aside0 (Below w.heap.size w wc))
          case first =>
           have H := HC68.out
           clear HC68
           by_cases c69 : 0 ≤ ((rd_T38 l0_1 x72_3).f0)
           rotate_left; ·rw [if_neg c69] at H; exact absurd H (by simp)
           rw [if_pos c69] at H
           have c69b0 : decide (0 ≤ ((rd_T38 l0_1 x72_3).f0)) = true := decide_eq_true c69
           clear c69
           (first | rw [c69b0] | (simp only [i64_w, i32_w]; rw [c69b0]) | skip)
           by_cases c70 : ((rd_T38 l0_1 x72_3).f0) < (l0_0.length : Int)
           rotate_left; ·rw [if_neg c70] at H; exact absurd H (by simp)
           rw [if_pos c70] at H
           have c70b0 : decide (((rd_T38 l0_1 x72_3).f0) < (l0_0.length : Int)) = true := decide_eq_true c70
           clear c70
           by_cases c71 : ((rd_T47 l0_0 ((rd_T38 l0_1 x72_3).f0)).f1) = 1
           ·rw [if_pos c71] at H
            have c71b0 : (((rd_T47 l0_0 ((rd_T38 l0_1 x72_3).f0)).f1) == 1) = true := beq_iff_eq.mpr c71
            have c71b1 : (((rd_T47 l0_0 ((rd_T38 l0_1 x72_3).f0)).f1) != 1) = false := bne_eq_false_iff_eq.mpr c71
            clear c71
            have H' := Aside0.mk H; clear H
            have hcz72_0 : wc.cell? ⟨gb309, 0, none⟩ = some (.slice A0_0 l0_0.length c0_0) := (blk_cell BK309.out 0).trans rfl
            have hcz72_1 : wc.cell? ⟨gb309, 1, none⟩ = some (.slice (some ad314) l0_1.length c0_1) := (blk_cell BK309.out 1).trans rfl
            have hfz72_0 := blk_frozen BK309.out 0
            have hfz72_1 := blk_frozen BK309.out 1
            have p316 : 0 ≤ (((rd_T38 l0_1 x72_3).f0) : Int) := oda
            have q316 : ((rd_T38 l0_1 x72_3).f0) < (l0_0.length : Int) := oda
            obtain ⟨ad316, e316, hx316_0, hx316_1, hx316_2⟩ := at_T47 HR0_0.out ((rd_T38 l0_1 x72_3).f0) p316 q316
            cases e316
            replace hx316_0 := zx HB.out hx316_0
            replace hx316_1 := zx HB.out hx316_1
            replace hx316_2 := zx HB.out hx316_2
            replace p316 := eq_true p316
            replace q316 := eq_true q316
            go_wp2
            repeat (go_quiet (fail); try go_wp2)
            go_meet
            case rel => exact ⟨_, (false), rs, H', ⟨by have := HJ1.out; have := HK2.out; have := HK3.out; have := HJ57.out; first | omega | exact Nat.le_refl _⟩, ⟨zk BK309.out⟩, ⟨zb1 HB.out GE309.out⟩⟩
           rw [if_neg c71] at H
           have c71b0 : (((rd_T47 l0_0 ((rd_T38 l0_1 x72_3).f0)).f1) == 1) = false := beq_eq_false_iff_ne.mpr c71
           have c71b1 : (((rd_T47 l0_0 ((rd_T38 l0_1 x72_3).f0)).f1) != 1) = true := bne_iff_ne.mpr c71
           by_cases c73 : 0 ≤ ((rd_T38 l0_1 x72_3).f1)
           rotate_left; ·rw [if_neg c73] at H; exact absurd H (by simp)
           rw [if_pos c73] at H
           have c73b0 : decide (0 ≤ ((rd_T38 l0_1 x72_3).f1)) = true := decide_eq_true c73
           clear c73
           by_cases c74 : ((rd_T38 l0_1 x72_3).f1) < (l0_0.length : Int)
           rotate_left; ·rw [if_neg c74] at H; exact absurd H (by simp)
           rw [if_pos c74] at H
           have c74b0 : decide (((rd_T38 l0_1 x72_3).f1) < (l0_0.length : Int)) = true := decide_eq_true c74
           clear c74
           have H' := Aside0.mk H; clear H
           have hcz75_0 : wc.cell? ⟨gb309, 0, none⟩ = some (.slice A0_0 l0_0.length c0_0) := (blk_cell BK309.out 0).trans rfl
           have hcz75_1 : wc.cell? ⟨gb309, 1, none⟩ = some (.slice (some ad314) l0_1.length c0_1) := (blk_cell BK309.out 1).trans rfl
           have hfz75_0 := blk_frozen BK309.out 0
           have hfz75_1 := blk_frozen BK309.out 1
           have p316 : 0 ≤ (((rd_T38 l0_1 x72_3).f0) : Int) := oda
           have q316 : ((rd_T38 l0_1 x72_3).f0) < (l0_0.length : Int) := oda
           obtain ⟨ad316, e316, hx316_0, hx316_1, hx316_2⟩ := at_T47 HR0_0.out ((rd_T38 l0_1 x72_3).f0) p316 q316
           cases e316
           replace hx316_0 := zx HB.out hx316_0
           replace hx316_1 := zx HB.out hx316_1
           replace hx316_2 := zx HB.out hx316_2
           replace p316 := eq_true p316
           replace q316 := eq_true q316
           have p317 : 0 ≤ (((rd_T38 l0_1 x72_3).f1) : Int) := oda
           have q317 : ((rd_T38 l0_1 x72_3).f1) < (l0_0.length : Int) := oda
           obtain ⟨ad317, e317, hx317_0, hx317_1, hx317_2⟩ := at_T47 HR0_0.out ((rd_T38 l0_1 x72_3).f1) p317 q317
           obtain rfl : ad316 = ad317 := (by injection e317)
           replace hx317_0 := zx HB.out hx317_0
           replace hx317_1 := zx HB.out hx317_1
           replace hx317_2 := zx HB.out hx317_2
           replace p317 := eq_true p317
           replace q317 := eq_true q317
           go_wp2
           repeat (go_quiet (fail); try go_wp2)
           go_meet
           case rel => exact ⟨_, ((((rd_T47 l0_0 ((rd_T38 l0_1 x72_3).f1)).f1) != 1)), rs, H', ⟨by have := HJ1.out; have := HK2.out; have := HK3.out; have := HJ57.out; first | omega | exact Nat.le_refl _⟩, ⟨zk BK309.out⟩, ⟨zb1 HB.out GE309.out⟩⟩
          case rest =>
           clear HC68
           obtain ⟨kq, x127_67, rfl, HA, HJ67, BK309, HB⟩ := hcut
           cases kq with
           | zero => exact absurd HA.out (by simp [stillageref06_Good.j4])
           | succ kj67 =>
            have H := HA.out
            clear HA
            simp only [stillageref06_Good.j4] at H
            by_cases c76 : x127_67 = true
            ·subst c76
             have H1 : (some false) = some r := by rw [if_pos rfl] at H; exact H
             clear H; have H := H1; clear H1
             obtain rfl := Option.some.inj H
             go_wp2
             repeat (go_quiet (fail); try go_wp2)
             go_ret
             exact ⟨by first | rfl | (simp [errW_none, errW_some] <;> rfl) | (simp [*, errW_none, errW_some] <;> rfl), zb1 HB.out GE309.out⟩
            replace c76 := Bool.eq_false_iff.mpr c76
            subst c76
            have H1 : (stillageref06_Good.l2 kj67 x72_3 0 (l0_1.length : Int) x72_3 l0_0 l0_1) = some r := by rw [if_neg (show ¬ (false = true) by decide)] at H; exact H
            clear H; have H := H1; clear H1
            have H' := Aside0.mk H; clear H
            go_wp2
            repeat (go_quiet (fail); try go_wp2)
            go_loopg [8] kj67 (fun kq v8 w' => ∃ (x8_6 : Int), v8 = .int .i64 x8_6 ∧ Aside0 (stillageref06_Good.l2 kq x72_3 x8_6 (l0_1.length : Int) x72_3 l0_0 l0_1 = some r) ∧ Aside0 (kq ≤ kj67) ∧ Aside0 (w'.heap[gb309]? = some (.cells #[(.slice A0_0 l0_0.length c0_0), (.slice (some ad314) l0_1.length c0_1)] 25 (0, 0))) ∧ Aside0 (Below w.heap.size w w'))
            case atStart => exact ⟨(0), rs, H', ⟨Nat.le_refl _⟩, ⟨zk BK309.out⟩, ⟨zb1 HB.out GE309.out⟩⟩
            case round =>
             clear H'
             obtain ⟨x8_6, rfl, HA, HK6, BK309, HB⟩ := hrel
             cases gk with
             | zero => exact absurd HA.out (by simp [stillageref06_Good.l2])
             | succ k6 =>
              have H := HA.out
              clear HA
              simp only [stillageref06_Good.l2] at H
              by_cases c77 : x8_6 < x72_3
              rotate_left
              ·rw [if_neg c77] at H
               have c77b0 : decide (x8_6 < x72_3) = false := decide_eq_false c77
               clear c77
               have H' := Aside0.mk H; clear H
               go_wp2
               repeat (go_quiet (fail); try go_wp2)
               go_roundg k6
               case measure => have := HJ1.out; have := HK2.out; have := HK3.out; have := HJ57.out; have := HJ67.out; have := HK6.out; omega
               case rel => exact ⟨(wrap64 (x72_3 + 1)), rs, H', ⟨by have := HJ1.out; have := HK2.out; have := HK3.out; have := HJ57.out; have := HJ67.out; have := HK6.out; omega⟩, ⟨zk BK309.out⟩, ⟨zb1 HB.out GE309.out⟩⟩
              rw [if_pos c77] at H
              have c77b0 : decide (x8_6 < x72_3) = true := decide_eq_true c77
              clear c77
              by_cases c78 : 0 ≤ x8_6
              rotate_left; ·rw [if_neg c78] at H; exact absurd H (by simp)
              rw [if_pos c78] at H
              have c78b0 : decide (0 ≤ x8_6) = true := decide_eq_true c78
              clear c78
              by_cases c79 : x8_6 < (l0_1.length : Int)
              rotate_left; ·rw [if_neg c79] at H; exact absurd H (by simp)
              rw [if_pos c79] at H
              have c79b0 : decide (x8_6 < (l0_1.length : Int)) = true := decide_eq_true c79
              clear c79
              by_cases c80 : 0 ≤ x72_3
              rotate_left; ·rw [if_neg c80] at H; exact absurd H (by simp)
              rw [if_pos c80] at H
              have c80b0 : decide (0 ≤ x72_3) = true := decide_eq_true c80
              clear c80
              by_cases c81 : x72_3 < (l0_1.length : Int)
              rotate_left; ·rw [if_neg c81] at H; exact absurd H (by simp)
              rw [if_pos c81] at H
              have c81b0 : decide (x72_3 < (l0_1.length : Int)) = true := decide_eq_true c81
              clear c81
              by_cases c82 : (((rd_T38 l0_1 x8_6).f0) == ((rd_T38 l0_1 x72_3).f0) && (((rd_T38 l0_1 x8_6).f1) == ((rd_T38 l0_1 x72_3).f1))) = true
              ·rw [if_pos c82] at H
               have c82b0 : (((rd_T38 l0_1 x8_6).f0) == ((rd_T38 l0_1 x72_3).f0) && (((rd_T38 l0_1 x8_6).f1) == ((rd_T38 l0_1 x72_3).f1))) = true := c82
               (try (have c82b1 : decide (((rd_T38 l0_1 x8_6).f0) = ((rd_T38 l0_1 x72_3).f0) && (((rd_T38 l0_1 x8_6).f1) == ((rd_T38 l0_1 x72_3).f1))) = true := by simpa using c82))
               (try (have c82b2 : (((rd_T38 l0_1 x8_6).f0) == ((rd_T38 l0_1 x72_3).f0) && (((rd_T38 l0_1 x8_6).f1) == ((rd_T38 l0_1 x72_3).f1))) = true := by simpa using c82))
               clear c82
               obtain rfl := Option.some.inj H
               have hcz83_0 : wr.cell? ⟨gb309, 0, none⟩ = some (.slice A0_0 l0_0.length c0_0) := (blk_cell BK309.out 0).trans rfl
               have hcz83_1 : wr.cell? ⟨gb309, 1, none⟩ = some (.slice (some ad314) l0_1.length c0_1) := (blk_cell BK309.out 1).trans rfl
               have hfz83_0 := blk_frozen BK309.out 0
               have hfz83_1 := blk_frozen BK309.out 1
               have p318 : 0 ≤ (x8_6 : Int) := oda
               have q318 : x8_6 < (l0_1.length : Int) := oda
               obtain ⟨ad318, e318, hx318_0, hx318_1⟩ := at_T38 HR0_1.out x8_6 p318 q318
               obtain rfl : ad314 = ad318 := (by injection e318)
               replace hx318_0 := zx HB.out hx318_0
               replace hx318_1 := zx HB.out hx318_1
               replace p318 := eq_true p318
               replace q318 := eq_true q318
               have p319 : 0 ≤ (x72_3 : Int) := oda
               have q319 : x72_3 < (l0_1.length : Int) := oda
               obtain ⟨ad319, e319, hx319_0, hx319_1⟩ := at_T38 HR0_1.out x72_3 p319 q319
               obtain rfl : ad314 = ad319 := (by injection e319)
               replace hx319_0 := zx HB.out hx319_0
               replace hx319_1 := zx HB.out hx319_1
               replace p319 := eq_true p319
               replace q319 := eq_true q319
               go_wp2
               repeat (go_quiet (fail); try go_wp2)
               go_ret
               exact ⟨by first | rfl | (simp [errW_none, errW_some] <;> rfl) | (simp [*, errW_none, errW_some] <;> rfl), zb1 HB.out GE309.out⟩
              rw [if_neg c82] at H
              have c82b0 : (((rd_T38 l0_1 x8_6).f0) == ((rd_T38 l0_1 x72_3).f0) && (((rd_T38 l0_1 x8_6).f1) == ((rd_T38 l0_1 x72_3).f1))) = false := by simpa using c82
              (try (have c82b1 : decide (((rd_T38 l0_1 x8_6).f0) = ((rd_T38 l0_1 x72_3).f0) && (((rd_T38 l0_1 x8_6).f1) == ((rd_T38 l0_1 x72_3).f1))) = false := by simpa using c82))
              (try (have c82b2 : (((rd_T38 l0_1 x8_6).f0) == ((rd_T38 l0_1 x72_3).f0) && (((rd_T38 l0_1 x8_6).f1) == ((rd_T38 l0_1 x72_3).f1))) = false := by simpa using c82))
              (try (have c82b3 : ¬ (((rd_T38 l0_1 x8_6).f0) = ((rd_T38 l0_1 x72_3).f0) && (((rd_T38 l0_1 x8_6).f1) == ((rd_T38 l0_1 x72_3).f1))) := by simpa using c82))
              clear c82
              have H' := Aside0.mk H; clear H
              have hcz84_0 : wr.cell? ⟨gb309, 0, none⟩ = some (.slice A0_0 l0_0.length c0_0) := (blk_cell BK309.out 0).trans rfl
              have hcz84_1 : wr.cell? ⟨gb309, 1, none⟩ = some (.slice (some ad314) l0_1.length c0_1) := (blk_cell BK309.out 1).trans rfl
              have hfz84_0 := blk_frozen BK309.out 0
              have hfz84_1 := blk_frozen BK309.out 1
              have p318 : 0 ≤ (x8_6 : Int) := oda
              have q318 : x8_6 < (l0_1.length : Int) := oda
              obtain ⟨ad318, e318, hx318_0, hx318_1⟩ := at_T38 HR0_1.out x8_6 p318 q318
              obtain rfl : ad314 = ad318 := (by injection e318)
              replace hx318_0 := zx HB.out hx318_0
              replace hx318_1 := zx HB.out hx318_1
              replace p318 := eq_true p318
              replace q318 := eq_true q318
              have p319 : 0 ≤ (x72_3 : Int) := oda
              have q319 : x72_3 < (l0_1.length : Int) := oda
              obtain ⟨ad319, e319, hx319_0, hx319_1⟩ := at_T38 HR0_1.out x72_3 p319 q319
              obtain rfl : ad314 = ad319 := (by injection e319)
              replace hx319_0 := zx HB.out hx319_0
              replace hx319_1 := zx HB.out hx319_1
              replace p319 := eq_true p319
              replace q319 := eq_true q319
              go_wp2
              repeat (go_quiet (fail); try go_wp2)
              go_roundg k6
              case measure => have := HJ1.out; have := HK2.out; have := HK3.out; have := HJ57.out; have := HJ67.out; have := HK6.out; omega
              case rel => exact ⟨(wrap64 (x8_6 + 1)), rs, H', ⟨by have := HJ1.out; have := HK2.out; have := HK3.out; have := HJ57.out; have := HJ67.out; have := HK6.out; omega⟩, ⟨zk BK309.out⟩, ⟨zb1 HB.out GE309.out⟩⟩
     rw [if_pos c11] at H
     have c11b0 : decide (x28_2 < (l0_0.length : Int)) = true := decide_eq_true c11
     clear c11
     by_cases c12 : 0 ≤ x28_2
     rotate_left; ·rw [if_neg c12] at H; exact absurd H (by simp)
     rw [if_pos c12] at H
     have c12b0 : decide (0 ≤ x28_2) = true := decide_eq_true c12
     clear c12
     by_cases c13 : x28_2 < (l0_0.length : Int)
     rotate_left; ·rw [if_neg c13] at H; exact absurd H (by simp)
     rw [if_pos c13] at H
     have c13b0 : decide (x28_2 < (l0_0.length : Int)) = true := decide_eq_true c13
     clear c13
     replace H := Option.bind_eq_some_iff.mp H; obtain ⟨t312, A140, H⟩ := H
     replace H : (if t312 = true then (if ((rd_T47 l0_0 x28_2).f1) < 1 then (some false) else (if ((rd_T47 l0_0 x28_2).f1) > 4 then (some false) else (if ((rd_T47 l0_0 x28_2).f2) < 0 then (some false) else (if ((rd_T47 l0_0 x28_2).f2) > 7 then (some false) else ((stillageref06_Find.f k2 l0_0 l0_1 ((rd_T47 l0_0 x28_2).f0)).bind fun t313 => (if t313 = x28_2 then (stillageref06_Good.l0 k2 (l0_0.length : Int) (wrap64 (x28_2 + 1)) l0_0 l0_1) else (some false))))))) else (some false)) = some r := H
     have A14 := Aside0.mk A140
     clear A140
     by_cases c15 : t312 = true
     rotate_left
     ·replace c15 := Bool.eq_false_iff.mpr c15
      subst c15
      have H1 : (some false) = some r := by rw [if_neg (show ¬ (false = true) by decide)] at H; exact H
      clear H; have H := H1; clear H1
      obtain rfl := Option.some.inj H
      have hcz50_0 : wr.cell? ⟨gb309, 0, none⟩ = some (.slice A0_0 l0_0.length c0_0) := (blk_cell BK309.out 0).trans rfl
      have hcz50_1 : wr.cell? ⟨gb309, 1, none⟩ = some (.slice A0_1 l0_1.length c0_1) := (blk_cell BK309.out 1).trans rfl
      have hfz50_0 := blk_frozen BK309.out 0
      have hfz50_1 := blk_frozen BK309.out 1
      have p310 : 0 ≤ (x28_2 : Int) := oda
      have q310 : x28_2 < (l0_0.length : Int) := oda
      obtain ⟨ad310, e310, hx310_0, hx310_1, hx310_2⟩ := at_T47 HR0_0.out x28_2 p310 q310
      cases e310
      replace hx310_0 := zx HB.out hx310_0
      replace hx310_1 := zx HB.out hx310_1
      replace hx310_2 := zx HB.out hx310_2
      replace p310 := eq_true p310
      replace q310 := eq_true q310
      go_wp2_with (first | ((with_reducible refine gate_dst (N := 4) rfl ?_); (try (refine gate_guard (by rfl) ?_; dsimp only)); refine box_event ?hg (N := 4) ?hd (cs := #[.string (⟨#[]⟩ : ByteArray), .int .i64 0, .int .i64 0]) (t := 47) ?hr ?_; (case hd => rfl); (case hg => rfl); (case hr => first | (go_simp; done) | (go_simp; rfl)); intro gb311 hg w51 hbox hb; have BK311 := Aside0.mk (hbox); have GW311 := Aside0.mk ((by rw [hg]; exact (below_size (zb1 HB.out GE309.out)) : w.heap.size ≤ gb311)); have GE311 := Aside0.mk ((by rw [hg]; exact (below_size (zb1 HB.out GE309.out)) : w.heap.size ≤ gb311)); replace HB := Aside0.mk (below_step (zb1 HB.out GE309.out) hb); have NB309_311 := Aside0.mk ((by rw [hg]; exact Nat.ne_of_lt (blk_lt (g := gb309) (o := .cells #[.slice (some ad310) l0_0.length c0_0, .slice A0_1 l0_1.length c0_1] 25 (0, 0)) (zk BK309.out)) : gb309 ≠ gb311)); have NB311_309 := Aside0.mk ((by rw [hg]; exact Nat.ne_of_gt (blk_lt (g := gb309) (o := .cells #[.slice (some ad310) l0_0.length c0_0, .slice A0_1 l0_1.length c0_1] 25 (0, 0)) (zk BK309.out)) : gb311 ≠ gb309)); replace BK309 := Aside0.mk (blk_below (g := gb309) (o := .cells #[.slice (some ad310) l0_0.length c0_0, .slice A0_1 l0_1.length c0_1] 25 (0, 0)) (zk BK309.out) hb); clear hb hbox hg; have hnb52 := NB311_309.out; have hnc52 := NB309_311.out; have hcz53_0 : w51.cell? ⟨gb311, 0, none⟩ = some (.string (⟨#[]⟩ : ByteArray)) := (blk_cell BK311.out 0).trans rfl; have hcz53_1 : w51.cell? ⟨gb311, 1, none⟩ = some (.int .i64 0) := (blk_cell BK311.out 1).trans rfl; have hcz53_2 : w51.cell? ⟨gb311, 2, none⟩ = some (.int .i64 0) := (blk_cell BK311.out 2).trans rfl; have hfz53_0 := blk_frozen BK311.out 0; have hfz53_1 := blk_frozen BK311.out 1; have hfz53_2 := blk_frozen BK311.out 2) | (go_at_call 38; (with_reducible refine (stillageref06_Name.calls k2 ((rd_T47 l0_0 x28_2).f0) false _ A14.out).mono ?_); rintro e w' ⟨rfl, ⟨nd, rfl⟩⟩; (try first | exact ⟨rfl, _, World.drewN_drewN _ _ _⟩ | exact ⟨rfl, _, Eq.trans (World.drewN_drewN _ _ _) (congrArg (World.drewN _) (Nat.add_assoc _ _ _))⟩)))
      repeat (go_quiet (first | ((with_reducible refine gate_dst (N := 4) rfl ?_); (try (refine gate_guard (by rfl) ?_; dsimp only)); refine box_event ?hg (N := 4) ?hd (cs := #[.string (⟨#[]⟩ : ByteArray), .int .i64 0, .int .i64 0]) (t := 47) ?hr ?_; (case hd => rfl); (case hg => rfl); (case hr => first | (go_simp; done) | (go_simp; rfl)); intro gb311 hg w51 hbox hb; have BK311 := Aside0.mk (hbox); have GW311 := Aside0.mk ((by rw [hg]; exact (below_size (zb1 HB.out GE309.out)) : w.heap.size ≤ gb311)); have GE311 := Aside0.mk ((by rw [hg]; exact (below_size (zb1 HB.out GE309.out)) : w.heap.size ≤ gb311)); replace HB := Aside0.mk (below_step (zb1 HB.out GE309.out) hb); have NB309_311 := Aside0.mk ((by rw [hg]; exact Nat.ne_of_lt (blk_lt (g := gb309) (o := .cells #[.slice (some ad310) l0_0.length c0_0, .slice A0_1 l0_1.length c0_1] 25 (0, 0)) (zk BK309.out)) : gb309 ≠ gb311)); have NB311_309 := Aside0.mk ((by rw [hg]; exact Nat.ne_of_gt (blk_lt (g := gb309) (o := .cells #[.slice (some ad310) l0_0.length c0_0, .slice A0_1 l0_1.length c0_1] 25 (0, 0)) (zk BK309.out)) : gb311 ≠ gb309)); replace BK309 := Aside0.mk (blk_below (g := gb309) (o := .cells #[.slice (some ad310) l0_0.length c0_0, .slice A0_1 l0_1.length c0_1] 25 (0, 0)) (zk BK309.out) hb); clear hb hbox hg; have hnb52 := NB311_309.out; have hnc52 := NB309_311.out; have hcz53_0 : w51.cell? ⟨gb311, 0, none⟩ = some (.string (⟨#[]⟩ : ByteArray)) := (blk_cell BK311.out 0).trans rfl; have hcz53_1 : w51.cell? ⟨gb311, 1, none⟩ = some (.int .i64 0) := (blk_cell BK311.out 1).trans rfl; have hcz53_2 : w51.cell? ⟨gb311, 2, none⟩ = some (.int .i64 0) := (blk_cell BK311.out 2).trans rfl; have hfz53_0 := blk_frozen BK311.out 0; have hfz53_1 := blk_frozen BK311.out 1; have hfz53_2 := blk_frozen BK311.out 2) | (go_at_call 38; (with_reducible refine (stillageref06_Name.calls k2 ((rd_T47 l0_0 x28_2).f0) false _ A14.out).mono ?_); rintro e w' ⟨rfl, ⟨nd, rfl⟩⟩; (try first | exact ⟨rfl, _, World.drewN_drewN _ _ _⟩ | exact ⟨rfl, _, Eq.trans (World.drewN_drewN _ _ _) (congrArg (World.drewN _) (Nat.add_assoc _ _ _))⟩))); try go_wp2_with (first | ((with_reducible refine gate_dst (N := 4) rfl ?_); (try (refine gate_guard (by rfl) ?_; dsimp only)); refine box_event ?hg (N := 4) ?hd (cs := #[.string (⟨#[]⟩ : ByteArray), .int .i64 0, .int .i64 0]) (t := 47) ?hr ?_; (case hd => rfl); (case hg => rfl); (case hr => first | (go_simp; done) | (go_simp; rfl)); intro gb311 hg w51 hbox hb; have BK311 := Aside0.mk (hbox); have GW311 := Aside0.mk ((by rw [hg]; exact (below_size (zb1 HB.out GE309.out)) : w.heap.size ≤ gb311)); have GE311 := Aside0.mk ((by rw [hg]; exact (below_size (zb1 HB.out GE309.out)) : w.heap.size ≤ gb311)); replace HB := Aside0.mk (below_step (zb1 HB.out GE309.out) hb); have NB309_311 := Aside0.mk ((by rw [hg]; exact Nat.ne_of_lt (blk_lt (g := gb309) (o := .cells #[.slice (some ad310) l0_0.length c0_0, .slice A0_1 l0_1.length c0_1] 25 (0, 0)) (zk BK309.out)) : gb309 ≠ gb311)); have NB311_309 := Aside0.mk ((by rw [hg]; exact Nat.ne_of_gt (blk_lt (g := gb309) (o := .cells #[.slice (some ad310) l0_0.length c0_0, .slice A0_1 l0_1.length c0_1] 25 (0, 0)) (zk BK309.out)) : gb311 ≠ gb309)); replace BK309 := Aside0.mk (blk_below (g := gb309) (o := .cells #[.slice (some ad310) l0_0.length c0_0, .slice A0_1 l0_1.length c0_1] 25 (0, 0)) (zk BK309.out) hb); clear hb hbox hg; have hnb52 := NB311_309.out; have hnc52 := NB309_311.out; have hcz53_0 : w51.cell? ⟨gb311, 0, none⟩ = some (.string (⟨#[]⟩ : ByteArray)) := (blk_cell BK311.out 0).trans rfl; have hcz53_1 : w51.cell? ⟨gb311, 1, none⟩ = some (.int .i64 0) := (blk_cell BK311.out 1).trans rfl; have hcz53_2 : w51.cell? ⟨gb311, 2, none⟩ = some (.int .i64 0) := (blk_cell BK311.out 2).trans rfl; have hfz53_0 := blk_frozen BK311.out 0; have hfz53_1 := blk_frozen BK311.out 1; have hfz53_2 := blk_frozen BK311.out 2) | (go_at_call 38; (with_reducible refine (stillageref06_Name.calls k2 ((rd_T47 l0_0 x28_2).f0) false _ A14.out).mono ?_); rintro e w' ⟨rfl, ⟨nd, rfl⟩⟩; (try first | exact ⟨rfl, _, World.drewN_drewN _ _ _⟩ | exact ⟨rfl, _, Eq.trans (World.drewN_drewN _ _ _) (congrArg (World.drewN _) (Nat.add_assoc _ _ _))⟩))))
      go_ret
      exact ⟨by first | rfl | (simp [errW_none, errW_some] <;> rfl) | (simp [*, errW_none, errW_some] <;> rfl), zb2 HB.out GE309.out GE311.out⟩
     subst c15
     have H1 : (if ((rd_T47 l0_0 x28_2).f1) < 1 then (some false) else (if ((rd_T47 l0_0 x28_2).f1) > 4 then (some false) else (if ((rd_T47 l0_0 x28_2).f2) < 0 then (some false) else (if ((rd_T47 l0_0 x28_2).f2) > 7 then (some false) else ((stillageref06_Find.f k2 l0_0 l0_1 ((rd_T47 l0_0 x28_2).f0)).bind fun t313 => (if t313 = x28_2 then (stillageref06_Good.l0 k2 (l0_0.length : Int) (wrap64 (x28_2 + 1)) l0_0 l0_1) else (some false))))))) = some r := by rw [if_pos rfl] at H; exact H
     clear H; have H := H1; clear H1
     by_cases c16 : ((rd_T47 l0_0 x28_2).f1) < 1
     ·rw [if_pos c16] at H
      have c16b0 : decide (((rd_T47 l0_0 x28_2).f1) < 1) = true := decide_eq_true c16
      clear c16
      obtain rfl := Option.some.inj H
      have hcz17_0 : wr.cell? ⟨gb309, 0, none⟩ = some (.slice A0_0 l0_0.length c0_0) := (blk_cell BK309.out 0).trans rfl
      have hcz17_1 : wr.cell? ⟨gb309, 1, none⟩ = some (.slice A0_1 l0_1.length c0_1) := (blk_cell BK309.out 1).trans rfl
      have hfz17_0 := blk_frozen BK309.out 0
      have hfz17_1 := blk_frozen BK309.out 1
      have p310 : 0 ≤ (x28_2 : Int) := oda
      have q310 : x28_2 < (l0_0.length : Int) := oda
      obtain ⟨ad310, e310, hx310_0, hx310_1, hx310_2⟩ := at_T47 HR0_0.out x28_2 p310 q310
      cases e310
      replace hx310_0 := zx HB.out hx310_0
      replace hx310_1 := zx HB.out hx310_1
      replace hx310_2 := zx HB.out hx310_2
      replace p310 := eq_true p310
      replace q310 := eq_true q310
      go_wp2_with (first | ((with_reducible refine gate_dst (N := 4) rfl ?_); (try (refine gate_guard (by rfl) ?_; dsimp only)); refine box_event ?hg (N := 4) ?hd (cs := #[.string (⟨#[]⟩ : ByteArray), .int .i64 0, .int .i64 0]) (t := 47) ?hr ?_; (case hd => rfl); (case hg => rfl); (case hr => first | (go_simp; done) | (go_simp; rfl)); intro gb311 hg w18 hbox hb; have BK311 := Aside0.mk (hbox); have GW311 := Aside0.mk ((by rw [hg]; exact (below_size (zb1 HB.out GE309.out)) : w.heap.size ≤ gb311)); have GE311 := Aside0.mk ((by rw [hg]; exact (below_size (zb1 HB.out GE309.out)) : w.heap.size ≤ gb311)); replace HB := Aside0.mk (below_step (zb1 HB.out GE309.out) hb); have NB309_311 := Aside0.mk ((by rw [hg]; exact Nat.ne_of_lt (blk_lt (g := gb309) (o := .cells #[.slice (some ad310) l0_0.length c0_0, .slice A0_1 l0_1.length c0_1] 25 (0, 0)) (zk BK309.out)) : gb309 ≠ gb311)); have NB311_309 := Aside0.mk ((by rw [hg]; exact Nat.ne_of_gt (blk_lt (g := gb309) (o := .cells #[.slice (some ad310) l0_0.length c0_0, .slice A0_1 l0_1.length c0_1] 25 (0, 0)) (zk BK309.out)) : gb311 ≠ gb309)); replace BK309 := Aside0.mk (blk_below (g := gb309) (o := .cells #[.slice (some ad310) l0_0.length c0_0, .slice A0_1 l0_1.length c0_1] 25 (0, 0)) (zk BK309.out) hb); clear hb hbox hg; have hnb19 := NB311_309.out; have hnc19 := NB309_311.out; have hcz20_0 : w18.cell? ⟨gb311, 0, none⟩ = some (.string (⟨#[]⟩ : ByteArray)) := (blk_cell BK311.out 0).trans rfl; have hcz20_1 : w18.cell? ⟨gb311, 1, none⟩ = some (.int .i64 0) := (blk_cell BK311.out 1).trans rfl; have hcz20_2 : w18.cell? ⟨gb311, 2, none⟩ = some (.int .i64 0) := (blk_cell BK311.out 2).trans rfl; have hfz20_0 := blk_frozen BK311.out 0; have hfz20_1 := blk_frozen BK311.out 1; have hfz20_2 := blk_frozen BK311.out 2) | (go_at_call 38; (with_reducible refine (stillageref06_Name.calls k2 ((rd_T47 l0_0 x28_2).f0) true _ A14.out).mono ?_); rintro e w' ⟨rfl, ⟨nd, rfl⟩⟩; (try first | exact ⟨rfl, _, World.drewN_drewN _ _ _⟩ | exact ⟨rfl, _, Eq.trans (World.drewN_drewN _ _ _) (congrArg (World.drewN _) (Nat.add_assoc _ _ _))⟩)))
      repeat (go_quiet (first | ((with_reducible refine gate_dst (N := 4) rfl ?_); (try (refine gate_guard (by rfl) ?_; dsimp only)); refine box_event ?hg (N := 4) ?hd (cs := #[.string (⟨#[]⟩ : ByteArray), .int .i64 0, .int .i64 0]) (t := 47) ?hr ?_; (case hd => rfl); (case hg => rfl); (case hr => first | (go_simp; done) | (go_simp; rfl)); intro gb311 hg w18 hbox hb; have BK311 := Aside0.mk (hbox); have GW311 := Aside0.mk ((by rw [hg]; exact (below_size (zb1 HB.out GE309.out)) : w.heap.size ≤ gb311)); have GE311 := Aside0.mk ((by rw [hg]; exact (below_size (zb1 HB.out GE309.out)) : w.heap.size ≤ gb311)); replace HB := Aside0.mk (below_step (zb1 HB.out GE309.out) hb); have NB309_311 := Aside0.mk ((by rw [hg]; exact Nat.ne_of_lt (blk_lt (g := gb309) (o := .cells #[.slice (some ad310) l0_0.length c0_0, .slice A0_1 l0_1.length c0_1] 25 (0, 0)) (zk BK309.out)) : gb309 ≠ gb311)); have NB311_309 := Aside0.mk ((by rw [hg]; exact Nat.ne_of_gt (blk_lt (g := gb309) (o := .cells #[.slice (some ad310) l0_0.length c0_0, .slice A0_1 l0_1.length c0_1] 25 (0, 0)) (zk BK309.out)) : gb311 ≠ gb309)); replace BK309 := Aside0.mk (blk_below (g := gb309) (o := .cells #[.slice (some ad310) l0_0.length c0_0, .slice A0_1 l0_1.length c0_1] 25 (0, 0)) (zk BK309.out) hb); clear hb hbox hg; have hnb19 := NB311_309.out; have hnc19 := NB309_311.out; have hcz20_0 : w18.cell? ⟨gb311, 0, none⟩ = some (.string (⟨#[]⟩ : ByteArray)) := (blk_cell BK311.out 0).trans rfl; have hcz20_1 : w18.cell? ⟨gb311, 1, none⟩ = some (.int .i64 0) := (blk_cell BK311.out 1).trans rfl; have hcz20_2 : w18.cell? ⟨gb311, 2, none⟩ = some (.int .i64 0) := (blk_cell BK311.out 2).trans rfl; have hfz20_0 := blk_frozen BK311.out 0; have hfz20_1 := blk_frozen BK311.out 1; have hfz20_2 := blk_frozen BK311.out 2) | (go_at_call 38; (with_reducible refine (stillageref06_Name.calls k2 ((rd_T47 l0_0 x28_2).f0) true _ A14.out).mono ?_); rintro e w' ⟨rfl, ⟨nd, rfl⟩⟩; (try first | exact ⟨rfl, _, World.drewN_drewN _ _ _⟩ | exact ⟨rfl, _, Eq.trans (World.drewN_drewN _ _ _) (congrArg (World.drewN _) (Nat.add_assoc _ _ _))⟩))); try go_wp2_with (first | ((with_reducible refine gate_dst (N := 4) rfl ?_); (try (refine gate_guard (by rfl) ?_; dsimp only)); refine box_event ?hg (N := 4) ?hd (cs := #[.string (⟨#[]⟩ : ByteArray), .int .i64 0, .int .i64 0]) (t := 47) ?hr ?_; (case hd => rfl); (case hg => rfl); (case hr => first | (go_simp; done) | (go_simp; rfl)); intro gb311 hg w18 hbox hb; have BK311 := Aside0.mk (hbox); have GW311 := Aside0.mk ((by rw [hg]; exact (below_size (zb1 HB.out GE309.out)) : w.heap.size ≤ gb311)); have GE311 := Aside0.mk ((by rw [hg]; exact (below_size (zb1 HB.out GE309.out)) : w.heap.size ≤ gb311)); replace HB := Aside0.mk (below_step (zb1 HB.out GE309.out) hb); have NB309_311 := Aside0.mk ((by rw [hg]; exact Nat.ne_of_lt (blk_lt (g := gb309) (o := .cells #[.slice (some ad310) l0_0.length c0_0, .slice A0_1 l0_1.length c0_1] 25 (0, 0)) (zk BK309.out)) : gb309 ≠ gb311)); have NB311_309 := Aside0.mk ((by rw [hg]; exact Nat.ne_of_gt (blk_lt (g := gb309) (o := .cells #[.slice (some ad310) l0_0.length c0_0, .slice A0_1 l0_1.length c0_1] 25 (0, 0)) (zk BK309.out)) : gb311 ≠ gb309)); replace BK309 := Aside0.mk (blk_below (g := gb309) (o := .cells #[.slice (some ad310) l0_0.length c0_0, .slice A0_1 l0_1.length c0_1] 25 (0, 0)) (zk BK309.out) hb); clear hb hbox hg; have hnb19 := NB311_309.out; have hnc19 := NB309_311.out; have hcz20_0 : w18.cell? ⟨gb311, 0, none⟩ = some (.string (⟨#[]⟩ : ByteArray)) := (blk_cell BK311.out 0).trans rfl; have hcz20_1 : w18.cell? ⟨gb311, 1, none⟩ = some (.int .i64 0) := (blk_cell BK311.out 1).trans rfl; have hcz20_2 : w18.cell? ⟨gb311, 2, none⟩ = some (.int .i64 0) := (blk_cell BK311.out 2).trans rfl; have hfz20_0 := blk_frozen BK311.out 0; have hfz20_1 := blk_frozen BK311.out 1; have hfz20_2 := blk_frozen BK311.out 2) | (go_at_call 38; (with_reducible refine (stillageref06_Name.calls k2 ((rd_T47 l0_0 x28_2).f0) true _ A14.out).mono ?_); rintro e w' ⟨rfl, ⟨nd, rfl⟩⟩; (try first | exact ⟨rfl, _, World.drewN_drewN _ _ _⟩ | exact ⟨rfl, _, Eq.trans (World.drewN_drewN _ _ _) (congrArg (World.drewN _) (Nat.add_assoc _ _ _))⟩))))
      go_ret
      exact ⟨by first | rfl | (simp [errW_none, errW_some] <;> rfl) | (simp [*, errW_none, errW_some] <;> rfl), zb2 HB.out GE309.out GE311.out⟩
     rw [if_neg c16] at H
     have c16b0 : decide (((rd_T47 l0_0 x28_2).f1) < 1) = false := decide_eq_false c16
     clear c16
     by_cases c21 : ((rd_T47 l0_0 x28_2).f1) > 4
     ·rw [if_pos c21] at H
      have c21b0 : decide (4 < ((rd_T47 l0_0 x28_2).f1)) = true := decide_eq_true c21
      clear c21
      obtain rfl := Option.some.inj H
      have hcz22_0 : wr.cell? ⟨gb309, 0, none⟩ = some (.slice A0_0 l0_0.length c0_0) := (blk_cell BK309.out 0).trans rfl
      have hcz22_1 : wr.cell? ⟨gb309, 1, none⟩ = some (.slice A0_1 l0_1.length c0_1) := (blk_cell BK309.out 1).trans rfl
      have hfz22_0 := blk_frozen BK309.out 0
      have hfz22_1 := blk_frozen BK309.out 1
      have p310 : 0 ≤ (x28_2 : Int) := oda
      have q310 : x28_2 < (l0_0.length : Int) := oda
      obtain ⟨ad310, e310, hx310_0, hx310_1, hx310_2⟩ := at_T47 HR0_0.out x28_2 p310 q310
      cases e310
      replace hx310_0 := zx HB.out hx310_0
      replace hx310_1 := zx HB.out hx310_1
      replace hx310_2 := zx HB.out hx310_2
      replace p310 := eq_true p310
      replace q310 := eq_true q310
      go_wp2_with (first | ((with_reducible refine gate_dst (N := 4) rfl ?_); (try (refine gate_guard (by rfl) ?_; dsimp only)); refine box_event ?hg (N := 4) ?hd (cs := #[.string (⟨#[]⟩ : ByteArray), .int .i64 0, .int .i64 0]) (t := 47) ?hr ?_; (case hd => rfl); (case hg => rfl); (case hr => first | (go_simp; done) | (go_simp; rfl)); intro gb311 hg w23 hbox hb; have BK311 := Aside0.mk (hbox); have GW311 := Aside0.mk ((by rw [hg]; exact (below_size (zb1 HB.out GE309.out)) : w.heap.size ≤ gb311)); have GE311 := Aside0.mk ((by rw [hg]; exact (below_size (zb1 HB.out GE309.out)) : w.heap.size ≤ gb311)); replace HB := Aside0.mk (below_step (zb1 HB.out GE309.out) hb); have NB309_311 := Aside0.mk ((by rw [hg]; exact Nat.ne_of_lt (blk_lt (g := gb309) (o := .cells #[.slice (some ad310) l0_0.length c0_0, .slice A0_1 l0_1.length c0_1] 25 (0, 0)) (zk BK309.out)) : gb309 ≠ gb311)); have NB311_309 := Aside0.mk ((by rw [hg]; exact Nat.ne_of_gt (blk_lt (g := gb309) (o := .cells #[.slice (some ad310) l0_0.length c0_0, .slice A0_1 l0_1.length c0_1] 25 (0, 0)) (zk BK309.out)) : gb311 ≠ gb309)); replace BK309 := Aside0.mk (blk_below (g := gb309) (o := .cells #[.slice (some ad310) l0_0.length c0_0, .slice A0_1 l0_1.length c0_1] 25 (0, 0)) (zk BK309.out) hb); clear hb hbox hg; have hnb24 := NB311_309.out; have hnc24 := NB309_311.out; have hcz25_0 : w23.cell? ⟨gb311, 0, none⟩ = some (.string (⟨#[]⟩ : ByteArray)) := (blk_cell BK311.out 0).trans rfl; have hcz25_1 : w23.cell? ⟨gb311, 1, none⟩ = some (.int .i64 0) := (blk_cell BK311.out 1).trans rfl; have hcz25_2 : w23.cell? ⟨gb311, 2, none⟩ = some (.int .i64 0) := (blk_cell BK311.out 2).trans rfl; have hfz25_0 := blk_frozen BK311.out 0; have hfz25_1 := blk_frozen BK311.out 1; have hfz25_2 := blk_frozen BK311.out 2) | (go_at_call 38; (with_reducible refine (stillageref06_Name.calls k2 ((rd_T47 l0_0 x28_2).f0) true _ A14.out).mono ?_); rintro e w' ⟨rfl, ⟨nd, rfl⟩⟩; (try first | exact ⟨rfl, _, World.drewN_drewN _ _ _⟩ | exact ⟨rfl, _, Eq.trans (World.drewN_drewN _ _ _) (congrArg (World.drewN _) (Nat.add_assoc _ _ _))⟩)))
      repeat (go_quiet (first | ((with_reducible refine gate_dst (N := 4) rfl ?_); (try (refine gate_guard (by rfl) ?_; dsimp only)); refine box_event ?hg (N := 4) ?hd (cs := #[.string (⟨#[]⟩ : ByteArray), .int .i64 0, .int .i64 0]) (t := 47) ?hr ?_; (case hd => rfl); (case hg => rfl); (case hr => first | (go_simp; done) | (go_simp; rfl)); intro gb311 hg w23 hbox hb; have BK311 := Aside0.mk (hbox); have GW311 := Aside0.mk ((by rw [hg]; exact (below_size (zb1 HB.out GE309.out)) : w.heap.size ≤ gb311)); have GE311 := Aside0.mk ((by rw [hg]; exact (below_size (zb1 HB.out GE309.out)) : w.heap.size ≤ gb311)); replace HB := Aside0.mk (below_step (zb1 HB.out GE309.out) hb); have NB309_311 := Aside0.mk ((by rw [hg]; exact Nat.ne_of_lt (blk_lt (g := gb309) (o := .cells #[.slice (some ad310) l0_0.length c0_0, .slice A0_1 l0_1.length c0_1] 25 (0, 0)) (zk BK309.out)) : gb309 ≠ gb311)); have NB311_309 := Aside0.mk ((by rw [hg]; exact Nat.ne_of_gt (blk_lt (g := gb309) (o := .cells #[.slice (some ad310) l0_0.length c0_0, .slice A0_1 l0_1.length c0_1] 25 (0, 0)) (zk BK309.out)) : gb311 ≠ gb309)); replace BK309 := Aside0.mk (blk_below (g := gb309) (o := .cells #[.slice (some ad310) l0_0.length c0_0, .slice A0_1 l0_1.length c0_1] 25 (0, 0)) (zk BK309.out) hb); clear hb hbox hg; have hnb24 := NB311_309.out; have hnc24 := NB309_311.out; have hcz25_0 : w23.cell? ⟨gb311, 0, none⟩ = some (.string (⟨#[]⟩ : ByteArray)) := (blk_cell BK311.out 0).trans rfl; have hcz25_1 : w23.cell? ⟨gb311, 1, none⟩ = some (.int .i64 0) := (blk_cell BK311.out 1).trans rfl; have hcz25_2 : w23.cell? ⟨gb311, 2, none⟩ = some (.int .i64 0) := (blk_cell BK311.out 2).trans rfl; have hfz25_0 := blk_frozen BK311.out 0; have hfz25_1 := blk_frozen BK311.out 1; have hfz25_2 := blk_frozen BK311.out 2) | (go_at_call 38; (with_reducible refine (stillageref06_Name.calls k2 ((rd_T47 l0_0 x28_2).f0) true _ A14.out).mono ?_); rintro e w' ⟨rfl, ⟨nd, rfl⟩⟩; (try first | exact ⟨rfl, _, World.drewN_drewN _ _ _⟩ | exact ⟨rfl, _, Eq.trans (World.drewN_drewN _ _ _) (congrArg (World.drewN _) (Nat.add_assoc _ _ _))⟩))); try go_wp2_with (first | ((with_reducible refine gate_dst (N := 4) rfl ?_); (try (refine gate_guard (by rfl) ?_; dsimp only)); refine box_event ?hg (N := 4) ?hd (cs := #[.string (⟨#[]⟩ : ByteArray), .int .i64 0, .int .i64 0]) (t := 47) ?hr ?_; (case hd => rfl); (case hg => rfl); (case hr => first | (go_simp; done) | (go_simp; rfl)); intro gb311 hg w23 hbox hb; have BK311 := Aside0.mk (hbox); have GW311 := Aside0.mk ((by rw [hg]; exact (below_size (zb1 HB.out GE309.out)) : w.heap.size ≤ gb311)); have GE311 := Aside0.mk ((by rw [hg]; exact (below_size (zb1 HB.out GE309.out)) : w.heap.size ≤ gb311)); replace HB := Aside0.mk (below_step (zb1 HB.out GE309.out) hb); have NB309_311 := Aside0.mk ((by rw [hg]; exact Nat.ne_of_lt (blk_lt (g := gb309) (o := .cells #[.slice (some ad310) l0_0.length c0_0, .slice A0_1 l0_1.length c0_1] 25 (0, 0)) (zk BK309.out)) : gb309 ≠ gb311)); have NB311_309 := Aside0.mk ((by rw [hg]; exact Nat.ne_of_gt (blk_lt (g := gb309) (o := .cells #[.slice (some ad310) l0_0.length c0_0, .slice A0_1 l0_1.length c0_1] 25 (0, 0)) (zk BK309.out)) : gb311 ≠ gb309)); replace BK309 := Aside0.mk (blk_below (g := gb309) (o := .cells #[.slice (some ad310) l0_0.length c0_0, .slice A0_1 l0_1.length c0_1] 25 (0, 0)) (zk BK309.out) hb); clear hb hbox hg; have hnb24 := NB311_309.out; have hnc24 := NB309_311.out; have hcz25_0 : w23.cell? ⟨gb311, 0, none⟩ = some (.string (⟨#[]⟩ : ByteArray)) := (blk_cell BK311.out 0).trans rfl; have hcz25_1 : w23.cell? ⟨gb311, 1, none⟩ = some (.int .i64 0) := (blk_cell BK311.out 1).trans rfl; have hcz25_2 : w23.cell? ⟨gb311, 2, none⟩ = some (.int .i64 0) := (blk_cell BK311.out 2).trans rfl; have hfz25_0 := blk_frozen BK311.out 0; have hfz25_1 := blk_frozen BK311.out 1; have hfz25_2 := blk_frozen BK311.out 2) | (go_at_call 38; (with_reducible refine (stillageref06_Name.calls k2 ((rd_T47 l0_0 x28_2).f0) true _ A14.out).mono ?_); rintro e w' ⟨rfl, ⟨nd, rfl⟩⟩; (try first | exact ⟨rfl, _, World.drewN_drewN _ _ _⟩ | exact ⟨rfl, _, Eq.trans (World.drewN_drewN _ _ _) (congrArg (World.drewN _) (Nat.add_assoc _ _ _))⟩))))
      go_ret
      exact ⟨by first | rfl | (simp [errW_none, errW_some] <;> rfl) | (simp [*, errW_none, errW_some] <;> rfl), zb2 HB.out GE309.out GE311.out⟩
     rw [if_neg c21] at H
     have c21b0 : decide (4 < ((rd_T47 l0_0 x28_2).f1)) = false := decide_eq_false c21
     clear c21
     by_cases c26 : ((rd_T47 l0_0 x28_2).f2) < 0
     ·rw [if_pos c26] at H
      have c26b0 : decide (((rd_T47 l0_0 x28_2).f2) < 0) = true := decide_eq_true c26
      clear c26
      obtain rfl := Option.some.inj H
      have hcz27_0 : wr.cell? ⟨gb309, 0, none⟩ = some (.slice A0_0 l0_0.length c0_0) := (blk_cell BK309.out 0).trans rfl
      have hcz27_1 : wr.cell? ⟨gb309, 1, none⟩ = some (.slice A0_1 l0_1.length c0_1) := (blk_cell BK309.out 1).trans rfl
      have hfz27_0 := blk_frozen BK309.out 0
      have hfz27_1 := blk_frozen BK309.out 1
      have p310 : 0 ≤ (x28_2 : Int) := oda
      have q310 : x28_2 < (l0_0.length : Int) := oda
      obtain ⟨ad310, e310, hx310_0, hx310_1, hx310_2⟩ := at_T47 HR0_0.out x28_2 p310 q310
      cases e310
      replace hx310_0 := zx HB.out hx310_0
      replace hx310_1 := zx HB.out hx310_1
      replace hx310_2 := zx HB.out hx310_2
      replace p310 := eq_true p310
      replace q310 := eq_true q310
      go_wp2_with (first | ((with_reducible refine gate_dst (N := 4) rfl ?_); (try (refine gate_guard (by rfl) ?_; dsimp only)); refine box_event ?hg (N := 4) ?hd (cs := #[.string (⟨#[]⟩ : ByteArray), .int .i64 0, .int .i64 0]) (t := 47) ?hr ?_; (case hd => rfl); (case hg => rfl); (case hr => first | (go_simp; done) | (go_simp; rfl)); intro gb311 hg w28 hbox hb; have BK311 := Aside0.mk (hbox); have GW311 := Aside0.mk ((by rw [hg]; exact (below_size (zb1 HB.out GE309.out)) : w.heap.size ≤ gb311)); have GE311 := Aside0.mk ((by rw [hg]; exact (below_size (zb1 HB.out GE309.out)) : w.heap.size ≤ gb311)); replace HB := Aside0.mk (below_step (zb1 HB.out GE309.out) hb); have NB309_311 := Aside0.mk ((by rw [hg]; exact Nat.ne_of_lt (blk_lt (g := gb309) (o := .cells #[.slice (some ad310) l0_0.length c0_0, .slice A0_1 l0_1.length c0_1] 25 (0, 0)) (zk BK309.out)) : gb309 ≠ gb311)); have NB311_309 := Aside0.mk ((by rw [hg]; exact Nat.ne_of_gt (blk_lt (g := gb309) (o := .cells #[.slice (some ad310) l0_0.length c0_0, .slice A0_1 l0_1.length c0_1] 25 (0, 0)) (zk BK309.out)) : gb311 ≠ gb309)); replace BK309 := Aside0.mk (blk_below (g := gb309) (o := .cells #[.slice (some ad310) l0_0.length c0_0, .slice A0_1 l0_1.length c0_1] 25 (0, 0)) (zk BK309.out) hb); clear hb hbox hg; have hnb29 := NB311_309.out; have hnc29 := NB309_311.out; have hcz30_0 : w28.cell? ⟨gb311, 0, none⟩ = some (.string (⟨#[]⟩ : ByteArray)) := (blk_cell BK311.out 0).trans rfl; have hcz30_1 : w28.cell? ⟨gb311, 1, none⟩ = some (.int .i64 0) := (blk_cell BK311.out 1).trans rfl; have hcz30_2 : w28.cell? ⟨gb311, 2, none⟩ = some (.int .i64 0) := (blk_cell BK311.out 2).trans rfl; have hfz30_0 := blk_frozen BK311.out 0; have hfz30_1 := blk_frozen BK311.out 1; have hfz30_2 := blk_frozen BK311.out 2) | (go_at_call 38; (with_reducible refine (stillageref06_Name.calls k2 ((rd_T47 l0_0 x28_2).f0) true _ A14.out).mono ?_); rintro e w' ⟨rfl, ⟨nd, rfl⟩⟩; (try first | exact ⟨rfl, _, World.drewN_drewN _ _ _⟩ | exact ⟨rfl, _, Eq.trans (World.drewN_drewN _ _ _) (congrArg (World.drewN _) (Nat.add_assoc _ _ _))⟩)))
      repeat (go_quiet (first | ((with_reducible refine gate_dst (N := 4) rfl ?_); (try (refine gate_guard (by rfl) ?_; dsimp only)); refine box_event ?hg (N := 4) ?hd (cs := #[.string (⟨#[]⟩ : ByteArray), .int .i64 0, .int .i64 0]) (t := 47) ?hr ?_; (case hd => rfl); (case hg => rfl); (case hr => first | (go_simp; done) | (go_simp; rfl)); intro gb311 hg w28 hbox hb; have BK311 := Aside0.mk (hbox); have GW311 := Aside0.mk ((by rw [hg]; exact (below_size (zb1 HB.out GE309.out)) : w.heap.size ≤ gb311)); have GE311 := Aside0.mk ((by rw [hg]; exact (below_size (zb1 HB.out GE309.out)) : w.heap.size ≤ gb311)); replace HB := Aside0.mk (below_step (zb1 HB.out GE309.out) hb); have NB309_311 := Aside0.mk ((by rw [hg]; exact Nat.ne_of_lt (blk_lt (g := gb309) (o := .cells #[.slice (some ad310) l0_0.length c0_0, .slice A0_1 l0_1.length c0_1] 25 (0, 0)) (zk BK309.out)) : gb309 ≠ gb311)); have NB311_309 := Aside0.mk ((by rw [hg]; exact Nat.ne_of_gt (blk_lt (g := gb309) (o := .cells #[.slice (some ad310) l0_0.length c0_0, .slice A0_1 l0_1.length c0_1] 25 (0, 0)) (zk BK309.out)) : gb311 ≠ gb309)); replace BK309 := Aside0.mk (blk_below (g := gb309) (o := .cells #[.slice (some ad310) l0_0.length c0_0, .slice A0_1 l0_1.length c0_1] 25 (0, 0)) (zk BK309.out) hb); clear hb hbox hg; have hnb29 := NB311_309.out; have hnc29 := NB309_311.out; have hcz30_0 : w28.cell? ⟨gb311, 0, none⟩ = some (.string (⟨#[]⟩ : ByteArray)) := (blk_cell BK311.out 0).trans rfl; have hcz30_1 : w28.cell? ⟨gb311, 1, none⟩ = some (.int .i64 0) := (blk_cell BK311.out 1).trans rfl; have hcz30_2 : w28.cell? ⟨gb311, 2, none⟩ = some (.int .i64 0) := (blk_cell BK311.out 2).trans rfl; have hfz30_0 := blk_frozen BK311.out 0; have hfz30_1 := blk_frozen BK311.out 1; have hfz30_2 := blk_frozen BK311.out 2) | (go_at_call 38; (with_reducible refine (stillageref06_Name.calls k2 ((rd_T47 l0_0 x28_2).f0) true _ A14.out).mono ?_); rintro e w' ⟨rfl, ⟨nd, rfl⟩⟩; (try first | exact ⟨rfl, _, World.drewN_drewN _ _ _⟩ | exact ⟨rfl, _, Eq.trans (World.drewN_drewN _ _ _) (congrArg (World.drewN _) (Nat.add_assoc _ _ _))⟩))); try go_wp2_with (first | ((with_reducible refine gate_dst (N := 4) rfl ?_); (try (refine gate_guard (by rfl) ?_; dsimp only)); refine box_event ?hg (N := 4) ?hd (cs := #[.string (⟨#[]⟩ : ByteArray), .int .i64 0, .int .i64 0]) (t := 47) ?hr ?_; (case hd => rfl); (case hg => rfl); (case hr => first | (go_simp; done) | (go_simp; rfl)); intro gb311 hg w28 hbox hb; have BK311 := Aside0.mk (hbox); have GW311 := Aside0.mk ((by rw [hg]; exact (below_size (zb1 HB.out GE309.out)) : w.heap.size ≤ gb311)); have GE311 := Aside0.mk ((by rw [hg]; exact (below_size (zb1 HB.out GE309.out)) : w.heap.size ≤ gb311)); replace HB := Aside0.mk (below_step (zb1 HB.out GE309.out) hb); have NB309_311 := Aside0.mk ((by rw [hg]; exact Nat.ne_of_lt (blk_lt (g := gb309) (o := .cells #[.slice (some ad310) l0_0.length c0_0, .slice A0_1 l0_1.length c0_1] 25 (0, 0)) (zk BK309.out)) : gb309 ≠ gb311)); have NB311_309 := Aside0.mk ((by rw [hg]; exact Nat.ne_of_gt (blk_lt (g := gb309) (o := .cells #[.slice (some ad310) l0_0.length c0_0, .slice A0_1 l0_1.length c0_1] 25 (0, 0)) (zk BK309.out)) : gb311 ≠ gb309)); replace BK309 := Aside0.mk (blk_below (g := gb309) (o := .cells #[.slice (some ad310) l0_0.length c0_0, .slice A0_1 l0_1.length c0_1] 25 (0, 0)) (zk BK309.out) hb); clear hb hbox hg; have hnb29 := NB311_309.out; have hnc29 := NB309_311.out; have hcz30_0 : w28.cell? ⟨gb311, 0, none⟩ = some (.string (⟨#[]⟩ : ByteArray)) := (blk_cell BK311.out 0).trans rfl; have hcz30_1 : w28.cell? ⟨gb311, 1, none⟩ = some (.int .i64 0) := (blk_cell BK311.out 1).trans rfl; have hcz30_2 : w28.cell? ⟨gb311, 2, none⟩ = some (.int .i64 0) := (blk_cell BK311.out 2).trans rfl; have hfz30_0 := blk_frozen BK311.out 0; have hfz30_1 := blk_frozen BK311.out 1; have hfz30_2 := blk_frozen BK311.out 2) | (go_at_call 38; (with_reducible refine (stillageref06_Name.calls k2 ((rd_T47 l0_0 x28_2).f0) true _ A14.out).mono ?_); rintro e w' ⟨rfl, ⟨nd, rfl⟩⟩; (try first | exact ⟨rfl, _, World.drewN_drewN _ _ _⟩ | exact ⟨rfl, _, Eq.trans (World.drewN_drewN _ _ _) (congrArg (World.drewN _) (Nat.add_assoc _ _ _))⟩))))
      go_ret
      exact ⟨by first | rfl | (simp [errW_none, errW_some] <;> rfl) | (simp [*, errW_none, errW_some] <;> rfl), zb2 HB.out GE309.out GE311.out⟩
     rw [if_neg c26] at H
     have c26b0 : decide (((rd_T47 l0_0 x28_2).f2) < 0) = false := decide_eq_false c26
     clear c26
     by_cases c31 : ((rd_T47 l0_0 x28_2).f2) > 7
     ·rw [if_pos c31] at H
      have c31b0 : decide (7 < ((rd_T47 l0_0 x28_2).f2)) = true := decide_eq_true c31
      clear c31
      obtain rfl := Option.some.inj H
      have hcz32_0 : wr.cell? ⟨gb309, 0, none⟩ = some (.slice A0_0 l0_0.length c0_0) := (blk_cell BK309.out 0).trans rfl
      have hcz32_1 : wr.cell? ⟨gb309, 1, none⟩ = some (.slice A0_1 l0_1.length c0_1) := (blk_cell BK309.out 1).trans rfl
      have hfz32_0 := blk_frozen BK309.out 0
      have hfz32_1 := blk_frozen BK309.out 1
      have p310 : 0 ≤ (x28_2 : Int) := oda
      have q310 : x28_2 < (l0_0.length : Int) := oda
      obtain ⟨ad310, e310, hx310_0, hx310_1, hx310_2⟩ := at_T47 HR0_0.out x28_2 p310 q310
      cases e310
      replace hx310_0 := zx HB.out hx310_0
      replace hx310_1 := zx HB.out hx310_1
      replace hx310_2 := zx HB.out hx310_2
      replace p310 := eq_true p310
      replace q310 := eq_true q310
      go_wp2_with (first | ((with_reducible refine gate_dst (N := 4) rfl ?_); (try (refine gate_guard (by rfl) ?_; dsimp only)); refine box_event ?hg (N := 4) ?hd (cs := #[.string (⟨#[]⟩ : ByteArray), .int .i64 0, .int .i64 0]) (t := 47) ?hr ?_; (case hd => rfl); (case hg => rfl); (case hr => first | (go_simp; done) | (go_simp; rfl)); intro gb311 hg w33 hbox hb; have BK311 := Aside0.mk (hbox); have GW311 := Aside0.mk ((by rw [hg]; exact (below_size (zb1 HB.out GE309.out)) : w.heap.size ≤ gb311)); have GE311 := Aside0.mk ((by rw [hg]; exact (below_size (zb1 HB.out GE309.out)) : w.heap.size ≤ gb311)); replace HB := Aside0.mk (below_step (zb1 HB.out GE309.out) hb); have NB309_311 := Aside0.mk ((by rw [hg]; exact Nat.ne_of_lt (blk_lt (g := gb309) (o := .cells #[.slice (some ad310) l0_0.length c0_0, .slice A0_1 l0_1.length c0_1] 25 (0, 0)) (zk BK309.out)) : gb309 ≠ gb311)); have NB311_309 := Aside0.mk ((by rw [hg]; exact Nat.ne_of_gt (blk_lt (g := gb309) (o := .cells #[.slice (some ad310) l0_0.length c0_0, .slice A0_1 l0_1.length c0_1] 25 (0, 0)) (zk BK309.out)) : gb311 ≠ gb309)); replace BK309 := Aside0.mk (blk_below (g := gb309) (o := .cells #[.slice (some ad310) l0_0.length c0_0, .slice A0_1 l0_1.length c0_1] 25 (0, 0)) (zk BK309.out) hb); clear hb hbox hg; have hnb34 := NB311_309.out; have hnc34 := NB309_311.out; have hcz35_0 : w33.cell? ⟨gb311, 0, none⟩ = some (.string (⟨#[]⟩ : ByteArray)) := (blk_cell BK311.out 0).trans rfl; have hcz35_1 : w33.cell? ⟨gb311, 1, none⟩ = some (.int .i64 0) := (blk_cell BK311.out 1).trans rfl; have hcz35_2 : w33.cell? ⟨gb311, 2, none⟩ = some (.int .i64 0) := (blk_cell BK311.out 2).trans rfl; have hfz35_0 := blk_frozen BK311.out 0; have hfz35_1 := blk_frozen BK311.out 1; have hfz35_2 := blk_frozen BK311.out 2) | (go_at_call 38; (with_reducible refine (stillageref06_Name.calls k2 ((rd_T47 l0_0 x28_2).f0) true _ A14.out).mono ?_); rintro e w' ⟨rfl, ⟨nd, rfl⟩⟩; (try first | exact ⟨rfl, _, World.drewN_drewN _ _ _⟩ | exact ⟨rfl, _, Eq.trans (World.drewN_drewN _ _ _) (congrArg (World.drewN _) (Nat.add_assoc _ _ _))⟩)))
      repeat (go_quiet (first | ((with_reducible refine gate_dst (N := 4) rfl ?_); (try (refine gate_guard (by rfl) ?_; dsimp only)); refine box_event ?hg (N := 4) ?hd (cs := #[.string (⟨#[]⟩ : ByteArray), .int .i64 0, .int .i64 0]) (t := 47) ?hr ?_; (case hd => rfl); (case hg => rfl); (case hr => first | (go_simp; done) | (go_simp; rfl)); intro gb311 hg w33 hbox hb; have BK311 := Aside0.mk (hbox); have GW311 := Aside0.mk ((by rw [hg]; exact (below_size (zb1 HB.out GE309.out)) : w.heap.size ≤ gb311)); have GE311 := Aside0.mk ((by rw [hg]; exact (below_size (zb1 HB.out GE309.out)) : w.heap.size ≤ gb311)); replace HB := Aside0.mk (below_step (zb1 HB.out GE309.out) hb); have NB309_311 := Aside0.mk ((by rw [hg]; exact Nat.ne_of_lt (blk_lt (g := gb309) (o := .cells #[.slice (some ad310) l0_0.length c0_0, .slice A0_1 l0_1.length c0_1] 25 (0, 0)) (zk BK309.out)) : gb309 ≠ gb311)); have NB311_309 := Aside0.mk ((by rw [hg]; exact Nat.ne_of_gt (blk_lt (g := gb309) (o := .cells #[.slice (some ad310) l0_0.length c0_0, .slice A0_1 l0_1.length c0_1] 25 (0, 0)) (zk BK309.out)) : gb311 ≠ gb309)); replace BK309 := Aside0.mk (blk_below (g := gb309) (o := .cells #[.slice (some ad310) l0_0.length c0_0, .slice A0_1 l0_1.length c0_1] 25 (0, 0)) (zk BK309.out) hb); clear hb hbox hg; have hnb34 := NB311_309.out; have hnc34 := NB309_311.out; have hcz35_0 : w33.cell? ⟨gb311, 0, none⟩ = some (.string (⟨#[]⟩ : ByteArray)) := (blk_cell BK311.out 0).trans rfl; have hcz35_1 : w33.cell? ⟨gb311, 1, none⟩ = some (.int .i64 0) := (blk_cell BK311.out 1).trans rfl; have hcz35_2 : w33.cell? ⟨gb311, 2, none⟩ = some (.int .i64 0) := (blk_cell BK311.out 2).trans rfl; have hfz35_0 := blk_frozen BK311.out 0; have hfz35_1 := blk_frozen BK311.out 1; have hfz35_2 := blk_frozen BK311.out 2) | (go_at_call 38; (with_reducible refine (stillageref06_Name.calls k2 ((rd_T47 l0_0 x28_2).f0) true _ A14.out).mono ?_); rintro e w' ⟨rfl, ⟨nd, rfl⟩⟩; (try first | exact ⟨rfl, _, World.drewN_drewN _ _ _⟩ | exact ⟨rfl, _, Eq.trans (World.drewN_drewN _ _ _) (congrArg (World.drewN _) (Nat.add_assoc _ _ _))⟩))); try go_wp2_with (first | ((with_reducible refine gate_dst (N := 4) rfl ?_); (try (refine gate_guard (by rfl) ?_; dsimp only)); refine box_event ?hg (N := 4) ?hd (cs := #[.string (⟨#[]⟩ : ByteArray), .int .i64 0, .int .i64 0]) (t := 47) ?hr ?_; (case hd => rfl); (case hg => rfl); (case hr => first | (go_simp; done) | (go_simp; rfl)); intro gb311 hg w33 hbox hb; have BK311 := Aside0.mk (hbox); have GW311 := Aside0.mk ((by rw [hg]; exact (below_size (zb1 HB.out GE309.out)) : w.heap.size ≤ gb311)); have GE311 := Aside0.mk ((by rw [hg]; exact (below_size (zb1 HB.out GE309.out)) : w.heap.size ≤ gb311)); replace HB := Aside0.mk (below_step (zb1 HB.out GE309.out) hb); have NB309_311 := Aside0.mk ((by rw [hg]; exact Nat.ne_of_lt (blk_lt (g := gb309) (o := .cells #[.slice (some ad310) l0_0.length c0_0, .slice A0_1 l0_1.length c0_1] 25 (0, 0)) (zk BK309.out)) : gb309 ≠ gb311)); have NB311_309 := Aside0.mk ((by rw [hg]; exact Nat.ne_of_gt (blk_lt (g := gb309) (o := .cells #[.slice (some ad310) l0_0.length c0_0, .slice A0_1 l0_1.length c0_1] 25 (0, 0)) (zk BK309.out)) : gb311 ≠ gb309)); replace BK309 := Aside0.mk (blk_below (g := gb309) (o := .cells #[.slice (some ad310) l0_0.length c0_0, .slice A0_1 l0_1.length c0_1] 25 (0, 0)) (zk BK309.out) hb); clear hb hbox hg; have hnb34 := NB311_309.out; have hnc34 := NB309_311.out; have hcz35_0 : w33.cell? ⟨gb311, 0, none⟩ = some (.string (⟨#[]⟩ : ByteArray)) := (blk_cell BK311.out 0).trans rfl; have hcz35_1 : w33.cell? ⟨gb311, 1, none⟩ = some (.int .i64 0) := (blk_cell BK311.out 1).trans rfl; have hcz35_2 : w33.cell? ⟨gb311, 2, none⟩ = some (.int .i64 0) := (blk_cell BK311.out 2).trans rfl; have hfz35_0 := blk_frozen BK311.out 0; have hfz35_1 := blk_frozen BK311.out 1; have hfz35_2 := blk_frozen BK311.out 2) | (go_at_call 38; (with_reducible refine (stillageref06_Name.calls k2 ((rd_T47 l0_0 x28_2).f0) true _ A14.out).mono ?_); rintro e w' ⟨rfl, ⟨nd, rfl⟩⟩; (try first | exact ⟨rfl, _, World.drewN_drewN _ _ _⟩ | exact ⟨rfl, _, Eq.trans (World.drewN_drewN _ _ _) (congrArg (World.drewN _) (Nat.add_assoc _ _ _))⟩))))
      go_ret
      exact ⟨by first | rfl | (simp [errW_none, errW_some] <;> rfl) | (simp [*, errW_none, errW_some] <;> rfl), zb2 HB.out GE309.out GE311.out⟩
     rw [if_neg c31] at H
     have c31b0 : decide (7 < ((rd_T47 l0_0 x28_2).f2)) = false := decide_eq_false c31
     clear c31
     replace H := Option.bind_eq_some_iff.mp H; obtain ⟨t313, A360, H⟩ := H
     replace H : (if t313 = x28_2 then (stillageref06_Good.l0 k2 (l0_0.length : Int) (wrap64 (x28_2 + 1)) l0_0 l0_1) else (some false)) = some r := H
     have A36 := Aside0.mk A360
     clear A360
     by_cases c37 : t313 = x28_2
     rotate_left
     ·rw [if_neg c37] at H
      have c37b0 : (t313 == x28_2) = false := beq_eq_false_iff_ne.mpr c37
      have c37b1 : (t313 != x28_2) = true := bne_iff_ne.mpr c37
      obtain rfl := Option.some.inj H
      have hcz44_0 : wr.cell? ⟨gb309, 0, none⟩ = some (.slice A0_0 l0_0.length c0_0) := (blk_cell BK309.out 0).trans rfl
      have hcz44_1 : wr.cell? ⟨gb309, 1, none⟩ = some (.slice A0_1 l0_1.length c0_1) := (blk_cell BK309.out 1).trans rfl
      have hfz44_0 := blk_frozen BK309.out 0
      have hfz44_1 := blk_frozen BK309.out 1
      have p310 : 0 ≤ (x28_2 : Int) := oda
      have q310 : x28_2 < (l0_0.length : Int) := oda
      obtain ⟨ad310, e310, hx310_0, hx310_1, hx310_2⟩ := at_T47 HR0_0.out x28_2 p310 q310
      cases e310
      replace hx310_0 := zx HB.out hx310_0
      replace hx310_1 := zx HB.out hx310_1
      replace hx310_2 := zx HB.out hx310_2
      replace p310 := eq_true p310
      replace q310 := eq_true q310
      go_wp2_with (first | ((with_reducible refine gate_dst (N := 4) rfl ?_); (try (refine gate_guard (by rfl) ?_; dsimp only)); refine box_event ?hg (N := 4) ?hd (cs := #[.string (⟨#[]⟩ : ByteArray), .int .i64 0, .int .i64 0]) (t := 47) ?hr ?_; (case hd => rfl); (case hg => rfl); (case hr => first | (go_simp; done) | (go_simp; rfl)); intro gb311 hg w45 hbox hb; have BK311 := Aside0.mk (hbox); have GW311 := Aside0.mk ((by rw [hg]; exact (below_size (zb1 HB.out GE309.out)) : w.heap.size ≤ gb311)); have GE311 := Aside0.mk ((by rw [hg]; exact (below_size (zb1 HB.out GE309.out)) : w.heap.size ≤ gb311)); replace HB := Aside0.mk (below_step (zb1 HB.out GE309.out) hb); have NB309_311 := Aside0.mk ((by rw [hg]; exact Nat.ne_of_lt (blk_lt (g := gb309) (o := .cells #[.slice (some ad310) l0_0.length c0_0, .slice A0_1 l0_1.length c0_1] 25 (0, 0)) (zk BK309.out)) : gb309 ≠ gb311)); have NB311_309 := Aside0.mk ((by rw [hg]; exact Nat.ne_of_gt (blk_lt (g := gb309) (o := .cells #[.slice (some ad310) l0_0.length c0_0, .slice A0_1 l0_1.length c0_1] 25 (0, 0)) (zk BK309.out)) : gb311 ≠ gb309)); replace BK309 := Aside0.mk (blk_below (g := gb309) (o := .cells #[.slice (some ad310) l0_0.length c0_0, .slice A0_1 l0_1.length c0_1] 25 (0, 0)) (zk BK309.out) hb); clear hb hbox hg; have hnb46 := NB311_309.out; have hnc46 := NB309_311.out; have hcz47_0 : w45.cell? ⟨gb311, 0, none⟩ = some (.string (⟨#[]⟩ : ByteArray)) := (blk_cell BK311.out 0).trans rfl; have hcz47_1 : w45.cell? ⟨gb311, 1, none⟩ = some (.int .i64 0) := (blk_cell BK311.out 1).trans rfl; have hcz47_2 : w45.cell? ⟨gb311, 2, none⟩ = some (.int .i64 0) := (blk_cell BK311.out 2).trans rfl; have hfz47_0 := blk_frozen BK311.out 0; have hfz47_1 := blk_frozen BK311.out 1; have hfz47_2 := blk_frozen BK311.out 2; have hcz48_0 : w45.cell? ⟨gb309, 0, none⟩ = some (.slice (some ad310) l0_0.length c0_0) := (blk_cell BK309.out 0).trans rfl; have hcz48_1 : w45.cell? ⟨gb309, 1, none⟩ = some (.slice A0_1 l0_1.length c0_1) := (blk_cell BK309.out 1).trans rfl; have hfz48_0 := blk_frozen BK309.out 0; have hfz48_1 := blk_frozen BK309.out 1) | (go_at_call 38; (with_reducible refine (stillageref06_Name.calls k2 ((rd_T47 l0_0 x28_2).f0) true _ A14.out).mono ?_); rintro e w' ⟨rfl, ⟨nd, rfl⟩⟩; (try first | exact ⟨rfl, _, World.drewN_drewN _ _ _⟩ | exact ⟨rfl, _, Eq.trans (World.drewN_drewN _ _ _) (congrArg (World.drewN _) (Nat.add_assoc _ _ _))⟩)) | (go_at_call 39; (with_reducible refine (stillageref06_Find.calls k2 _ _ l0_0 _ _ l0_1 ((rd_T47 l0_0 x28_2).f0) t313 _ ?side1 ?side2 ?side3 ?side4 A36.out).mono ?_); (case side1 => exact Kd.C_below HR0_0.out (zb2 HB.out GE309.out GE311.out)); (case side2 => exact HC0_0.out); (case side3 => exact Kd.C_below HR0_1.out (zb2 HB.out GE309.out GE311.out)); (case side4 => exact HC0_1.out); rintro e w49 ⟨rfl, hb⟩; replace BK309 := Aside0.mk (blk_below (g := gb309) (o := .cells #[.slice (some ad310) l0_0.length c0_0, .slice A0_1 l0_1.length c0_1] 25 (0, 0)) (by (with_reducible repeat (first | refine blk_drewN ?_ _ | refine blk_drew ?_ | refine blk_alloc ?_ _)); refine blk_far ?_ NB309_311.out _; (with_reducible repeat (first | refine blk_drewN ?_ _ | refine blk_drew ?_ | refine blk_alloc ?_ _)); refine blk_far ?_ NB309_311.out _; (with_reducible repeat (first | refine blk_drewN ?_ _ | refine blk_drew ?_ | refine blk_alloc ?_ _)); refine blk_far ?_ NB309_311.out _; (with_reducible repeat (first | refine blk_drewN ?_ _ | refine blk_drew ?_ | refine blk_alloc ?_ _)); exact BK309.out) hb); replace BK311 := Aside0.mk (blk_below (g := gb311) (o := .cells #[.string ((rd_T47 l0_0 x28_2).f0), .int .i64 ((rd_T47 l0_0 x28_2).f1), .int .i64 ((rd_T47 l0_0 x28_2).f2)] 47 (0, 0)) (by (with_reducible repeat (first | refine blk_drewN ?_ _ | refine blk_drew ?_ | refine blk_alloc ?_ _)); refine blk_put (cs := #[.string ((rd_T47 l0_0 x28_2).f0), .int .i64 ((rd_T47 l0_0 x28_2).f1), .int .i64 0]) ?_ 2 _ rfl; (with_reducible repeat (first | refine blk_drewN ?_ _ | refine blk_drew ?_ | refine blk_alloc ?_ _)); refine blk_put (cs := #[.string ((rd_T47 l0_0 x28_2).f0), .int .i64 0, .int .i64 0]) ?_ 1 _ rfl; (with_reducible repeat (first | refine blk_drewN ?_ _ | refine blk_drew ?_ | refine blk_alloc ?_ _)); refine blk_put (cs := #[.string (⟨#[]⟩ : ByteArray), .int .i64 0, .int .i64 0]) ?_ 0 _ rfl; (with_reducible repeat (first | refine blk_drewN ?_ _ | refine blk_drew ?_ | refine blk_alloc ?_ _)); exact BK311.out) hb); replace HB := Aside0.mk (below_step (zb2 HB.out GE309.out GE311.out) hb); (try clear hb)))
      repeat (go_quiet (first | ((with_reducible refine gate_dst (N := 4) rfl ?_); (try (refine gate_guard (by rfl) ?_; dsimp only)); refine box_event ?hg (N := 4) ?hd (cs := #[.string (⟨#[]⟩ : ByteArray), .int .i64 0, .int .i64 0]) (t := 47) ?hr ?_; (case hd => rfl); (case hg => rfl); (case hr => first | (go_simp; done) | (go_simp; rfl)); intro gb311 hg w45 hbox hb; have BK311 := Aside0.mk (hbox); have GW311 := Aside0.mk ((by rw [hg]; exact (below_size (zb1 HB.out GE309.out)) : w.heap.size ≤ gb311)); have GE311 := Aside0.mk ((by rw [hg]; exact (below_size (zb1 HB.out GE309.out)) : w.heap.size ≤ gb311)); replace HB := Aside0.mk (below_step (zb1 HB.out GE309.out) hb); have NB309_311 := Aside0.mk ((by rw [hg]; exact Nat.ne_of_lt (blk_lt (g := gb309) (o := .cells #[.slice (some ad310) l0_0.length c0_0, .slice A0_1 l0_1.length c0_1] 25 (0, 0)) (zk BK309.out)) : gb309 ≠ gb311)); have NB311_309 := Aside0.mk ((by rw [hg]; exact Nat.ne_of_gt (blk_lt (g := gb309) (o := .cells #[.slice (some ad310) l0_0.length c0_0, .slice A0_1 l0_1.length c0_1] 25 (0, 0)) (zk BK309.out)) : gb311 ≠ gb309)); replace BK309 := Aside0.mk (blk_below (g := gb309) (o := .cells #[.slice (some ad310) l0_0.length c0_0, .slice A0_1 l0_1.length c0_1] 25 (0, 0)) (zk BK309.out) hb); clear hb hbox hg; have hnb46 := NB311_309.out; have hnc46 := NB309_311.out; have hcz47_0 : w45.cell? ⟨gb311, 0, none⟩ = some (.string (⟨#[]⟩ : ByteArray)) := (blk_cell BK311.out 0).trans rfl; have hcz47_1 : w45.cell? ⟨gb311, 1, none⟩ = some (.int .i64 0) := (blk_cell BK311.out 1).trans rfl; have hcz47_2 : w45.cell? ⟨gb311, 2, none⟩ = some (.int .i64 0) := (blk_cell BK311.out 2).trans rfl; have hfz47_0 := blk_frozen BK311.out 0; have hfz47_1 := blk_frozen BK311.out 1; have hfz47_2 := blk_frozen BK311.out 2) | (go_at_call 38; (with_reducible refine (stillageref06_Name.calls k2 ((rd_T47 l0_0 x28_2).f0) true _ A14.out).mono ?_); rintro e w' ⟨rfl, ⟨nd, rfl⟩⟩; (try first | exact ⟨rfl, _, World.drewN_drewN _ _ _⟩ | exact ⟨rfl, _, Eq.trans (World.drewN_drewN _ _ _) (congrArg (World.drewN _) (Nat.add_assoc _ _ _))⟩)) | (go_at_call 39; (with_reducible refine (stillageref06_Find.calls k2 _ _ l0_0 _ _ l0_1 ((rd_T47 l0_0 x28_2).f0) t313 _ ?side1 ?side2 ?side3 ?side4 A36.out).mono ?_); (case side1 => exact Kd.C_below HR0_0.out (zb2 HB.out GE309.out GE311.out)); (case side2 => exact HC0_0.out); (case side3 => exact Kd.C_below HR0_1.out (zb2 HB.out GE309.out GE311.out)); (case side4 => exact HC0_1.out); rintro e w49 ⟨rfl, hb⟩; replace BK309 := Aside0.mk (blk_below (g := gb309) (o := .cells #[.slice (some ad310) l0_0.length c0_0, .slice A0_1 l0_1.length c0_1] 25 (0, 0)) (by (with_reducible repeat (first | refine blk_drewN ?_ _ | refine blk_drew ?_ | refine blk_alloc ?_ _)); refine blk_far ?_ NB309_311.out _; (with_reducible repeat (first | refine blk_drewN ?_ _ | refine blk_drew ?_ | refine blk_alloc ?_ _)); refine blk_far ?_ NB309_311.out _; (with_reducible repeat (first | refine blk_drewN ?_ _ | refine blk_drew ?_ | refine blk_alloc ?_ _)); refine blk_far ?_ NB309_311.out _; (with_reducible repeat (first | refine blk_drewN ?_ _ | refine blk_drew ?_ | refine blk_alloc ?_ _)); exact BK309.out) hb); replace BK311 := Aside0.mk (blk_below (g := gb311) (o := .cells #[.string ((rd_T47 l0_0 x28_2).f0), .int .i64 ((rd_T47 l0_0 x28_2).f1), .int .i64 ((rd_T47 l0_0 x28_2).f2)] 47 (0, 0)) (by (with_reducible repeat (first | refine blk_drewN ?_ _ | refine blk_drew ?_ | refine blk_alloc ?_ _)); refine blk_put (cs := #[.string ((rd_T47 l0_0 x28_2).f0), .int .i64 ((rd_T47 l0_0 x28_2).f1), .int .i64 0]) ?_ 2 _ rfl; (with_reducible repeat (first | refine blk_drewN ?_ _ | refine blk_drew ?_ | refine blk_alloc ?_ _)); refine blk_put (cs := #[.string ((rd_T47 l0_0 x28_2).f0), .int .i64 0, .int .i64 0]) ?_ 1 _ rfl; (with_reducible repeat (first | refine blk_drewN ?_ _ | refine blk_drew ?_ | refine blk_alloc ?_ _)); refine blk_put (cs := #[.string (⟨#[]⟩ : ByteArray), .int .i64 0, .int .i64 0]) ?_ 0 _ rfl; (with_reducible repeat (first | refine blk_drewN ?_ _ | refine blk_drew ?_ | refine blk_alloc ?_ _)); exact BK311.out) hb); replace HB := Aside0.mk (below_step (zb2 HB.out GE309.out GE311.out) hb); (try clear hb))); try go_wp2_with (first | ((with_reducible refine gate_dst (N := 4) rfl ?_); (try (refine gate_guard (by rfl) ?_; dsimp only)); refine box_event ?hg (N := 4) ?hd (cs := #[.string (⟨#[]⟩ : ByteArray), .int .i64 0, .int .i64 0]) (t := 47) ?hr ?_; (case hd => rfl); (case hg => rfl); (case hr => first | (go_simp; done) | (go_simp; rfl)); intro gb311 hg w45 hbox hb; have BK311 := Aside0.mk (hbox); have GW311 := Aside0.mk ((by rw [hg]; exact (below_size (zb1 HB.out GE309.out)) : w.heap.size ≤ gb311)); have GE311 := Aside0.mk ((by rw [hg]; exact (below_size (zb1 HB.out GE309.out)) : w.heap.size ≤ gb311)); replace HB := Aside0.mk (below_step (zb1 HB.out GE309.out) hb); have NB309_311 := Aside0.mk ((by rw [hg]; exact Nat.ne_of_lt (blk_lt (g := gb309) (o := .cells #[.slice (some ad310) l0_0.length c0_0, .slice A0_1 l0_1.length c0_1] 25 (0, 0)) (zk BK309.out)) : gb309 ≠ gb311)); have NB311_309 := Aside0.mk ((by rw [hg]; exact Nat.ne_of_gt (blk_lt (g := gb309) (o := .cells #[.slice (some ad310) l0_0.length c0_0, .slice A0_1 l0_1.length c0_1] 25 (0, 0)) (zk BK309.out)) : gb311 ≠ gb309)); replace BK309 := Aside0.mk (blk_below (g := gb309) (o := .cells #[.slice (some ad310) l0_0.length c0_0, .slice A0_1 l0_1.length c0_1] 25 (0, 0)) (zk BK309.out) hb); clear hb hbox hg; have hnb46 := NB311_309.out; have hnc46 := NB309_311.out; have hcz47_0 : w45.cell? ⟨gb311, 0, none⟩ = some (.string (⟨#[]⟩ : ByteArray)) := (blk_cell BK311.out 0).trans rfl; have hcz47_1 : w45.cell? ⟨gb311, 1, none⟩ = some (.int .i64 0) := (blk_cell BK311.out 1).trans rfl; have hcz47_2 : w45.cell? ⟨gb311, 2, none⟩ = some (.int .i64 0) := (blk_cell BK311.out 2).trans rfl; have hfz47_0 := blk_frozen BK311.out 0; have hfz47_1 := blk_frozen BK311.out 1; have hfz47_2 := blk_frozen BK311.out 2) | (go_at_call 38; (with_reducible refine (stillageref06_Name.calls k2 ((rd_T47 l0_0 x28_2).f0) true _ A14.out).mono ?_); rintro e w' ⟨rfl, ⟨nd, rfl⟩⟩; (try first | exact ⟨rfl, _, World.drewN_drewN _ _ _⟩ | exact ⟨rfl, _, Eq.trans (World.drewN_drewN _ _ _) (congrArg (World.drewN _) (Nat.add_assoc _ _ _))⟩); have hcz48_0 : w45.cell? ⟨gb309, 0, none⟩ = some (.slice (some ad310) l0_0.length c0_0) := (blk_cell BK309.out 0).trans rfl; have hcz48_1 : w45.cell? ⟨gb309, 1, none⟩ = some (.slice A0_1 l0_1.length c0_1) := (blk_cell BK309.out 1).trans rfl; have hfz48_0 := blk_frozen BK309.out 0; have hfz48_1 := blk_frozen BK309.out 1) | (go_at_call 39; (with_reducible refine (stillageref06_Find.calls k2 _ _ l0_0 _ _ l0_1 ((rd_T47 l0_0 x28_2).f0) t313 _ ?side1 ?side2 ?side3 ?side4 A36.out).mono ?_); (case side1 => exact Kd.C_below HR0_0.out (zb2 HB.out GE309.out GE311.out)); (case side2 => exact HC0_0.out); (case side3 => exact Kd.C_below HR0_1.out (zb2 HB.out GE309.out GE311.out)); (case side4 => exact HC0_1.out); rintro e w49 ⟨rfl, hb⟩; replace BK309 := Aside0.mk (blk_below (g := gb309) (o := .cells #[.slice (some ad310) l0_0.length c0_0, .slice A0_1 l0_1.length c0_1] 25 (0, 0)) (by (with_reducible repeat (first | refine blk_drewN ?_ _ | refine blk_drew ?_ | refine blk_alloc ?_ _)); refine blk_far ?_ NB309_311.out _; (with_reducible repeat (first | refine blk_drewN ?_ _ | refine blk_drew ?_ | refine blk_alloc ?_ _)); refine blk_far ?_ NB309_311.out _; (with_reducible repeat (first | refine blk_drewN ?_ _ | refine blk_drew ?_ | refine blk_alloc ?_ _)); refine blk_far ?_ NB309_311.out _; (with_reducible repeat (first | refine blk_drewN ?_ _ | refine blk_drew ?_ | refine blk_alloc ?_ _)); exact BK309.out) hb); replace BK311 := Aside0.mk (blk_below (g := gb311) (o := .cells #[.string ((rd_T47 l0_0 x28_2).f0), .int .i64 ((rd_T47 l0_0 x28_2).f1), .int .i64 ((rd_T47 l0_0 x28_2).f2)] 47 (0, 0)) (by (with_reducible repeat (first | refine blk_drewN ?_ _ | refine blk_drew ?_ | refine blk_alloc ?_ _)); refine blk_put (cs := #[.string ((rd_T47 l0_0 x28_2).f0), .int .i64 ((rd_T47 l0_0 x28_2).f1), .int .i64 0]) ?_ 2 _ rfl; (with_reducible repeat (first | refine blk_drewN ?_ _ | refine blk_drew ?_ | refine blk_alloc ?_ _)); refine blk_put (cs := #[.string ((rd_T47 l0_0 x28_2).f0), .int .i64 0, .int .i64 0]) ?_ 1 _ rfl; (with_reducible repeat (first | refine blk_drewN ?_ _ | refine blk_drew ?_ | refine blk_alloc ?_ _)); refine blk_put (cs := #[.string (⟨#[]⟩ : ByteArray), .int .i64 0, .int .i64 0]) ?_ 0 _ rfl; (with_reducible repeat (first | refine blk_drewN ?_ _ | refine blk_drew ?_ | refine blk_alloc ?_ _)); exact BK311.out) hb); replace HB := Aside0.mk (below_step (zb2 HB.out GE309.out GE311.out) hb); (try clear hb))))
      go_ret
      exact ⟨by first | rfl | (simp [errW_none, errW_some] <;> rfl) | (simp [*, errW_none, errW_some] <;> rfl), zb2 HB.out GE309.out GE311.out⟩
     rw [if_pos c37] at H
     have c37b0 : (t313 == x28_2) = true := beq_iff_eq.mpr c37
     have c37b1 : (t313 != x28_2) = false := bne_eq_false_iff_eq.mpr c37
     clear c37
     have H' := Aside0.mk H; clear H
     have hcz38_0 : wr.cell? ⟨gb309, 0, none⟩ = some (.slice A0_0 l0_0.length c0_0) := (blk_cell BK309.out 0).trans rfl
     have hcz38_1 : wr.cell? ⟨gb309, 1, none⟩ = some (.slice A0_1 l0_1.length c0_1) := (blk_cell BK309.out 1).trans rfl
     have hfz38_0 := blk_frozen BK309.out 0
     have hfz38_1 := blk_frozen BK309.out 1
     have p310 : 0 ≤ (x28_2 : Int) := oda
     have q310 : x28_2 < (l0_0.length : Int) := oda
     obtain ⟨ad310, e310, hx310_0, hx310_1, hx310_2⟩ := at_T47 HR0_0.out x28_2 p310 q310
     cases e310
     replace hx310_0 := zx HB.out hx310_0
     replace hx310_1 := zx HB.out hx310_1
     replace hx310_2 := zx HB.out hx310_2
     replace p310 := eq_true p310
     replace q310 := eq_true q310
     go_wp2_with (first | ((with_reducible refine gate_dst (N := 4) rfl ?_); (try (refine gate_guard (by rfl) ?_; dsimp only)); refine box_event ?hg (N := 4) ?hd (cs := #[.string (⟨#[]⟩ : ByteArray), .int .i64 0, .int .i64 0]) (t := 47) ?hr ?_; (case hd => rfl); (case hg => rfl); (case hr => first | (go_simp; done) | (go_simp; rfl)); intro gb311 hg w39 hbox hb; have BK311 := Aside0.mk (hbox); have GW311 := Aside0.mk ((by rw [hg]; exact (below_size (zb1 HB.out GE309.out)) : w.heap.size ≤ gb311)); have GE311 := Aside0.mk ((by rw [hg]; exact (below_size (zb1 HB.out GE309.out)) : w.heap.size ≤ gb311)); replace HB := Aside0.mk (below_step (zb1 HB.out GE309.out) hb); have NB309_311 := Aside0.mk ((by rw [hg]; exact Nat.ne_of_lt (blk_lt (g := gb309) (o := .cells #[.slice (some ad310) l0_0.length c0_0, .slice A0_1 l0_1.length c0_1] 25 (0, 0)) (zk BK309.out)) : gb309 ≠ gb311)); have NB311_309 := Aside0.mk ((by rw [hg]; exact Nat.ne_of_gt (blk_lt (g := gb309) (o := .cells #[.slice (some ad310) l0_0.length c0_0, .slice A0_1 l0_1.length c0_1] 25 (0, 0)) (zk BK309.out)) : gb311 ≠ gb309)); replace BK309 := Aside0.mk (blk_below (g := gb309) (o := .cells #[.slice (some ad310) l0_0.length c0_0, .slice A0_1 l0_1.length c0_1] 25 (0, 0)) (zk BK309.out) hb); clear hb hbox hg; have hnb40 := NB311_309.out; have hnc40 := NB309_311.out; have hcz41_0 : w39.cell? ⟨gb311, 0, none⟩ = some (.string (⟨#[]⟩ : ByteArray)) := (blk_cell BK311.out 0).trans rfl; have hcz41_1 : w39.cell? ⟨gb311, 1, none⟩ = some (.int .i64 0) := (blk_cell BK311.out 1).trans rfl; have hcz41_2 : w39.cell? ⟨gb311, 2, none⟩ = some (.int .i64 0) := (blk_cell BK311.out 2).trans rfl; have hfz41_0 := blk_frozen BK311.out 0; have hfz41_1 := blk_frozen BK311.out 1; have hfz41_2 := blk_frozen BK311.out 2; have hcz42_0 : w39.cell? ⟨gb309, 0, none⟩ = some (.slice (some ad310) l0_0.length c0_0) := (blk_cell BK309.out 0).trans rfl; have hcz42_1 : w39.cell? ⟨gb309, 1, none⟩ = some (.slice A0_1 l0_1.length c0_1) := (blk_cell BK309.out 1).trans rfl; have hfz42_0 := blk_frozen BK309.out 0; have hfz42_1 := blk_frozen BK309.out 1) | (go_at_call 38; (with_reducible refine (stillageref06_Name.calls k2 ((rd_T47 l0_0 x28_2).f0) true _ A14.out).mono ?_); rintro e w' ⟨rfl, ⟨nd, rfl⟩⟩; (try first | exact ⟨rfl, _, World.drewN_drewN _ _ _⟩ | exact ⟨rfl, _, Eq.trans (World.drewN_drewN _ _ _) (congrArg (World.drewN _) (Nat.add_assoc _ _ _))⟩)) | (go_at_call 39; (with_reducible refine (stillageref06_Find.calls k2 _ _ l0_0 _ _ l0_1 ((rd_T47 l0_0 x28_2).f0) t313 _ ?side1 ?side2 ?side3 ?side4 A36.out).mono ?_); (case side1 => exact Kd.C_below HR0_0.out (zb2 HB.out GE309.out GE311.out)); (case side2 => exact HC0_0.out); (case side3 => exact Kd.C_below HR0_1.out (zb2 HB.out GE309.out GE311.out)); (case side4 => exact HC0_1.out); rintro e w43 ⟨rfl, hb⟩; replace BK309 := Aside0.mk (blk_below (g := gb309) (o := .cells #[.slice (some ad310) l0_0.length c0_0, .slice A0_1 l0_1.length c0_1] 25 (0, 0)) (by (with_reducible repeat (first | refine blk_drewN ?_ _ | refine blk_drew ?_ | refine blk_alloc ?_ _)); refine blk_far ?_ NB309_311.out _; (with_reducible repeat (first | refine blk_drewN ?_ _ | refine blk_drew ?_ | refine blk_alloc ?_ _)); refine blk_far ?_ NB309_311.out _; (with_reducible repeat (first | refine blk_drewN ?_ _ | refine blk_drew ?_ | refine blk_alloc ?_ _)); refine blk_far ?_ NB309_311.out _; (with_reducible repeat (first | refine blk_drewN ?_ _ | refine blk_drew ?_ | refine blk_alloc ?_ _)); exact BK309.out) hb); replace BK311 := Aside0.mk (blk_below (g := gb311) (o := .cells #[.string ((rd_T47 l0_0 x28_2).f0), .int .i64 ((rd_T47 l0_0 x28_2).f1), .int .i64 ((rd_T47 l0_0 x28_2).f2)] 47 (0, 0)) (by (with_reducible repeat (first | refine blk_drewN ?_ _ | refine blk_drew ?_ | refine blk_alloc ?_ _)); refine blk_put (cs := #[.string ((rd_T47 l0_0 x28_2).f0), .int .i64 ((rd_T47 l0_0 x28_2).f1), .int .i64 0]) ?_ 2 _ rfl; (with_reducible repeat (first | refine blk_drewN ?_ _ | refine blk_drew ?_ | refine blk_alloc ?_ _)); refine blk_put (cs := #[.string ((rd_T47 l0_0 x28_2).f0), .int .i64 0, .int .i64 0]) ?_ 1 _ rfl; (with_reducible repeat (first | refine blk_drewN ?_ _ | refine blk_drew ?_ | refine blk_alloc ?_ _)); refine blk_put (cs := #[.string (⟨#[]⟩ : ByteArray), .int .i64 0, .int .i64 0]) ?_ 0 _ rfl; (with_reducible repeat (first | refine blk_drewN ?_ _ | refine blk_drew ?_ | refine blk_alloc ?_ _)); exact BK311.out) hb); replace HB := Aside0.mk (below_step (zb2 HB.out GE309.out GE311.out) hb); (try clear hb)))
     repeat (go_quiet (first | ((with_reducible refine gate_dst (N := 4) rfl ?_); (try (refine gate_guard (by rfl) ?_; dsimp only)); refine box_event ?hg (N := 4) ?hd (cs := #[.string (⟨#[]⟩ : ByteArray), .int .i64 0, .int .i64 0]) (t := 47) ?hr ?_; (case hd => rfl); (case hg => rfl); (case hr => first | (go_simp; done) | (go_simp; rfl)); intro gb311 hg w39 hbox hb; have BK311 := Aside0.mk (hbox); have GW311 := Aside0.mk ((by rw [hg]; exact (below_size (zb1 HB.out GE309.out)) : w.heap.size ≤ gb311)); have GE311 := Aside0.mk ((by rw [hg]; exact (below_size (zb1 HB.out GE309.out)) : w.heap.size ≤ gb311)); replace HB := Aside0.mk (below_step (zb1 HB.out GE309.out) hb); have NB309_311 := Aside0.mk ((by rw [hg]; exact Nat.ne_of_lt (blk_lt (g := gb309) (o := .cells #[.slice (some ad310) l0_0.length c0_0, .slice A0_1 l0_1.length c0_1] 25 (0, 0)) (zk BK309.out)) : gb309 ≠ gb311)); have NB311_309 := Aside0.mk ((by rw [hg]; exact Nat.ne_of_gt (blk_lt (g := gb309) (o := .cells #[.slice (some ad310) l0_0.length c0_0, .slice A0_1 l0_1.length c0_1] 25 (0, 0)) (zk BK309.out)) : gb311 ≠ gb309)); replace BK309 := Aside0.mk (blk_below (g := gb309) (o := .cells #[.slice (some ad310) l0_0.length c0_0, .slice A0_1 l0_1.length c0_1] 25 (0, 0)) (zk BK309.out) hb); clear hb hbox hg; have hnb40 := NB311_309.out; have hnc40 := NB309_311.out; have hcz41_0 : w39.cell? ⟨gb311, 0, none⟩ = some (.string (⟨#[]⟩ : ByteArray)) := (blk_cell BK311.out 0).trans rfl; have hcz41_1 : w39.cell? ⟨gb311, 1, none⟩ = some (.int .i64 0) := (blk_cell BK311.out 1).trans rfl; have hcz41_2 : w39.cell? ⟨gb311, 2, none⟩ = some (.int .i64 0) := (blk_cell BK311.out 2).trans rfl; have hfz41_0 := blk_frozen BK311.out 0; have hfz41_1 := blk_frozen BK311.out 1; have hfz41_2 := blk_frozen BK311.out 2) | (go_at_call 38; (with_reducible refine (stillageref06_Name.calls k2 ((rd_T47 l0_0 x28_2).f0) true _ A14.out).mono ?_); rintro e w' ⟨rfl, ⟨nd, rfl⟩⟩; (try first | exact ⟨rfl, _, World.drewN_drewN _ _ _⟩ | exact ⟨rfl, _, Eq.trans (World.drewN_drewN _ _ _) (congrArg (World.drewN _) (Nat.add_assoc _ _ _))⟩)) | (go_at_call 39; (with_reducible refine (stillageref06_Find.calls k2 _ _ l0_0 _ _ l0_1 ((rd_T47 l0_0 x28_2).f0) t313 _ ?side1 ?side2 ?side3 ?side4 A36.out).mono ?_); (case side1 => exact Kd.C_below HR0_0.out (zb2 HB.out GE309.out GE311.out)); (case side2 => exact HC0_0.out); (case side3 => exact Kd.C_below HR0_1.out (zb2 HB.out GE309.out GE311.out)); (case side4 => exact HC0_1.out); rintro e w43 ⟨rfl, hb⟩; replace BK309 := Aside0.mk (blk_below (g := gb309) (o := .cells #[.slice (some ad310) l0_0.length c0_0, .slice A0_1 l0_1.length c0_1] 25 (0, 0)) (by (with_reducible repeat (first | refine blk_drewN ?_ _ | refine blk_drew ?_ | refine blk_alloc ?_ _)); refine blk_far ?_ NB309_311.out _; (with_reducible repeat (first | refine blk_drewN ?_ _ | refine blk_drew ?_ | refine blk_alloc ?_ _)); refine blk_far ?_ NB309_311.out _; (with_reducible repeat (first | refine blk_drewN ?_ _ | refine blk_drew ?_ | refine blk_alloc ?_ _)); refine blk_far ?_ NB309_311.out _; (with_reducible repeat (first | refine blk_drewN ?_ _ | refine blk_drew ?_ | refine blk_alloc ?_ _)); exact BK309.out) hb); replace BK311 := Aside0.mk (blk_below (g := gb311) (o := .cells #[.string ((rd_T47 l0_0 x28_2).f0), .int .i64 ((rd_T47 l0_0 x28_2).f1), .int .i64 ((rd_T47 l0_0 x28_2).f2)] 47 (0, 0)) (by (with_reducible repeat (first | refine blk_drewN ?_ _ | refine blk_drew ?_ | refine blk_alloc ?_ _)); refine blk_put (cs := #[.string ((rd_T47 l0_0 x28_2).f0), .int .i64 ((rd_T47 l0_0 x28_2).f1), .int .i64 0]) ?_ 2 _ rfl; (with_reducible repeat (first | refine blk_drewN ?_ _ | refine blk_drew ?_ | refine blk_alloc ?_ _)); refine blk_put (cs := #[.string ((rd_T47 l0_0 x28_2).f0), .int .i64 0, .int .i64 0]) ?_ 1 _ rfl; (with_reducible repeat (first | refine blk_drewN ?_ _ | refine blk_drew ?_ | refine blk_alloc ?_ _)); refine blk_put (cs := #[.string (⟨#[]⟩ : ByteArray), .int .i64 0, .int .i64 0]) ?_ 0 _ rfl; (with_reducible repeat (first | refine blk_drewN ?_ _ | refine blk_drew ?_ | refine blk_alloc ?_ _)); exact BK311.out) hb); replace HB := Aside0.mk (below_step (zb2 HB.out GE309.out GE311.out) hb); (try clear hb))); try go_wp2_with (first | ((with_reducible refine gate_dst (N := 4) rfl ?_); (try (refine gate_guard (by rfl) ?_; dsimp only)); refine box_event ?hg (N := 4) ?hd (cs := #[.string (⟨#[]⟩ : ByteArray), .int .i64 0, .int .i64 0]) (t := 47) ?hr ?_; (case hd => rfl); (case hg => rfl); (case hr => first | (go_simp; done) | (go_simp; rfl)); intro gb311 hg w39 hbox hb; have BK311 := Aside0.mk (hbox); have GW311 := Aside0.mk ((by rw [hg]; exact (below_size (zb1 HB.out GE309.out)) : w.heap.size ≤ gb311)); have GE311 := Aside0.mk ((by rw [hg]; exact (below_size (zb1 HB.out GE309.out)) : w.heap.size ≤ gb311)); replace HB := Aside0.mk (below_step (zb1 HB.out GE309.out) hb); have NB309_311 := Aside0.mk ((by rw [hg]; exact Nat.ne_of_lt (blk_lt (g := gb309) (o := .cells #[.slice (some ad310) l0_0.length c0_0, .slice A0_1 l0_1.length c0_1] 25 (0, 0)) (zk BK309.out)) : gb309 ≠ gb311)); have NB311_309 := Aside0.mk ((by rw [hg]; exact Nat.ne_of_gt (blk_lt (g := gb309) (o := .cells #[.slice (some ad310) l0_0.length c0_0, .slice A0_1 l0_1.length c0_1] 25 (0, 0)) (zk BK309.out)) : gb311 ≠ gb309)); replace BK309 := Aside0.mk (blk_below (g := gb309) (o := .cells #[.slice (some ad310) l0_0.length c0_0, .slice A0_1 l0_1.length c0_1] 25 (0, 0)) (zk BK309.out) hb); clear hb hbox hg; have hnb40 := NB311_309.out; have hnc40 := NB309_311.out; have hcz41_0 : w39.cell? ⟨gb311, 0, none⟩ = some (.string (⟨#[]⟩ : ByteArray)) := (blk_cell BK311.out 0).trans rfl; have hcz41_1 : w39.cell? ⟨gb311, 1, none⟩ = some (.int .i64 0) := (blk_cell BK311.out 1).trans rfl; have hcz41_2 : w39.cell? ⟨gb311, 2, none⟩ = some (.int .i64 0) := (blk_cell BK311.out 2).trans rfl; have hfz41_0 := blk_frozen BK311.out 0; have hfz41_1 := blk_frozen BK311.out 1; have hfz41_2 := blk_frozen BK311.out 2) | (go_at_call 38; (with_reducible refine (stillageref06_Name.calls k2 ((rd_T47 l0_0 x28_2).f0) true _ A14.out).mono ?_); rintro e w' ⟨rfl, ⟨nd, rfl⟩⟩; (try first | exact ⟨rfl, _, World.drewN_drewN _ _ _⟩ | exact ⟨rfl, _, Eq.trans (World.drewN_drewN _ _ _) (congrArg (World.drewN _) (Nat.add_assoc _ _ _))⟩); have hcz42_0 : w39.cell? ⟨gb309, 0, none⟩ = some (.slice (some ad310) l0_0.length c0_0) := (blk_cell BK309.out 0).trans rfl; have hcz42_1 : w39.cell? ⟨gb309, 1, none⟩ = some (.slice A0_1 l0_1.length c0_1) := (blk_cell BK309.out 1).trans rfl; have hfz42_0 := blk_frozen BK309.out 0; have hfz42_1 := blk_frozen BK309.out 1) | (go_at_call 39; (with_reducible refine (stillageref06_Find.calls k2 _ _ l0_0 _ _ l0_1 ((rd_T47 l0_0 x28_2).f0) t313 _ ?side1 ?side2 ?side3 ?side4 A36.out).mono ?_); (case side1 => exact Kd.C_below HR0_0.out (zb2 HB.out GE309.out GE311.out)); (case side2 => exact HC0_0.out); (case side3 => exact Kd.C_below HR0_1.out (zb2 HB.out GE309.out GE311.out)); (case side4 => exact HC0_1.out); rintro e w43 ⟨rfl, hb⟩; replace BK309 := Aside0.mk (blk_below (g := gb309) (o := .cells #[.slice (some ad310) l0_0.length c0_0, .slice A0_1 l0_1.length c0_1] 25 (0, 0)) (by (with_reducible repeat (first | refine blk_drewN ?_ _ | refine blk_drew ?_ | refine blk_alloc ?_ _)); refine blk_far ?_ NB309_311.out _; (with_reducible repeat (first | refine blk_drewN ?_ _ | refine blk_drew ?_ | refine blk_alloc ?_ _)); refine blk_far ?_ NB309_311.out _; (with_reducible repeat (first | refine blk_drewN ?_ _ | refine blk_drew ?_ | refine blk_alloc ?_ _)); refine blk_far ?_ NB309_311.out _; (with_reducible repeat (first | refine blk_drewN ?_ _ | refine blk_drew ?_ | refine blk_alloc ?_ _)); exact BK309.out) hb); replace BK311 := Aside0.mk (blk_below (g := gb311) (o := .cells #[.string ((rd_T47 l0_0 x28_2).f0), .int .i64 ((rd_T47 l0_0 x28_2).f1), .int .i64 ((rd_T47 l0_0 x28_2).f2)] 47 (0, 0)) (by (with_reducible repeat (first | refine blk_drewN ?_ _ | refine blk_drew ?_ | refine blk_alloc ?_ _)); refine blk_put (cs := #[.string ((rd_T47 l0_0 x28_2).f0), .int .i64 ((rd_T47 l0_0 x28_2).f1), .int .i64 0]) ?_ 2 _ rfl; (with_reducible repeat (first | refine blk_drewN ?_ _ | refine blk_drew ?_ | refine blk_alloc ?_ _)); refine blk_put (cs := #[.string ((rd_T47 l0_0 x28_2).f0), .int .i64 0, .int .i64 0]) ?_ 1 _ rfl; (with_reducible repeat (first | refine blk_drewN ?_ _ | refine blk_drew ?_ | refine blk_alloc ?_ _)); refine blk_put (cs := #[.string (⟨#[]⟩ : ByteArray), .int .i64 0, .int .i64 0]) ?_ 0 _ rfl; (with_reducible repeat (first | refine blk_drewN ?_ _ | refine blk_drew ?_ | refine blk_alloc ?_ _)); exact BK311.out) hb); replace HB := Aside0.mk (below_step (zb2 HB.out GE309.out GE311.out) hb); (try clear hb))))
     go_roundg k2
     case measure => have := HJ1.out; have := HK2.out; omega
     case rel => exact ⟨(wrap64 (x28_2 + 1)), rs, H', ⟨by have := HJ1.out; have := HK2.out; omega⟩, ⟨zk BK309.out⟩, ⟨zb2 HB.out GE309.out GE311.out⟩⟩
end Go.Proofs.Ytbbdgndaaajejaa.PRoutePaths
