-- Written by a program of this session (wip/oprint): after the pattern of the kit's print, which does not take this law. -- trimmed
import Derived.Test.YtbbdgndaaajejaaPRoutePathsx0
import Derived.Test.YtbbdgndaaajejaaPRoutePathsx11
import Derived.Test.YtbbdgndaaajejaaPRoutePathsx13
namespace Go.Proofs.Ytbbdgndaaajejaa.PRoutePaths
open Go.RowKit Go.Proofs.YtbbdgndaaajejaaW.PrintWords Go.Proofs.YtbbdgndaaajejaaW.PrintLast Go.Proofs.YtbbdgndaaajejaaW.PrintMore
attribute [local go_sem] max2_int min2_int max_two min_two max_three min_three max_four min_four   -- for this text's walks alone
set_option linter.unusedVariables false
set_option linter.unusedSimpArgs false

/-! ### stillageref08_first: function 35 -/
mutual
def stillageref08_first.l0 : Nat → List Int → Int → Int → Int → List Int → Int → List (S47) → List (S38) → Option (List Int × Bool)
 | 0, _, _, _, _, _, _, _, _ => none
 | k + 1, x1, x2, x3, x4, x5, x14, x364000, x364001 => if x14 ≤ (x364001.length : Int) then (if 0 ≤ (wrap64 (x14 - 1)) then (if (wrap64 (x14 - 1)) < (x364001.length : Int) then (if ((rd_T38 x364001 (wrap64 (x14 - 1))).f0) = x2 then ((stillageref07_Open.f k x1 x14).bind fun t365 => (stillageref08_first.j1 k x1 x2 x3 x4 x5 x14 (!t365) x364000 x364001)) else (stillageref08_first.j1 k x1 x2 x3 x4 x5 x14 true x364000 x364001)) else (none)) else (none)) else (some (([] : List Int), false))
def stillageref08_first.j1 : Nat → List Int → Int → Int → Int → List Int → Int → Bool → List (S47) → List (S38) → Option (List Int × Bool)
 | 0, _, _, _, _, _, _, _, _, _ => none
 | k + 1, x1, x2, x3, x4, x5, x14, x44, x364000, x364001 => if x44 = true then (stillageref08_first.l0 k x1 x2 x3 x4 x5 (wrap64 (x14 + 1)) x364000 x364001) else (if 0 ≤ (wrap64 (x14 - 1)) then (if (wrap64 (x14 - 1)) < (x364001.length : Int) then (if x4 > 1 then (if 0 ≤ ((rd_T38 x364001 (wrap64 (x14 - 1))).f1) then (if ((rd_T38 x364001 (wrap64 (x14 - 1))).f1) < (x364000.length : Int) then (if ((rd_T47 x364000 ((rd_T38 x364001 (wrap64 (x14 - 1))).f1)).f1) = 1 then ((stillageref08_has.f k x5 ((rd_T38 x364001 (wrap64 (x14 - 1))).f1)).bind fun t368 => (if t368 = true then (stillageref08_first.j2 k x1 x2 x3 x4 x5 x14 ((rd_T38 x364001 (wrap64 (x14 - 1))).f1) true x364000 x364001) else (if ((rd_T38 x364001 (wrap64 (x14 - 1))).f1) = x3 then (stillageref08_first.j2 k x1 x2 x3 x4 x5 x14 ((rd_T38 x364001 (wrap64 (x14 - 1))).f1) true x364000 x364001) else (if x4 = 1 then (stillageref08_first.j2 k x1 x2 x3 x4 x5 x14 ((rd_T38 x364001 (wrap64 (x14 - 1))).f1) (((rd_T38 x364001 (wrap64 (x14 - 1))).f1) != x3) x364000 x364001) else (stillageref08_first.j2 k x1 x2 x3 x4 x5 x14 ((rd_T38 x364001 (wrap64 (x14 - 1))).f1) false x364000 x364001))))) else (stillageref08_first.j2 k x1 x2 x3 x4 x5 x14 ((rd_T38 x364001 (wrap64 (x14 - 1))).f1) true x364000 x364001)) else (none)) else (none)) else (if x4 = 1 then (stillageref08_first.j2 k x1 x2 x3 x4 x5 x14 ((rd_T38 x364001 (wrap64 (x14 - 1))).f1) (((rd_T38 x364001 (wrap64 (x14 - 1))).f1) != x3) x364000 x364001) else (stillageref08_first.j2 k x1 x2 x3 x4 x5 x14 ((rd_T38 x364001 (wrap64 (x14 - 1))).f1) false x364000 x364001))) else (none)) else (none))
def stillageref08_first.j2 : Nat → List Int → Int → Int → Int → List Int → Int → Int → Bool → List (S47) → List (S38) → Option (List Int × Bool)
 | 0, _, _, _, _, _, _, _, _, _, _ => none
 | k + 1, x1, x2, x3, x4, x5, x14, x15, x81, x364000, x364001 => if x81 = true then (stillageref08_first.l0 k x1 x2 x3 x4 x5 (wrap64 (x14 + 1)) x364000 x364001) else (if x4 > 1 then ((stillageref08_reached.f k x364000 x364001 x1 x15 x3 (wrap64 (x4 - 1)) x5).bind fun t369 => (stillageref08_first.j3 k x1 x2 x3 x4 x5 x14 x15 (!t369) x364000 x364001)) else (stillageref08_first.j3 k x1 x2 x3 x4 x5 x14 x15 false x364000 x364001))
def stillageref08_first.j3 : Nat → List Int → Int → Int → Int → List Int → Int → Int → Bool → List (S47) → List (S38) → Option (List Int × Bool)
 | 0, _, _, _, _, _, _, _, _, _, _ => none
 | k + 1, x1, x2, x3, x4, x5, x14, x15, x94, x364000, x364001 => if x94 = true then (stillageref08_first.l0 k x1 x2 x3 x4 x5 (wrap64 (x14 + 1)) x364000 x364001) else ((stillageref08_first.f k x364000 x364001 x1 x15 x3 (wrap64 (x4 - 1)) x5).bind fun bt370 => (if bt370.2 = true then ((some (([x14] : List Int) : List Int)).bind fun y374 => (if y374.length + bt370.1.length < 17592186044416 then (some ((y374 ++ bt370.1), true)) else (none))) else (stillageref08_first.l0 k x1 x2 x3 x4 x5 (wrap64 (x14 + 1)) x364000 x364001)))
def stillageref08_first.f : Nat → List (S47) → List (S38) → List Int → Int → Int → Int → List Int → Option (List Int × Bool)
 | 0, _, _, _, _, _, _, _ => none
 | k + 1, l0_0, l0_1, l1, a2, a3, a4, l5 => if a4 = 0 then (some (([] : List Int), (a2 == a3))) else (stillageref08_first.l0 k l1 a2 a3 a4 l5 1 l0_0 l0_1)
end
theorem stillageref08_first.mono_l : ∀ k, (∀ y0 y1 y2 y3 y4 y5 y6, LeO (stillageref08_first.f k y0 y1 y2 y3 y4 y5 y6) (stillageref08_first.f (k + 1) y0 y1 y2 y3 y4 y5 y6)) ∧ (∀ y0 y1 y2 y3 y4 y5 y6 y7, LeO (stillageref08_first.l0 k y0 y1 y2 y3 y4 y5 y6 y7) (stillageref08_first.l0 (k + 1) y0 y1 y2 y3 y4 y5 y6 y7)) ∧ (∀ y0 y1 y2 y3 y4 y5 y6 y7 y8, LeO (stillageref08_first.j1 k y0 y1 y2 y3 y4 y5 y6 y7 y8) (stillageref08_first.j1 (k + 1) y0 y1 y2 y3 y4 y5 y6 y7 y8)) ∧ (∀ y0 y1 y2 y3 y4 y5 y6 y7 y8 y9, LeO (stillageref08_first.j2 k y0 y1 y2 y3 y4 y5 y6 y7 y8 y9) (stillageref08_first.j2 (k + 1) y0 y1 y2 y3 y4 y5 y6 y7 y8 y9)) ∧ (∀ y0 y1 y2 y3 y4 y5 y6 y7 y8 y9, LeO (stillageref08_first.j3 k y0 y1 y2 y3 y4 y5 y6 y7 y8 y9) (stillageref08_first.j3 (k + 1) y0 y1 y2 y3 y4 y5 y6 y7 y8 y9))
 | 0 => ⟨fun _ _ _ _ _ _ _ r h => by simp [stillageref08_first.f] at h, fun _ _ _ _ _ _ _ _ r h => by simp [stillageref08_first.l0] at h, fun _ _ _ _ _ _ _ _ _ r h => by simp [stillageref08_first.j1] at h, fun _ _ _ _ _ _ _ _ _ _ r h => by simp [stillageref08_first.j2] at h, fun _ _ _ _ _ _ _ _ _ _ r h => by simp [stillageref08_first.j3] at h⟩
 | k + 1 => by
  obtain ⟨ih0, ih1, ih2, ih3, ih4⟩ := stillageref08_first.mono_l k
  refine ⟨?_, ?_, ?_, ?_, ?_⟩
  ·intro y0 y1 y2 y3 y4 y5 y6
   unfold stillageref08_first.f
   repeat' first
   | (with_reducible exact ih0 _ _ _ _ _ _ _)
   | (with_reducible exact ih1 _ _ _ _ _ _ _ _)
   | (with_reducible exact ih2 _ _ _ _ _ _ _ _ _)
   | (with_reducible exact ih3 _ _ _ _ _ _ _ _ _ _)
   | (with_reducible exact ih4 _ _ _ _ _ _ _ _ _ _)
   | (with_reducible exact stillageref07_Open.mono _ _ _)
   | (with_reducible exact stillageref08_has.mono _ _ _)
   | (with_reducible exact stillageref08_reached.mono _ _ _ _ _ _ _ _)
   | (with_reducible exact LeO.refl _)
   | (with_reducible exact LeO.none _)
   | (with_reducible refine LeO.ite ?_ ?_)
   | (with_reducible refine LeO.bind ?_ (fun _ => ?_))
   | exact ih0 _ _ _ _ _ _ _
   | exact ih1 _ _ _ _ _ _ _ _
   | exact ih2 _ _ _ _ _ _ _ _ _
   | exact ih3 _ _ _ _ _ _ _ _ _ _
   | exact ih4 _ _ _ _ _ _ _ _ _ _
   | exact stillageref07_Open.mono _ _ _
   | exact stillageref08_has.mono _ _ _
   | exact stillageref08_reached.mono _ _ _ _ _ _ _ _
   | exact LeO.none _
   | refine LeO.ite ?_ ?_
   | refine LeO.bind ?_ (fun _ => ?_)
  ·intro y0 y1 y2 y3 y4 y5 y6 y7
   unfold stillageref08_first.l0
   repeat' first
   | (with_reducible exact ih0 _ _ _ _ _ _ _)
   | (with_reducible exact ih1 _ _ _ _ _ _ _ _)
   | (with_reducible exact ih2 _ _ _ _ _ _ _ _ _)
   | (with_reducible exact ih3 _ _ _ _ _ _ _ _ _ _)
   | (with_reducible exact ih4 _ _ _ _ _ _ _ _ _ _)
   | (with_reducible exact stillageref07_Open.mono _ _ _)
   | (with_reducible exact stillageref08_has.mono _ _ _)
   | (with_reducible exact stillageref08_reached.mono _ _ _ _ _ _ _ _)
   | (with_reducible exact LeO.refl _)
   | (with_reducible exact LeO.none _)
   | (with_reducible refine LeO.ite ?_ ?_)
   | (with_reducible refine LeO.bind ?_ (fun _ => ?_))
   | exact ih0 _ _ _ _ _ _ _
   | exact ih1 _ _ _ _ _ _ _ _
   | exact ih2 _ _ _ _ _ _ _ _ _
   | exact ih3 _ _ _ _ _ _ _ _ _ _
   | exact ih4 _ _ _ _ _ _ _ _ _ _
   | exact stillageref07_Open.mono _ _ _
   | exact stillageref08_has.mono _ _ _
   | exact stillageref08_reached.mono _ _ _ _ _ _ _ _
   | exact LeO.none _
   | refine LeO.ite ?_ ?_
   | refine LeO.bind ?_ (fun _ => ?_)
  ·intro y0 y1 y2 y3 y4 y5 y6 y7 y8
   unfold stillageref08_first.j1
   repeat' first
   | (with_reducible exact ih0 _ _ _ _ _ _ _)
   | (with_reducible exact ih1 _ _ _ _ _ _ _ _)
   | (with_reducible exact ih2 _ _ _ _ _ _ _ _ _)
   | (with_reducible exact ih3 _ _ _ _ _ _ _ _ _ _)
   | (with_reducible exact ih4 _ _ _ _ _ _ _ _ _ _)
   | (with_reducible exact stillageref07_Open.mono _ _ _)
   | (with_reducible exact stillageref08_has.mono _ _ _)
   | (with_reducible exact stillageref08_reached.mono _ _ _ _ _ _ _ _)
   | (with_reducible exact LeO.refl _)
   | (with_reducible exact LeO.none _)
   | (with_reducible refine LeO.ite ?_ ?_)
   | (with_reducible refine LeO.bind ?_ (fun _ => ?_))
   | exact ih0 _ _ _ _ _ _ _
   | exact ih1 _ _ _ _ _ _ _ _
   | exact ih2 _ _ _ _ _ _ _ _ _
   | exact ih3 _ _ _ _ _ _ _ _ _ _
   | exact ih4 _ _ _ _ _ _ _ _ _ _
   | exact stillageref07_Open.mono _ _ _
   | exact stillageref08_has.mono _ _ _
   | exact stillageref08_reached.mono _ _ _ _ _ _ _ _
   | exact LeO.none _
   | refine LeO.ite ?_ ?_
   | refine LeO.bind ?_ (fun _ => ?_)
  ·intro y0 y1 y2 y3 y4 y5 y6 y7 y8 y9
   unfold stillageref08_first.j2
   repeat' first
   | (with_reducible exact ih0 _ _ _ _ _ _ _)
   | (with_reducible exact ih1 _ _ _ _ _ _ _ _)
   | (with_reducible exact ih2 _ _ _ _ _ _ _ _ _)
   | (with_reducible exact ih3 _ _ _ _ _ _ _ _ _ _)
   | (with_reducible exact ih4 _ _ _ _ _ _ _ _ _ _)
   | (with_reducible exact stillageref07_Open.mono _ _ _)
   | (with_reducible exact stillageref08_has.mono _ _ _)
   | (with_reducible exact stillageref08_reached.mono _ _ _ _ _ _ _ _)
   | (with_reducible exact LeO.refl _)
   | (with_reducible exact LeO.none _)
   | (with_reducible refine LeO.ite ?_ ?_)
   | (with_reducible refine LeO.bind ?_ (fun _ => ?_))
   | exact ih0 _ _ _ _ _ _ _
   | exact ih1 _ _ _ _ _ _ _ _
   | exact ih2 _ _ _ _ _ _ _ _ _
   | exact ih3 _ _ _ _ _ _ _ _ _ _
   | exact ih4 _ _ _ _ _ _ _ _ _ _
   | exact stillageref07_Open.mono _ _ _
   | exact stillageref08_has.mono _ _ _
   | exact stillageref08_reached.mono _ _ _ _ _ _ _ _
   | exact LeO.none _
   | refine LeO.ite ?_ ?_
   | refine LeO.bind ?_ (fun _ => ?_)
  ·intro y0 y1 y2 y3 y4 y5 y6 y7 y8 y9
   unfold stillageref08_first.j3
   repeat' first
   | (with_reducible exact ih0 _ _ _ _ _ _ _)
   | (with_reducible exact ih1 _ _ _ _ _ _ _ _)
   | (with_reducible exact ih2 _ _ _ _ _ _ _ _ _)
   | (with_reducible exact ih3 _ _ _ _ _ _ _ _ _ _)
   | (with_reducible exact ih4 _ _ _ _ _ _ _ _ _ _)
   | (with_reducible exact stillageref07_Open.mono _ _ _)
   | (with_reducible exact stillageref08_has.mono _ _ _)
   | (with_reducible exact stillageref08_reached.mono _ _ _ _ _ _ _ _)
   | (with_reducible exact LeO.refl _)
   | (with_reducible exact LeO.none _)
   | (with_reducible refine LeO.ite ?_ ?_)
   | (with_reducible refine LeO.bind ?_ (fun _ => ?_))
   | exact ih0 _ _ _ _ _ _ _
   | exact ih1 _ _ _ _ _ _ _ _
   | exact ih2 _ _ _ _ _ _ _ _ _
   | exact ih3 _ _ _ _ _ _ _ _ _ _
   | exact ih4 _ _ _ _ _ _ _ _ _ _
   | exact stillageref07_Open.mono _ _ _
   | exact stillageref08_has.mono _ _ _
   | exact stillageref08_reached.mono _ _ _ _ _ _ _ _
   | exact LeO.none _
   | refine LeO.ite ?_ ?_
   | refine LeO.bind ?_ (fun _ => ?_)
theorem stillageref08_first.mono : ∀ a0 a1 a2 a3 a4 a5 a6 k, LeO (stillageref08_first.f k a0 a1 a2 a3 a4 a5 a6) (stillageref08_first.f (k + 1) a0 a1 a2 a3 a4 a5 a6) := by
 intro a0 a1 a2 a3 a4 a5 a6 k
 obtain ⟨ih0, ih1, ih2, ih3, ih4⟩ := stillageref08_first.mono_l k
 exact ih0 a0 a1 a2 a3 a4 a5 a6
set_option maxHeartbeats 8000000 in
set_option maxRecDepth 100000 in
theorem stillageref08_first.calls (k : Nat) : ∀ (A0_0 : Option Addr) (c0_0 : Nat) (l0_0 : List (S47)) (A0_1 : Option Addr) (c0_1 : Nat) (l0_1 : List (S38)) (A1 : Option Addr) (c1 : Nat) (l1 : List Int) (a2 : Int) (a3 : Int) (a4 : Int) (A5 : Option Addr) (c5 : Nat) (l5 : List Int) (r1 : List Int) (r2 : Bool) (w : World) (hr0_0 : Kd.C k47 w A0_0 l0_0.length l0_0) (hc0_0 : l0_0.length ≤ c0_0) (hr0_1 : Kd.C k38 w A0_1 l0_1.length l0_1) (hc0_1 : l0_1.length ≤ c0_1) (hr1 : Kd.C (Kd.int .i64) w A1 l1.length l1) (hc1 : l1.length ≤ c1) (hr5 : Kd.C (Kd.int .i64) w A5 l5.length l5) (hc5 : l5.length ≤ c5) (h : stillageref08_first.f k l0_0 l0_1 l1 a2 a3 a4 l5 = some (r1, r2)),
  Calls Try.prog 35 #[.agg #[.slice A0_0 l0_0.length c0_0, .slice A0_1 l0_1.length c0_1], .slice A1 l1.length c1, .int .i64 a2, .int .i64 a3, .int .i64 a4, .slice A5 l5.length c5] w fun e w' => ∃ v0_ : Value, e = .returned (.tuple #[v0_, .bool r2]) ∧ Kd.R (Kd.int .i64) 3 w' w.heap.size (fun _ => True) v0_ r1 ∧ Below w.heap.size w w' := by
 induction k using Nat.strongRecOn with
 | _ k ih =>
 intro A0_0 c0_0 l0_0 A0_1 c0_1 l0_1 A1 c1 l1 a2 a3 a4 A5 c5 l5 r1 r2 w hr0_0 hc0_0 hr0_1 hc0_1 hr1 hc1 hr5 hc5 h
 cases k with
 | zero => exact absurd h (by simp [stillageref08_first.f])
 | succ k =>
 simp only [stillageref08_first.f] at h
 have hu25 := Try.underlying25
 have HR0_0 := Aside0.mk hr0_0
 have HC0_0 := Aside0.mk hc0_0
 clear hr0_0 hc0_0
 have HR0_1 := Aside0.mk hr0_1
 have HC0_1 := Aside0.mk hc0_1
 clear hr0_1 hc0_1
 have HR1 := Aside0.mk hr1
 have HC1 := Aside0.mk hc1
 clear hr1 hc1
 have HR5 := Aside0.mk hr5
 have HC5 := Aside0.mk hc5
 clear hr5 hc5
 have HB := Aside0.mk (Below.refl w.heap.size w)
 have H : (if a4 = 0 then (some (([] : List Int), (a2 == a3))) else (stillageref08_first.l0 k l1 a2 a3 a4 l5 1 l0_0 l0_1)) = some (r1, r2) := h
 clear h
 by_cases c7 : a4 = 0
 ·rw [if_pos c7] at H
  have c7b0 : (a4 == 0) = true := beq_iff_eq.mpr c7
  have c7b1 : (a4 != 0) = false := bne_eq_false_iff_eq.mpr c7
  clear c7
  simp only [Option.some.injEq, Prod.mk.injEq] at H
  obtain ⟨rfl, rfl⟩ := H
  go_enter Try.func35, Try.ntmps35
  go_wp2_with (first | ((with_reducible refine gate_dst (N := 6) rfl ?_); refine box_event ?hg (N := 6) ?hd (cs := #[.slice A0_0 l0_0.length c0_0, .slice A0_1 l0_1.length c0_1]) (t := 25) ?hr ?_; (case hd => rfl); (case hg => rfl); (case hr => first | (go_simp; done) | (go_simp; rfl)); intro gb363 hg w8 hbox hb; have BK363 := Aside0.mk (hbox); have GW363 := Aside0.mk ((by rw [hg]; exact (below_size (zb0 HB.out)) : w.heap.size ≤ gb363)); have GE363 := Aside0.mk ((by rw [hg]; exact (below_size (zb0 HB.out)) : w.heap.size ≤ gb363)); replace HB := Aside0.mk (below_step (zb0 HB.out) hb); clear hb hbox hg))
  go_ret2
  exact ⟨_, by first | rfl | (simp [errW_none, errW_some] <;> rfl) | (simp [*, errW_none, errW_some] <;> rfl), by first | exact Kd.R_nil _ _ _ _ _ | exact Kd.N_nil _ _ _ _ _ | exact Kd.V_nil _ _ _ _ _ | exact Kd.Q_nil _ _ _ _ _ | exact Kd.S_nil _ _ _ _ _, zb1 HB.out GE363.out⟩
 rw [if_neg c7] at H
 have c7b0 : (a4 == 0) = false := beq_eq_false_iff_ne.mpr c7
 have c7b1 : (a4 != 0) = true := bne_iff_ne.mpr c7
 have H' := Aside0.mk H; clear H
 go_enter Try.func35, Try.ntmps35
 go_wp2_with (first | ((with_reducible refine gate_dst (N := 6) rfl ?_); refine box_event ?hg (N := 6) ?hd (cs := #[.slice A0_0 l0_0.length c0_0, .slice A0_1 l0_1.length c0_1]) (t := 25) ?hr ?_; (case hd => rfl); (case hg => rfl); (case hr => first | (go_simp; done) | (go_simp; rfl)); intro gb363 hg w9 hbox hb; have BK363 := Aside0.mk (hbox); have GW363 := Aside0.mk ((by rw [hg]; exact (below_size (zb0 HB.out)) : w.heap.size ≤ gb363)); have GE363 := Aside0.mk ((by rw [hg]; exact (below_size (zb0 HB.out)) : w.heap.size ≤ gb363)); replace HB := Aside0.mk (below_step (zb0 HB.out) hb); clear hb hbox hg))
 go_loopg [14] k (fun kq v14 w' => ∃ (x14_1 : Int), v14 = .int .i64 x14_1 ∧ Aside0 (stillageref08_first.l0 kq l1 a2 a3 a4 l5 x14_1 l0_0 l0_1 = some (r1, r2)) ∧ Aside0 (kq ≤ k) ∧ Aside0 (w'.heap[gb363]? = some (.cells #[(.slice A0_0 l0_0.length c0_0), (.slice A0_1 l0_1.length c0_1)] 25 (0, 0))) ∧ Aside0 (Below w.heap.size w w'))
 case atStart => exact ⟨(1), rs, H', ⟨Nat.le_refl _⟩, ⟨zk BK363.out⟩, ⟨zb1 HB.out GE363.out⟩⟩
 case round =>
  clear H'
  obtain ⟨x14_1, rfl, HA, HK1, BK363, HB⟩ := hrel
  cases gk with
  | zero => exact absurd HA.out (by simp [stillageref08_first.l0])
  | succ k1 =>
   have H := HA.out
   clear HA
   simp only [stillageref08_first.l0] at H
   by_cases c10 : x14_1 ≤ (l0_1.length : Int)
   rotate_left
   ·rw [if_neg c10] at H
    have c10b0 : decide (x14_1 ≤ (l0_1.length : Int)) = false := decide_eq_false c10
    clear c10
    simp only [Option.some.injEq, Prod.mk.injEq] at H
    obtain ⟨rfl, rfl⟩ := H
    have hcz58_0 : wr.cell? ⟨gb363, 0, none⟩ = some (.slice A0_0 l0_0.length c0_0) := (blk_cell BK363.out 0).trans rfl
    have hcz58_1 : wr.cell? ⟨gb363, 1, none⟩ = some (.slice A0_1 l0_1.length c0_1) := (blk_cell BK363.out 1).trans rfl
    have hfz58_0 := blk_frozen BK363.out 0
    have hfz58_1 := blk_frozen BK363.out 1
    go_wp2
    go_ret2
    exact ⟨_, by first | rfl | (simp [errW_none, errW_some] <;> rfl) | (simp [*, errW_none, errW_some] <;> rfl), by first | exact Kd.R_nil _ _ _ _ _ | exact Kd.N_nil _ _ _ _ _ | exact Kd.V_nil _ _ _ _ _ | exact Kd.Q_nil _ _ _ _ _ | exact Kd.S_nil _ _ _ _ _, zb1 HB.out GE363.out⟩

   rw [if_pos c10] at H
   have c10b0 : decide (x14_1 ≤ (l0_1.length : Int)) = true := decide_eq_true c10
   clear c10
   have HC11 := Aside0.mk H
   clear H
   have hcz12_0 : wr.cell? ⟨gb363, 0, none⟩ = some (.slice A0_0 l0_0.length c0_0) := (blk_cell BK363.out 0).trans rfl
   have hcz12_1 : wr.cell? ⟨gb363, 1, none⟩ = some (.slice A0_1 l0_1.length c0_1) := (blk_cell BK363.out 1).trans rfl
   have hfz12_0 := blk_frozen BK363.out 0
   have hfz12_1 := blk_frozen BK363.out 1
   go_upto_region 6 with (fail)
   go_cut [44] (fun v44 wc => ∃ (kq : Nat) (x44_10 : Bool), v44 = .bool x44_10 ∧ Aside0 (stillageref08_first.j1 kq l1 a2 a3 a4 l5 x14_1 x44_10 l0_0 l0_1 = some (r1, r2)) ∧ Aside0 (kq ≤ k1) ∧ Aside0 (wc.heap[gb363]? = some (.cells #[(.slice A0_0 l0_0.length c0_0), (.slice A0_1 l0_1.length c0_1)] 25 (0, 0))) ∧ Aside0 (Below w.heap.size w wc))
   case first =>
    have H := HC11.out
    clear HC11
    obtain ⟨ji13, hji13⟩ : ∃ j_ : Int, (wrap64 (x14_1 - 1)) = j_ := ⟨_, rfl⟩
    replace H : (if 0 ≤ (ji13) then (if (ji13) < (l0_1.length : Int) then (if ((rd_T38 l0_1 (ji13)).f0) = a2 then ((stillageref07_Open.f k1 l1 x14_1).bind fun t365 => (stillageref08_first.j1 k1 l1 a2 a3 a4 l5 x14_1 (!t365) l0_0 l0_1)) else (stillageref08_first.j1 k1 l1 a2 a3 a4 l5 x14_1 true l0_0 l0_1)) else (none)) else (none)) = some (r1, r2) := by first | (rw [hji13] at H; exact H) | (simp only [hji13] at H ⊢; exact H)
    have hji13w : (IntKind.i64.wrap (x14_1 - 1)) = ji13 := (i64_w _).trans hji13
    by_cases c14 : 0 ≤ (ji13)
    rotate_left; ·rw [if_neg c14] at H; exact absurd H (by simp)
    rw [if_pos c14] at H
    have c14b0 : decide (0 ≤ (ji13)) = true := decide_eq_true c14
    clear c14
    (first | rw [c14b0] | (simp only [i64_w, i32_w]; rw [c14b0]) | skip)
    by_cases c15 : (ji13) < (l0_1.length : Int)
    rotate_left; ·rw [if_neg c15] at H; exact absurd H (by simp)
    rw [if_pos c15] at H
    have c15b0 : decide ((ji13) < (l0_1.length : Int)) = true := decide_eq_true c15
    clear c15
    by_cases c16 : ((rd_T38 l0_1 (ji13)).f0) = a2
    rotate_left
    ·rw [if_neg c16] at H
     have c16b0 : (((rd_T38 l0_1 (ji13)).f0) == a2) = false := beq_eq_false_iff_ne.mpr c16
     have c16b1 : (((rd_T38 l0_1 (ji13)).f0) != a2) = true := bne_iff_ne.mpr c16
     have H' := Aside0.mk H; clear H
     have hcz19_0 : wr.cell? ⟨gb363, 0, none⟩ = some (.slice A0_0 l0_0.length c0_0) := (blk_cell BK363.out 0).trans rfl
     have hcz19_1 : wr.cell? ⟨gb363, 1, none⟩ = some (.slice A0_1 l0_1.length c0_1) := (blk_cell BK363.out 1).trans rfl
     have hfz19_0 := blk_frozen BK363.out 0
     have hfz19_1 := blk_frozen BK363.out 1
     have p364 : 0 ≤ ((ji13) : Int) := oda
     have q364 : (ji13) < (l0_1.length : Int) := oda
     obtain ⟨ad364, e364, hx364_0, hx364_1⟩ := at_T38 HR0_1.out (ji13) p364 q364
     cases e364
     replace hx364_0 := zx HB.out hx364_0
     replace hx364_1 := zx HB.out hx364_1
     replace p364 := eq_true p364
     replace q364 := eq_true q364
     go_wp2
     go_meet
     case rel => exact ⟨_, (true), rs, H', ⟨by have := HK1.out; first | omega | exact Nat.le_refl _⟩, ⟨zk BK363.out⟩, ⟨zb1 HB.out GE363.out⟩⟩
    rw [if_pos c16] at H
    have c16b0 : (((rd_T38 l0_1 (ji13)).f0) == a2) = true := beq_iff_eq.mpr c16
    have c16b1 : (((rd_T38 l0_1 (ji13)).f0) != a2) = false := bne_eq_false_iff_eq.mpr c16
    clear c16
    replace H := Option.bind_eq_some_iff.mp H; obtain ⟨t365, A170, H⟩ := H
    replace H : (stillageref08_first.j1 k1 l1 a2 a3 a4 l5 x14_1 (!t365) l0_0 l0_1) = some (r1, r2) := H
    have A17 := Aside0.mk A170
    clear A170
    have H' := Aside0.mk H; clear H
    have hcz18_0 : wr.cell? ⟨gb363, 0, none⟩ = some (.slice A0_0 l0_0.length c0_0) := (blk_cell BK363.out 0).trans rfl
    have hcz18_1 : wr.cell? ⟨gb363, 1, none⟩ = some (.slice A0_1 l0_1.length c0_1) := (blk_cell BK363.out 1).trans rfl
    have hfz18_0 := blk_frozen BK363.out 0
    have hfz18_1 := blk_frozen BK363.out 1
    have p364 : 0 ≤ ((ji13) : Int) := oda
    have q364 : (ji13) < (l0_1.length : Int) := oda
    obtain ⟨ad364, e364, hx364_0, hx364_1⟩ := at_T38 HR0_1.out (ji13) p364 q364
    cases e364
    replace hx364_0 := zx HB.out hx364_0
    replace hx364_1 := zx HB.out hx364_1
    replace p364 := eq_true p364
    replace q364 := eq_true q364
    go_wp2_with (first | (go_at_call 44; (with_reducible refine (stillageref07_Open.calls k1 _ _ l1 x14_1 t365 _ ?side1 ?side2 A17.out).mono ?_); (case side1 => exact zc HR1.out HB.out); (case side2 => exact HC1.out); rintro e w' ⟨rfl, ⟨nd, rfl⟩⟩))
    go_meet
    case rel => exact ⟨_, (!t365), rs, H', ⟨by have := HK1.out; first | omega | exact Nat.le_refl _⟩, ⟨zk BK363.out⟩, ⟨zb1 HB.out GE363.out⟩⟩
   case rest =>
    clear HC11
    obtain ⟨kq, x44_10, rfl, HA, HJ10, BK363, HB⟩ := hcut
    cases kq with
    | zero => exact absurd HA.out (by simp [stillageref08_first.j1])
    | succ kj10 =>
     have H := HA.out
     clear HA
     simp only [stillageref08_first.j1] at H
     by_cases c20 : x44_10 = true
     ·subst c20
      have H1 : (stillageref08_first.l0 kj10 l1 a2 a3 a4 l5 (wrap64 (x14_1 + 1)) l0_0 l0_1) = some (r1, r2) := by rw [if_pos rfl] at H; exact H
      clear H; have H := H1; clear H1
      have H' := Aside0.mk H; clear H
      go_wp2
      go_roundg kj10
      case measure => have := HK1.out; have := HJ10.out; omega
      case rel => exact ⟨(wrap64 (x14_1 + 1)), rs, H', ⟨by have := HK1.out; have := HJ10.out; omega⟩, ⟨zk BK363.out⟩, ⟨zb1 HB.out GE363.out⟩⟩
     replace c20 := Bool.eq_false_iff.mpr c20
     subst c20
     have H1 : (if 0 ≤ (wrap64 (x14_1 - 1)) then (if (wrap64 (x14_1 - 1)) < (l0_1.length : Int) then (if a4 > 1 then (if 0 ≤ ((rd_T38 l0_1 (wrap64 (x14_1 - 1))).f1) then (if ((rd_T38 l0_1 (wrap64 (x14_1 - 1))).f1) < (l0_0.length : Int) then (if ((rd_T47 l0_0 ((rd_T38 l0_1 (wrap64 (x14_1 - 1))).f1)).f1) = 1 then ((stillageref08_has.f kj10 l5 ((rd_T38 l0_1 (wrap64 (x14_1 - 1))).f1)).bind fun t368 => (if t368 = true then (stillageref08_first.j2 kj10 l1 a2 a3 a4 l5 x14_1 ((rd_T38 l0_1 (wrap64 (x14_1 - 1))).f1) true l0_0 l0_1) else (if ((rd_T38 l0_1 (wrap64 (x14_1 - 1))).f1) = a3 then (stillageref08_first.j2 kj10 l1 a2 a3 a4 l5 x14_1 ((rd_T38 l0_1 (wrap64 (x14_1 - 1))).f1) true l0_0 l0_1) else (if a4 = 1 then (stillageref08_first.j2 kj10 l1 a2 a3 a4 l5 x14_1 ((rd_T38 l0_1 (wrap64 (x14_1 - 1))).f1) (((rd_T38 l0_1 (wrap64 (x14_1 - 1))).f1) != a3) l0_0 l0_1) else (stillageref08_first.j2 kj10 l1 a2 a3 a4 l5 x14_1 ((rd_T38 l0_1 (wrap64 (x14_1 - 1))).f1) false l0_0 l0_1))))) else (stillageref08_first.j2 kj10 l1 a2 a3 a4 l5 x14_1 ((rd_T38 l0_1 (wrap64 (x14_1 - 1))).f1) true l0_0 l0_1)) else (none)) else (none)) else (if a4 = 1 then (stillageref08_first.j2 kj10 l1 a2 a3 a4 l5 x14_1 ((rd_T38 l0_1 (wrap64 (x14_1 - 1))).f1) (((rd_T38 l0_1 (wrap64 (x14_1 - 1))).f1) != a3) l0_0 l0_1) else (stillageref08_first.j2 kj10 l1 a2 a3 a4 l5 x14_1 ((rd_T38 l0_1 (wrap64 (x14_1 - 1))).f1) false l0_0 l0_1))) else (none)) else (none)) = some (r1, r2) := by rw [if_neg (show ¬ (false = true) by decide)] at H; exact H
     clear H; have H := H1; clear H1
     obtain ⟨ji21, hji21⟩ : ∃ j_ : Int, (wrap64 (x14_1 - 1)) = j_ := ⟨_, rfl⟩
     replace H : (if 0 ≤ (ji21) then (if (ji21) < (l0_1.length : Int) then (if a4 > 1 then (if 0 ≤ ((rd_T38 l0_1 (ji21)).f1) then (if ((rd_T38 l0_1 (ji21)).f1) < (l0_0.length : Int) then (if ((rd_T47 l0_0 ((rd_T38 l0_1 (ji21)).f1)).f1) = 1 then ((stillageref08_has.f kj10 l5 ((rd_T38 l0_1 (ji21)).f1)).bind fun t368 => (if t368 = true then (stillageref08_first.j2 kj10 l1 a2 a3 a4 l5 x14_1 ((rd_T38 l0_1 (ji21)).f1) true l0_0 l0_1) else (if ((rd_T38 l0_1 (ji21)).f1) = a3 then (stillageref08_first.j2 kj10 l1 a2 a3 a4 l5 x14_1 ((rd_T38 l0_1 (ji21)).f1) true l0_0 l0_1) else (if a4 = 1 then (stillageref08_first.j2 kj10 l1 a2 a3 a4 l5 x14_1 ((rd_T38 l0_1 (ji21)).f1) (((rd_T38 l0_1 (ji21)).f1) != a3) l0_0 l0_1) else (stillageref08_first.j2 kj10 l1 a2 a3 a4 l5 x14_1 ((rd_T38 l0_1 (ji21)).f1) false l0_0 l0_1))))) else (stillageref08_first.j2 kj10 l1 a2 a3 a4 l5 x14_1 ((rd_T38 l0_1 (ji21)).f1) true l0_0 l0_1)) else (none)) else (none)) else (if a4 = 1 then (stillageref08_first.j2 kj10 l1 a2 a3 a4 l5 x14_1 ((rd_T38 l0_1 (ji21)).f1) (((rd_T38 l0_1 (ji21)).f1) != a3) l0_0 l0_1) else (stillageref08_first.j2 kj10 l1 a2 a3 a4 l5 x14_1 ((rd_T38 l0_1 (ji21)).f1) false l0_0 l0_1))) else (none)) else (none)) = some (r1, r2) := by first | (rw [hji21] at H; exact H) | (simp only [hji21] at H ⊢; exact H)
     have hji21w : (IntKind.i64.wrap (x14_1 - 1)) = ji21 := (i64_w _).trans hji21
     by_cases c22 : 0 ≤ (ji21)
     rotate_left; ·rw [if_neg c22] at H; exact absurd H (by simp)
     rw [if_pos c22] at H
     have c22b0 : decide (0 ≤ (ji21)) = true := decide_eq_true c22
     clear c22
     by_cases c23 : (ji21) < (l0_1.length : Int)
     rotate_left; ·rw [if_neg c23] at H; exact absurd H (by simp)
     rw [if_pos c23] at H
     have c23b0 : decide ((ji21) < (l0_1.length : Int)) = true := decide_eq_true c23
     clear c23
     have HC24 := Aside0.mk H
     clear H
     have hcz25_0 : wc.cell? ⟨gb363, 0, none⟩ = some (.slice A0_0 l0_0.length c0_0) := (blk_cell BK363.out 0).trans rfl
     have hcz25_1 : wc.cell? ⟨gb363, 1, none⟩ = some (.slice A0_1 l0_1.length c0_1) := (blk_cell BK363.out 1).trans rfl
     have hfz25_0 := blk_frozen BK363.out 0
     have hfz25_1 := blk_frozen BK363.out 1
     have p366 : 0 ≤ ((ji21) : Int) := oda
     have q366 : (ji21) < (l0_1.length : Int) := oda
     obtain ⟨ad366, e366, hx366_0, hx366_1⟩ := at_T38 HR0_1.out (ji21) p366 q366
     cases e366
     replace hx366_0 := zx HB.out hx366_0
     replace hx366_1 := zx HB.out hx366_1
     replace p366 := eq_true p366
     replace q366 := eq_true q366
     go_upto_region 8 with (fail)
     go_cut [81] (fun v81 wc => ∃ (kq : Nat) (x81_23 : Bool), v81 = .bool x81_23 ∧ Aside0 (stillageref08_first.j2 kq l1 a2 a3 a4 l5 x14_1 ((rd_T38 l0_1 (ji21)).f1) x81_23 l0_0 l0_1 = some (r1, r2)) ∧ Aside0 (kq ≤ kj10) ∧ Aside0 (wc.heap[gb363]? = some (.cells #[(.slice A0_0 l0_0.length c0_0), (.slice (some ad366) l0_1.length c0_1)] 25 (0, 0))) ∧ Aside0 (Below w.heap.size w wc))
     case first =>
      have H := HC24.out
      clear HC24
      by_cases c26 : a4 > 1
      rotate_left
      ·rw [if_neg c26] at H
       have c26b0 : decide (1 < a4) = false := decide_eq_false c26
       clear c26
       (first | rw [c26b0] | (simp only [i64_w, i32_w]; rw [c26b0]) | skip)
       by_cases c39 : a4 = 1
       rotate_left
       ·rw [if_neg c39] at H
        have c39b0 : (a4 == 1) = false := beq_eq_false_iff_ne.mpr c39
        have c39b1 : (a4 != 1) = true := bne_iff_ne.mpr c39
        have H' := Aside0.mk H; clear H
        go_wp2
        go_meet
        case rel => exact ⟨_, (false), rs, H', ⟨by have := HK1.out; have := HJ10.out; first | omega | exact Nat.le_refl _⟩, ⟨zk BK363.out⟩, ⟨zb1 HB.out GE363.out⟩⟩
       rw [if_pos c39] at H
       have c39b0 : (a4 == 1) = true := beq_iff_eq.mpr c39
       have c39b1 : (a4 != 1) = false := bne_eq_false_iff_eq.mpr c39
       clear c39
       have H' := Aside0.mk H; clear H
       go_wp2
       go_meet
       case rel => exact ⟨_, ((((rd_T38 l0_1 (ji21)).f1) != a3)), (by first | rfl | (simp; done) | (simp only [← hji21] <;> (first | rfl | (simp; done))) | (simp [*]; done)), H', ⟨by have := HK1.out; have := HJ10.out; first | omega | exact Nat.le_refl _⟩, ⟨zk BK363.out⟩, ⟨zb1 HB.out GE363.out⟩⟩
      rw [if_pos c26] at H
      have c26b0 : decide (1 < a4) = true := decide_eq_true c26
      clear c26
      (first | rw [c26b0] | (simp only [i64_w, i32_w]; rw [c26b0]) | skip)
      by_cases c27 : 0 ≤ ((rd_T38 l0_1 (ji21)).f1)
      rotate_left; ·rw [if_neg c27] at H; exact absurd H (by simp)
      rw [if_pos c27] at H
      have c27b0 : decide (0 ≤ ((rd_T38 l0_1 (ji21)).f1)) = true := decide_eq_true c27
      clear c27
      by_cases c28 : ((rd_T38 l0_1 (ji21)).f1) < (l0_0.length : Int)
      rotate_left; ·rw [if_neg c28] at H; exact absurd H (by simp)
      rw [if_pos c28] at H
      have c28b0 : decide (((rd_T38 l0_1 (ji21)).f1) < (l0_0.length : Int)) = true := decide_eq_true c28
      clear c28
      by_cases c29 : ((rd_T47 l0_0 ((rd_T38 l0_1 (ji21)).f1)).f1) = 1
      rotate_left
      ·rw [if_neg c29] at H
       have c29b0 : (((rd_T47 l0_0 ((rd_T38 l0_1 (ji21)).f1)).f1) == 1) = false := beq_eq_false_iff_ne.mpr c29
       have c29b1 : (((rd_T47 l0_0 ((rd_T38 l0_1 (ji21)).f1)).f1) != 1) = true := bne_iff_ne.mpr c29
       have H' := Aside0.mk H; clear H
       have hcz38_0 : wc.cell? ⟨gb363, 0, none⟩ = some (.slice A0_0 l0_0.length c0_0) := (blk_cell BK363.out 0).trans rfl
       have hcz38_1 : wc.cell? ⟨gb363, 1, none⟩ = some (.slice (some ad366) l0_1.length c0_1) := (blk_cell BK363.out 1).trans rfl
       have hfz38_0 := blk_frozen BK363.out 0
       have hfz38_1 := blk_frozen BK363.out 1
       have p367 : 0 ≤ (((rd_T38 l0_1 (ji21)).f1) : Int) := oda
       have q367 : ((rd_T38 l0_1 (ji21)).f1) < (l0_0.length : Int) := oda
       obtain ⟨ad367, e367, hx367_0, hx367_1, hx367_2⟩ := at_T47 HR0_0.out ((rd_T38 l0_1 (ji21)).f1) p367 q367
       cases e367
       replace hx367_0 := zx HB.out hx367_0
       replace hx367_1 := zx HB.out hx367_1
       replace hx367_2 := zx HB.out hx367_2
       replace p367 := eq_true p367
       replace q367 := eq_true q367
       go_wp2
       go_meet
       case rel => exact ⟨_, (true), rs, H', ⟨by have := HK1.out; have := HJ10.out; first | omega | exact Nat.le_refl _⟩, ⟨zk BK363.out⟩, ⟨zb1 HB.out GE363.out⟩⟩
      rw [if_pos c29] at H
      have c29b0 : (((rd_T47 l0_0 ((rd_T38 l0_1 (ji21)).f1)).f1) == 1) = true := beq_iff_eq.mpr c29
      have c29b1 : (((rd_T47 l0_0 ((rd_T38 l0_1 (ji21)).f1)).f1) != 1) = false := bne_eq_false_iff_eq.mpr c29
      clear c29
      replace H := Option.bind_eq_some_iff.mp H; obtain ⟨t368, A300, H⟩ := H
      replace H : (if t368 = true then (stillageref08_first.j2 kj10 l1 a2 a3 a4 l5 x14_1 ((rd_T38 l0_1 (ji21)).f1) true l0_0 l0_1) else (if ((rd_T38 l0_1 (ji21)).f1) = a3 then (stillageref08_first.j2 kj10 l1 a2 a3 a4 l5 x14_1 ((rd_T38 l0_1 (ji21)).f1) true l0_0 l0_1) else (if a4 = 1 then (stillageref08_first.j2 kj10 l1 a2 a3 a4 l5 x14_1 ((rd_T38 l0_1 (ji21)).f1) (((rd_T38 l0_1 (ji21)).f1) != a3) l0_0 l0_1) else (stillageref08_first.j2 kj10 l1 a2 a3 a4 l5 x14_1 ((rd_T38 l0_1 (ji21)).f1) false l0_0 l0_1)))) = some (r1, r2) := H
      have A30 := Aside0.mk A300
      clear A300
      by_cases c31 : t368 = true
      ·subst c31
       have H1 : (stillageref08_first.j2 kj10 l1 a2 a3 a4 l5 x14_1 ((rd_T38 l0_1 (ji21)).f1) true l0_0 l0_1) = some (r1, r2) := by rw [if_pos rfl] at H; exact H
       clear H; have H := H1; clear H1
       have H' := Aside0.mk H; clear H
       have hcz32_0 : wc.cell? ⟨gb363, 0, none⟩ = some (.slice A0_0 l0_0.length c0_0) := (blk_cell BK363.out 0).trans rfl
       have hcz32_1 : wc.cell? ⟨gb363, 1, none⟩ = some (.slice (some ad366) l0_1.length c0_1) := (blk_cell BK363.out 1).trans rfl
       have hfz32_0 := blk_frozen BK363.out 0
       have hfz32_1 := blk_frozen BK363.out 1
       have p367 : 0 ≤ (((rd_T38 l0_1 (ji21)).f1) : Int) := oda
       have q367 : ((rd_T38 l0_1 (ji21)).f1) < (l0_0.length : Int) := oda
       obtain ⟨ad367, e367, hx367_0, hx367_1, hx367_2⟩ := at_T47 HR0_0.out ((rd_T38 l0_1 (ji21)).f1) p367 q367
       cases e367
       replace hx367_0 := zx HB.out hx367_0
       replace hx367_1 := zx HB.out hx367_1
       replace hx367_2 := zx HB.out hx367_2
       replace p367 := eq_true p367
       replace q367 := eq_true q367
       go_wp2_with (first | (go_at_call 45; (with_reducible refine (stillageref08_has.calls kj10 _ _ l5 ((rd_T38 l0_1 (ji21)).f1) true _ ?side1 ?side2 A30.out).mono ?_); (case side1 => exact zc HR5.out HB.out); (case side2 => exact HC5.out); rintro e w' ⟨rfl, ⟨nd, rfl⟩⟩))
       go_meet
       case rel => exact ⟨_, (true), rs, H', ⟨by have := HK1.out; have := HJ10.out; first | omega | exact Nat.le_refl _⟩, ⟨zk BK363.out⟩, ⟨zb1 HB.out GE363.out⟩⟩
      replace c31 := Bool.eq_false_iff.mpr c31
      subst c31
      have H1 : (if ((rd_T38 l0_1 (ji21)).f1) = a3 then (stillageref08_first.j2 kj10 l1 a2 a3 a4 l5 x14_1 ((rd_T38 l0_1 (ji21)).f1) true l0_0 l0_1) else (if a4 = 1 then (stillageref08_first.j2 kj10 l1 a2 a3 a4 l5 x14_1 ((rd_T38 l0_1 (ji21)).f1) (((rd_T38 l0_1 (ji21)).f1) != a3) l0_0 l0_1) else (stillageref08_first.j2 kj10 l1 a2 a3 a4 l5 x14_1 ((rd_T38 l0_1 (ji21)).f1) false l0_0 l0_1))) = some (r1, r2) := by rw [if_neg (show ¬ (false = true) by decide)] at H; exact H
      clear H; have H := H1; clear H1
      by_cases c33 : ((rd_T38 l0_1 (ji21)).f1) = a3
      ·rw [if_pos c33] at H
       have c33b0 : (((rd_T38 l0_1 (ji21)).f1) == a3) = true := beq_iff_eq.mpr c33
       have c33b1 : (((rd_T38 l0_1 (ji21)).f1) != a3) = false := bne_eq_false_iff_eq.mpr c33
       clear c33
       have H' := Aside0.mk H; clear H
       have hcz34_0 : wc.cell? ⟨gb363, 0, none⟩ = some (.slice A0_0 l0_0.length c0_0) := (blk_cell BK363.out 0).trans rfl
       have hcz34_1 : wc.cell? ⟨gb363, 1, none⟩ = some (.slice (some ad366) l0_1.length c0_1) := (blk_cell BK363.out 1).trans rfl
       have hfz34_0 := blk_frozen BK363.out 0
       have hfz34_1 := blk_frozen BK363.out 1
       have p367 : 0 ≤ (((rd_T38 l0_1 (ji21)).f1) : Int) := oda
       have q367 : ((rd_T38 l0_1 (ji21)).f1) < (l0_0.length : Int) := oda
       obtain ⟨ad367, e367, hx367_0, hx367_1, hx367_2⟩ := at_T47 HR0_0.out ((rd_T38 l0_1 (ji21)).f1) p367 q367
       cases e367
       replace hx367_0 := zx HB.out hx367_0
       replace hx367_1 := zx HB.out hx367_1
       replace hx367_2 := zx HB.out hx367_2
       replace p367 := eq_true p367
       replace q367 := eq_true q367
       go_wp2_with (first | (go_at_call 45; (with_reducible refine (stillageref08_has.calls kj10 _ _ l5 ((rd_T38 l0_1 (ji21)).f1) false _ ?side1 ?side2 A30.out).mono ?_); (case side1 => exact zc HR5.out HB.out); (case side2 => exact HC5.out); rintro e w' ⟨rfl, ⟨nd, rfl⟩⟩))
       go_meet
       case rel => exact ⟨_, (true), rs, H', ⟨by have := HK1.out; have := HJ10.out; first | omega | exact Nat.le_refl _⟩, ⟨zk BK363.out⟩, ⟨zb1 HB.out GE363.out⟩⟩
      rw [if_neg c33] at H
      have c33b0 : (((rd_T38 l0_1 (ji21)).f1) == a3) = false := beq_eq_false_iff_ne.mpr c33
      have c33b1 : (((rd_T38 l0_1 (ji21)).f1) != a3) = true := bne_iff_ne.mpr c33
      by_cases c35 : a4 = 1
      rotate_left
      ·rw [if_neg c35] at H
       have c35b0 : (a4 == 1) = false := beq_eq_false_iff_ne.mpr c35
       have c35b1 : (a4 != 1) = true := bne_iff_ne.mpr c35
       have H' := Aside0.mk H; clear H
       have hcz37_0 : wc.cell? ⟨gb363, 0, none⟩ = some (.slice A0_0 l0_0.length c0_0) := (blk_cell BK363.out 0).trans rfl
       have hcz37_1 : wc.cell? ⟨gb363, 1, none⟩ = some (.slice (some ad366) l0_1.length c0_1) := (blk_cell BK363.out 1).trans rfl
       have hfz37_0 := blk_frozen BK363.out 0
       have hfz37_1 := blk_frozen BK363.out 1
       have p367 : 0 ≤ (((rd_T38 l0_1 (ji21)).f1) : Int) := oda
       have q367 : ((rd_T38 l0_1 (ji21)).f1) < (l0_0.length : Int) := oda
       obtain ⟨ad367, e367, hx367_0, hx367_1, hx367_2⟩ := at_T47 HR0_0.out ((rd_T38 l0_1 (ji21)).f1) p367 q367
       cases e367
       replace hx367_0 := zx HB.out hx367_0
       replace hx367_1 := zx HB.out hx367_1
       replace hx367_2 := zx HB.out hx367_2
       replace p367 := eq_true p367
       replace q367 := eq_true q367
       go_wp2_with (first | (go_at_call 45; (with_reducible refine (stillageref08_has.calls kj10 _ _ l5 ((rd_T38 l0_1 (ji21)).f1) false _ ?side1 ?side2 A30.out).mono ?_); (case side1 => exact zc HR5.out HB.out); (case side2 => exact HC5.out); rintro e w' ⟨rfl, ⟨nd, rfl⟩⟩))
       go_meet
       case rel => exact ⟨_, (false), rs, H', ⟨by have := HK1.out; have := HJ10.out; first | omega | exact Nat.le_refl _⟩, ⟨zk BK363.out⟩, ⟨zb1 HB.out GE363.out⟩⟩
      rw [if_pos c35] at H
      have c35b0 : (a4 == 1) = true := beq_iff_eq.mpr c35
      have c35b1 : (a4 != 1) = false := bne_eq_false_iff_eq.mpr c35
      clear c35
      have H' := Aside0.mk H; clear H
      have hcz36_0 : wc.cell? ⟨gb363, 0, none⟩ = some (.slice A0_0 l0_0.length c0_0) := (blk_cell BK363.out 0).trans rfl
      have hcz36_1 : wc.cell? ⟨gb363, 1, none⟩ = some (.slice (some ad366) l0_1.length c0_1) := (blk_cell BK363.out 1).trans rfl
      have hfz36_0 := blk_frozen BK363.out 0
      have hfz36_1 := blk_frozen BK363.out 1
      have p367 : 0 ≤ (((rd_T38 l0_1 (ji21)).f1) : Int) := oda
      have q367 : ((rd_T38 l0_1 (ji21)).f1) < (l0_0.length : Int) := oda
      obtain ⟨ad367, e367, hx367_0, hx367_1, hx367_2⟩ := at_T47 HR0_0.out ((rd_T38 l0_1 (ji21)).f1) p367 q367
      cases e367
      replace hx367_0 := zx HB.out hx367_0
      replace hx367_1 := zx HB.out hx367_1
      replace hx367_2 := zx HB.out hx367_2
      replace p367 := eq_true p367
      replace q367 := eq_true q367
      go_wp2_with (first | (go_at_call 45; (with_reducible refine (stillageref08_has.calls kj10 _ _ l5 ((rd_T38 l0_1 (ji21)).f1) false _ ?side1 ?side2 A30.out).mono ?_); (case side1 => exact zc HR5.out HB.out); (case side2 => exact HC5.out); rintro e w' ⟨rfl, ⟨nd, rfl⟩⟩))
      go_meet
      case rel => exact ⟨_, ((((rd_T38 l0_1 (ji21)).f1) != a3)), (by first | rfl | (simp; done) | (simp only [← hji21] <;> (first | rfl | (simp; done))) | (simp [*]; done)), H', ⟨by have := HK1.out; have := HJ10.out; first | omega | exact Nat.le_refl _⟩, ⟨zk BK363.out⟩, ⟨zb1 HB.out GE363.out⟩⟩
     case rest =>
      clear HC24
      obtain ⟨kq, x81_23, rfl, HA, HJ23, BK363, HB⟩ := hcut
      cases kq with
      | zero => exact absurd HA.out (by simp [stillageref08_first.j2])
      | succ kj23 =>
       have H := HA.out
       clear HA
       simp only [stillageref08_first.j2] at H
       by_cases c40 : x81_23 = true
       ·subst c40
        have H1 : (stillageref08_first.l0 kj23 l1 a2 a3 a4 l5 (wrap64 (x14_1 + 1)) l0_0 l0_1) = some (r1, r2) := by rw [if_pos rfl] at H; exact H
        clear H; have H := H1; clear H1
        have H' := Aside0.mk H; clear H
        go_wp2
        go_roundg kj23
        case measure => have := HK1.out; have := HJ10.out; have := HJ23.out; omega
        case rel => exact ⟨(wrap64 (x14_1 + 1)), rs, H', ⟨by have := HK1.out; have := HJ10.out; have := HJ23.out; omega⟩, ⟨zk BK363.out⟩, ⟨zb1 HB.out GE363.out⟩⟩
       replace c40 := Bool.eq_false_iff.mpr c40
       subst c40
       have H1 : (if a4 > 1 then ((stillageref08_reached.f kj23 l0_0 l0_1 l1 ((rd_T38 l0_1 (ji21)).f1) a3 (wrap64 (a4 - 1)) l5).bind fun t369 => (stillageref08_first.j3 kj23 l1 a2 a3 a4 l5 x14_1 ((rd_T38 l0_1 (ji21)).f1) (!t369) l0_0 l0_1)) else (stillageref08_first.j3 kj23 l1 a2 a3 a4 l5 x14_1 ((rd_T38 l0_1 (ji21)).f1) false l0_0 l0_1)) = some (r1, r2) := by rw [if_neg (show ¬ (false = true) by decide)] at H; exact H
       clear H; have H := H1; clear H1
       have HC41 := Aside0.mk H
       clear H
       go_upto_region 9 with (fail)
       go_cut [94] (fun v94 wc => ∃ (kq : Nat) (x94_40 : Bool), v94 = .bool x94_40 ∧ Aside0 (stillageref08_first.j3 kq l1 a2 a3 a4 l5 x14_1 ((rd_T38 l0_1 (ji21)).f1) x94_40 l0_0 l0_1 = some (r1, r2)) ∧ Aside0 (kq ≤ kj23) ∧ Aside0 (wc.heap[gb363]? = some (.cells #[(.slice A0_0 l0_0.length c0_0), (.slice (some ad366) l0_1.length c0_1)] 25 (0, 0))) ∧ Aside0 (Below w.heap.size w wc))
       case first =>
        have H := HC41.out
        clear HC41
        by_cases c42 : a4 > 1
        rotate_left
        ·rw [if_neg c42] at H
         have c42b0 : decide (1 < a4) = false := decide_eq_false c42
         clear c42
         (first | rw [c42b0] | (simp only [i64_w, i32_w]; rw [c42b0]) | skip)
         have H' := Aside0.mk H; clear H
         go_wp2
         go_meet
         case rel => exact ⟨_, (false), rs, H', ⟨by have := HK1.out; have := HJ10.out; have := HJ23.out; first | omega | exact Nat.le_refl _⟩, ⟨zk BK363.out⟩, ⟨zb1 HB.out GE363.out⟩⟩
        rw [if_pos c42] at H
        have c42b0 : decide (1 < a4) = true := decide_eq_true c42
        clear c42
        (first | rw [c42b0] | (simp only [i64_w, i32_w]; rw [c42b0]) | skip)
        replace H := Option.bind_eq_some_iff.mp H; obtain ⟨t369, A430, H⟩ := H
        replace H : (stillageref08_first.j3 kj23 l1 a2 a3 a4 l5 x14_1 ((rd_T38 l0_1 (ji21)).f1) (!t369) l0_0 l0_1) = some (r1, r2) := H
        have A43 := Aside0.mk A430
        clear A430
        have H' := Aside0.mk H; clear H
        have hcz44_0 : wc.cell? ⟨gb363, 0, none⟩ = some (.slice A0_0 l0_0.length c0_0) := (blk_cell BK363.out 0).trans rfl
        have hcz44_1 : wc.cell? ⟨gb363, 1, none⟩ = some (.slice (some ad366) l0_1.length c0_1) := (blk_cell BK363.out 1).trans rfl
        have hfz44_0 := blk_frozen BK363.out 0
        have hfz44_1 := blk_frozen BK363.out 1
        go_wp2_with (first | (go_at_call 46; (with_reducible refine (stillageref08_reached.calls kj23 _ _ l0_0 _ _ l0_1 _ _ l1 ((rd_T38 l0_1 (ji21)).f1) a3 (wrap64 (a4 - 1)) _ _ l5 t369 _ ?side1 ?side2 ?side3 ?side4 ?side5 ?side6 ?side7 ?side8 A43.out).mono ?_); (case side1 => exact zc HR0_0.out HB.out); (case side2 => exact HC0_0.out); (case side3 => exact zc HR0_1.out HB.out); (case side4 => exact HC0_1.out); (case side5 => exact zc HR1.out HB.out); (case side6 => exact HC1.out); (case side7 => exact zc HR5.out HB.out); (case side8 => exact HC5.out); rintro e w45 ⟨rfl, hb⟩; replace BK363 := Aside0.mk (blk_below (g := gb363) (o := .cells #[.slice A0_0 l0_0.length c0_0, .slice (some ad366) l0_1.length c0_1] 25 (0, 0)) (zk BK363.out) hb); replace HB := Aside0.mk (below_step (zb1 HB.out GE363.out) hb); (try clear hb)))
        go_meet
        case rel => exact ⟨_, (!t369), rs, H', ⟨by have := HK1.out; have := HJ10.out; have := HJ23.out; first | omega | exact Nat.le_refl _⟩, ⟨zk BK363.out⟩, ⟨zb1 HB.out GE363.out⟩⟩
       case rest =>
        clear HC41
        obtain ⟨kq, x94_40, rfl, HA, HJ40, BK363, HB⟩ := hcut
        cases kq with
        | zero => exact absurd HA.out (by simp [stillageref08_first.j3])
        | succ kj40 =>
         have H := HA.out
         clear HA
         simp only [stillageref08_first.j3] at H
         by_cases c46 : x94_40 = true
         ·subst c46
          have H1 : (stillageref08_first.l0 kj40 l1 a2 a3 a4 l5 (wrap64 (x14_1 + 1)) l0_0 l0_1) = some (r1, r2) := by rw [if_pos rfl] at H; exact H
          clear H; have H := H1; clear H1
          have H' := Aside0.mk H; clear H
          go_wp2
          go_roundg kj40
          case measure => have := HK1.out; have := HJ10.out; have := HJ23.out; have := HJ40.out; omega
          case rel => exact ⟨(wrap64 (x14_1 + 1)), rs, H', ⟨by have := HK1.out; have := HJ10.out; have := HJ23.out; have := HJ40.out; omega⟩, ⟨zk BK363.out⟩, ⟨zb1 HB.out GE363.out⟩⟩
         replace c46 := Bool.eq_false_iff.mpr c46
         subst c46
         have H1 : ((stillageref08_first.f kj40 l0_0 l0_1 l1 ((rd_T38 l0_1 (ji21)).f1) a3 (wrap64 (a4 - 1)) l5).bind fun bt370 => (if bt370.2 = true then ((some (([x14_1] : List Int) : List Int)).bind fun y374 => (if y374.length + bt370.1.length < 17592186044416 then (some ((y374 ++ bt370.1), true)) else (none))) else (stillageref08_first.l0 kj40 l1 a2 a3 a4 l5 (wrap64 (x14_1 + 1)) l0_0 l0_1))) = some (r1, r2) := by rw [if_neg (show ¬ (false = true) by decide)] at H; exact H
         clear H; have H := H1; clear H1
         replace H := Option.bind_eq_some_iff.mp H; obtain ⟨⟨t370, t373⟩, A470, H⟩ := H
         replace H : (if t373 = true then ((some (([x14_1] : List Int) : List Int)).bind fun y374 => (if y374.length + t370.length < 17592186044416 then (some ((y374 ++ t370), true)) else (none))) else (stillageref08_first.l0 kj40 l1 a2 a3 a4 l5 (wrap64 (x14_1 + 1)) l0_0 l0_1)) = some (r1, r2) := H
         have A47 := Aside0.mk A470
         clear A470
         by_cases c48 : t373 = true
         rotate_left
         ·replace c48 := Bool.eq_false_iff.mpr c48
          subst c48
          have H1 : (stillageref08_first.l0 kj40 l1 a2 a3 a4 l5 (wrap64 (x14_1 + 1)) l0_0 l0_1) = some (r1, r2) := by rw [if_neg (show ¬ (false = true) by decide)] at H; exact H
          clear H; have H := H1; clear H1
          have H' := Aside0.mk H; clear H
          have hcz56_0 : wc.cell? ⟨gb363, 0, none⟩ = some (.slice A0_0 l0_0.length c0_0) := (blk_cell BK363.out 0).trans rfl
          have hcz56_1 : wc.cell? ⟨gb363, 1, none⟩ = some (.slice (some ad366) l0_1.length c0_1) := (blk_cell BK363.out 1).trans rfl
          have hfz56_0 := blk_frozen BK363.out 0
          have hfz56_1 := blk_frozen BK363.out 1
          go_wp2_with (first | ((with_reducible refine gate_callee (f := 35) rfl ?_); refine goesL_ (some 103) rfl rfl Try.func35 (by kernel_rfl) rfl #[.agg #[.slice A0_0 l0_0.length c0_0, .slice (some ad366) l0_1.length c0_1], .slice A1 l1.length c1, .int .i64 ((rd_T38 l0_1 (ji21)).f1), .int .i64 a3, .int .i64 (wrap64 (a4 - 1)), .slice A5 l5.length c5] rfl (by (try simp only [List.map_toArray, List.map_cons, List.map_nil]); first | done | (simp only [hji21]; rfl) | rfl | (simp only [List.length_drop, List.length_take]; rfl)) ?_; (with_reducible refine (ih kj40 (by have := HK1.out; have := HJ10.out; have := HJ23.out; have := HJ40.out; omega) _ _ l0_0 _ _ l0_1 _ _ l1 ((rd_T38 l0_1 (ji21)).f1) a3 (wrap64 (a4 - 1)) _ _ l5 t370 false _ ?side1 ?side2 ?side3 ?side4 ?side5 ?side6 ?side7 ?side8 A47.out).mono ?_); (case side1 => exact zc HR0_0.out HB.out); (case side2 => exact HC0_0.out); (case side3 => exact zc HR0_1.out HB.out); (case side4 => exact HC0_1.out); (case side5 => exact zc HR1.out HB.out); (case side6 => exact HC1.out); (case side7 => exact zc HR5.out HB.out); (case side8 => exact HC5.out); rintro e w57 ⟨v371, rfl, ho0, hb⟩; refine ⟨_, rfl, ?_⟩; have HO372 := Aside0.mk (Kd.R_lower ho0 (below_size (zb1 HB.out GE363.out))); replace BK363 := Aside0.mk (blk_below (g := gb363) (o := .cells #[.slice A0_0 l0_0.length c0_0, .slice (some ad366) l0_1.length c0_1] 25 (0, 0)) (zk BK363.out) hb); replace HB := Aside0.mk (below_step (zb1 HB.out GE363.out) hb); (try clear hb); (try clear ho0)))
          go_roundg kj40
          case measure => have := HK1.out; have := HJ10.out; have := HJ23.out; have := HJ40.out; omega
          case rel => exact ⟨(wrap64 (x14_1 + 1)), rs, H', ⟨by have := HK1.out; have := HJ10.out; have := HJ23.out; have := HJ40.out; omega⟩, ⟨zk BK363.out⟩, ⟨zb1 HB.out GE363.out⟩⟩
         subst c48
         have H1 : ((some (([x14_1] : List Int) : List Int)).bind fun y374 => (if y374.length + t370.length < 17592186044416 then (some ((y374 ++ t370), true)) else (none))) = some (r1, r2) := by rw [if_pos rfl] at H; exact H
         clear H; have H := H1; clear H1
         obtain ⟨y374, hy374⟩ : ∃ y_ : List Int, y_ = (([x14_1] : List Int)) := ⟨_, rfl⟩
         replace H : (if y374.length + t370.length < 17592186044416 then (some ((y374 ++ t370), true)) else (none)) = some (r1, r2) := by first | (rw [hy374]; with_reducible exact H) | (have H2_ := (Option.bind_some _ _).symm.trans H; rw [hy374]; with_reducible exact H2_) | (have H2_ := (Option.bind_some _ _).symm.trans H; with_reducible exact H2_) | with_reducible exact H | (rw [hy374]; exact H) | exact H
         have Ny374 := Aside0.mk hy374
         clear hy374
         by_cases c49 : y374.length + t370.length < 17592186044416
         rotate_left; ·rw [if_neg c49] at H; exact absurd H (by simp)
         rw [if_pos c49] at H
         have LMc49 := Aside0.mk c49
         clear c49
         obtain ⟨y377, hy377⟩ : ∃ y_ : List Int, y_ = (y374 ++ t370) := ⟨_, rfl⟩
         replace H : (some (y377, true)) = some (r1, r2) := by first | (rw [hy377]; with_reducible exact H) | (have H2_ := (Option.bind_some _ _).symm.trans H; rw [hy377]; with_reducible exact H2_) | (have H2_ := (Option.bind_some _ _).symm.trans H; with_reducible exact H2_) | with_reducible exact H | (rw [hy377]; exact H) | exact H
         have Ny377 := Aside0.mk hy377
         clear hy377
         simp only [Option.some.injEq, Prod.mk.injEq] at H
         obtain ⟨rfl, rfl⟩ := H
         have hcz50_0 : wc.cell? ⟨gb363, 0, none⟩ = some (.slice A0_0 l0_0.length c0_0) := (blk_cell BK363.out 0).trans rfl
         have hcz50_1 : wc.cell? ⟨gb363, 1, none⟩ = some (.slice (some ad366) l0_1.length c0_1) := (blk_cell BK363.out 1).trans rfl
         have hfz50_0 := blk_frozen BK363.out 0
         have hfz50_1 := blk_frozen BK363.out 1
         go_wp2_with (first | ((with_reducible refine gate_callee (f := 35) rfl ?_); refine goesL_ (some 103) rfl rfl Try.func35 (by kernel_rfl) rfl #[.agg #[.slice A0_0 l0_0.length c0_0, .slice (some ad366) l0_1.length c0_1], .slice A1 l1.length c1, .int .i64 ((rd_T38 l0_1 (ji21)).f1), .int .i64 a3, .int .i64 (wrap64 (a4 - 1)), .slice A5 l5.length c5] rfl (by (try simp only [List.map_toArray, List.map_cons, List.map_nil]); first | done | (simp only [hji21]; rfl) | rfl | (simp only [List.length_drop, List.length_take]; rfl)) ?_; (with_reducible refine (ih kj40 (by have := HK1.out; have := HJ10.out; have := HJ23.out; have := HJ40.out; omega) _ _ l0_0 _ _ l0_1 _ _ l1 ((rd_T38 l0_1 (ji21)).f1) a3 (wrap64 (a4 - 1)) _ _ l5 t370 true _ ?side1 ?side2 ?side3 ?side4 ?side5 ?side6 ?side7 ?side8 A47.out).mono ?_); (case side1 => exact zc HR0_0.out HB.out); (case side2 => exact HC0_0.out); (case side3 => exact zc HR0_1.out HB.out); (case side4 => exact HC0_1.out); (case side5 => exact zc HR1.out HB.out); (case side6 => exact HC1.out); (case side7 => exact zc HR5.out HB.out); (case side8 => exact HC5.out); rintro e w51 ⟨v371, rfl, ho0, hb⟩; refine ⟨_, rfl, ?_⟩; have HO372 := Aside0.mk (Kd.R_lower ho0 (below_size (zb1 HB.out GE363.out))); replace BK363 := Aside0.mk (blk_below (g := gb363) (o := .cells #[.slice A0_0 l0_0.length c0_0, .slice (some ad366) l0_1.length c0_1] 25 (0, 0)) (zk BK363.out) hb); replace HB := Aside0.mk (below_step (zb1 HB.out GE363.out) hb); (try clear hb); (try clear ho0)) | ((with_reducible refine gate_dst (N := 108) rfl ?_); refine Kd.R_lit (Kd.int .i64) _ 3 ?hg (N := 108) ?hd (xs := ([x14_1] : List Int)) (inner := [.int .i64 x14_1]) (ok := fun _ => True) (okp := fun _ => True) ?hr ?hp (fun _ hk => hk) trivial (Below.refl _ _) (Nat.le_refl _) (by simp) ?_; (case hd => rfl); (case hg => rfl); (case hr => first | (go_simp; done) | (go_simp; rfl)); (case hp => exact (Reps.one (show Kd.M (Kd.int .i64) _ _ _ x14_1 [.int .i64 x14_1] from rfl) (Reps.none _ _))); intro v375 w52 ho53 hb hg_ hnew_; clear hg_ hnew_; (first | rw [← Ny374.out] at ho53 | (simp only [Int.reduceToNat] at ho53; rw [← Ny374.out] at ho53)); have HO376 := Aside0.mk (Kd.R_lower (Kd.R_new' ho53 (Kd.R_lt (zr HO372.out))) (below_size (zb1 HB.out GE363.out))); replace HO372 := Aside0.mk (Kd.R_elder' (zr HO372.out) (Kd.R_base ho53) hb); replace BK363 := Aside0.mk (blk_below (g := gb363) (o := .cells #[.slice A0_0 l0_0.length c0_0, .slice (some ad366) l0_1.length c0_1] 25 (0, 0)) (zk BK363.out) hb); replace HB := Aside0.mk (below_step (zb1 HB.out GE363.out) hb); clear hb ho53; obtain ⟨Ao55, co55, eo55⟩ := Kd.R_slice HO372.out; subst eo55) | ((with_reducible refine gate_builtin (b := .append) (xs := #[.tmp 108, .tmp 109]) rfl ?_); at_builtin; refine Kd.R_append_rows (Kd.int .i64) (w0 := w) w.heap.size rfl (.tmp 108) (.tmp 109) 26 3 (.int .i64 0) 8 rfl Try.underlying26 info3 rfl (by decide) (by omega) v375 y374 t370 _ _ _ (fun k_ => some k_ ≠ (.slice Ao55 t370.length co55 : Value).ownBlock) (fun _ => False) rfl rfl ?aO ?aR (fun _ _ h => h) (fun _ h => h.elim) ?aF ?aB ?aS ?aL ?_; (case aR => exact zd (Kd.R_reads' HO372.out).2.2); (case aB => exact (zb1 HB.out GE363.out)); (case aF => exact (fun k_ hk => Kd.fresh' (Kd.R_lt (zr HO372.out)) k_ hk)); (case aO => exact (by (with_reducible repeat (first | apply Kd.R_alloc | apply Kd.R_drewN | apply Kd.R_drew)); exact Kd.R_mono HO376.out (fun _ hk => hk.2))); (case aS => exact (below_size (zb1 HB.out GE363.out))); (case aL => have := LMc49.out; omega); intro v378 w54 ho hb hg hat; rw [← Ny377.out] at ho; replace BK363 := Aside0.mk (blk_grown (g := gb363) (o := .cells #[.slice A0_0 l0_0.length c0_0, .slice (some ad366) l0_1.length c0_1] 25 (0, 0)) (zk BK363.out) hg (Kd.R_ne HO376.out BK363.out (by decide))); replace HO372 := Aside0.mk (Kd.R_after (ok := (fun _ => True)) (zr HO372.out) hg hat); replace HB := Aside0.mk (hb); have HO379 := Aside0.mk (ho); clear HO376; clear ho hb hg hat))
         go_ret2
         exact ⟨_, by first | rfl | (simp [errW_none, errW_some] <;> rfl) | (simp only [← hji21]; first | rfl | (simp [errW_none, errW_some] <;> rfl)) | (simp [*, errW_none, errW_some] <;> rfl), by (with_reducible repeat (first | apply Kd.R_alloc | apply Kd.R_drewN | apply Kd.R_drew)); exact Kd.R_mono HO379.out (fun _ hk => trivial), zb1 HB.out GE363.out⟩
end Go.Proofs.Ytbbdgndaaajejaa.PRoutePaths
