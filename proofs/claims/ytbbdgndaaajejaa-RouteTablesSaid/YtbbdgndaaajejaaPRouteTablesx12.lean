-- Written by a program of this session (wip/oprint): after the pattern of the kit's print, which does not take this law. -- trimmed
import Derived.Test.YtbbdgndaaajejaaPRouteTablesx0
import Derived.Test.YtbbdgndaaajejaaPRouteTablesx11
namespace Go.Proofs.Ytbbdgndaaajejaa.PRouteTables
open Go.RowKit Go.Proofs.YtbbdgndaaajejaaW.PrintWords Go.Proofs.YtbbdgndaaajejaaW.PrintLast Go.Proofs.YtbbdgndaaajejaaW.PrintMore
attribute [local go_sem] max2_int min2_int max_two min_two max_three min_three max_four min_four   -- for this text's walks alone
set_option linter.unusedVariables false
set_option linter.unusedSimpArgs false

/-! ### stillagelaw07_Fits: function 23 -/
def stillagelaw07_Fits.f (k : Nat) (l0_0 : List (S47)) (l0_1 : List (S38)) (l1 : List Int) : Option (Bool) := if (l1.length : Int) ≤ 200 then ((stillageref06_Good.f k l0_0 l0_1).bind fun t321 => (some t321)) else (some false)
theorem stillagelaw07_Fits.mono : ∀ a0 a1 a2 k, LeO (stillagelaw07_Fits.f k a0 a1 a2) (stillagelaw07_Fits.f (k + 1) a0 a1 a2) := by
 intro a0 a1 a2 k
 unfold stillagelaw07_Fits.f
 repeat' first
   | (with_reducible exact stillageref06_Good.mono _ _ _)
   | (with_reducible exact LeO.refl _)
   | (with_reducible exact LeO.none _)
   | (with_reducible refine LeO.ite ?_ ?_)
   | (with_reducible refine LeO.bind ?_ (fun _ => ?_))
   | exact stillageref06_Good.mono _ _ _
   | exact LeO.none _
   | refine LeO.ite ?_ ?_
   | refine LeO.bind ?_ (fun _ => ?_)
set_option maxHeartbeats 8000000 in
set_option maxRecDepth 100000 in
theorem stillagelaw07_Fits.calls (k : Nat) (A0_0 : Option Addr) (c0_0 : Nat) (l0_0 : List (S47)) (A0_1 : Option Addr) (c0_1 : Nat) (l0_1 : List (S38)) (A1 : Option Addr) (c1 : Nat) (l1 : List Int) (r : Bool) (w : World) (hr0_0 : Kd.C k47 w A0_0 l0_0.length l0_0) (hc0_0 : l0_0.length ≤ c0_0) (hr0_1 : Kd.C k38 w A0_1 l0_1.length l0_1) (hc0_1 : l0_1.length ≤ c0_1) (hr1 : Kd.C (Kd.int .i64) w A1 l1.length l1) (hc1 : l1.length ≤ c1) (h : stillagelaw07_Fits.f k l0_0 l0_1 l1 = some r) :
  Calls Try.prog 23 #[.agg #[.slice A0_0 l0_0.length c0_0, .slice A0_1 l0_1.length c0_1], .slice A1 l1.length c1] w fun e w' => e = .returned (.bool r) ∧ Below w.heap.size w w' := by
 have hu25 := Try.underlying25
 have HR0_0 := Aside0.mk hr0_0
 have HC0_0 := Aside0.mk hc0_0
 clear hr0_0 hc0_0
 have HR0_1 := Aside0.mk hr0_1
 have HC0_1 := Aside0.mk hc0_1
 clear hr0_1 hc0_1
 have HR1 := Aside0.mk hr1
 have HC1 := Aside0.mk hc1
 clear hr1 hc1
 have HB := Aside0.mk (Below.refl w.heap.size w)
 have H : (if (l1.length : Int) ≤ 200 then ((stillageref06_Good.f k l0_0 l0_1).bind fun t321 => (some t321)) else (some false)) = some r := h
 clear h
 by_cases c3 : (l1.length : Int) ≤ 200
 rotate_left
 ·rw [if_neg c3] at H
  have c3b0 : decide ((l1.length : Int) ≤ 200) = false := decide_eq_false c3
  have c3b1 : decide (l1.length ≤ 200) = false := decide_eq_false (by omega)
  clear c3
  obtain rfl := Option.some.inj H
  go_enter Try.func23, Try.ntmps23
  go_wp2_with (first | ((with_reducible refine gate_dst (N := 2) rfl ?_); refine box_event ?hg (N := 2) ?hd (cs := #[.slice A0_0 l0_0.length c0_0, .slice A0_1 l0_1.length c0_1]) (t := 25) ?hr ?_; (case hd => rfl); (case hg => rfl); (case hr => first | (go_simp; done) | (go_simp; rfl)); intro gb320 hg w8 hbox hb; have BK320 := Aside0.mk (hbox); have GW320 := Aside0.mk ((by rw [hg]; exact (below_size (zb0 HB.out)) : w.heap.size ≤ gb320)); have GE320 := Aside0.mk ((by rw [hg]; exact (below_size (zb0 HB.out)) : w.heap.size ≤ gb320)); replace HB := Aside0.mk (below_step (zb0 HB.out) hb); clear hb hbox hg))
  go_ret
  exact ⟨by first | rfl | (simp [errW_none, errW_some] <;> rfl) | (simp [*, errW_none, errW_some] <;> rfl), by repeat (first | (with_reducible first | exact HB.out | apply below_alloc | apply pw_below_drewN | apply below_drew1 | refine below_set ?_ GE320.out) | exact HB.out)⟩

 rw [if_pos c3] at H
 have c3b0 : decide ((l1.length : Int) ≤ 200) = true := decide_eq_true c3
 have c3b1 : decide (l1.length ≤ 200) = true := decide_eq_true (by omega)
 clear c3
 replace H := Option.bind_eq_some_iff.mp H; obtain ⟨t321, A40, H⟩ := H
 replace H : (some t321) = some r := H
 have A4 := Aside0.mk A40
 clear A40
 obtain rfl := Option.some.inj H
 go_enter Try.func23, Try.ntmps23
 go_wp2_with (first | ((with_reducible refine gate_dst (N := 2) rfl ?_); refine box_event ?hg (N := 2) ?hd (cs := #[.slice A0_0 l0_0.length c0_0, .slice A0_1 l0_1.length c0_1]) (t := 25) ?hr ?_; (case hd => rfl); (case hg => rfl); (case hr => first | (go_simp; done) | (go_simp; rfl)); intro gb320 hg w5 hbox hb; have BK320 := Aside0.mk (hbox); have GW320 := Aside0.mk ((by rw [hg]; exact (below_size (zb0 HB.out)) : w.heap.size ≤ gb320)); have GE320 := Aside0.mk ((by rw [hg]; exact (below_size (zb0 HB.out)) : w.heap.size ≤ gb320)); replace HB := Aside0.mk (below_step (zb0 HB.out) hb); clear hb hbox hg; have hcz6_0 : w5.cell? ⟨gb320, 0, none⟩ = some (.slice A0_0 l0_0.length c0_0) := (blk_cell BK320.out 0).trans rfl; have hcz6_1 : w5.cell? ⟨gb320, 1, none⟩ = some (.slice A0_1 l0_1.length c0_1) := (blk_cell BK320.out 1).trans rfl; have hfz6_0 := blk_frozen BK320.out 0; have hfz6_1 := blk_frozen BK320.out 1) | (go_at_call 25; (with_reducible refine (stillageref06_Good.calls k _ _ l0_0 _ _ l0_1 t321 _ ?side1 ?side2 ?side3 ?side4 A4.out).mono ?_); (case side1 => exact zc HR0_0.out HB.out); (case side2 => exact HC0_0.out); (case side3 => exact zc HR0_1.out HB.out); (case side4 => exact HC0_1.out); rintro e w7 ⟨rfl, hb⟩; replace BK320 := Aside0.mk (blk_below (g := gb320) (o := .cells #[.slice A0_0 l0_0.length c0_0, .slice A0_1 l0_1.length c0_1] 25 (0, 0)) (zk BK320.out) hb); replace HB := Aside0.mk (below_step (zb1 HB.out GE320.out) hb); (try clear hb)))
 go_ret
 exact ⟨by first | rfl | (simp [errW_none, errW_some] <;> rfl) | (simp [*, errW_none, errW_some] <;> rfl), by repeat (first | (with_reducible first | exact HB.out | apply below_alloc | apply pw_below_drewN | apply below_drew1 | refine below_set ?_ GE320.out) | exact HB.out)⟩
/-! ### stillagelaw08_small: function 11 -/
def stillagelaw08_small.f (k : Nat) (l0_0 : List (S47)) (l0_1 : List (S38)) (l1 : List Int) : Option (Bool) := (stillagelaw07_Fits.f k l0_0 l0_1 l1).bind fun t323 => (if t323 = true then (if (l0_0.length : Int) ≤ 16 then (some (decide ((l0_1.length : Int) ≤ 40))) else (some false)) else (some false))
theorem stillagelaw08_small.mono : ∀ a0 a1 a2 k, LeO (stillagelaw08_small.f k a0 a1 a2) (stillagelaw08_small.f (k + 1) a0 a1 a2) := by
 intro a0 a1 a2 k
 unfold stillagelaw08_small.f
 repeat' first
   | (with_reducible exact stillagelaw07_Fits.mono _ _ _ _)
   | (with_reducible exact LeO.refl _)
   | (with_reducible exact LeO.none _)
   | (with_reducible refine LeO.ite ?_ ?_)
   | (with_reducible refine LeO.bind ?_ (fun _ => ?_))
   | exact stillagelaw07_Fits.mono _ _ _ _
   | exact LeO.none _
   | refine LeO.ite ?_ ?_
   | refine LeO.bind ?_ (fun _ => ?_)
set_option maxHeartbeats 8000000 in
set_option maxRecDepth 100000 in
theorem stillagelaw08_small.calls (k : Nat) (A0_0 : Option Addr) (c0_0 : Nat) (l0_0 : List (S47)) (A0_1 : Option Addr) (c0_1 : Nat) (l0_1 : List (S38)) (A1 : Option Addr) (c1 : Nat) (l1 : List Int) (r : Bool) (w : World) (hr0_0 : Kd.C k47 w A0_0 l0_0.length l0_0) (hc0_0 : l0_0.length ≤ c0_0) (hr0_1 : Kd.C k38 w A0_1 l0_1.length l0_1) (hc0_1 : l0_1.length ≤ c0_1) (hr1 : Kd.C (Kd.int .i64) w A1 l1.length l1) (hc1 : l1.length ≤ c1) (h : stillagelaw08_small.f k l0_0 l0_1 l1 = some r) :
  Calls Try.prog 11 #[.agg #[.slice A0_0 l0_0.length c0_0, .slice A0_1 l0_1.length c0_1], .slice A1 l1.length c1] w fun e w' => e = .returned (.bool r) ∧ Below w.heap.size w w' := by
 have hu25 := Try.underlying25
 have HR0_0 := Aside0.mk hr0_0
 have HC0_0 := Aside0.mk hc0_0
 clear hr0_0 hc0_0
 have HR0_1 := Aside0.mk hr0_1
 have HC0_1 := Aside0.mk hc0_1
 clear hr0_1 hc0_1
 have HR1 := Aside0.mk hr1
 have HC1 := Aside0.mk hc1
 clear hr1 hc1
 have HB := Aside0.mk (Below.refl w.heap.size w)
 have H : ((stillagelaw07_Fits.f k l0_0 l0_1 l1).bind fun t323 => (if t323 = true then (if (l0_0.length : Int) ≤ 16 then (some (decide ((l0_1.length : Int) ≤ 40))) else (some false)) else (some false))) = some r := h
 clear h
 replace H := Option.bind_eq_some_iff.mp H; obtain ⟨t323, A30, H⟩ := H
 replace H : (if t323 = true then (if (l0_0.length : Int) ≤ 16 then (some (decide ((l0_1.length : Int) ≤ 40))) else (some false)) else (some false)) = some r := H
 have A3 := Aside0.mk A30
 clear A30
 by_cases c4 : t323 = true
 rotate_left
 ·replace c4 := Bool.eq_false_iff.mpr c4
  subst c4
  have H1 : (some false) = some r := by rw [if_neg (show ¬ (false = true) by decide)] at H; exact H
  clear H; have H := H1; clear H1
  obtain rfl := Option.some.inj H
  go_enter Try.func11, Try.ntmps11
  go_wp2_with (first | ((with_reducible refine gate_dst (N := 2) rfl ?_); (try (refine gate_guard (by rfl) ?_; dsimp only)); refine box_event ?hg (N := 2) ?hd (cs := #[.slice A0_0 l0_0.length c0_0, .slice A0_1 l0_1.length c0_1]) (t := 25) ?hr ?_; (case hd => rfl); (case hg => rfl); (case hr => first | (go_simp; done) | (go_simp; rfl)); intro gb322 hg w14 hbox hb; have BK322 := Aside0.mk (hbox); have GW322 := Aside0.mk ((by rw [hg]; exact (below_size (zb0 HB.out)) : w.heap.size ≤ gb322)); have GE322 := Aside0.mk ((by rw [hg]; exact (below_size (zb0 HB.out)) : w.heap.size ≤ gb322)); replace HB := Aside0.mk (below_step (zb0 HB.out) hb); clear hb hbox hg; have hcz15_0 : w14.cell? ⟨gb322, 0, none⟩ = some (.slice A0_0 l0_0.length c0_0) := (blk_cell BK322.out 0).trans rfl; have hcz15_1 : w14.cell? ⟨gb322, 1, none⟩ = some (.slice A0_1 l0_1.length c0_1) := (blk_cell BK322.out 1).trans rfl; have hfz15_0 := blk_frozen BK322.out 0; have hfz15_1 := blk_frozen BK322.out 1) | ((with_reducible refine gate_callee (f := 23) rfl ?_); refine goesL_ (some 7) rfl rfl Try.func23 (by kernel_rfl) rfl #[.agg #[.slice A0_0 l0_0.length c0_0, .slice A0_1 l0_1.length c0_1], .slice A1 l1.length c1] rfl am ?_; (with_reducible refine (stillagelaw07_Fits.calls k _ _ l0_0 _ _ l0_1 _ _ l1 false _ ?side1 ?side2 ?side3 ?side4 ?side5 ?side6 A3.out).mono ?_); (case side1 => exact zc HR0_0.out HB.out); (case side2 => exact HC0_0.out); (case side3 => exact zc HR0_1.out HB.out); (case side4 => exact HC0_1.out); (case side5 => exact zc HR1.out HB.out); (case side6 => exact HC1.out); rintro e w16 ⟨rfl, hb⟩; refine ⟨_, rfl, ?_⟩; replace BK322 := Aside0.mk (blk_below (g := gb322) (o := .cells #[.slice A0_0 l0_0.length c0_0, .slice A0_1 l0_1.length c0_1] 25 (0, 0)) (zk BK322.out) hb); replace HB := Aside0.mk (below_step (zb1 HB.out GE322.out) hb); (try clear hb)))
  go_ret
  exact ⟨by first | rfl | (simp [errW_none, errW_some] <;> rfl) | (simp [*, errW_none, errW_some] <;> rfl), by repeat (first | (with_reducible first | exact HB.out | apply below_alloc | apply pw_below_drewN | apply below_drew1 | refine below_set ?_ GE322.out) | exact HB.out)⟩

 subst c4
 have H1 : (if (l0_0.length : Int) ≤ 16 then (some (decide ((l0_1.length : Int) ≤ 40))) else (some false)) = some r := by rw [if_pos rfl] at H; exact H
 clear H; have H := H1; clear H1
 by_cases c5 : (l0_0.length : Int) ≤ 16
 ·rw [if_pos c5] at H
  have c5b0 : decide ((l0_0.length : Int) ≤ 16) = true := decide_eq_true c5
  have c5b1 : decide (l0_0.length ≤ 16) = true := decide_eq_true (by omega)
  clear c5
  obtain rfl := Option.some.inj H
  go_enter Try.func11, Try.ntmps11
  go_wp2_with (first | ((with_reducible refine gate_dst (N := 2) rfl ?_); (try (refine gate_guard (by rfl) ?_; dsimp only)); refine box_event ?hg (N := 2) ?hd (cs := #[.slice A0_0 l0_0.length c0_0, .slice A0_1 l0_1.length c0_1]) (t := 25) ?hr ?_; (case hd => rfl); (case hg => rfl); (case hr => first | (go_simp; done) | (go_simp; rfl)); intro gb322 hg w6 hbox hb; have BK322 := Aside0.mk (hbox); have GW322 := Aside0.mk ((by rw [hg]; exact (below_size (zb0 HB.out)) : w.heap.size ≤ gb322)); have GE322 := Aside0.mk ((by rw [hg]; exact (below_size (zb0 HB.out)) : w.heap.size ≤ gb322)); replace HB := Aside0.mk (below_step (zb0 HB.out) hb); clear hb hbox hg; have hcz7_0 : w6.cell? ⟨gb322, 0, none⟩ = some (.slice A0_0 l0_0.length c0_0) := (blk_cell BK322.out 0).trans rfl; have hcz7_1 : w6.cell? ⟨gb322, 1, none⟩ = some (.slice A0_1 l0_1.length c0_1) := (blk_cell BK322.out 1).trans rfl; have hfz7_0 := blk_frozen BK322.out 0; have hfz7_1 := blk_frozen BK322.out 1) | ((with_reducible refine gate_callee (f := 23) rfl ?_); refine goesL_ (some 7) rfl rfl Try.func23 (by kernel_rfl) rfl #[.agg #[.slice A0_0 l0_0.length c0_0, .slice A0_1 l0_1.length c0_1], .slice A1 l1.length c1] rfl am ?_; (with_reducible refine (stillagelaw07_Fits.calls k _ _ l0_0 _ _ l0_1 _ _ l1 true _ ?side1 ?side2 ?side3 ?side4 ?side5 ?side6 A3.out).mono ?_); (case side1 => exact zc HR0_0.out HB.out); (case side2 => exact HC0_0.out); (case side3 => exact zc HR0_1.out HB.out); (case side4 => exact HC0_1.out); (case side5 => exact zc HR1.out HB.out); (case side6 => exact HC1.out); rintro e w8 ⟨rfl, hb⟩; refine ⟨_, rfl, ?_⟩; replace BK322 := Aside0.mk (blk_below (g := gb322) (o := .cells #[.slice A0_0 l0_0.length c0_0, .slice A0_1 l0_1.length c0_1] 25 (0, 0)) (zk BK322.out) hb); replace HB := Aside0.mk (below_step (zb1 HB.out GE322.out) hb); (try clear hb); have hcz9_0 : w8.cell? ⟨gb322, 0, none⟩ = some (.slice A0_0 l0_0.length c0_0) := (blk_cell BK322.out 0).trans rfl; have hcz9_1 : w8.cell? ⟨gb322, 1, none⟩ = some (.slice A0_1 l0_1.length c0_1) := (blk_cell BK322.out 1).trans rfl; have hfz9_0 := blk_frozen BK322.out 0; have hfz9_1 := blk_frozen BK322.out 1))
  go_ret
  exact ⟨by first | rfl | (simp [errW_none, errW_some] <;> rfl) | (simp [*, errW_none, errW_some] <;> rfl), by repeat (first | (with_reducible first | exact HB.out | apply below_alloc | apply pw_below_drewN | apply below_drew1 | refine below_set ?_ GE322.out) | exact HB.out)⟩
 rw [if_neg c5] at H
 have c5b0 : decide ((l0_0.length : Int) ≤ 16) = false := decide_eq_false c5
 have c5b1 : decide (l0_0.length ≤ 16) = false := decide_eq_false (by omega)
 clear c5
 obtain rfl := Option.some.inj H
 go_enter Try.func11, Try.ntmps11
 go_wp2_with (first | ((with_reducible refine gate_dst (N := 2) rfl ?_); (try (refine gate_guard (by rfl) ?_; dsimp only)); refine box_event ?hg (N := 2) ?hd (cs := #[.slice A0_0 l0_0.length c0_0, .slice A0_1 l0_1.length c0_1]) (t := 25) ?hr ?_; (case hd => rfl); (case hg => rfl); (case hr => first | (go_simp; done) | (go_simp; rfl)); intro gb322 hg w10 hbox hb; have BK322 := Aside0.mk (hbox); have GW322 := Aside0.mk ((by rw [hg]; exact (below_size (zb0 HB.out)) : w.heap.size ≤ gb322)); have GE322 := Aside0.mk ((by rw [hg]; exact (below_size (zb0 HB.out)) : w.heap.size ≤ gb322)); replace HB := Aside0.mk (below_step (zb0 HB.out) hb); clear hb hbox hg; have hcz11_0 : w10.cell? ⟨gb322, 0, none⟩ = some (.slice A0_0 l0_0.length c0_0) := (blk_cell BK322.out 0).trans rfl; have hcz11_1 : w10.cell? ⟨gb322, 1, none⟩ = some (.slice A0_1 l0_1.length c0_1) := (blk_cell BK322.out 1).trans rfl; have hfz11_0 := blk_frozen BK322.out 0; have hfz11_1 := blk_frozen BK322.out 1) | ((with_reducible refine gate_callee (f := 23) rfl ?_); refine goesL_ (some 7) rfl rfl Try.func23 (by kernel_rfl) rfl #[.agg #[.slice A0_0 l0_0.length c0_0, .slice A0_1 l0_1.length c0_1], .slice A1 l1.length c1] rfl am ?_; (with_reducible refine (stillagelaw07_Fits.calls k _ _ l0_0 _ _ l0_1 _ _ l1 true _ ?side1 ?side2 ?side3 ?side4 ?side5 ?side6 A3.out).mono ?_); (case side1 => exact zc HR0_0.out HB.out); (case side2 => exact HC0_0.out); (case side3 => exact zc HR0_1.out HB.out); (case side4 => exact HC0_1.out); (case side5 => exact zc HR1.out HB.out); (case side6 => exact HC1.out); rintro e w12 ⟨rfl, hb⟩; refine ⟨_, rfl, ?_⟩; replace BK322 := Aside0.mk (blk_below (g := gb322) (o := .cells #[.slice A0_0 l0_0.length c0_0, .slice A0_1 l0_1.length c0_1] 25 (0, 0)) (zk BK322.out) hb); replace HB := Aside0.mk (below_step (zb1 HB.out GE322.out) hb); (try clear hb); have hcz13_0 : w12.cell? ⟨gb322, 0, none⟩ = some (.slice A0_0 l0_0.length c0_0) := (blk_cell BK322.out 0).trans rfl; have hcz13_1 : w12.cell? ⟨gb322, 1, none⟩ = some (.slice A0_1 l0_1.length c0_1) := (blk_cell BK322.out 1).trans rfl; have hfz13_0 := blk_frozen BK322.out 0; have hfz13_1 := blk_frozen BK322.out 1))
 go_ret
 exact ⟨by first | rfl | (simp [errW_none, errW_some] <;> rfl) | (simp [*, errW_none, errW_some] <;> rfl), by repeat (first | (with_reducible first | exact HB.out | apply below_alloc | apply pw_below_drewN | apply below_drew1 | refine below_set ?_ GE322.out) | exact HB.out)⟩
/-! ### stillagelaw06_Own: function 12 -/
def stillagelaw06_Own.f (l0_0 : List (S47)) (l0_1 : List (S38)) : Option ((List (S47)) × (List (S38))) := (some (([] : List (S47)) : List (S47))).bind fun y326 => (if y326.length + l0_0.length < 4398046511104 then ((some (([] : List (S38)) : List (S38))).bind fun y332 => (if y332.length + l0_1.length < 8796093022208 then (some ((y326 ++ l0_0), (y332 ++ l0_1))) else (none))) else (none))
def stillagelaw06_Own.T1 : Bool × List (List Nat × List Nat) := (true, [([], []), ([], []), ([1], [1]), ([0, 2], [0, 2]), ([], []), ([], []), ([5], [5]), ([4, 6, 3], [4, 6]), ([3, 7], [3, 7]), ([8, 7, 0, 1, 2, 3, 4, 5, 6, 7, 8], [8])])
def stillagelaw06_Own.B1 : List Nat := [0, 0, 2, 7, 0, 0, 32, 127, 255, 511]
theorem stillagelaw06_Own.tab1 : rtab .any (opsOf Try.f12 1) = stillagelaw06_Own.T1 := by kernel_rfl
theorem stillagelaw06_Own.bits1 : waitsOk stillagelaw06_Own.T1.2 stillagelaw06_Own.B1 = true := by kernel_rfl
set_option maxHeartbeats 8000000 in
set_option maxRecDepth 100000 in
theorem stillagelaw06_Own.calls (A0_0 : Option Addr) (c0_0 : Nat) (l0_0 : List (S47)) (A0_1 : Option Addr) (c0_1 : Nat) (l0_1 : List (S38)) (r1 : List (S47)) (r2 : List (S38)) (w : World) (hr0_0 : Kd.C k47 w A0_0 l0_0.length l0_0) (hc0_0 : l0_0.length ≤ c0_0) (hr0_1 : Kd.C k38 w A0_1 l0_1.length l0_1) (hc0_1 : l0_1.length ≤ c0_1) (h : stillagelaw06_Own.f l0_0 l0_1 = some (r1, r2)) :
  Calls Try.prog 12 #[.agg #[.slice A0_0 l0_0.length c0_0, .slice A0_1 l0_1.length c0_1]] w fun e w' => ∃ v0_ v1_ : Value, e = .returned (.agg #[v0_, v1_]) ∧ Kd.R k47 47 w' w.heap.size (fun _ => True) v0_ r1 ∧ Kd.R k38 38 w' w.heap.size (fun _ => True) v1_ r2 ∧ Below w.heap.size w w' := by
 have hu25 := Try.underlying25
 have HR0_0 := Aside0.mk hr0_0
 have HC0_0 := Aside0.mk hc0_0
 clear hr0_0 hc0_0
 have HR0_1 := Aside0.mk hr0_1
 have HC0_1 := Aside0.mk hc0_1
 clear hr0_1 hc0_1
 have HB := Aside0.mk (Below.refl w.heap.size w)
 have H : ((some (([] : List (S47)) : List (S47))).bind fun y326 => (if y326.length + l0_0.length < 4398046511104 then ((some (([] : List (S38)) : List (S38))).bind fun y332 => (if y332.length + l0_1.length < 8796093022208 then (some ((y326 ++ l0_0), (y332 ++ l0_1))) else (none))) else (none))) = some (r1, r2) := h
 clear h
 obtain ⟨y326, hy326⟩ : ∃ y_ : List (S47), y_ = (([] : List (S47))) := ⟨_, rfl⟩
 replace H : (if y326.length + l0_0.length < 4398046511104 then ((some (([] : List (S38)) : List (S38))).bind fun y332 => (if y332.length + l0_1.length < 8796093022208 then (some ((y326 ++ l0_0), (y332 ++ l0_1))) else (none))) else (none)) = some (r1, r2) := by first | (rw [hy326]; with_reducible exact H) | (have H2_ := (Option.bind_some _ _).symm.trans H; rw [hy326]; with_reducible exact H2_) | (have H2_ := (Option.bind_some _ _).symm.trans H; with_reducible exact H2_) | with_reducible exact H | (rw [hy326]; exact H) | exact H
 have Ny326 := Aside0.mk hy326
 clear hy326
 by_cases c2 : y326.length + l0_0.length < 4398046511104
 rotate_left; ·rw [if_neg c2] at H; exact absurd H (by simp)

 rw [if_pos c2] at H
 have LMc2 := Aside0.mk c2
 clear c2
 obtain ⟨y329, hy329⟩ : ∃ y_ : List (S47), y_ = (y326 ++ l0_0) := ⟨_, rfl⟩
 replace H : ((some (([] : List (S38)) : List (S38))).bind fun y332 => (if y332.length + l0_1.length < 8796093022208 then (some (y329, (y332 ++ l0_1))) else (none))) = some (r1, r2) := by first | (rw [hy329]; with_reducible exact H) | (have H2_ := (Option.bind_some _ _).symm.trans H; rw [hy329]; with_reducible exact H2_) | (have H2_ := (Option.bind_some _ _).symm.trans H; with_reducible exact H2_) | with_reducible exact H | (rw [hy329]; exact H) | exact H
 have Ny329 := Aside0.mk hy329
 clear hy329
 obtain ⟨y332, hy332⟩ : ∃ y_ : List (S38), y_ = (([] : List (S38))) := ⟨_, rfl⟩
 replace H : (if y332.length + l0_1.length < 8796093022208 then (some (y329, (y332 ++ l0_1))) else (none)) = some (r1, r2) := by first | (rw [hy332]; with_reducible exact H) | (have H2_ := (Option.bind_some _ _).symm.trans H; rw [hy332]; with_reducible exact H2_) | (have H2_ := (Option.bind_some _ _).symm.trans H; with_reducible exact H2_) | with_reducible exact H | (rw [hy332]; exact H) | exact H
 have Ny332 := Aside0.mk hy332
 clear hy332
 by_cases c3 : y332.length + l0_1.length < 8796093022208
 rotate_left; ·rw [if_neg c3] at H; exact absurd H (by simp)
 rw [if_pos c3] at H
 have LMc3 := Aside0.mk c3
 clear c3
 obtain ⟨y335, hy335⟩ : ∃ y_ : List (S38), y_ = (y332 ++ l0_1) := ⟨_, rfl⟩
 replace H : (some (y329, y335)) = some (r1, r2) := by first | (rw [hy335]; with_reducible exact H) | (have H2_ := (Option.bind_some _ _).symm.trans H; rw [hy335]; with_reducible exact H2_) | (have H2_ := (Option.bind_some _ _).symm.trans H; with_reducible exact H2_) | with_reducible exact H | (rw [hy335]; exact H) | exact H
 have Ny335 := Aside0.mk hy335
 clear hy335
 simp only [Option.some.injEq, Prod.mk.injEq] at H
 obtain ⟨rfl, rfl⟩ := H
 go_enter Try.func12, Try.ntmps12
 try go_wp2_with (first | ((with_reducible refine gate_dst (N := 1) rfl ?_); refine box_event ?hg (N := 1) ?hd (cs := #[.slice A0_0 l0_0.length c0_0, .slice A0_1 l0_1.length c0_1]) (t := 25) ?hr ?_; (case hd => rfl); (case hg => rfl); (case hr => first | (go_simp; done) | (go_simp; rfl)); intro gb324 hg w4 hbox hb; have BK324 := Aside0.mk (hbox); have GW324 := Aside0.mk ((by rw [hg]; exact (below_size (zb0 HB.out)) : w.heap.size ≤ gb324)); have GE324 := Aside0.mk ((by rw [hg]; exact (below_size (zb0 HB.out)) : w.heap.size ≤ gb324)); replace HB := Aside0.mk (below_step (zb0 HB.out) hb); clear hb hbox hg) | ((with_reducible refine gate_dst (N := 2) rfl ?_); refine box_event ?hg (N := 2) ?hd (cs := #[.slice none 0 0, .slice none 0 0]) (t := 25) ?hr ?_; (case hd => rfl); (case hg => rfl); (case hr => first | (go_simp; done) | (go_simp; rfl)); intro gb325 hg w5 hbox hb; have BK325 := Aside0.mk (hbox); have GW325 := Aside0.mk ((by rw [hg]; exact (below_size (zb1 HB.out GE324.out)) : w.heap.size ≤ gb325)); have GE325 := Aside0.mk ((by rw [hg]; exact (below_size (zb1 HB.out GE324.out)) : w.heap.size ≤ gb325)); replace HB := Aside0.mk (below_step (zb1 HB.out GE324.out) hb); have NB324_325 := Aside0.mk ((by rw [hg]; exact Nat.ne_of_lt (blk_lt (g := gb324) (o := .cells #[.slice A0_0 l0_0.length c0_0, .slice A0_1 l0_1.length c0_1] 25 (0, 0)) (zk BK324.out)) : gb324 ≠ gb325)); have NB325_324 := Aside0.mk ((by rw [hg]; exact Nat.ne_of_gt (blk_lt (g := gb324) (o := .cells #[.slice A0_0 l0_0.length c0_0, .slice A0_1 l0_1.length c0_1] 25 (0, 0)) (zk BK324.out)) : gb325 ≠ gb324)); replace BK324 := Aside0.mk (blk_below (g := gb324) (o := .cells #[.slice A0_0 l0_0.length c0_0, .slice A0_1 l0_1.length c0_1] 25 (0, 0)) (zk BK324.out) hb); clear hb hbox hg))
 have n0_ := Aside0.mk (blk_drew BK324.out)
 have n1_ := Aside0.mk (blk_drew BK325.out)
 have n2_ := Aside0.mk (below_drew1 HB.out)
 clear BK324
 clear BK325
 clear HB
 have BK324 := n0_
 have BK325 := n1_
 have HB := n2_
 clear n0_ n1_ n2_
 refine start_ (n := 10) (S := fun w' => w'.cell? ⟨gb324, 0, none⟩ = some (.slice A0_0 l0_0.length c0_0) ∧ w'.cell? ⟨gb324, 1, none⟩ = some (.slice A0_1 l0_1.length c0_1)) (ds := []) bq85 (by kernel_rfl) rfl rfl ⟨(blk_cell BK324.out 0).trans rfl, (blk_cell BK324.out 1).trans rfl⟩ (fun hHeld => ?_); refine with_tabW stillagelaw06_Own.tab1 stillagelaw06_Own.bits1 (fun HT_ HW_ => ?_)
 generalize w5.drew = w6 at BK324 BK325 HB hHeld ⊢
 refine pp_ 1 4 (v := ?_) (a' := ?_) bq86 HT_ rfl rfl ?_ ?_ ?_
 rotate_left; ·intro w'; go_simp; with_reducible rfl
 rotate_left; ·simp only [Act.put, sa, sz, ss, i64_w, i32_w]; rfl
 refine pp_ 5 8 (v := ?_) (a' := ?_) bq87 HT_ rfl rfl ?_ ?_ ?_
 rotate_left; ·intro w'; go_simp; with_reducible rfl
 rotate_left; ·simp only [Act.put, sa, sz, ss, i64_w, i32_w]; rfl
 refine take_ (i := 2) (N := some 5) (v := ?_) (a' := ?_) bq88 rfl rfl (take_ofW HT_.out HW_.out (by kernel_rfl)) (fun _ _ _ h => h) (Or.inl ⟨by rfl, ?_⟩) hHeld ?_ ?_
 rotate_left
 ·rintro w' ⟨s0, s1⟩
  go_simp
  with_reducible rfl
 rotate_left; ·simp only [Act.put, sa, sz, ss, i64_w, i32_w]; rfl
 refine take_ (i := 6) (N := some 9) (v := ?_) (a' := ?_) bq89 rfl rfl (take_ofW HT_.out HW_.out (by kernel_rfl)) (fun _ _ _ h => h) (Or.inl ⟨by rfl, ?_⟩) hHeld ?_ ?_
 rotate_left
 ·rintro w' ⟨s0, s1⟩
  go_simp
  with_reducible rfl
 rotate_left; ·simp only [Act.put, sa, sz, ss, i64_w, i32_w]; rfl
 refine join_ (σ := Value × Value × Value) 3 bq90 (fun s_ => [(3, s_.1), (6, s_.2.1), (7, s_.2.2)]) (fun s_ w' => (w'.cell? ⟨gb324, 0, none⟩ = some (.slice A0_0 l0_0.length c0_0) ∧ w'.cell? ⟨gb324, 1, none⟩ = some (.slice A0_1 l0_1.length c0_1)) ∧ (Kd.R k47 47 w' w.heap.size (fun _ => True) s_.2.1 y329) ∧ (Kd.R k38 38 w' w.heap.size (fun _ => True) s_.2.2 y332) ∧ (w'.heap[gb324]? = some (.cells #[.slice A0_0 l0_0.length c0_0, .slice A0_1 l0_1.length c0_1] 25 (0, 0))) ∧ (w'.heap[gb325]? = some (.cells #[.slice none 0 0, .slice none 0 0] 25 (0, 0))) ∧ (Below w.heap.size w w')) ?_ ?_
 rotate_left
 ·intro hCont
  refine two_ (i := 0) (j := 4) (Ni := some 3) (Nj := some 7) bq91 bq92 rfl rfl rfl rfl (two_of HT_.out (by kernel_rfl)) (by decide) (by decide) (fun K hK => ?_) (fun K hK => ?_)
  ·skip
   refine Kd.R_lit_step k47 _ 47 ?hg (N := 3) ?hd (xs := ([] : List (S47))) (inner := []) (ok := fun _ => True) (okp := fun _ => True) ?hr ?hp (fun _ hk => hk) trivial (Below.refl _ _) (Nat.le_refl _) (by simp) ?_; (case hd => rfl); (case hg => rfl); (case hr => first | (go_simp; done) | (go_simp; rfl)); (case hp => exact (Reps.none _ _))
   intro v327 w7 ho8 hb hg_ hnew_
   clear hg_ hnew_
   (first | rw [← Ny326.out] at ho8 | (simp only [Int.reduceToNat] at ho8; rw [← Ny326.out] at ho8))
   have n0_ := Aside0.mk (Kd.R_lower ho8 (below_size (zb2 HB.out GE324.out GE325.out)))
   have n1_ := Aside0.mk (blk_below (g := gb324) (o := .cells #[.slice A0_0 l0_0.length c0_0, .slice A0_1 l0_1.length c0_1] 25 (0, 0)) (zk BK324.out) hb)
   have n2_ := Aside0.mk (blk_below (g := gb325) (o := .cells #[.slice none 0 0, .slice none 0 0] 25 (0, 0)) (zk BK325.out) hb)
   have n3_ := Aside0.mk (below_step (zb2 HB.out GE324.out GE325.out) hb)
   clear BK324
   clear BK325
   clear HB
   have HO328 := n0_
   have BK324 := n1_
   have BK325 := n2_
   have HB := n3_
   clear n0_ n1_ n2_ n3_
   clear hb ho8
   refine hK.out _ _ ⟨(blk_cell BK324.out 0).trans rfl, (blk_cell BK324.out 1).trans rfl⟩ (fun hHeld => ?_)
   clear hK K
   refine norm_ (a' := ?_) ?_ ?_
   rotate_left
   ·show Act.put _ (some 3) _ = _
    simp only [Act.put, sa, sz, ss, i64_w, i32_w]
    rfl
   refine two_ (i := 3) (j := 4) (Ni := some 6) (Nj := some 7) bq93 bq94 rfl rfl rfl rfl (two_of HT_.out (by kernel_rfl)) (by decide) (by decide) (fun K hK => ?_) (fun K hK => ?_)
   ·skip
    refine Kd.R_append_rows_step k47 (w0 := w) w.heap.size (by rfl) (.tmp 3) (.tmp 5) 22 47 (.agg #[(.string ⟨#[]⟩), (.int .i64 0), (.int .i64 0)]) 32 rfl Try.underlying22 info47 rfl (by decide) (by omega) v327 y326 l0_0 _ _ _ (fun _ => True) (fun _ => False) rfl rfl ?aO ?aR (fun _ _ h => h) (fun _ h => h.elim) ?aF ?aB ?aS ?aL ?_
    (case aR => exact zc HR0_0.out HB.out)
    (case aB => exact (zb2 HB.out GE324.out GE325.out))
    (case aF => exact (fun _ _ => trivial))
    (case aO => exact (zr HO328.out))
    (case aS => exact (below_size (zb2 HB.out GE324.out GE325.out)))
    (case aL => have := LMc2.out; omega)
    intro v330 w9 ho hb hg hat
    rw [← Ny329.out] at ho
    have n0_ := Aside0.mk (blk_grown (g := gb324) (o := .cells #[.slice A0_0 l0_0.length c0_0, .slice A0_1 l0_1.length c0_1] 25 (0, 0)) (zk BK324.out) hg (Kd.R_ne HO328.out BK324.out (by decide)))
    have n1_ := Aside0.mk (blk_grown (g := gb325) (o := .cells #[.slice none 0 0, .slice none 0 0] 25 (0, 0)) (zk BK325.out) hg (Kd.R_ne HO328.out BK325.out (by decide)))
    have n2_ := Aside0.mk (hb)
    have n3_ := Aside0.mk (ho)
    clear BK324
    clear BK325
    clear HB
    clear HO328
    have BK324 := n0_
    have BK325 := n1_
    have HB := n2_
    have HO331 := n3_
    clear n0_ n1_ n2_ n3_
    clear ho hb hg hat
    refine hK.out _ _ ⟨(blk_cell BK324.out 0).trans rfl, (blk_cell BK324.out 1).trans rfl⟩ (fun hHeld => ?_)
    clear hK K
    refine norm_ (a' := ?_) ?_ ?_
    rotate_left
    ·show Act.put _ (some 6) _ = _
     simp only [Act.put, sa, sz, ss, i64_w, i32_w]
     rfl
    refine one_ (i := 4) (N := some 7) bq90 rfl rfl (one_of HT_.out (by kernel_rfl)) (by decide) (fun K hK => ?_)
    refine Kd.R_lit_step k38 _ 38 ?hg (N := 7) ?hd (xs := ([] : List (S38))) (inner := []) (ok := fun _ => True) (okp := fun _ => True) ?hr ?hp (fun _ hk => hk) trivial (Below.refl _ _) (Nat.le_refl _) (by simp) ?_; (case hd => rfl); (case hg => rfl); (case hr => first | (go_simp; done) | (go_simp; rfl)); (case hp => exact (Reps.none _ _))
    intro v333 w10 ho11 hb hg_ hnew_
    clear hg_ hnew_
    (first | rw [← Ny332.out] at ho11 | (simp only [Int.reduceToNat] at ho11; rw [← Ny332.out] at ho11))
    have n0_ := Aside0.mk (Kd.R_below (zr HO331.out) hb)
    have n1_ := Aside0.mk (Kd.R_lower ho11 (below_size (zb2 HB.out GE324.out GE325.out)))
    have n2_ := Aside0.mk (blk_below (g := gb324) (o := .cells #[.slice A0_0 l0_0.length c0_0, .slice A0_1 l0_1.length c0_1] 25 (0, 0)) (zk BK324.out) hb)
    have n3_ := Aside0.mk (blk_below (g := gb325) (o := .cells #[.slice none 0 0, .slice none 0 0] 25 (0, 0)) (zk BK325.out) hb)
    have n4_ := Aside0.mk (below_step (zb2 HB.out GE324.out GE325.out) hb)
    clear HO331
    clear BK324
    clear BK325
    clear HB
    have HO331 := n0_
    have HO334 := n1_
    have BK324 := n2_
    have BK325 := n3_
    have HB := n4_
    clear n0_ n1_ n2_ n3_ n4_
    clear hb ho11
    refine hK.out _ _ ⟨(blk_cell BK324.out 0).trans rfl, (blk_cell BK324.out 1).trans rfl⟩ (fun hHeld => ?_)
    clear hK K
    refine norm_ (a' := ?_) ?_ ?_
    rotate_left
    ·show Act.put _ (some 7) _ = _
     simp only [Act.put, sa, sz, ss, i64_w, i32_w]
     rfl
    exact norm_ (by simp only [putAll, Act.put, List.setIfInBounds_toArray, List.set_cons_zero, List.set_cons_succ]) (hCont (v327, v330, v333) _ ⟨hHeld, (zr HO331.out), (zr HO334.out), (zk BK324.out), (zk BK325.out), (zb2 HB.out GE324.out GE325.out)⟩)
   ·skip
    refine Kd.R_lit_step k38 _ 38 ?hg (N := 7) ?hd (xs := ([] : List (S38))) (inner := []) (ok := fun _ => True) (okp := fun _ => True) ?hr ?hp (fun _ hk => hk) trivial (Below.refl _ _) (Nat.le_refl _) (by simp) ?_; (case hd => rfl); (case hg => rfl); (case hr => first | (go_simp; done) | (go_simp; rfl)); (case hp => exact (Reps.none _ _))
    intro v333 w9 ho10 hb hg_ hnew_
    clear hg_ hnew_
    (first | rw [← Ny332.out] at ho10 | (simp only [Int.reduceToNat] at ho10; rw [← Ny332.out] at ho10))
    have n0_ := Aside0.mk (Kd.R_below (zr HO328.out) hb)
    have n1_ := Aside0.mk (Kd.R_lower ho10 (below_size (zb2 HB.out GE324.out GE325.out)))
    have n2_ := Aside0.mk (blk_below (g := gb324) (o := .cells #[.slice A0_0 l0_0.length c0_0, .slice A0_1 l0_1.length c0_1] 25 (0, 0)) (zk BK324.out) hb)
    have n3_ := Aside0.mk (blk_below (g := gb325) (o := .cells #[.slice none 0 0, .slice none 0 0] 25 (0, 0)) (zk BK325.out) hb)
    have n4_ := Aside0.mk (below_step (zb2 HB.out GE324.out GE325.out) hb)
    clear HO328
    clear BK324
    clear BK325
    clear HB
    have HO328 := n0_
    have HO334 := n1_
    have BK324 := n2_
    have BK325 := n3_
    have HB := n4_
    clear n0_ n1_ n2_ n3_ n4_
    clear hb ho10
    refine hK.out _ _ ⟨(blk_cell BK324.out 0).trans rfl, (blk_cell BK324.out 1).trans rfl⟩ (fun hHeld => ?_)
    clear hK K
    refine norm_ (a' := ?_) ?_ ?_
    rotate_left
    ·show Act.put _ (some 7) _ = _
     simp only [Act.put, sa, sz, ss, i64_w, i32_w]
     rfl
    refine one_ (i := 3) (N := some 6) bq90 rfl rfl (one_of HT_.out (by kernel_rfl)) (by decide) (fun K hK => ?_)
    refine Kd.R_append_rows_step k47 (w0 := w) w.heap.size (by rfl) (.tmp 3) (.tmp 5) 22 47 (.agg #[(.string ⟨#[]⟩), (.int .i64 0), (.int .i64 0)]) 32 rfl Try.underlying22 info47 rfl (by decide) (by omega) v327 y326 l0_0 _ _ _ (fun _ => True) (fun _ => False) rfl rfl ?aO ?aR (fun _ _ h => h) (fun _ h => h.elim) ?aF ?aB ?aS ?aL ?_
    (case aR => exact zc HR0_0.out HB.out)
    (case aB => exact (zb2 HB.out GE324.out GE325.out))
    (case aF => exact (fun _ _ => trivial))
    (case aO => exact (zr HO328.out))
    (case aS => exact (below_size (zb2 HB.out GE324.out GE325.out)))
    (case aL => have := LMc2.out; omega)
    intro v330 w11 ho hb hg hat
    rw [← Ny329.out] at ho
    have n0_ := Aside0.mk (blk_grown (g := gb324) (o := .cells #[.slice A0_0 l0_0.length c0_0, .slice A0_1 l0_1.length c0_1] 25 (0, 0)) (zk BK324.out) hg (Kd.R_ne HO328.out BK324.out (by decide)))
    have n1_ := Aside0.mk (blk_grown (g := gb325) (o := .cells #[.slice none 0 0, .slice none 0 0] 25 (0, 0)) (zk BK325.out) hg (Kd.R_ne HO328.out BK325.out (by decide)))
    have n2_ := Aside0.mk (Kd.R_over' (zr HO334.out) (Kd.R_typed (zr HO328.out)) (by decide) hg)
    have n3_ := Aside0.mk (hb)
    have n4_ := Aside0.mk (ho)
    clear BK324
    clear BK325
    clear HO334
    clear HB
    clear HO328
    have BK324 := n0_
    have BK325 := n1_
    have HO334 := n2_
    have HB := n3_
    have HO331 := n4_
    clear n0_ n1_ n2_ n3_ n4_
    clear ho hb hg hat
    refine hK.out _ _ ⟨(blk_cell BK324.out 0).trans rfl, (blk_cell BK324.out 1).trans rfl⟩ (fun hHeld => ?_)
    clear hK K
    refine norm_ (a' := ?_) ?_ ?_
    rotate_left
    ·show Act.put _ (some 6) _ = _
     simp only [Act.put, sa, sz, ss, i64_w, i32_w]
     rfl
    exact norm_ (by simp only [putAll, Act.put, List.setIfInBounds_toArray, List.set_cons_zero, List.set_cons_succ]) (hCont (v327, v330, v333) _ ⟨hHeld, (zr HO331.out), (zr HO334.out), (zk BK324.out), (zk BK325.out), (zb2 HB.out GE324.out GE325.out)⟩)
  ·skip
   refine Kd.R_lit_step k38 _ 38 ?hg (N := 7) ?hd (xs := ([] : List (S38))) (inner := []) (ok := fun _ => True) (okp := fun _ => True) ?hr ?hp (fun _ hk => hk) trivial (Below.refl _ _) (Nat.le_refl _) (by simp) ?_; (case hd => rfl); (case hg => rfl); (case hr => first | (go_simp; done) | (go_simp; rfl)); (case hp => exact (Reps.none _ _))
   intro v333 w7 ho8 hb hg_ hnew_
   clear hg_ hnew_
   (first | rw [← Ny332.out] at ho8 | (simp only [Int.reduceToNat] at ho8; rw [← Ny332.out] at ho8))
   have n0_ := Aside0.mk (Kd.R_lower ho8 (below_size (zb2 HB.out GE324.out GE325.out)))
   have n1_ := Aside0.mk (blk_below (g := gb324) (o := .cells #[.slice A0_0 l0_0.length c0_0, .slice A0_1 l0_1.length c0_1] 25 (0, 0)) (zk BK324.out) hb)
   have n2_ := Aside0.mk (blk_below (g := gb325) (o := .cells #[.slice none 0 0, .slice none 0 0] 25 (0, 0)) (zk BK325.out) hb)
   have n3_ := Aside0.mk (below_step (zb2 HB.out GE324.out GE325.out) hb)
   clear BK324
   clear BK325
   clear HB
   have HO334 := n0_
   have BK324 := n1_
   have BK325 := n2_
   have HB := n3_
   clear n0_ n1_ n2_ n3_
   clear hb ho8
   refine hK.out _ _ ⟨(blk_cell BK324.out 0).trans rfl, (blk_cell BK324.out 1).trans rfl⟩ (fun hHeld => ?_)
   clear hK K
   refine norm_ (a' := ?_) ?_ ?_
   rotate_left
   ·show Act.put _ (some 7) _ = _
    simp only [Act.put, sa, sz, ss, i64_w, i32_w]
    rfl
   refine one_ (i := 0) (N := some 3) bq94 rfl rfl (one_of HT_.out (by kernel_rfl)) (by decide) (fun K hK => ?_)
   refine Kd.R_lit_step k47 _ 47 ?hg (N := 3) ?hd (xs := ([] : List (S47))) (inner := []) (ok := fun _ => True) (okp := fun _ => True) ?hr ?hp (fun _ hk => hk) trivial (Below.refl _ _) (Nat.le_refl _) (by simp) ?_; (case hd => rfl); (case hg => rfl); (case hr => first | (go_simp; done) | (go_simp; rfl)); (case hp => exact (Reps.none _ _))
   intro v327 w9 ho10 hb hg_ hnew_
   clear hg_ hnew_
   (first | rw [← Ny326.out] at ho10 | (simp only [Int.reduceToNat] at ho10; rw [← Ny326.out] at ho10))
   have n0_ := Aside0.mk (Kd.R_below (zr HO334.out) hb)
   have n1_ := Aside0.mk (Kd.R_lower ho10 (below_size (zb2 HB.out GE324.out GE325.out)))
   have n2_ := Aside0.mk (blk_below (g := gb324) (o := .cells #[.slice A0_0 l0_0.length c0_0, .slice A0_1 l0_1.length c0_1] 25 (0, 0)) (zk BK324.out) hb)
   have n3_ := Aside0.mk (blk_below (g := gb325) (o := .cells #[.slice none 0 0, .slice none 0 0] 25 (0, 0)) (zk BK325.out) hb)
   have n4_ := Aside0.mk (below_step (zb2 HB.out GE324.out GE325.out) hb)
   clear HO334
   clear BK324
   clear BK325
   clear HB
   have HO334 := n0_
   have HO328 := n1_
   have BK324 := n2_
   have BK325 := n3_
   have HB := n4_
   clear n0_ n1_ n2_ n3_ n4_
   clear hb ho10
   refine hK.out _ _ ⟨(blk_cell BK324.out 0).trans rfl, (blk_cell BK324.out 1).trans rfl⟩ (fun hHeld => ?_)
   clear hK K
   refine norm_ (a' := ?_) ?_ ?_
   rotate_left
   ·show Act.put _ (some 3) _ = _
    simp only [Act.put, sa, sz, ss, i64_w, i32_w]
    rfl
   refine one_ (i := 3) (N := some 6) bq90 rfl rfl (one_of HT_.out (by kernel_rfl)) (by decide) (fun K hK => ?_)
   refine Kd.R_append_rows_step k47 (w0 := w) w.heap.size (by rfl) (.tmp 3) (.tmp 5) 22 47 (.agg #[(.string ⟨#[]⟩), (.int .i64 0), (.int .i64 0)]) 32 rfl Try.underlying22 info47 rfl (by decide) (by omega) v327 y326 l0_0 _ _ _ (fun _ => True) (fun _ => False) rfl rfl ?aO ?aR (fun _ _ h => h) (fun _ h => h.elim) ?aF ?aB ?aS ?aL ?_
   (case aR => exact zc HR0_0.out HB.out)
   (case aB => exact (zb2 HB.out GE324.out GE325.out))
   (case aF => exact (fun _ _ => trivial))
   (case aO => exact (zr HO328.out))
   (case aS => exact (below_size (zb2 HB.out GE324.out GE325.out)))
   (case aL => have := LMc2.out; omega)
   intro v330 w11 ho hb hg hat
   rw [← Ny329.out] at ho
   have n0_ := Aside0.mk (blk_grown (g := gb324) (o := .cells #[.slice A0_0 l0_0.length c0_0, .slice A0_1 l0_1.length c0_1] 25 (0, 0)) (zk BK324.out) hg (Kd.R_ne HO328.out BK324.out (by decide)))
   have n1_ := Aside0.mk (blk_grown (g := gb325) (o := .cells #[.slice none 0 0, .slice none 0 0] 25 (0, 0)) (zk BK325.out) hg (Kd.R_ne HO328.out BK325.out (by decide)))
   have n2_ := Aside0.mk (Kd.R_over' (zr HO334.out) (Kd.R_typed (zr HO328.out)) (by decide) hg)
   have n3_ := Aside0.mk (hb)
   have n4_ := Aside0.mk (ho)
   clear BK324
   clear BK325
   clear HO334
   clear HB
   clear HO328
   have BK324 := n0_
   have BK325 := n1_
   have HO334 := n2_
   have HB := n3_
   have HO331 := n4_
   clear n0_ n1_ n2_ n3_ n4_
   clear ho hb hg hat
   refine hK.out _ _ ⟨(blk_cell BK324.out 0).trans rfl, (blk_cell BK324.out 1).trans rfl⟩ (fun hHeld => ?_)
   clear hK K
   refine norm_ (a' := ?_) ?_ ?_
   rotate_left
   ·show Act.put _ (some 6) _ = _
    simp only [Act.put, sa, sz, ss, i64_w, i32_w]
    rfl
   exact norm_ (by simp only [putAll, Act.put, List.setIfInBounds_toArray, List.set_cons_zero, List.set_cons_succ]) (hCont (v327, v330, v333) _ ⟨hHeld, (zr HO331.out), (zr HO334.out), (zk BK324.out), (zk BK325.out), (zb2 HB.out GE324.out GE325.out)⟩)
 rintro ⟨v327, v330, v333⟩ w12 ⟨hS_, h0_, h1_, h2_, h3_, h4_⟩
 have n0_ : Aside0 (Kd.R k47 47 w12 w.heap.size (fun _ => True) v330 y329) := ⟨h0_⟩
 have n1_ : Aside0 (Kd.R k38 38 w12 w.heap.size (fun _ => True) v333 y332) := ⟨h1_⟩
 have n2_ : Aside0 (w12.heap[gb324]? = some (.cells #[.slice A0_0 l0_0.length c0_0, .slice A0_1 l0_1.length c0_1] 25 (0, 0))) := ⟨h2_⟩
 have n3_ : Aside0 (w12.heap[gb325]? = some (.cells #[.slice none 0 0, .slice none 0 0] 25 (0, 0))) := ⟨h3_⟩
 have n4_ : Aside0 (Below w.heap.size w w12) := ⟨h4_⟩
 clear BK324
 clear BK325
 clear HB
 clear h0_ h1_ h2_ h3_ h4_
 have HO331 := n0_
 have HO334 := n1_
 have BK324 := n2_
 have BK325 := n3_
 have HB := n4_
 clear n0_ n1_ n2_ n3_ n4_
 have hHeld : w12.cell? ⟨gb324, 0, none⟩ = some (.slice A0_0 l0_0.length c0_0) ∧ w12.cell? ⟨gb324, 1, none⟩ = some (.slice A0_1 l0_1.length c0_1) := hS_
 refine norm_ (a' := ?_) ?_ ?_
 rotate_left
 ·simp only [putAll, Act.put, List.setIfInBounds_toArray, List.set_cons_zero, List.set_cons_succ]
  rfl
 refine one_ (i := 7) (N := some 10) bq95 rfl rfl (one_of HT_.out (by kernel_rfl)) (by decide) (fun K hK => ?_)
 refine Kd.R_append_rows_step k38 (w0 := w) w.heap.size (by rfl) (.tmp 7) (.tmp 9) 23 38 (.agg #[(.int .i64 0), (.int .i64 0)]) 16 rfl Try.underlying23 info38 rfl (by decide) (by omega) v333 y332 l0_1 _ _ _ (fun _ => True) (fun _ => False) rfl rfl ?aO ?aR (fun _ _ h => h) (fun _ h => h.elim) ?aF ?aB ?aS ?aL ?_
 (case aR => exact zc HR0_1.out HB.out)
 (case aB => exact (zb2 HB.out GE324.out GE325.out))
 (case aF => exact (fun _ _ => trivial))
 (case aO => exact (zr HO334.out))
 (case aS => exact (below_size (zb2 HB.out GE324.out GE325.out)))
 (case aL => have := LMc3.out; omega)
 intro v336 w13 ho hb hg hat
 rw [← Ny335.out] at ho
 have n0_ := Aside0.mk (blk_grown (g := gb324) (o := .cells #[.slice A0_0 l0_0.length c0_0, .slice A0_1 l0_1.length c0_1] 25 (0, 0)) (zk BK324.out) hg (Kd.R_ne HO334.out BK324.out (by decide)))
 have n1_ := Aside0.mk (blk_grown (g := gb325) (o := .cells #[.slice none 0 0, .slice none 0 0] 25 (0, 0)) (zk BK325.out) hg (Kd.R_ne HO334.out BK325.out (by decide)))
 have n2_ := Aside0.mk (Kd.R_over' (zr HO331.out) (Kd.R_typed (zr HO334.out)) (by decide) hg)
 have n3_ := Aside0.mk (hb)
 have n4_ := Aside0.mk (ho)
 clear BK324
 clear BK325
 clear HO331
 clear HB
 clear HO334
 have BK324 := n0_
 have BK325 := n1_
 have HO331 := n2_
 have HB := n3_
 have HO337 := n4_
 clear n0_ n1_ n2_ n3_ n4_
 clear ho hb hg hat
 obtain ⟨Ao14, co14, eo14⟩ := Kd.R_slice HO337.out
 (first | subst eo14 | (injection eo14 with f1_ f2_ f3_; have f4_ := f1_.symm; have f5_ := f3_.symm; clear f1_ f2_ f3_; subst f4_; subst f5_))
 obtain ⟨Ao15, co15, eo15⟩ := Kd.R_slice HO331.out
 (first | subst eo15 | (injection eo15 with f1_ f2_ f3_; have f4_ := f1_.symm; have f5_ := f3_.symm; clear f1_ f2_ f3_; subst f4_; subst f5_))
 refine hK.out _ _ ⟨(blk_cell BK324.out 0).trans rfl, (blk_cell BK324.out 1).trans rfl⟩ (fun hHeld => ?_)
 clear hK K
 refine norm_ (a' := ?_) ?_ ?_
 rotate_left
 ·show Act.put _ (some 10) _ = _
  simp only [Act.put, sa, sz, ss, i64_w, i32_w]
  rfl
 refine pp_ 8 11 (v := ?_) (a' := ?_) bq96 HT_ rfl rfl ?_ ?_ ?_
 rotate_left; ·intro w'; go_simp; with_reducible rfl
 rotate_left; ·simp only [Act.put, sa, sz, ss, i64_w, i32_w]; rfl
 refine one_ (i := 9) (N := none) bq97 rfl rfl (one_of HT_.out (by kernel_rfl)) (by decide) (fun K hK => ?_)
 have hs16 : w13.cell? ⟨gb325, 0, none⟩ = some (.slice none 0 0) := (blk_cell BK325.out 0).trans rfl
 have hfs16 := blk_frozen BK325.out 0
 have hns16_0 := NB324_325.out
 have hms16_0 := NB325_324.out
 have hs17 : w13.cell? ⟨gb325, 1, none⟩ = some (.slice none 0 0) := (blk_cell BK325.out 1).trans rfl
 have hfs17 := blk_frozen BK325.out 1
 have hns17_0 := NB324_325.out
 have hms17_0 := NB325_324.out
 refine skip_ (w1 := ?_) (by rfl) rfl ?_ ?_
 rotate_left; ·go_simp; rfl
 refine hK.out _ _ ⟨((cell_far (p := ⟨gb325, _, none⟩) NB324_325.out _).trans (((cell_far (p := ⟨gb325, _, none⟩) NB324_325.out _).trans (hHeld.1)))), ((cell_far (p := ⟨gb325, _, none⟩) NB324_325.out _).trans (((cell_far (p := ⟨gb325, _, none⟩) NB324_325.out _).trans (hHeld.2))))⟩ (fun hHeld => ?_)
 clear hK K
 refine done_ (done_of HT_.out (by kernel_rfl)) ?_
 try go_wp2
 refine bodyPost_ret (results_cell_row rfl _ _ gb325 25 #[.slice Ao15 y329.length co15, .slice Ao14 y335.length co14] (0, 0) _ rfl (by (with_reducible repeat (first | refine blk_drewN ?_ _ | refine blk_drew ?_ | refine blk_alloc ?_ _)); refine blk_put (cs := #[.slice Ao15 y329.length co15, .slice none 0 0]) ?_ 1 _ rfl; (with_reducible repeat (first | refine blk_drewN ?_ _ | refine blk_drew ?_ | refine blk_alloc ?_ _)); refine blk_put (cs := #[.slice none 0 0, .slice none 0 0]) ?_ 0 _ rfl; (with_reducible repeat (first | refine blk_drewN ?_ _ | refine blk_drew ?_ | refine blk_alloc ?_ _)); exact BK325.out) Try.underlying25 rfl (by kernel_rfl)) rfl ?_
 exact ⟨_, _, by first | rfl | (simp [errW_none, errW_some] <;> rfl) | (simp [*, errW_none, errW_some] <;> rfl), by (with_reducible repeat (first | apply Kd.R_alloc | apply Kd.R_drewN | apply Kd.R_drew)); exact Kd.R_mono (Kd.R_far (p := ⟨gb325, 1, none⟩) (Kd.R_far (p := ⟨gb325, 0, none⟩) (Kd.R_types HO331.out BK325.out (by decide)) (fun _ hk => hk.2) (.slice Ao15 y329.length co15)) (fun _ hk => hk.2) (.slice Ao14 y335.length co14)) (fun _ hk => trivial), by (with_reducible repeat (first | apply Kd.R_alloc | apply Kd.R_drewN | apply Kd.R_drew)); exact Kd.R_mono (Kd.R_far (p := ⟨gb325, 1, none⟩) (Kd.R_far (p := ⟨gb325, 0, none⟩) (Kd.R_types HO337.out BK325.out (by decide)) (fun _ hk => hk.2) (.slice Ao15 y329.length co15)) (fun _ hk => hk.2) (.slice Ao14 y335.length co14)) (fun _ hk => trivial), by repeat (first | (with_reducible first | exact HB.out | apply below_alloc | apply pw_below_drewN | apply below_drew1 | refine below_set ?_ GE324.out | refine below_set ?_ GE325.out) | exact HB.out)⟩
/-! ### stillagelaw08_outside: function 14 -/
def stillagelaw08_outside.f (l0_0 : List (S47)) (l0_1 : List (S38)) (a1 : Int) : Option (Bool) := if a1 < 0 then (some true) else (some (decide (a1 ≥ (l0_0.length : Int))))
set_option maxHeartbeats 8000000 in
set_option maxRecDepth 100000 in
theorem stillagelaw08_outside.calls (A0_0 : Option Addr) (c0_0 : Nat) (l0_0 : List (S47)) (A0_1 : Option Addr) (c0_1 : Nat) (l0_1 : List (S38)) (a1 : Int) (r : Bool) (w : World) (hr0_0 : Kd.C k47 w A0_0 l0_0.length l0_0) (hc0_0 : l0_0.length ≤ c0_0) (hr0_1 : Kd.C k38 w A0_1 l0_1.length l0_1) (hc0_1 : l0_1.length ≤ c0_1) (h : stillagelaw08_outside.f l0_0 l0_1 a1 = some r) :
  Calls Try.prog 14 #[.agg #[.slice A0_0 l0_0.length c0_0, .slice A0_1 l0_1.length c0_1], .int .i64 a1] w fun e w' => e = .returned (.bool r) ∧ Below w.heap.size w w' := by
 have hu25 := Try.underlying25
 have HR0_0 := Aside0.mk hr0_0
 have HC0_0 := Aside0.mk hc0_0
 clear hr0_0 hc0_0
 have HR0_1 := Aside0.mk hr0_1
 have HC0_1 := Aside0.mk hc0_1
 clear hr0_1 hc0_1
 have HB := Aside0.mk (Below.refl w.heap.size w)
 have H : (if a1 < 0 then (some true) else (some (decide (a1 ≥ (l0_0.length : Int))))) = some r := h
 clear h
 by_cases c3 : a1 < 0
 ·rw [if_pos c3] at H
  have c3b0 : decide (a1 < 0) = true := decide_eq_true c3
  clear c3
  obtain rfl := Option.some.inj H
  go_enter Try.func14, Try.ntmps14
  go_wp2_with (first | ((with_reducible refine gate_dst (N := 2) rfl ?_); (try (refine gate_guard (by rfl) ?_; dsimp only)); refine box_event ?hg (N := 2) ?hd (cs := #[.slice A0_0 l0_0.length c0_0, .slice A0_1 l0_1.length c0_1]) (t := 25) ?hr ?_; (case hd => rfl); (case hg => rfl); (case hr => first | (go_simp; done) | (go_simp; rfl)); intro gb338 hg w4 hbox hb; have BK338 := Aside0.mk (hbox); have GW338 := Aside0.mk ((by rw [hg]; exact (below_size (zb0 HB.out)) : w.heap.size ≤ gb338)); have GE338 := Aside0.mk ((by rw [hg]; exact (below_size (zb0 HB.out)) : w.heap.size ≤ gb338)); replace HB := Aside0.mk (below_step (zb0 HB.out) hb); clear hb hbox hg))
  go_ret
  exact ⟨by first | rfl | (simp [errW_none, errW_some] <;> rfl) | (simp [*, errW_none, errW_some] <;> rfl), by repeat (first | (with_reducible first | exact HB.out | apply below_alloc | apply pw_below_drewN | apply below_drew1 | refine below_set ?_ GE338.out) | exact HB.out)⟩
 rw [if_neg c3] at H
 have c3b0 : decide (a1 < 0) = false := decide_eq_false c3
 clear c3
 obtain rfl := Option.some.inj H
 go_enter Try.func14, Try.ntmps14
 go_wp2_with (first | ((with_reducible refine gate_dst (N := 2) rfl ?_); (try (refine gate_guard (by rfl) ?_; dsimp only)); refine box_event ?hg (N := 2) ?hd (cs := #[.slice A0_0 l0_0.length c0_0, .slice A0_1 l0_1.length c0_1]) (t := 25) ?hr ?_; (case hd => rfl); (case hg => rfl); (case hr => first | (go_simp; done) | (go_simp; rfl)); intro gb338 hg w5 hbox hb; have BK338 := Aside0.mk (hbox); have GW338 := Aside0.mk ((by rw [hg]; exact (below_size (zb0 HB.out)) : w.heap.size ≤ gb338)); have GE338 := Aside0.mk ((by rw [hg]; exact (below_size (zb0 HB.out)) : w.heap.size ≤ gb338)); replace HB := Aside0.mk (below_step (zb0 HB.out) hb); clear hb hbox hg; have hcz6_0 : w5.cell? ⟨gb338, 0, none⟩ = some (.slice A0_0 l0_0.length c0_0) := (blk_cell BK338.out 0).trans rfl; have hcz6_1 : w5.cell? ⟨gb338, 1, none⟩ = some (.slice A0_1 l0_1.length c0_1) := (blk_cell BK338.out 1).trans rfl; have hfz6_0 := blk_frozen BK338.out 0; have hfz6_1 := blk_frozen BK338.out 1))
 go_ret
 exact ⟨by first | rfl | (simp [errW_none, errW_some] <;> rfl) | (simp [*, errW_none, errW_some] <;> rfl), by repeat (first | (with_reducible first | exact HB.out | apply below_alloc | apply pw_below_drewN | apply below_drew1 | refine below_set ?_ GE338.out) | exact HB.out)⟩

/-! ### stillageref07_Open: function 44 -/
def stillageref07_Open.l0 : Nat → List Int → Int → Int → Int → Option (Bool)
 | 0, _, _, _, _ => none
 | k + 1, x0, x1, x7, x8 => if x8 < x7 then (if 0 ≤ x8 then (if x8 < (x0.length : Int) then (if (rd x0 x8) = x1 then (some false) else (stillageref07_Open.l0 k x0 x1 x7 (wrap64 (x8 + 1)))) else (none)) else (none)) else (some true)
def stillageref07_Open.f (k : Nat) (l0 : List Int) (a1 : Int) : Option (Bool) := stillageref07_Open.l0 k l0 a1 (l0.length : Int) 0
theorem stillageref07_Open.mono_l : ∀ k, (∀ y0 y1 y2 y3, LeO (stillageref07_Open.l0 k y0 y1 y2 y3) (stillageref07_Open.l0 (k + 1) y0 y1 y2 y3))
 | 0 => fun _ _ _ _ r h => by simp [stillageref07_Open.l0] at h
 | k + 1 => by
  have ih0 := stillageref07_Open.mono_l k
  ·intro y0 y1 y2 y3
   unfold stillageref07_Open.l0
   repeat' first
   | (with_reducible exact ih0 _ _ _ _)
   | (with_reducible exact LeO.refl _)
   | (with_reducible exact LeO.none _)
   | (with_reducible refine LeO.ite ?_ ?_)
   | (with_reducible refine LeO.bind ?_ (fun _ => ?_))
   | exact ih0 _ _ _ _
   | exact LeO.none _
   | refine LeO.ite ?_ ?_
   | refine LeO.bind ?_ (fun _ => ?_)
theorem stillageref07_Open.mono : ∀ a0 a1 k, LeO (stillageref07_Open.f k a0 a1) (stillageref07_Open.f (k + 1) a0 a1) := by
 intro a0 a1 k
 have ih0 := stillageref07_Open.mono_l k
 unfold stillageref07_Open.f
 repeat' first
   | (with_reducible exact ih0 _ _ _ _)
   | (with_reducible exact LeO.refl _)
   | (with_reducible exact LeO.none _)
   | (with_reducible refine LeO.ite ?_ ?_)
   | (with_reducible refine LeO.bind ?_ (fun _ => ?_))
   | exact ih0 _ _ _ _
   | exact LeO.none _
   | refine LeO.ite ?_ ?_
   | refine LeO.bind ?_ (fun _ => ?_)
set_option maxHeartbeats 8000000 in
set_option maxRecDepth 100000 in
theorem stillageref07_Open.calls (k : Nat) (A0 : Option Addr) (c0 : Nat) (l0 : List Int) (a1 : Int) (r : Bool) (w : World) (hr0 : Kd.C (Kd.int .i64) w A0 l0.length l0) (hc0 : l0.length ≤ c0) (h : stillageref07_Open.f k l0 a1 = some r) :
  Calls Try.prog 44 #[.slice A0 l0.length c0, .int .i64 a1] w fun e w' => e = .returned (.bool r) ∧ Drawn0 w w' := by
 have HR0 := Aside0.mk hr0
 have HC0 := Aside0.mk hc0
 clear hr0 hc0
 have H : (stillageref07_Open.l0 k l0 a1 (l0.length : Int) 0) = some r := h
 clear h
 have H' := Aside0.mk H; clear H
 go_enter Try.func44, Try.ntmps44
 go_wp2
 go_loopg [8] k (fun kq v8 w' => ∃ (x8_1 : Int), v8 = .int .i64 x8_1 ∧ Aside0 (stillageref07_Open.l0 kq l0 a1 (l0.length : Int) x8_1 = some r) ∧ Aside0 (kq ≤ k) ∧ Drawn0 w w')
 case atStart => exact ⟨(0), rs, H', ⟨Nat.le_refl _⟩, by repeat (first | exact Drawn0.refl _ | apply Drawn0.step)⟩
 case round =>
  clear H'
  obtain ⟨x8_1, rfl, HA, HK1, ⟨m1, rfl⟩⟩ := hrel
  cases gk with
  | zero => exact absurd HA.out (by simp [stillageref07_Open.l0])
  | succ k1 =>
   have H := HA.out
   clear HA
   simp only [stillageref07_Open.l0] at H
   by_cases c3 : x8_1 < (l0.length : Int)
   rotate_left
   ·rw [if_neg c3] at H
    have c3b0 : decide (x8_1 < (l0.length : Int)) = false := decide_eq_false c3
    clear c3
    obtain rfl := Option.some.inj H
    go_wp2
    go_ret
    exact ⟨by first | rfl | (simp; done) | (simp [*]; done), by repeat (first | exact Drawn0.refl _ | apply Drawn0.step)⟩

   rw [if_pos c3] at H
   have c3b0 : decide (x8_1 < (l0.length : Int)) = true := decide_eq_true c3
   clear c3
   by_cases c4 : 0 ≤ x8_1
   rotate_left; ·rw [if_neg c4] at H; exact absurd H (by simp)
   rw [if_pos c4] at H
   have c4b0 : decide (0 ≤ x8_1) = true := decide_eq_true c4
   clear c4
   by_cases c5 : x8_1 < (l0.length : Int)
   rotate_left; ·rw [if_neg c5] at H; exact absurd H (by simp)
   rw [if_pos c5] at H
   have c5b0 : decide (x8_1 < (l0.length : Int)) = true := decide_eq_true c5
   clear c5
   by_cases c6 : (rd l0 x8_1) = a1
   ·rw [if_pos c6] at H
    have c6b0 : ((rd l0 x8_1) == a1) = true := beq_iff_eq.mpr c6
    have c6b1 : ((rd l0 x8_1) != a1) = false := bne_eq_false_iff_eq.mpr c6
    clear c6
    obtain rfl := Option.some.inj H
    have p339 : 0 ≤ (x8_1 : Int) := oda
    have q339 : x8_1 < (l0.length : Int) := oda
    obtain ⟨ad339, e339, hx339_0⟩ := Kd.at_int HR0.out x8_1 p339 q339
    cases e339
    replace p339 := eq_true p339
    replace q339 := eq_true q339
    go_wp2
    go_ret
    exact ⟨by first | rfl | (simp; done) | (simp [*]; done), by repeat (first | exact Drawn0.refl _ | apply Drawn0.step)⟩
   rw [if_neg c6] at H
   have c6b0 : ((rd l0 x8_1) == a1) = false := beq_eq_false_iff_ne.mpr c6
   have c6b1 : ((rd l0 x8_1) != a1) = true := bne_iff_ne.mpr c6
   have H' := Aside0.mk H; clear H
   have p339 : 0 ≤ (x8_1 : Int) := oda
   have q339 : x8_1 < (l0.length : Int) := oda
   obtain ⟨ad339, e339, hx339_0⟩ := Kd.at_int HR0.out x8_1 p339 q339
   cases e339
   replace p339 := eq_true p339
   replace q339 := eq_true q339
   go_wp2
   go_roundg k1
   case measure => have := HK1.out; omega
   case rel => exact ⟨(wrap64 (x8_1 + 1)), rs, H', ⟨by have := HK1.out; omega⟩, by repeat (first | exact Drawn0.refl _ | apply Drawn0.step)⟩
/-! ### stillageref08_has: function 45 -/
def stillageref08_has.l0 : Nat → List Int → Int → Int → Int → Option (Bool)
 | 0, _, _, _, _ => none
 | k + 1, x0, x1, x7, x8 => if x8 < x7 then (if 0 ≤ x8 then (if x8 < (x0.length : Int) then (if (rd x0 x8) = x1 then (some true) else (stillageref08_has.l0 k x0 x1 x7 (wrap64 (x8 + 1)))) else (none)) else (none)) else (some false)
def stillageref08_has.f (k : Nat) (l0 : List Int) (a1 : Int) : Option (Bool) := stillageref08_has.l0 k l0 a1 (l0.length : Int) 0
theorem stillageref08_has.mono_l : ∀ k, (∀ y0 y1 y2 y3, LeO (stillageref08_has.l0 k y0 y1 y2 y3) (stillageref08_has.l0 (k + 1) y0 y1 y2 y3))
 | 0 => fun _ _ _ _ r h => by simp [stillageref08_has.l0] at h
 | k + 1 => by
  have ih0 := stillageref08_has.mono_l k
  ·intro y0 y1 y2 y3
   unfold stillageref08_has.l0
   repeat' first
   | (with_reducible exact ih0 _ _ _ _)
   | (with_reducible exact LeO.refl _)
   | (with_reducible exact LeO.none _)
   | (with_reducible refine LeO.ite ?_ ?_)
   | (with_reducible refine LeO.bind ?_ (fun _ => ?_))
   | exact ih0 _ _ _ _
   | exact LeO.none _
   | refine LeO.ite ?_ ?_
   | refine LeO.bind ?_ (fun _ => ?_)
theorem stillageref08_has.mono : ∀ a0 a1 k, LeO (stillageref08_has.f k a0 a1) (stillageref08_has.f (k + 1) a0 a1) := by
 intro a0 a1 k
 have ih0 := stillageref08_has.mono_l k
 unfold stillageref08_has.f
 repeat' first
   | (with_reducible exact ih0 _ _ _ _)
   | (with_reducible exact LeO.refl _)
   | (with_reducible exact LeO.none _)
   | (with_reducible refine LeO.ite ?_ ?_)
   | (with_reducible refine LeO.bind ?_ (fun _ => ?_))
   | exact ih0 _ _ _ _
   | exact LeO.none _
   | refine LeO.ite ?_ ?_
   | refine LeO.bind ?_ (fun _ => ?_)
set_option maxHeartbeats 8000000 in
set_option maxRecDepth 100000 in
theorem stillageref08_has.calls (k : Nat) (A0 : Option Addr) (c0 : Nat) (l0 : List Int) (a1 : Int) (r : Bool) (w : World) (hr0 : Kd.C (Kd.int .i64) w A0 l0.length l0) (hc0 : l0.length ≤ c0) (h : stillageref08_has.f k l0 a1 = some r) :
  Calls Try.prog 45 #[.slice A0 l0.length c0, .int .i64 a1] w fun e w' => e = .returned (.bool r) ∧ Drawn0 w w' := by
 have HR0 := Aside0.mk hr0
 have HC0 := Aside0.mk hc0
 clear hr0 hc0
 have H : (stillageref08_has.l0 k l0 a1 (l0.length : Int) 0) = some r := h
 clear h
 have H' := Aside0.mk H; clear H
 go_enter Try.func45, Try.ntmps45
 go_wp2
 go_loopg [8] k (fun kq v8 w' => ∃ (x8_1 : Int), v8 = .int .i64 x8_1 ∧ Aside0 (stillageref08_has.l0 kq l0 a1 (l0.length : Int) x8_1 = some r) ∧ Aside0 (kq ≤ k) ∧ Drawn0 w w')
 case atStart => exact ⟨(0), rs, H', ⟨Nat.le_refl _⟩, by repeat (first | exact Drawn0.refl _ | apply Drawn0.step)⟩
 case round =>
  clear H'
  obtain ⟨x8_1, rfl, HA, HK1, ⟨m1, rfl⟩⟩ := hrel
  cases gk with
  | zero => exact absurd HA.out (by simp [stillageref08_has.l0])
  | succ k1 =>
   have H := HA.out
   clear HA
   simp only [stillageref08_has.l0] at H
   by_cases c3 : x8_1 < (l0.length : Int)
   rotate_left
   ·rw [if_neg c3] at H
    have c3b0 : decide (x8_1 < (l0.length : Int)) = false := decide_eq_false c3
    clear c3
    obtain rfl := Option.some.inj H
    go_wp2
    go_ret
    exact ⟨by first | rfl | (simp; done) | (simp [*]; done), by repeat (first | exact Drawn0.refl _ | apply Drawn0.step)⟩

   rw [if_pos c3] at H
   have c3b0 : decide (x8_1 < (l0.length : Int)) = true := decide_eq_true c3
   clear c3
   by_cases c4 : 0 ≤ x8_1
   rotate_left; ·rw [if_neg c4] at H; exact absurd H (by simp)
   rw [if_pos c4] at H
   have c4b0 : decide (0 ≤ x8_1) = true := decide_eq_true c4
   clear c4
   by_cases c5 : x8_1 < (l0.length : Int)
   rotate_left; ·rw [if_neg c5] at H; exact absurd H (by simp)
   rw [if_pos c5] at H
   have c5b0 : decide (x8_1 < (l0.length : Int)) = true := decide_eq_true c5
   clear c5
   by_cases c6 : (rd l0 x8_1) = a1
   ·rw [if_pos c6] at H
    have c6b0 : ((rd l0 x8_1) == a1) = true := beq_iff_eq.mpr c6
    have c6b1 : ((rd l0 x8_1) != a1) = false := bne_eq_false_iff_eq.mpr c6
    clear c6
    obtain rfl := Option.some.inj H
    have p340 : 0 ≤ (x8_1 : Int) := oda
    have q340 : x8_1 < (l0.length : Int) := oda
    obtain ⟨ad340, e340, hx340_0⟩ := Kd.at_int HR0.out x8_1 p340 q340
    cases e340
    replace p340 := eq_true p340
    replace q340 := eq_true q340
    go_wp2
    go_ret
    exact ⟨by first | rfl | (simp; done) | (simp [*]; done), by repeat (first | exact Drawn0.refl _ | apply Drawn0.step)⟩
   rw [if_neg c6] at H
   have c6b0 : ((rd l0 x8_1) == a1) = false := beq_eq_false_iff_ne.mpr c6
   have c6b1 : ((rd l0 x8_1) != a1) = true := bne_iff_ne.mpr c6
   have H' := Aside0.mk H; clear H
   have p340 : 0 ≤ (x8_1 : Int) := oda
   have q340 : x8_1 < (l0.length : Int) := oda
   obtain ⟨ad340, e340, hx340_0⟩ := Kd.at_int HR0.out x8_1 p340 q340
   cases e340
   replace p340 := eq_true p340
   replace q340 := eq_true q340
   go_wp2
   go_roundg k1
   case measure => have := HK1.out; omega
   case rel => exact ⟨(wrap64 (x8_1 + 1)), rs, H', ⟨by have := HK1.out; omega⟩, by repeat (first | exact Drawn0.refl _ | apply Drawn0.step)⟩
end Go.Proofs.Ytbbdgndaaajejaa.PRouteTables
