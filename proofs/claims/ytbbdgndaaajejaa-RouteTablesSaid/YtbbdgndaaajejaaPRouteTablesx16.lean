-- Written by a program of this session (wip/oprint): after the pattern of the kit's print, which does not take this law. -- trimmed
import Derived.Test.YtbbdgndaaajejaaPRouteTablesx0
import Derived.Test.YtbbdgndaaajejaaPRouteTablesx1
import Derived.Test.YtbbdgndaaajejaaPRouteTablesx2
import Derived.Test.YtbbdgndaaajejaaPRouteTablesx15
namespace Go.Proofs.Ytbbdgndaaajejaa.PRouteTables
open Go.RowKit Go.Proofs.YtbbdgndaaajejaaW.PrintWords Go.Proofs.YtbbdgndaaajejaaW.PrintLast Go.Proofs.YtbbdgndaaajejaaW.PrintMore
attribute [local go_sem] max2_int min2_int max_two min_two max_three min_three max_four min_four   -- for this text's walks alone
set_option linter.unusedVariables false
set_option linter.unusedSimpArgs false

attribute [local go_sem high] eqA38 eqA47
/-! ### stillageref08_Path: function 21 -/
def stillageref08_Path.l0 : Nat → List Int → Int → Int → List Int → Int → List (S47) → List (S38) → Option (List Int × Int)
 | 0, _, _, _, _, _, _, _ => none
 | k + 1, x1, x2, x3, x4, x12, x395000, x395001 => if x12 ≤ (x395000.length : Int) then ((stillageref08_first.f k x395000 x395001 x1 x2 x3 x12 x4).bind fun bt395 => (if bt395.2 = true then (some (bt395.1, 0)) else (stillageref08_Path.l0 k x1 x2 x3 x4 (wrap64 (x12 + 1)) x395000 x395001))) else (some (([] : List Int), 80))
def stillageref08_Path.f (k : Nat) (l0_0 : List (S47)) (l0_1 : List (S38)) (l1 : List Int) (a2 : Int) (a3 : Int) (l4 : List Int) : Option (List Int × Int) := stillageref08_Path.l0 k l1 a2 a3 l4 0 l0_0 l0_1
theorem stillageref08_Path.mono_l : ∀ k, (∀ y0 y1 y2 y3 y4 y5 y6, LeO (stillageref08_Path.l0 k y0 y1 y2 y3 y4 y5 y6) (stillageref08_Path.l0 (k + 1) y0 y1 y2 y3 y4 y5 y6))
 | 0 => fun _ _ _ _ _ _ _ r h => by simp [stillageref08_Path.l0] at h
 | k + 1 => by
  have ih0 := stillageref08_Path.mono_l k
  ·intro y0 y1 y2 y3 y4 y5 y6
   unfold stillageref08_Path.l0
   repeat' first
   | (with_reducible exact ih0 _ _ _ _ _ _ _)
   | (with_reducible exact stillageref08_first.mono _ _ _ _ _ _ _ _)
   | (with_reducible exact LeO.refl _)
   | (with_reducible exact LeO.none _)
   | (with_reducible refine LeO.ite ?_ ?_)
   | (with_reducible refine LeO.bind ?_ (fun _ => ?_))
   | exact ih0 _ _ _ _ _ _ _
   | exact stillageref08_first.mono _ _ _ _ _ _ _ _
   | exact LeO.none _
   | refine LeO.ite ?_ ?_
   | refine LeO.bind ?_ (fun _ => ?_)
theorem stillageref08_Path.mono : ∀ a0 a1 a2 a3 a4 a5 k, LeO (stillageref08_Path.f k a0 a1 a2 a3 a4 a5) (stillageref08_Path.f (k + 1) a0 a1 a2 a3 a4 a5) := by
 intro a0 a1 a2 a3 a4 a5 k
 have ih0 := stillageref08_Path.mono_l k
 unfold stillageref08_Path.f
 repeat' first
   | (with_reducible exact ih0 _ _ _ _ _ _ _)
   | (with_reducible exact stillageref08_first.mono _ _ _ _ _ _ _ _)
   | (with_reducible exact LeO.refl _)
   | (with_reducible exact LeO.none _)
   | (with_reducible refine LeO.ite ?_ ?_)
   | (with_reducible refine LeO.bind ?_ (fun _ => ?_))
   | exact ih0 _ _ _ _ _ _ _
   | exact stillageref08_first.mono _ _ _ _ _ _ _ _
   | exact LeO.none _
   | refine LeO.ite ?_ ?_
   | refine LeO.bind ?_ (fun _ => ?_)
set_option maxHeartbeats 8000000 in
set_option maxRecDepth 100000 in
theorem stillageref08_Path.calls (k : Nat) (A0_0 : Option Addr) (c0_0 : Nat) (l0_0 : List (S47)) (A0_1 : Option Addr) (c0_1 : Nat) (l0_1 : List (S38)) (A1 : Option Addr) (c1 : Nat) (l1 : List Int) (a2 : Int) (a3 : Int) (A4 : Option Addr) (c4 : Nat) (l4 : List Int) (r1 : List Int) (r2 : Int) (w : World) (hr0_0 : Kd.C k47 w A0_0 l0_0.length l0_0) (hc0_0 : l0_0.length ≤ c0_0) (hr0_1 : Kd.C k38 w A0_1 l0_1.length l0_1) (hc0_1 : l0_1.length ≤ c0_1) (hr1 : Kd.C (Kd.int .i64) w A1 l1.length l1) (hc1 : l1.length ≤ c1) (hr4 : Kd.C (Kd.int .i64) w A4 l4.length l4) (hc4 : l4.length ≤ c4) (h : stillageref08_Path.f k l0_0 l0_1 l1 a2 a3 l4 = some (r1, r2)) :
  Calls Try.prog 21 #[.agg #[.slice A0_0 l0_0.length c0_0, .slice A0_1 l0_1.length c0_1], .slice A1 l1.length c1, .int .i64 a2, .int .i64 a3, .slice A4 l4.length c4] w fun e w' => ∃ v0_ : Value, e = .returned (.tuple #[v0_, .int .i64 r2]) ∧ Kd.R (Kd.int .i64) 3 w' w.heap.size (fun _ => True) v0_ r1 ∧ Below w.heap.size w w' := by
 have hu25 := Try.underlying25
 have HR0_0 := Aside0.mk hr0_0
 have HC0_0 := Aside0.mk hc0_0
 clear hr0_0 hc0_0
 have HR0_1 := Aside0.mk hr0_1
 have HC0_1 := Aside0.mk hc0_1
 clear hr0_1 hc0_1
 have HR1 := Aside0.mk hr1
 have HC1 := Aside0.mk hc1
 clear hr1 hc1
 have HR4 := Aside0.mk hr4
 have HC4 := Aside0.mk hc4
 clear hr4 hc4
 have HB := Aside0.mk (Below.refl w.heap.size w)
 have H : (stillageref08_Path.l0 k l1 a2 a3 l4 0 l0_0 l0_1) = some (r1, r2) := h
 clear h
 have H' := Aside0.mk H; clear H
 go_enter Try.func21, Try.ntmps21
 go_wp2_with (first | ((with_reducible refine gate_dst (N := 5) rfl ?_); refine box_event ?hg (N := 5) ?hd (cs := #[.slice A0_0 l0_0.length c0_0, .slice A0_1 l0_1.length c0_1]) (t := 25) ?hr ?_; (case hd => rfl); (case hg => rfl); (case hr => first | (go_simp; done) | (go_simp; rfl)); intro gb394 hg w6 hbox hb; have BK394 := Aside0.mk (hbox); have GW394 := Aside0.mk ((by rw [hg]; exact (below_size (zb0 HB.out)) : w.heap.size ≤ gb394)); have GE394 := Aside0.mk ((by rw [hg]; exact (below_size (zb0 HB.out)) : w.heap.size ≤ gb394)); replace HB := Aside0.mk (below_step (zb0 HB.out) hb); clear hb hbox hg))
 go_loopg [12] k (fun kq v12 w' => ∃ (x12_1 : Int), v12 = .int .i64 x12_1 ∧ Aside0 (stillageref08_Path.l0 kq l1 a2 a3 l4 x12_1 l0_0 l0_1 = some (r1, r2)) ∧ Aside0 (kq ≤ k) ∧ Aside0 (w'.heap[gb394]? = some (.cells #[(.slice A0_0 l0_0.length c0_0), (.slice A0_1 l0_1.length c0_1)] 25 (0, 0))) ∧ Aside0 (Below w.heap.size w w'))
 case atStart => exact ⟨(0), rs, H', ⟨Nat.le_refl _⟩, ⟨by (with_reducible repeat (first | refine blk_drewN ?_ _ | refine blk_drew ?_ | refine blk_alloc ?_ _)); exact BK394.out⟩, ⟨by repeat (first | (with_reducible first | exact HB.out | apply below_alloc | apply pw_below_drewN | apply below_drew1 | refine below_set ?_ GE394.out) | exact HB.out)⟩⟩
 case round =>
  clear H'
  obtain ⟨x12_1, rfl, HA, HK1, BK394, HB⟩ := hrel
  cases gk with
  | zero => exact absurd HA.out (by simp [stillageref08_Path.l0])
  | succ k1 =>
   have H := HA.out
   clear HA
   simp only [stillageref08_Path.l0] at H
   by_cases c7 : x12_1 ≤ (l0_0.length : Int)
   rotate_left
   ·rw [if_neg c7] at H
    have c7b0 : decide (x12_1 ≤ (l0_0.length : Int)) = false := decide_eq_false c7
    clear c7
    simp only [Option.some.injEq, Prod.mk.injEq] at H
    obtain ⟨rfl, rfl⟩ := H
    have hcz14_0 : wr.cell? ⟨gb394, 0, none⟩ = some (.slice A0_0 l0_0.length c0_0) := (blk_cell BK394.out 0).trans rfl
    have hcz14_1 : wr.cell? ⟨gb394, 1, none⟩ = some (.slice A0_1 l0_1.length c0_1) := (blk_cell BK394.out 1).trans rfl
    have hfz14_0 := blk_frozen BK394.out 0
    have hfz14_1 := blk_frozen BK394.out 1
    go_wp2
    go_ret2
    exact ⟨_, by first | rfl | (simp [errW_none, errW_some] <;> rfl) | (simp [*, errW_none, errW_some] <;> rfl), by first | exact Kd.R_nil _ _ _ _ _ | exact Kd.N_nil _ _ _ _ _ | exact Kd.V_nil _ _ _ _ _ | exact Kd.Q_nil _ _ _ _ _ | exact Kd.S_nil _ _ _ _ _, by repeat (first | (with_reducible first | exact HB.out | apply below_alloc | apply pw_below_drewN | apply below_drew1 | refine below_set ?_ GE394.out) | exact HB.out)⟩

   rw [if_pos c7] at H
   have c7b0 : decide (x12_1 ≤ (l0_0.length : Int)) = true := decide_eq_true c7
   clear c7
   replace H := Option.bind_eq_some_iff.mp H; obtain ⟨⟨t395, t398⟩, A80, H⟩ := H
   replace H : (if t398 = true then (some (t395, 0)) else (stillageref08_Path.l0 k1 l1 a2 a3 l4 (wrap64 (x12_1 + 1)) l0_0 l0_1)) = some (r1, r2) := H
   have A8 := Aside0.mk A80
   clear A80
   by_cases c9 : t398 = true
   ·subst c9
    have H1 : (some (t395, 0)) = some (r1, r2) := by rw [if_pos rfl] at H; exact H
    clear H; have H := H1; clear H1
    simp only [Option.some.injEq, Prod.mk.injEq] at H
    obtain ⟨rfl, rfl⟩ := H
    have hcz10_0 : wr.cell? ⟨gb394, 0, none⟩ = some (.slice A0_0 l0_0.length c0_0) := (blk_cell BK394.out 0).trans rfl
    have hcz10_1 : wr.cell? ⟨gb394, 1, none⟩ = some (.slice A0_1 l0_1.length c0_1) := (blk_cell BK394.out 1).trans rfl
    have hfz10_0 := blk_frozen BK394.out 0
    have hfz10_1 := blk_frozen BK394.out 1
    go_wp2_with (first | ((with_reducible refine gate_callee (f := 35) rfl ?_); refine goesL_ (some 29) rfl rfl Try.func35 (by kernel_rfl) rfl #[.agg #[.slice A0_0 l0_0.length c0_0, .slice A0_1 l0_1.length c0_1], .slice A1 l1.length c1, .int .i64 a2, .int .i64 a3, .int .i64 x12_1, .slice A4 l4.length c4] rfl am ?_; (with_reducible refine (stillageref08_first.calls k1 _ _ l0_0 _ _ l0_1 _ _ l1 a2 a3 x12_1 _ _ l4 t395 true _ ?side1 ?side2 ?side3 ?side4 ?side5 ?side6 ?side7 ?side8 A8.out).mono ?_); (case side1 => exact zc HR0_0.out HB.out); (case side2 => exact HC0_0.out); (case side3 => exact zc HR0_1.out HB.out); (case side4 => exact HC0_1.out); (case side5 => exact zc HR1.out HB.out); (case side6 => exact HC1.out); (case side7 => exact zc HR4.out HB.out); (case side8 => exact HC4.out); rintro e w11 ⟨v396, rfl, ho0, hb⟩; refine ⟨_, rfl, ?_⟩; have HO397 := Aside0.mk (Kd.R_lower ho0 (below_size (zb1 HB.out GE394.out))); replace BK394 := Aside0.mk (blk_below (g := gb394) (o := .cells #[.slice A0_0 l0_0.length c0_0, .slice A0_1 l0_1.length c0_1] 25 (0, 0)) (zk BK394.out) hb); replace HB := Aside0.mk (below_step (zb1 HB.out GE394.out) hb); (try clear hb); (try clear ho0)))
    go_ret2
    exact ⟨_, by first | rfl | (simp [errW_none, errW_some] <;> rfl) | (simp [*, errW_none, errW_some] <;> rfl), by (with_reducible repeat (first | apply Kd.R_alloc | apply Kd.R_drewN | apply Kd.R_drew)); exact HO397.out, by repeat (first | (with_reducible first | exact HB.out | apply below_alloc | apply pw_below_drewN | apply below_drew1 | refine below_set ?_ GE394.out) | exact HB.out)⟩
   replace c9 := Bool.eq_false_iff.mpr c9
   subst c9
   have H1 : (stillageref08_Path.l0 k1 l1 a2 a3 l4 (wrap64 (x12_1 + 1)) l0_0 l0_1) = some (r1, r2) := by rw [if_neg (show ¬ (false = true) by decide)] at H; exact H
   clear H; have H := H1; clear H1
   have H' := Aside0.mk H; clear H
   have hcz12_0 : wr.cell? ⟨gb394, 0, none⟩ = some (.slice A0_0 l0_0.length c0_0) := (blk_cell BK394.out 0).trans rfl
   have hcz12_1 : wr.cell? ⟨gb394, 1, none⟩ = some (.slice A0_1 l0_1.length c0_1) := (blk_cell BK394.out 1).trans rfl
   have hfz12_0 := blk_frozen BK394.out 0
   have hfz12_1 := blk_frozen BK394.out 1
   go_wp2_with (first | ((with_reducible refine gate_callee (f := 35) rfl ?_); refine goesL_ (some 29) rfl rfl Try.func35 (by kernel_rfl) rfl #[.agg #[.slice A0_0 l0_0.length c0_0, .slice A0_1 l0_1.length c0_1], .slice A1 l1.length c1, .int .i64 a2, .int .i64 a3, .int .i64 x12_1, .slice A4 l4.length c4] rfl am ?_; (with_reducible refine (stillageref08_first.calls k1 _ _ l0_0 _ _ l0_1 _ _ l1 a2 a3 x12_1 _ _ l4 t395 false _ ?side1 ?side2 ?side3 ?side4 ?side5 ?side6 ?side7 ?side8 A8.out).mono ?_); (case side1 => exact zc HR0_0.out HB.out); (case side2 => exact HC0_0.out); (case side3 => exact zc HR0_1.out HB.out); (case side4 => exact HC0_1.out); (case side5 => exact zc HR1.out HB.out); (case side6 => exact HC1.out); (case side7 => exact zc HR4.out HB.out); (case side8 => exact HC4.out); rintro e w13 ⟨v396, rfl, ho0, hb⟩; refine ⟨_, rfl, ?_⟩; have HO397 := Aside0.mk (Kd.R_lower ho0 (below_size (zb1 HB.out GE394.out))); replace BK394 := Aside0.mk (blk_below (g := gb394) (o := .cells #[.slice A0_0 l0_0.length c0_0, .slice A0_1 l0_1.length c0_1] 25 (0, 0)) (zk BK394.out) hb); replace HB := Aside0.mk (below_step (zb1 HB.out GE394.out) hb); (try clear hb); (try clear ho0)))
   go_roundg k1
   case measure => have := HK1.out; omega
   case rel => exact ⟨(wrap64 (x12_1 + 1)), rs, H', ⟨by have := HK1.out; omega⟩, ⟨by (with_reducible repeat (first | refine blk_drewN ?_ _ | refine blk_drew ?_ | refine blk_alloc ?_ _)); exact BK394.out⟩, ⟨by repeat (first | (with_reducible first | exact HB.out | apply below_alloc | apply pw_below_drewN | apply below_drew1 | refine below_set ?_ GE394.out) | exact HB.out)⟩⟩
/-! ### stillageref08_Table: function 16 -/
def stillageref08_Table.l0 : Nat → List Int → Int → List Int → Int → Int → List (S47) → List (S38) → Option (List Int)
 | 0, _, _, _, _, _, _, _ => none
 | k + 1, x1, x2, x7, x16, x17, x400000, x400001 => if x17 < x16 then ((stillageref08_Path.f k x400000 x400001 x1 x17 x2 ([] : List Int)).bind fun bt403 => (if (bt403.1.length : Int) > 0 then (if 0 < (bt403.1.length : Int) then (if 0 ≤ x17 then (if x17 < (x7.length : Int) then (stillageref08_Table.l0 k x1 x2 (x7.set (x17 : Int).toNat (rd bt403.1 0)) x16 (wrap64 (x17 + 1)) x400000 x400001) else (none)) else (none)) else (none)) else (stillageref08_Table.l0 k x1 x2 x7 x16 (wrap64 (x17 + 1)) x400000 x400001))) else (some x7)
def stillageref08_Table.f (k : Nat) (l0_0 : List (S47)) (l0_1 : List (S38)) (l1 : List Int) (a2 : Int) : Option (List Int) := if 0 ≤ (l0_0.length : Int) then (if ((l0_0.length : Int) : Int).toNat ≤ 35184372088832 then ((some (List.replicate ((l0_0.length : Int) : Int).toNat 0 : List Int)).bind fun y400 => (stillageref08_Table.l0 k l1 a2 y400 (y400.length : Int) 0 l0_0 l0_1)) else (none)) else (none)
theorem stillageref08_Table.mono_l : ∀ k, (∀ y0 y1 y2 y3 y4 y5 y6, LeO (stillageref08_Table.l0 k y0 y1 y2 y3 y4 y5 y6) (stillageref08_Table.l0 (k + 1) y0 y1 y2 y3 y4 y5 y6))
 | 0 => fun _ _ _ _ _ _ _ r h => by simp [stillageref08_Table.l0] at h
 | k + 1 => by
  have ih0 := stillageref08_Table.mono_l k
  ·intro y0 y1 y2 y3 y4 y5 y6
   unfold stillageref08_Table.l0
   repeat' first
   | (with_reducible exact ih0 _ _ _ _ _ _ _)
   | (with_reducible exact stillageref08_Path.mono _ _ _ _ _ _ _)
   | (with_reducible exact LeO.refl _)
   | (with_reducible exact LeO.none _)
   | (with_reducible refine LeO.ite ?_ ?_)
   | (with_reducible refine LeO.bind ?_ (fun _ => ?_))
   | exact ih0 _ _ _ _ _ _ _
   | exact stillageref08_Path.mono _ _ _ _ _ _ _
   | exact LeO.none _
   | refine LeO.ite ?_ ?_
   | refine LeO.bind ?_ (fun _ => ?_)
theorem stillageref08_Table.mono : ∀ a0 a1 a2 a3 k, LeO (stillageref08_Table.f k a0 a1 a2 a3) (stillageref08_Table.f (k + 1) a0 a1 a2 a3) := by
 intro a0 a1 a2 a3 k
 have ih0 := stillageref08_Table.mono_l k
 unfold stillageref08_Table.f
 repeat' first
   | (with_reducible exact ih0 _ _ _ _ _ _ _)
   | (with_reducible exact stillageref08_Path.mono _ _ _ _ _ _ _)
   | (with_reducible exact LeO.refl _)
   | (with_reducible exact LeO.none _)
   | (with_reducible refine LeO.ite ?_ ?_)
   | (with_reducible refine LeO.bind ?_ (fun _ => ?_))
   | exact ih0 _ _ _ _ _ _ _
   | exact stillageref08_Path.mono _ _ _ _ _ _ _
   | exact LeO.none _
   | refine LeO.ite ?_ ?_
   | refine LeO.bind ?_ (fun _ => ?_)
set_option maxHeartbeats 8000000 in
set_option maxRecDepth 100000 in
theorem stillageref08_Table.calls (k : Nat) (A0_0 : Option Addr) (c0_0 : Nat) (l0_0 : List (S47)) (A0_1 : Option Addr) (c0_1 : Nat) (l0_1 : List (S38)) (A1 : Option Addr) (c1 : Nat) (l1 : List Int) (a2 : Int) (r : List Int) (w : World) (hr0_0 : Kd.C k47 w A0_0 l0_0.length l0_0) (hc0_0 : l0_0.length ≤ c0_0) (hr0_1 : Kd.C k38 w A0_1 l0_1.length l0_1) (hc0_1 : l0_1.length ≤ c0_1) (hr1 : Kd.C (Kd.int .i64) w A1 l1.length l1) (hc1 : l1.length ≤ c1) (h : stillageref08_Table.f k l0_0 l0_1 l1 a2 = some r) :
  Calls Try.prog 16 #[.agg #[.slice A0_0 l0_0.length c0_0, .slice A0_1 l0_1.length c0_1], .slice A1 l1.length c1, .int .i64 a2] w fun e w' => ∃ v0_ : Value, e = .returned (v0_) ∧ Kd.R (Kd.int .i64) 3 w' w.heap.size (fun _ => True) v0_ r ∧ Below w.heap.size w w' := by
 have hu25 := Try.underlying25
 have HR0_0 := Aside0.mk hr0_0
 have HC0_0 := Aside0.mk hc0_0
 clear hr0_0 hc0_0
 have HR0_1 := Aside0.mk hr0_1
 have HC0_1 := Aside0.mk hc0_1
 clear hr0_1 hc0_1
 have HR1 := Aside0.mk hr1
 have HC1 := Aside0.mk hc1
 clear hr1 hc1
 have HB := Aside0.mk (Below.refl w.heap.size w)
 have H : (if 0 ≤ (l0_0.length : Int) then (if ((l0_0.length : Int) : Int).toNat ≤ 35184372088832 then ((some (List.replicate ((l0_0.length : Int) : Int).toNat 0 : List Int)).bind fun y400 => (stillageref08_Table.l0 k l1 a2 y400 (y400.length : Int) 0 l0_0 l0_1)) else (none)) else (none)) = some r := h
 clear h
 by_cases c4 : 0 ≤ (l0_0.length : Int)
 rotate_left; ·rw [if_neg c4] at H; exact absurd H (by simp)

 rw [if_pos c4] at H
 have c4b0 := eq_true c4
 have c4b1 : decide (0 ≤ (l0_0.length : Int)) = true := decide_eq_true c4
 clear c4
 by_cases c5 : ((l0_0.length : Int) : Int).toNat ≤ 35184372088832
 rotate_left; ·rw [if_neg c5] at H; exact absurd H (by simp)
 rw [if_pos c5] at H
 have c5b0 := eq_true c5
 have c5b1 : decide (((l0_0.length : Int) : Int).toNat ≤ 35184372088832) = true := decide_eq_true c5
 clear c5
 obtain ⟨y400, hy400⟩ : ∃ y_ : List Int, y_ = (List.replicate ((l0_0.length : Int) : Int).toNat 0) := ⟨_, rfl⟩
 replace H : (stillageref08_Table.l0 k l1 a2 y400 (y400.length : Int) 0 l0_0 l0_1) = some r := by first | (rw [hy400]; with_reducible exact H) | (have H2_ := (Option.bind_some _ _).symm.trans H; rw [hy400]; with_reducible exact H2_) | (have H2_ := (Option.bind_some _ _).symm.trans H; with_reducible exact H2_) | with_reducible exact H | (rw [hy400]; exact H) | exact H
 have Ny400 := Aside0.mk hy400
 clear hy400
 have H' := Aside0.mk H; clear H
 go_enter Try.func16, Try.ntmps16
 go_wp2_with (first | ((with_reducible refine gate_dst (N := 3) rfl ?_); refine box_event ?hg (N := 3) ?hd (cs := #[.slice A0_0 l0_0.length c0_0, .slice A0_1 l0_1.length c0_1]) (t := 25) ?hr ?_; (case hd => rfl); (case hg => rfl); (case hr => first | (go_simp; done) | (go_simp; rfl)); intro gb399 hg w6 hbox hb; have BK399 := Aside0.mk (hbox); have GW399 := Aside0.mk ((by rw [hg]; exact (below_size (zb0 HB.out)) : w.heap.size ≤ gb399)); have GE399 := Aside0.mk ((by rw [hg]; exact (below_size (zb0 HB.out)) : w.heap.size ≤ gb399)); replace HB := Aside0.mk (below_step (zb0 HB.out) hb); clear hb hbox hg; have hcz7_0 : w6.cell? ⟨gb399, 0, none⟩ = some (.slice A0_0 l0_0.length c0_0) := (blk_cell BK399.out 0).trans rfl; have hcz7_1 : w6.cell? ⟨gb399, 1, none⟩ = some (.slice A0_1 l0_1.length c0_1) := (blk_cell BK399.out 1).trans rfl; have hfz7_0 := blk_frozen BK399.out 0; have hfz7_1 := blk_frozen BK399.out 1) | ((with_reducible refine gate_dst (N := 14) rfl ?_); refine Kd.R_make (Kd.int .i64) _ 3 rfl (N := 14) rfl 26 _ _ rfl (l0_0.length : Int) rfl rfl Try.underlying26 (.int .i64 0) 8 info3 rfl (by decide) (by omega) 0 (ok := fun _ => True) (okp := fun _ => True) rfl (fun _ hk => hk) trivial (oda) (Nat.le_trans (Nat.mul_le_mul_right _ (oda : (l0_0.length : Int).toNat ≤ 35184372088832)) (by omega)) (Below.refl _ _) (Nat.le_refl _) ?_; intro v401 w8 ho9 hb hg_ hnew_; clear hg_ hnew_; (first | rw [← Ny400.out] at ho9 | (simp only [Int.reduceToNat] at ho9; rw [← Ny400.out] at ho9)); have HO402 := Aside0.mk (Kd.R_lower ho9 (below_size (zb1 HB.out GE399.out))); replace BK399 := Aside0.mk (blk_below (g := gb399) (o := .cells #[.slice A0_0 l0_0.length c0_0, .slice A0_1 l0_1.length c0_1] 25 (0, 0)) (zk BK399.out) hb); replace HB := Aside0.mk (below_step (zb1 HB.out GE399.out) hb); clear hb ho9; obtain ⟨Ao10, co10, eo10⟩ := Kd.R_slice HO402.out; subst eo10))
 go_loopg [17] k (fun kq v17 w' => ∃ (x7_1 : List Int) (x17_1 : Int), v17 = .int .i64 x17_1 ∧ Aside0 (stillageref08_Table.l0 kq l1 a2 x7_1 (y400.length : Int) x17_1 l0_0 l0_1 = some r) ∧ Aside0 (kq ≤ k) ∧ Aside0 (Kd.R (Kd.int .i64) 3 w' w.heap.size (fun _ => True) (.slice Ao10 y400.length co10) x7_1) ∧ Aside0 (w'.heap[gb399]? = some (.cells #[(.slice A0_0 l0_0.length c0_0), (.slice A0_1 l0_1.length c0_1)] 25 (0, 0))) ∧ Aside0 (Below w.heap.size w w'))
 case atStart => exact ⟨(y400), (0), rs, H', ⟨Nat.le_refl _⟩, ⟨by (with_reducible repeat (first | apply Kd.R_alloc | apply Kd.R_drewN | apply Kd.R_drew)); exact HO402.out⟩, ⟨by (with_reducible repeat (first | refine blk_drewN ?_ _ | refine blk_drew ?_ | refine blk_alloc ?_ _)); exact BK399.out⟩, ⟨by repeat (first | (with_reducible first | exact HB.out | apply below_alloc | apply pw_below_drewN | apply below_drew1 | refine below_set ?_ GE399.out) | exact HB.out)⟩⟩
 case round =>
  clear H'
  obtain ⟨x7_1, x17_1, rfl, HA, HK1, HO_7, BK399, HB⟩ := hrel
  have hl7_1 := (Kd.R_reads' HO_7.out).1
  rw [hl7_1] at HO_7
  (try simp only [hl7_1])
  (try simp only [hl7_1] at BK399)
  cases gk with
  | zero => exact absurd HA.out (by simp [stillageref08_Table.l0])
  | succ k1 =>
   have H := HA.out
   clear HA
   simp only [stillageref08_Table.l0] at H
   by_cases c11 : x17_1 < (y400.length : Int)
   rotate_left
   ·rw [if_neg c11] at H
    have c11b0 : decide (x17_1 < (y400.length : Int)) = false := decide_eq_false c11
    (try (have c11z0 := c11b0; simp only [hl7_1] at c11z0))
    clear c11
    obtain rfl := Option.some.inj H
    go_wp2
    go_ret
    exact ⟨_, by first | rfl | (simp [errW_none, errW_some] <;> rfl) | (simp [*, errW_none, errW_some] <;> rfl), by (with_reducible repeat (first | apply Kd.R_alloc | apply Kd.R_drewN | apply Kd.R_drew)); exact HO_7.out, by repeat (first | (with_reducible first | exact HB.out | apply below_alloc | apply pw_below_drewN | apply below_drew1 | refine below_set ?_ GE399.out) | exact HB.out)⟩
   rw [if_pos c11] at H
   have c11b0 : decide (x17_1 < (y400.length : Int)) = true := decide_eq_true c11
   (try (have c11z0 := c11b0; simp only [hl7_1] at c11z0))
   clear c11
   replace H := Option.bind_eq_some_iff.mp H; obtain ⟨⟨t403, t406⟩, A120, H⟩ := H
   replace H : (if (t403.length : Int) > 0 then (if 0 < (t403.length : Int) then (if 0 ≤ x17_1 then (if x17_1 < (x7_1.length : Int) then (stillageref08_Table.l0 k1 l1 a2 (x7_1.set (x17_1 : Int).toNat (rd t403 0)) (y400.length : Int) (wrap64 (x17_1 + 1)) l0_0 l0_1) else (none)) else (none)) else (none)) else (stillageref08_Table.l0 k1 l1 a2 x7_1 (y400.length : Int) (wrap64 (x17_1 + 1)) l0_0 l0_1)) = some r := H
   have A12 := Aside0.mk A120
   clear A120
   by_cases c13 : (t403.length : Int) > 0
   rotate_left
   ·rw [if_neg c13] at H
    have c13b0 : decide (0 < (t403.length : Int)) = false := decide_eq_false c13
    have c13b1 : decide (0 < t403.length) = false := decide_eq_false (by omega)
    (try (have c13z0 := c13b0; simp only [hl7_1] at c13z0))
    (try (have c13z1 := c13b1; simp only [hl7_1] at c13z1))
    clear c13
    have H' := Aside0.mk H; clear H
    have hcz23_0 : wr.cell? ⟨gb399, 0, none⟩ = some (.slice A0_0 l0_0.length c0_0) := (blk_cell BK399.out 0).trans rfl
    have hcz23_1 : wr.cell? ⟨gb399, 1, none⟩ = some (.slice A0_1 l0_1.length c0_1) := (blk_cell BK399.out 1).trans rfl
    have hfz23_0 := blk_frozen BK399.out 0
    have hfz23_1 := blk_frozen BK399.out 1
    go_wp2_with (first | ((with_reducible refine gate_callee (f := 21) rfl ?_); refine goesL_ (some 25) rfl rfl Try.func21 (by kernel_rfl) rfl #[.agg #[.slice A0_0 l0_0.length c0_0, .slice A0_1 l0_1.length c0_1], .slice A1 l1.length c1, .int .i64 x17_1, .int .i64 a2, .slice none 0 0] rfl am ?_; (refine (stillageref08_Path.calls k1 _ _ l0_0 _ _ l0_1 _ _ l1 x17_1 a2 _ _ ([] : List Int) t403 t406 _ ?side1 ?side2 ?side3 ?side4 ?side5 ?side6 ?side7 ?side8 A12.out).mono ?_); (case side1 => exact zc HR0_0.out HB.out); (case side2 => exact HC0_0.out); (case side3 => exact zc HR0_1.out HB.out); (case side4 => exact HC0_1.out); (case side5 => exact zc HR1.out HB.out); (case side6 => exact HC1.out); (case side7 => exact Kd.C_nil _ _); (case side8 => exact Nat.le_refl _); rintro e w24 ⟨v404, rfl, ho0, hb⟩; refine ⟨_, rfl, ?_⟩; have HO405 := Aside0.mk (Kd.R_lower (Kd.R_new' ho0 (Kd.R_lt (zr HO_7.out))) (below_size (zb1 HB.out GE399.out))); replace HO_7 := Aside0.mk (Kd.R_elder' (zr HO_7.out) (Kd.R_base ho0) hb); replace BK399 := Aside0.mk (blk_below (g := gb399) (o := .cells #[.slice A0_0 l0_0.length c0_0, .slice A0_1 l0_1.length c0_1] 25 (0, 0)) (zk BK399.out) hb); replace HB := Aside0.mk (below_step (zb1 HB.out GE399.out) hb); (try clear hb); (try clear ho0); obtain ⟨Ao25, co25, eo25⟩ := Kd.R_slice HO405.out; subst eo25))
    (try simp only [← hl7_1])
    go_roundg k1
    case measure => have := HK1.out; omega
    case rel => exact ⟨(x7_1), (wrap64 (x17_1 + 1)), rs, H', ⟨by have := HK1.out; omega⟩, ⟨by (try simp only [hl7_1]); (with_reducible repeat (first | apply Kd.R_alloc | apply Kd.R_drewN | apply Kd.R_drew)); exact Kd.R_mono HO_7.out (fun _ hk => trivial)⟩, ⟨by (try simp only [hl7_1]); (with_reducible repeat (first | refine blk_drewN ?_ _ | refine blk_drew ?_ | refine blk_alloc ?_ _)); exact BK399.out⟩, ⟨by repeat (first | (with_reducible first | exact HB.out | apply below_alloc | apply pw_below_drewN | apply below_drew1 | refine below_set ?_ GE399.out) | exact HB.out)⟩⟩
   rw [if_pos c13] at H
   have c13b0 : decide (0 < (t403.length : Int)) = true := decide_eq_true c13
   have c13b1 : decide (0 < t403.length) = true := decide_eq_true (by omega)
   (try (have c13z0 := c13b0; simp only [hl7_1] at c13z0))
   (try (have c13z1 := c13b1; simp only [hl7_1] at c13z1))
   clear c13
   by_cases c14 : 0 < (t403.length : Int)
   rotate_left; ·rw [if_neg c14] at H; exact absurd H (by simp)
   rw [if_pos c14] at H
   have c14b0 : decide (0 < (t403.length : Int)) = true := decide_eq_true c14
   have c14b1 : decide (0 < t403.length) = true := decide_eq_true (by omega)
   (try (have c14z0 := c14b0; simp only [hl7_1] at c14z0))
   (try (have c14z1 := c14b1; simp only [hl7_1] at c14z1))
   clear c14
   by_cases c15 : 0 ≤ x17_1
   rotate_left; ·rw [if_neg c15] at H; exact absurd H (by simp)
   rw [if_pos c15] at H
   have c15b0 : decide (0 ≤ x17_1) = true := decide_eq_true c15
   clear c15
   by_cases c16 : x17_1 < (x7_1.length : Int)
   rotate_left; ·rw [if_neg c16] at H; exact absurd H (by simp)
   rw [if_pos c16] at H
   have c16b0 : decide (x17_1 < (x7_1.length : Int)) = true := decide_eq_true c16
   (try (have c16z0 := c16b0; simp only [hl7_1] at c16z0))
   clear c16
   obtain ⟨y408, hy408⟩ : ∃ y_ : List Int, y_ = (x7_1.set (x17_1 : Int).toNat (rd t403 0)) := ⟨_, rfl⟩
   replace H : (stillageref08_Table.l0 k1 l1 a2 y408 (y400.length : Int) (wrap64 (x17_1 + 1)) l0_0 l0_1) = some r := by first | (rw [hy408]; with_reducible exact H) | (have H2_ := (Option.bind_some _ _).symm.trans H; rw [hy408]; with_reducible exact H2_) | (have H2_ := (Option.bind_some _ _).symm.trans H; with_reducible exact H2_) | with_reducible exact H | (rw [hy408]; exact H) | exact H
   have Ny408 := Aside0.mk hy408
   clear hy408
   have H' := Aside0.mk H; clear H
   have hcz18_0 : wr.cell? ⟨gb399, 0, none⟩ = some (.slice A0_0 l0_0.length c0_0) := (blk_cell BK399.out 0).trans rfl
   have hcz18_1 : wr.cell? ⟨gb399, 1, none⟩ = some (.slice A0_1 l0_1.length c0_1) := (blk_cell BK399.out 1).trans rfl
   have hfz18_0 := blk_frozen BK399.out 0
   have hfz18_1 := blk_frozen BK399.out 1
   go_wp2_with (first | ((with_reducible refine gate_callee (f := 21) rfl ?_); refine goesL_ (some 25) rfl rfl Try.func21 (by kernel_rfl) rfl #[.agg #[.slice A0_0 l0_0.length c0_0, .slice A0_1 l0_1.length c0_1], .slice A1 l1.length c1, .int .i64 x17_1, .int .i64 a2, .slice none 0 0] rfl am ?_; (refine (stillageref08_Path.calls k1 _ _ l0_0 _ _ l0_1 _ _ l1 x17_1 a2 _ _ ([] : List Int) t403 t406 _ ?side1 ?side2 ?side3 ?side4 ?side5 ?side6 ?side7 ?side8 A12.out).mono ?_); (case side1 => exact zc HR0_0.out HB.out); (case side2 => exact HC0_0.out); (case side3 => exact zc HR0_1.out HB.out); (case side4 => exact HC0_1.out); (case side5 => exact zc HR1.out HB.out); (case side6 => exact HC1.out); (case side7 => exact Kd.C_nil _ _); (case side8 => exact Nat.le_refl _); rintro e w19 ⟨v404, rfl, ho0, hb⟩; refine ⟨_, rfl, ?_⟩; have HO405 := Aside0.mk (Kd.R_lower (Kd.R_new' ho0 (Kd.R_lt (zr HO_7.out))) (below_size (zb1 HB.out GE399.out))); replace HO_7 := Aside0.mk (Kd.R_elder' (zr HO_7.out) (Kd.R_base ho0) hb); replace BK399 := Aside0.mk (blk_below (g := gb399) (o := .cells #[.slice A0_0 l0_0.length c0_0, .slice A0_1 l0_1.length c0_1] 25 (0, 0)) (zk BK399.out) hb); replace HB := Aside0.mk (below_step (zb1 HB.out GE399.out) hb); (try clear hb); (try clear ho0); obtain ⟨Ao20, co20, eo20⟩ := Kd.R_slice HO405.out; subst eo20; have p407 : 0 ≤ (0 : Int) := (by omega); have q407 : 0 < (t403.length : Int) := oda; obtain ⟨ad407, e407, hx407_0⟩ := Kd.at_int (Kd.R_reads' HO405.out).2.2 0 p407 q407; cases e407; have qi407 : (0 < t403.length) = True := eq_true (by omega); (try rw [show ((0 : Int)).toNat = 0 from rfl] at hx407_0); (try rw [Addr.add_zero'] at hx407_0); replace p407 := eq_true p407; replace q407 := eq_true q407; have p17 : 0 ≤ (x17_1 : Int) := oda; have q17 : (x17_1 : Int) < ((x7_1.length : Int) : Int) := oda; obtain ⟨go17, co17, eo17, gb17, gl17, cl17, HG17⟩ := Kd.R_form HO_7.out (by omega); (first | cases eo17 | (injection eo17 with ea_ en_ ec_; (first | subst ea_ | (injection ea_ with ea_; subst ea_)); subst ec_; clear en_)); have GB17 := Aside0.mk gb17; have GG17 := Aside0.mk HG17; clear gb17 gl17 HG17; obtain ⟨hx17_0, hf17_0⟩ := Kd.R_celln 0 HO_7.out (x17_1 : Int) p17 q17; replace p17 := eq_true p17; replace q17 := eq_true q17; have n_ := Aside0.mk (Kd.R_mono (ok' := (fun k_ => some k_ ≠ (.slice (some ad407) t403.length co20 : Value).ownBlock)) HO_7.out (fun k_ hk => hk.2)); clear HO_7; have HO_7 := n_; clear n_; obtain ⟨hy21_, hz21_⟩ := Kd.R_celln 0 HO_7.out (x17_1 : Int) (oda) (oda); have HP21 := Kd.R_putg HO_7.out (x17_1 : Int) (rd t403 0)) | ((with_reducible refine gate_store (t := 3) (p := 36) rfl ?_); refine store_event (t := 3) (p := 36) (v := ?vo_w22) (w1 := (w19.setCell ⟨go17, (x17_1 : Int).toNat, none⟩ (.int .i64 (rd t403 0)))) ?hg ?ho ?hn ?hr ?_; (case ho => rfl); (case hg => rfl); (case hn => rfl); (case hr => first | (go_simp; done) | (go_simp; rfl)); intro w22 hw; have hg : w19.grownBy w22 (some go17) := (by rw [hw]; exact HP21.2); have hp_ : Kd.R (Kd.int .i64) 3 w22 w.heap.size (fun k_ => some k_ ≠ (.slice (some ad407) t403.length co20 : Value).ownBlock) (.slice (some ⟨go17, 0, none⟩) x7_1.length co10) y408 := (by rw [hw, Ny408.out]; exact HP21.1); clear HP21; replace BK399 := Aside0.mk (blk_grown (g := gb399) (o := .cells #[.slice A0_0 l0_0.length c0_0, .slice A0_1 l0_1.length c0_1] 25 (0, 0)) (zk BK399.out) hg (Kd.R_ne HO_7.out BK399.out (by decide))); replace HO_7 := Aside0.mk (hp_); replace HO405 := Aside0.mk (Kd.R_after (v := (.slice (some ⟨go17, 0, none⟩) x7_1.length co10)) (v1 := (.slice (some ⟨go17, 0, none⟩) x7_1.length co10)) (ok := (fun _ => True)) (zr HO405.out) hg (.inl rfl)); replace HB := Aside0.mk ((by rw [hw]; exact below_set (HB.out) GB17.out : Below w.heap.size w w22)); clear hg hw hp_))
   (try simp only [← hl7_1])
   go_roundg k1
   case measure => have := HK1.out; omega
   case rel => exact ⟨(y408), (wrap64 (x17_1 + 1)), rs, H', ⟨by have := HK1.out; omega⟩, ⟨by (try simp only [hl7_1]); (with_reducible repeat (first | apply Kd.R_alloc | apply Kd.R_drewN | apply Kd.R_drew)); exact Kd.R_mono HO_7.out (fun _ hk => trivial)⟩, ⟨by (try simp only [hl7_1]); (with_reducible repeat (first | refine blk_drewN ?_ _ | refine blk_drew ?_ | refine blk_alloc ?_ _)); exact BK399.out⟩, ⟨by repeat (first | (with_reducible first | exact HB.out | apply below_alloc | apply pw_below_drewN | apply below_drew1 | refine below_set ?_ GE399.out) | exact HB.out)⟩⟩
/-! ### stillageref06_Same: function 17 -/
mutual
def stillageref06_Same.j0 : Nat → Bool → List (S47) → List (S38) → List (S47) → List (S38) → Option (Bool)
 | 0, _, _, _, _, _ => none
 | k + 1, x22, x410000, x410001, x411000, x411001 => if x22 = true then (some false) else (stillageref06_Same.l0 k (x410000.length : Int) 0 x410000 x410001 x411000 x411001)
def stillageref06_Same.l0 : Nat → Int → Int → List (S47) → List (S38) → List (S47) → List (S38) → Option (Bool)
 | 0, _, _, _, _, _, _ => none
 | k + 1, x25, x26, x410000, x410001, x411000, x411001 => if x26 < x25 then (if 0 ≤ x26 then (if x26 < (x410000.length : Int) then (if x26 < (x411000.length : Int) then (if (!((((rd_T47 x410000 x26).f0).toList) == (((rd_T47 x411000 x26).f0).toList)) || (!(((rd_T47 x410000 x26).f1) == ((rd_T47 x411000 x26).f1)) || (!(((rd_T47 x410000 x26).f2) == ((rd_T47 x411000 x26).f2))))) = true then (some false) else (stillageref06_Same.l0 k x25 (wrap64 (x26 + 1)) x410000 x410001 x411000 x411001)) else (none)) else (none)) else (none)) else (stillageref06_Same.l1 k (x410001.length : Int) 0 x410000 x410001 x411000 x411001)
def stillageref06_Same.l1 : Nat → Int → Int → List (S47) → List (S38) → List (S47) → List (S38) → Option (Bool)
 | 0, _, _, _, _, _, _ => none
 | k + 1, x43, x44, x410000, x410001, x411000, x411001 => if x44 < x43 then (if 0 ≤ x44 then (if x44 < (x410001.length : Int) then (if x44 < (x411001.length : Int) then (if (!(((rd_T38 x410001 x44).f0) == ((rd_T38 x411001 x44).f0)) || (!(((rd_T38 x410001 x44).f1) == ((rd_T38 x411001 x44).f1)))) = true then (some false) else (stillageref06_Same.l1 k x43 (wrap64 (x44 + 1)) x410000 x410001 x411000 x411001)) else (none)) else (none)) else (none)) else (some true)
end
def stillageref06_Same.f (k : Nat) (l0_0 : List (S47)) (l0_1 : List (S38)) (l1_0 : List (S47)) (l1_1 : List (S38)) : Option (Bool) := if (l0_0.length : Int) = (l1_0.length : Int) then (stillageref06_Same.j0 k ((l0_1.length : Int) != (l1_1.length : Int)) l0_0 l0_1 l1_0 l1_1) else (stillageref06_Same.j0 k true l0_0 l0_1 l1_0 l1_1)
theorem stillageref06_Same.mono_l : ∀ k, (∀ y0 y1 y2 y3 y4, LeO (stillageref06_Same.j0 k y0 y1 y2 y3 y4) (stillageref06_Same.j0 (k + 1) y0 y1 y2 y3 y4)) ∧ (∀ y0 y1 y2 y3 y4 y5, LeO (stillageref06_Same.l0 k y0 y1 y2 y3 y4 y5) (stillageref06_Same.l0 (k + 1) y0 y1 y2 y3 y4 y5)) ∧ (∀ y0 y1 y2 y3 y4 y5, LeO (stillageref06_Same.l1 k y0 y1 y2 y3 y4 y5) (stillageref06_Same.l1 (k + 1) y0 y1 y2 y3 y4 y5))
 | 0 => ⟨fun _ _ _ _ _ r h => by simp [stillageref06_Same.j0] at h, fun _ _ _ _ _ _ r h => by simp [stillageref06_Same.l0] at h, fun _ _ _ _ _ _ r h => by simp [stillageref06_Same.l1] at h⟩
 | k + 1 => by
  obtain ⟨ih0, ih1, ih2⟩ := stillageref06_Same.mono_l k
  refine ⟨?_, ?_, ?_⟩
  ·intro y0 y1 y2 y3 y4
   unfold stillageref06_Same.j0
   repeat' first
   | (with_reducible exact ih0 _ _ _ _ _)
   | (with_reducible exact ih1 _ _ _ _ _ _)
   | (with_reducible exact ih2 _ _ _ _ _ _)
   | (with_reducible exact LeO.refl _)
   | (with_reducible exact LeO.none _)
   | (with_reducible refine LeO.ite ?_ ?_)
   | (with_reducible refine LeO.bind ?_ (fun _ => ?_))
   | exact ih0 _ _ _ _ _
   | exact ih1 _ _ _ _ _ _
   | exact ih2 _ _ _ _ _ _
   | exact LeO.none _
   | refine LeO.ite ?_ ?_
   | refine LeO.bind ?_ (fun _ => ?_)
  ·intro y0 y1 y2 y3 y4 y5
   unfold stillageref06_Same.l0
   repeat' first
   | (with_reducible exact ih0 _ _ _ _ _)
   | (with_reducible exact ih1 _ _ _ _ _ _)
   | (with_reducible exact ih2 _ _ _ _ _ _)
   | (with_reducible exact LeO.refl _)
   | (with_reducible exact LeO.none _)
   | (with_reducible refine LeO.ite ?_ ?_)
   | (with_reducible refine LeO.bind ?_ (fun _ => ?_))
   | exact ih0 _ _ _ _ _
   | exact ih1 _ _ _ _ _ _
   | exact ih2 _ _ _ _ _ _
   | exact LeO.none _
   | refine LeO.ite ?_ ?_
   | refine LeO.bind ?_ (fun _ => ?_)
  ·intro y0 y1 y2 y3 y4 y5
   unfold stillageref06_Same.l1
   repeat' first
   | (with_reducible exact ih0 _ _ _ _ _)
   | (with_reducible exact ih1 _ _ _ _ _ _)
   | (with_reducible exact ih2 _ _ _ _ _ _)
   | (with_reducible exact LeO.refl _)
   | (with_reducible exact LeO.none _)
   | (with_reducible refine LeO.ite ?_ ?_)
   | (with_reducible refine LeO.bind ?_ (fun _ => ?_))
   | exact ih0 _ _ _ _ _
   | exact ih1 _ _ _ _ _ _
   | exact ih2 _ _ _ _ _ _
   | exact LeO.none _
   | refine LeO.ite ?_ ?_
   | refine LeO.bind ?_ (fun _ => ?_)
theorem stillageref06_Same.mono : ∀ a0 a1 a2 a3 k, LeO (stillageref06_Same.f k a0 a1 a2 a3) (stillageref06_Same.f (k + 1) a0 a1 a2 a3) := by
 intro a0 a1 a2 a3 k
 obtain ⟨ih0, ih1, ih2⟩ := stillageref06_Same.mono_l k
 unfold stillageref06_Same.f
 repeat' first
   | (with_reducible exact ih0 _ _ _ _ _)
   | (with_reducible exact ih1 _ _ _ _ _ _)
   | (with_reducible exact ih2 _ _ _ _ _ _)
   | (with_reducible exact LeO.refl _)
   | (with_reducible exact LeO.none _)
   | (with_reducible refine LeO.ite ?_ ?_)
   | (with_reducible refine LeO.bind ?_ (fun _ => ?_))
   | exact ih0 _ _ _ _ _
   | exact ih1 _ _ _ _ _ _
   | exact ih2 _ _ _ _ _ _
   | exact LeO.none _
   | refine LeO.ite ?_ ?_
   | refine LeO.bind ?_ (fun _ => ?_)
set_option maxHeartbeats 8000000 in
set_option maxRecDepth 100000 in
theorem stillageref06_Same.calls (k : Nat) (A0_0 : Option Addr) (c0_0 : Nat) (l0_0 : List (S47)) (A0_1 : Option Addr) (c0_1 : Nat) (l0_1 : List (S38)) (A1_0 : Option Addr) (c1_0 : Nat) (l1_0 : List (S47)) (A1_1 : Option Addr) (c1_1 : Nat) (l1_1 : List (S38)) (r : Bool) (w : World) (hr0_0 : Kd.C k47 w A0_0 l0_0.length l0_0) (hc0_0 : l0_0.length ≤ c0_0) (hr0_1 : Kd.C k38 w A0_1 l0_1.length l0_1) (hc0_1 : l0_1.length ≤ c0_1) (hr1_0 : Kd.C k47 w A1_0 l1_0.length l1_0) (hc1_0 : l1_0.length ≤ c1_0) (hr1_1 : Kd.C k38 w A1_1 l1_1.length l1_1) (hc1_1 : l1_1.length ≤ c1_1) (h : stillageref06_Same.f k l0_0 l0_1 l1_0 l1_1 = some r) :
  Calls Try.prog 17 #[.agg #[.slice A0_0 l0_0.length c0_0, .slice A0_1 l0_1.length c0_1], .agg #[.slice A1_0 l1_0.length c1_0, .slice A1_1 l1_1.length c1_1]] w fun e w' => e = .returned (.bool r) ∧ Below w.heap.size w w' := by
 have hu25 := Try.underlying25
 have hu47 := Try.underlying47
 have hu38 := Try.underlying38
 have HR0_0 := Aside0.mk hr0_0
 have HC0_0 := Aside0.mk hc0_0
 clear hr0_0 hc0_0
 have HR0_1 := Aside0.mk hr0_1
 have HC0_1 := Aside0.mk hc0_1
 clear hr0_1 hc0_1
 have HR1_0 := Aside0.mk hr1_0
 have HC1_0 := Aside0.mk hc1_0
 clear hr1_0 hc1_0
 have HR1_1 := Aside0.mk hr1_1
 have HC1_1 := Aside0.mk hc1_1
 clear hr1_1 hc1_1
 have HB := Aside0.mk (Below.refl w.heap.size w)
 have H : (if (l0_0.length : Int) = (l1_0.length : Int) then (stillageref06_Same.j0 k ((l0_1.length : Int) != (l1_1.length : Int)) l0_0 l0_1 l1_0 l1_1) else (stillageref06_Same.j0 k true l0_0 l0_1 l1_0 l1_1)) = some r := h
 clear h
 have HC3 := Aside0.mk H
 clear H
 go_enter Try.func17, Try.ntmps17
 go_upto_region 1 with (first | ((with_reducible refine gate_dst (N := 2) rfl ?_); (try (refine gate_guard (by rfl) ?_; dsimp only)); refine box_event ?hg (N := 2) ?hd (cs := #[.slice A0_0 l0_0.length c0_0, .slice A0_1 l0_1.length c0_1]) (t := 25) ?hr ?_; (case hd => rfl); (case hg => rfl); (case hr => first | (go_simp; done) | (go_simp; rfl)); intro gb409 hg w4 hbox hb; have BK409 := Aside0.mk (hbox); have GW409 := Aside0.mk ((by rw [hg]; exact (below_size (zb0 HB.out)) : w.heap.size ≤ gb409)); have GE409 := Aside0.mk ((by rw [hg]; exact (below_size (zb0 HB.out)) : w.heap.size ≤ gb409)); replace HB := Aside0.mk (below_step (zb0 HB.out) hb); clear hb hbox hg) | ((with_reducible refine gate_dst (N := 3) rfl ?_); (try (refine gate_guard (by rfl) ?_; dsimp only)); refine box_event ?hg (N := 3) ?hd (cs := #[.slice A1_0 l1_0.length c1_0, .slice A1_1 l1_1.length c1_1]) (t := 25) ?hr ?_; (case hd => rfl); (case hg => rfl); (case hr => first | (go_simp; done) | (go_simp; rfl)); intro gb410 hg w5 hbox hb; have BK410 := Aside0.mk (hbox); have GW410 := Aside0.mk ((by rw [hg]; exact (below_size (zb1 HB.out GE409.out)) : w.heap.size ≤ gb410)); have GE410 := Aside0.mk ((by rw [hg]; exact (below_size (zb1 HB.out GE409.out)) : w.heap.size ≤ gb410)); replace HB := Aside0.mk (below_step (zb1 HB.out GE409.out) hb); have NB409_410 := Aside0.mk ((by rw [hg]; exact Nat.ne_of_lt (blk_lt (g := gb409) (o := .cells #[.slice A0_0 l0_0.length c0_0, .slice A0_1 l0_1.length c0_1] 25 (0, 0)) (zk BK409.out)) : gb409 ≠ gb410)); have NB410_409 := Aside0.mk ((by rw [hg]; exact Nat.ne_of_gt (blk_lt (g := gb409) (o := .cells #[.slice A0_0 l0_0.length c0_0, .slice A0_1 l0_1.length c0_1] 25 (0, 0)) (zk BK409.out)) : gb410 ≠ gb409)); replace BK409 := Aside0.mk (blk_below (g := gb409) (o := .cells #[.slice A0_0 l0_0.length c0_0, .slice A0_1 l0_1.length c0_1] 25 (0, 0)) (zk BK409.out) hb); clear hb hbox hg))
 repeat (go_quiet (first | ((with_reducible refine gate_dst (N := 2) rfl ?_); (try (refine gate_guard (by rfl) ?_; dsimp only)); refine box_event ?hg (N := 2) ?hd (cs := #[.slice A0_0 l0_0.length c0_0, .slice A0_1 l0_1.length c0_1]) (t := 25) ?hr ?_; (case hd => rfl); (case hg => rfl); (case hr => first | (go_simp; done) | (go_simp; rfl)); intro gb409 hg w4 hbox hb; have BK409 := Aside0.mk (hbox); have GW409 := Aside0.mk ((by rw [hg]; exact (below_size (zb0 HB.out)) : w.heap.size ≤ gb409)); have GE409 := Aside0.mk ((by rw [hg]; exact (below_size (zb0 HB.out)) : w.heap.size ≤ gb409)); replace HB := Aside0.mk (below_step (zb0 HB.out) hb); clear hb hbox hg) | ((with_reducible refine gate_dst (N := 3) rfl ?_); (try (refine gate_guard (by rfl) ?_; dsimp only)); refine box_event ?hg (N := 3) ?hd (cs := #[.slice A1_0 l1_0.length c1_0, .slice A1_1 l1_1.length c1_1]) (t := 25) ?hr ?_; (case hd => rfl); (case hg => rfl); (case hr => first | (go_simp; done) | (go_simp; rfl)); intro gb410 hg w5 hbox hb; have BK410 := Aside0.mk (hbox); have GW410 := Aside0.mk ((by rw [hg]; exact (below_size (zb1 HB.out GE409.out)) : w.heap.size ≤ gb410)); have GE410 := Aside0.mk ((by rw [hg]; exact (below_size (zb1 HB.out GE409.out)) : w.heap.size ≤ gb410)); replace HB := Aside0.mk (below_step (zb1 HB.out GE409.out) hb); have NB409_410 := Aside0.mk ((by rw [hg]; exact Nat.ne_of_lt (blk_lt (g := gb409) (o := .cells #[.slice A0_0 l0_0.length c0_0, .slice A0_1 l0_1.length c0_1] 25 (0, 0)) (zk BK409.out)) : gb409 ≠ gb410)); have NB410_409 := Aside0.mk ((by rw [hg]; exact Nat.ne_of_gt (blk_lt (g := gb409) (o := .cells #[.slice A0_0 l0_0.length c0_0, .slice A0_1 l0_1.length c0_1] 25 (0, 0)) (zk BK409.out)) : gb410 ≠ gb409)); replace BK409 := Aside0.mk (blk_below (g := gb409) (o := .cells #[.slice A0_0 l0_0.length c0_0, .slice A0_1 l0_1.length c0_1] 25 (0, 0)) (zk BK409.out) hb); clear hb hbox hg)); go_upto_region 1 with (first | ((with_reducible refine gate_dst (N := 2) rfl ?_); (try (refine gate_guard (by rfl) ?_; dsimp only)); refine box_event ?hg (N := 2) ?hd (cs := #[.slice A0_0 l0_0.length c0_0, .slice A0_1 l0_1.length c0_1]) (t := 25) ?hr ?_; (case hd => rfl); (case hg => rfl); (case hr => first | (go_simp; done) | (go_simp; rfl)); intro gb409 hg w4 hbox hb; have BK409 := Aside0.mk (hbox); have GW409 := Aside0.mk ((by rw [hg]; exact (below_size (zb0 HB.out)) : w.heap.size ≤ gb409)); have GE409 := Aside0.mk ((by rw [hg]; exact (below_size (zb0 HB.out)) : w.heap.size ≤ gb409)); replace HB := Aside0.mk (below_step (zb0 HB.out) hb); clear hb hbox hg) | ((with_reducible refine gate_dst (N := 3) rfl ?_); (try (refine gate_guard (by rfl) ?_; dsimp only)); refine box_event ?hg (N := 3) ?hd (cs := #[.slice A1_0 l1_0.length c1_0, .slice A1_1 l1_1.length c1_1]) (t := 25) ?hr ?_; (case hd => rfl); (case hg => rfl); (case hr => first | (go_simp; done) | (go_simp; rfl)); intro gb410 hg w5 hbox hb; have BK410 := Aside0.mk (hbox); have GW410 := Aside0.mk ((by rw [hg]; exact (below_size (zb1 HB.out GE409.out)) : w.heap.size ≤ gb410)); have GE410 := Aside0.mk ((by rw [hg]; exact (below_size (zb1 HB.out GE409.out)) : w.heap.size ≤ gb410)); replace HB := Aside0.mk (below_step (zb1 HB.out GE409.out) hb); have NB409_410 := Aside0.mk ((by rw [hg]; exact Nat.ne_of_lt (blk_lt (g := gb409) (o := .cells #[.slice A0_0 l0_0.length c0_0, .slice A0_1 l0_1.length c0_1] 25 (0, 0)) (zk BK409.out)) : gb409 ≠ gb410)); have NB410_409 := Aside0.mk ((by rw [hg]; exact Nat.ne_of_gt (blk_lt (g := gb409) (o := .cells #[.slice A0_0 l0_0.length c0_0, .slice A0_1 l0_1.length c0_1] 25 (0, 0)) (zk BK409.out)) : gb410 ≠ gb409)); replace BK409 := Aside0.mk (blk_below (g := gb409) (o := .cells #[.slice A0_0 l0_0.length c0_0, .slice A0_1 l0_1.length c0_1] 25 (0, 0)) (zk BK409.out) hb); clear hb hbox hg)))
 (try simp only [Act.put, List.setIfInBounds_toArray, List.set_cons_zero, List.set_cons_succ])
 go_cut [22] (fun v22 wc => ∃ (kq : Nat) (x22_2 : Bool), v22 = .bool x22_2 ∧ Aside0 (stillageref06_Same.j0 kq x22_2 l0_0 l0_1 l1_0 l1_1 = some r) ∧ Aside0 (kq ≤ k) ∧ Aside0 (wc.heap[gb409]? = some (.cells #[(.slice A0_0 l0_0.length c0_0), (.slice A0_1 l0_1.length c0_1)] 25 (0, 0))) ∧ Aside0 (wc.heap[gb410]? = some (.cells #[(.slice A1_0 l1_0.length c1_0), (.slice A1_1 l1_1.length c1_1)] 25 (0, 0))) ∧ Aside0 (Below w.heap.size w wc))
 case first =>
  have H := HC3.out
  clear HC3
  by_cases c6 : (l0_0.length : Int) = (l1_0.length : Int)
  rotate_left
  ·rw [if_neg c6] at H
   have c6b0 : ((l0_0.length : Int) == (l1_0.length : Int)) = false := beq_eq_false_iff_ne.mpr c6
   have c6b1 : ((l0_0.length : Int) != (l1_0.length : Int)) = true := bne_iff_ne.mpr c6
   have c6b2 : (l0_0.length == l1_0.length) = false := by first | simpa using c6 | (simp at c6 ⊢; omega)
   (first | rw [c6b0] | (simp only [i64_w, i32_w]; rw [c6b0]) | skip)
   have H' := Aside0.mk H; clear H
   have hnb10 := NB409_410.out
   have hnc10 := NB410_409.out
   have hcz11_0 : w5.cell? ⟨gb409, 0, none⟩ = some (.slice A0_0 l0_0.length c0_0) := (blk_cell BK409.out 0).trans rfl
   have hcz11_1 : w5.cell? ⟨gb409, 1, none⟩ = some (.slice A0_1 l0_1.length c0_1) := (blk_cell BK409.out 1).trans rfl
   have hfz11_0 := blk_frozen BK409.out 0
   have hfz11_1 := blk_frozen BK409.out 1
   have hcz12_0 : w5.cell? ⟨gb410, 0, none⟩ = some (.slice A1_0 l1_0.length c1_0) := (blk_cell BK410.out 0).trans rfl
   have hcz12_1 : w5.cell? ⟨gb410, 1, none⟩ = some (.slice A1_1 l1_1.length c1_1) := (blk_cell BK410.out 1).trans rfl
   have hfz12_0 := blk_frozen BK410.out 0
   have hfz12_1 := blk_frozen BK410.out 1
   go_wp2
   repeat (go_quiet (fail); try go_wp2)
   go_meet
   case rel => exact ⟨_, (true), rs, H', ⟨by first | omega | exact Nat.le_refl _⟩, ⟨by (with_reducible repeat (first | refine blk_drewN ?_ _ | refine blk_drew ?_ | refine blk_alloc ?_ _)); exact BK409.out⟩, ⟨by (with_reducible repeat (first | refine blk_drewN ?_ _ | refine blk_drew ?_ | refine blk_alloc ?_ _)); exact BK410.out⟩, ⟨by repeat (first | (with_reducible first | exact HB.out | apply below_alloc | apply pw_below_drewN | apply below_drew1 | refine below_set ?_ GE409.out | refine below_set ?_ GE410.out) | exact HB.out)⟩⟩
  rw [if_pos c6] at H
  have c6b0 : ((l0_0.length : Int) == (l1_0.length : Int)) = true := beq_iff_eq.mpr c6
  have c6b1 : ((l0_0.length : Int) != (l1_0.length : Int)) = false := bne_eq_false_iff_eq.mpr c6
  have c6b2 : (l0_0.length == l1_0.length) = true := by first | simpa using c6 | (simp at c6 ⊢; omega)
  clear c6
  (first | rw [c6b0] | (simp only [i64_w, i32_w]; rw [c6b0]) | skip)
  have H' := Aside0.mk H; clear H
  have hnb7 := NB409_410.out
  have hnc7 := NB410_409.out
  have hcz8_0 : w5.cell? ⟨gb409, 0, none⟩ = some (.slice A0_0 l0_0.length c0_0) := (blk_cell BK409.out 0).trans rfl
  have hcz8_1 : w5.cell? ⟨gb409, 1, none⟩ = some (.slice A0_1 l0_1.length c0_1) := (blk_cell BK409.out 1).trans rfl
  have hfz8_0 := blk_frozen BK409.out 0
  have hfz8_1 := blk_frozen BK409.out 1
  have hcz9_0 : w5.cell? ⟨gb410, 0, none⟩ = some (.slice A1_0 l1_0.length c1_0) := (blk_cell BK410.out 0).trans rfl
  have hcz9_1 : w5.cell? ⟨gb410, 1, none⟩ = some (.slice A1_1 l1_1.length c1_1) := (blk_cell BK410.out 1).trans rfl
  have hfz9_0 := blk_frozen BK410.out 0
  have hfz9_1 := blk_frozen BK410.out 1
  go_wp2
  repeat (go_quiet (fail); try go_wp2)
  go_meet
  case rel => exact ⟨_, (((l0_1.length : Int) != (l1_1.length : Int))), rs, H', ⟨by first | omega | exact Nat.le_refl _⟩, ⟨by (with_reducible repeat (first | refine blk_drewN ?_ _ | refine blk_drew ?_ | refine blk_alloc ?_ _)); exact BK409.out⟩, ⟨by (with_reducible repeat (first | refine blk_drewN ?_ _ | refine blk_drew ?_ | refine blk_alloc ?_ _)); exact BK410.out⟩, ⟨by repeat (first | (with_reducible first | exact HB.out | apply below_alloc | apply pw_below_drewN | apply below_drew1 | refine below_set ?_ GE409.out | refine below_set ?_ GE410.out) | exact HB.out)⟩⟩
 case rest =>
  clear HC3
  obtain ⟨kq, x22_2, rfl, HA, HJ2, BK409, BK410, HB⟩ := hcut
  cases kq with
  | zero => exact absurd HA.out (by simp [stillageref06_Same.j0])
  | succ kj2 =>
   have H := HA.out
   clear HA
   simp only [stillageref06_Same.j0] at H
   by_cases c13 : x22_2 = true
   ·subst c13
    have H1 : (some false) = some r := by rw [if_pos rfl] at H; exact H
    clear H; have H := H1; clear H1
    obtain rfl := Option.some.inj H
    go_wp2
    repeat (go_quiet (fail); try go_wp2)
    go_ret
    exact ⟨by first | rfl | (simp [errW_none, errW_some] <;> rfl) | (simp [*, errW_none, errW_some] <;> rfl), by repeat (first | (with_reducible first | exact HB.out | apply below_alloc | apply pw_below_drewN | apply below_drew1 | refine below_set ?_ GE409.out | refine below_set ?_ GE410.out) | exact HB.out)⟩
   replace c13 := Bool.eq_false_iff.mpr c13
   subst c13
   have H1 : (stillageref06_Same.l0 kj2 (l0_0.length : Int) 0 l0_0 l0_1 l1_0 l1_1) = some r := by rw [if_neg (show ¬ (false = true) by decide)] at H; exact H
   clear H; have H := H1; clear H1
   have H' := Aside0.mk H; clear H
   have hnb14 := NB409_410.out
   have hnc14 := NB410_409.out
   have hcz15_0 : wc.cell? ⟨gb409, 0, none⟩ = some (.slice A0_0 l0_0.length c0_0) := (blk_cell BK409.out 0).trans rfl
   have hcz15_1 : wc.cell? ⟨gb409, 1, none⟩ = some (.slice A0_1 l0_1.length c0_1) := (blk_cell BK409.out 1).trans rfl
   have hfz15_0 := blk_frozen BK409.out 0
   have hfz15_1 := blk_frozen BK409.out 1
   go_wp2
   repeat (go_quiet (fail); try go_wp2)
   go_loopg [26] kj2 (fun kq v26 w' => ∃ (x26_2 : Int), v26 = .int .i64 x26_2 ∧ Aside0 (stillageref06_Same.l0 kq (l0_0.length : Int) x26_2 l0_0 l0_1 l1_0 l1_1 = some r) ∧ Aside0 (kq ≤ kj2) ∧ Aside0 (w'.heap[gb409]? = some (.cells #[(.slice A0_0 l0_0.length c0_0), (.slice A0_1 l0_1.length c0_1)] 25 (0, 0))) ∧ Aside0 (w'.heap[gb410]? = some (.cells #[(.slice A1_0 l1_0.length c1_0), (.slice A1_1 l1_1.length c1_1)] 25 (0, 0))) ∧ Aside0 (Below w.heap.size w w'))
   case atStart => exact ⟨(0), rs, H', ⟨Nat.le_refl _⟩, ⟨by (with_reducible repeat (first | refine blk_drewN ?_ _ | refine blk_drew ?_ | refine blk_alloc ?_ _)); exact BK409.out⟩, ⟨by (with_reducible repeat (first | refine blk_drewN ?_ _ | refine blk_drew ?_ | refine blk_alloc ?_ _)); exact BK410.out⟩, ⟨by repeat (first | (with_reducible first | exact HB.out | apply below_alloc | apply pw_below_drewN | apply below_drew1 | refine below_set ?_ GE409.out | refine below_set ?_ GE410.out) | exact HB.out)⟩⟩
   case round =>
    clear H'
    obtain ⟨x26_2, rfl, HA, HK2, BK409, BK410, HB⟩ := hrel
    cases gk with
    | zero => exact absurd HA.out (by simp [stillageref06_Same.l0])
    | succ k2 =>
     have H := HA.out
     clear HA
     simp only [stillageref06_Same.l0] at H
     by_cases c16 : x26_2 < (l0_0.length : Int)
     ·rw [if_pos c16] at H
      have c16b0 : decide (x26_2 < (l0_0.length : Int)) = true := decide_eq_true c16
      clear c16
      by_cases c17 : 0 ≤ x26_2
      rotate_left; ·rw [if_neg c17] at H; exact absurd H (by simp)
      rw [if_pos c17] at H
      have c17b0 : decide (0 ≤ x26_2) = true := decide_eq_true c17
      clear c17
      by_cases c18 : x26_2 < (l0_0.length : Int)
      rotate_left; ·rw [if_neg c18] at H; exact absurd H (by simp)
      rw [if_pos c18] at H
      have c18b0 : decide (x26_2 < (l0_0.length : Int)) = true := decide_eq_true c18
      clear c18
      by_cases c19 : x26_2 < (l1_0.length : Int)
      rotate_left; ·rw [if_neg c19] at H; exact absurd H (by simp)
      rw [if_pos c19] at H
      have c19b0 : decide (x26_2 < (l1_0.length : Int)) = true := decide_eq_true c19
      clear c19
      by_cases c20 : (!((((rd_T47 l0_0 x26_2).f0).toList) == (((rd_T47 l1_0 x26_2).f0).toList)) || (!(((rd_T47 l0_0 x26_2).f1) == ((rd_T47 l1_0 x26_2).f1)) || (!(((rd_T47 l0_0 x26_2).f2) == ((rd_T47 l1_0 x26_2).f2))))) = true
      ·rw [if_pos c20] at H
       have c20b0 : (!((((rd_T47 l0_0 x26_2).f0).toList) == (((rd_T47 l1_0 x26_2).f0).toList)) || (!(((rd_T47 l0_0 x26_2).f1) == ((rd_T47 l1_0 x26_2).f1)) || (!(((rd_T47 l0_0 x26_2).f2) == ((rd_T47 l1_0 x26_2).f2))))) = true := c20
       clear c20
       obtain rfl := Option.some.inj H
       have hnb21 := NB409_410.out
       have hnc21 := NB410_409.out
       have hcz22_0 : wr.cell? ⟨gb409, 0, none⟩ = some (.slice A0_0 l0_0.length c0_0) := (blk_cell BK409.out 0).trans rfl
       have hcz22_1 : wr.cell? ⟨gb409, 1, none⟩ = some (.slice A0_1 l0_1.length c0_1) := (blk_cell BK409.out 1).trans rfl
       have hfz22_0 := blk_frozen BK409.out 0
       have hfz22_1 := blk_frozen BK409.out 1
       have p411 : 0 ≤ (x26_2 : Int) := oda
       have q411 : x26_2 < (l0_0.length : Int) := oda
       obtain ⟨ad411, e411, hx411_0, hx411_1, hx411_2⟩ := at_T47 HR0_0.out x26_2 p411 q411
       cases e411
       replace hx411_0 := (HB.out.cell (World.block_lt_of_cell? w _ hx411_0)).trans hx411_0
       replace hx411_1 := (HB.out.cell (World.block_lt_of_cell? w _ hx411_1)).trans hx411_1
       replace hx411_2 := (HB.out.cell (World.block_lt_of_cell? w _ hx411_2)).trans hx411_2
       replace p411 := eq_true p411
       replace q411 := eq_true q411
       have hcz23_0 : wr.cell? ⟨gb410, 0, none⟩ = some (.slice A1_0 l1_0.length c1_0) := (blk_cell BK410.out 0).trans rfl
       have hcz23_1 : wr.cell? ⟨gb410, 1, none⟩ = some (.slice A1_1 l1_1.length c1_1) := (blk_cell BK410.out 1).trans rfl
       have hfz23_0 := blk_frozen BK410.out 0
       have hfz23_1 := blk_frozen BK410.out 1
       have p412 : 0 ≤ (x26_2 : Int) := oda
       have q412 : x26_2 < (l1_0.length : Int) := oda
       obtain ⟨ad412, e412, hx412_0, hx412_1, hx412_2⟩ := at_T47 HR1_0.out x26_2 p412 q412
       cases e412
       replace hx412_0 := (HB.out.cell (World.block_lt_of_cell? w _ hx412_0)).trans hx412_0
       replace hx412_1 := (HB.out.cell (World.block_lt_of_cell? w _ hx412_1)).trans hx412_1
       replace hx412_2 := (HB.out.cell (World.block_lt_of_cell? w _ hx412_2)).trans hx412_2
       replace p412 := eq_true p412
       replace q412 := eq_true q412
       go_wp2
       repeat (go_quiet (fail); try go_wp2)
       go_ret
       exact ⟨by first | rfl | (simp [errW_none, errW_some] <;> rfl) | (simp [*, errW_none, errW_some] <;> rfl), by repeat (first | (with_reducible first | exact HB.out | apply below_alloc | apply pw_below_drewN | apply below_drew1 | refine below_set ?_ GE409.out | refine below_set ?_ GE410.out) | exact HB.out)⟩
      rw [if_neg c20] at H
      have c20b0 : (!((((rd_T47 l0_0 x26_2).f0).toList) == (((rd_T47 l1_0 x26_2).f0).toList)) || (!(((rd_T47 l0_0 x26_2).f1) == ((rd_T47 l1_0 x26_2).f1)) || (!(((rd_T47 l0_0 x26_2).f2) == ((rd_T47 l1_0 x26_2).f2))))) = false := by simpa using c20
      clear c20
      have H' := Aside0.mk H; clear H
      have hnb24 := NB409_410.out
      have hnc24 := NB410_409.out
      have hcz25_0 : wr.cell? ⟨gb409, 0, none⟩ = some (.slice A0_0 l0_0.length c0_0) := (blk_cell BK409.out 0).trans rfl
      have hcz25_1 : wr.cell? ⟨gb409, 1, none⟩ = some (.slice A0_1 l0_1.length c0_1) := (blk_cell BK409.out 1).trans rfl
      have hfz25_0 := blk_frozen BK409.out 0
      have hfz25_1 := blk_frozen BK409.out 1
      have p411 : 0 ≤ (x26_2 : Int) := oda
      have q411 : x26_2 < (l0_0.length : Int) := oda
      obtain ⟨ad411, e411, hx411_0, hx411_1, hx411_2⟩ := at_T47 HR0_0.out x26_2 p411 q411
      cases e411
      replace hx411_0 := (HB.out.cell (World.block_lt_of_cell? w _ hx411_0)).trans hx411_0
      replace hx411_1 := (HB.out.cell (World.block_lt_of_cell? w _ hx411_1)).trans hx411_1
      replace hx411_2 := (HB.out.cell (World.block_lt_of_cell? w _ hx411_2)).trans hx411_2
      replace p411 := eq_true p411
      replace q411 := eq_true q411
      have hcz26_0 : wr.cell? ⟨gb410, 0, none⟩ = some (.slice A1_0 l1_0.length c1_0) := (blk_cell BK410.out 0).trans rfl
      have hcz26_1 : wr.cell? ⟨gb410, 1, none⟩ = some (.slice A1_1 l1_1.length c1_1) := (blk_cell BK410.out 1).trans rfl
      have hfz26_0 := blk_frozen BK410.out 0
      have hfz26_1 := blk_frozen BK410.out 1
      have p412 : 0 ≤ (x26_2 : Int) := oda
      have q412 : x26_2 < (l1_0.length : Int) := oda
      obtain ⟨ad412, e412, hx412_0, hx412_1, hx412_2⟩ := at_T47 HR1_0.out x26_2 p412 q412
      cases e412
      replace hx412_0 := (HB.out.cell (World.block_lt_of_cell? w _ hx412_0)).trans hx412_0
      replace hx412_1 := (HB.out.cell (World.block_lt_of_cell? w _ hx412_1)).trans hx412_1
      replace hx412_2 := (HB.out.cell (World.block_lt_of_cell? w _ hx412_2)).trans hx412_2
      replace p412 := eq_true p412
      replace q412 := eq_true q412
      go_wp2
      repeat (go_quiet (fail); try go_wp2)
      go_roundg k2
      case measure => have := HJ2.out; have := HK2.out; omega
      case rel => exact ⟨(wrap64 (x26_2 + 1)), rs, H', ⟨by have := HJ2.out; have := HK2.out; omega⟩, ⟨by (with_reducible repeat (first | refine blk_drewN ?_ _ | refine blk_drew ?_ | refine blk_alloc ?_ _)); exact BK409.out⟩, ⟨by (with_reducible repeat (first | refine blk_drewN ?_ _ | refine blk_drew ?_ | refine blk_alloc ?_ _)); exact BK410.out⟩, ⟨by repeat (first | (with_reducible first | exact HB.out | apply below_alloc | apply pw_below_drewN | apply below_drew1 | refine below_set ?_ GE409.out | refine below_set ?_ GE410.out) | exact HB.out)⟩⟩
     rw [if_neg c16] at H
     have c16b0 : decide (x26_2 < (l0_0.length : Int)) = false := decide_eq_false c16
     clear c16
     have H' := Aside0.mk H; clear H
     have hnb27 := NB409_410.out
     have hnc27 := NB410_409.out
     have hcz28_0 : wr.cell? ⟨gb409, 0, none⟩ = some (.slice A0_0 l0_0.length c0_0) := (blk_cell BK409.out 0).trans rfl
     have hcz28_1 : wr.cell? ⟨gb409, 1, none⟩ = some (.slice A0_1 l0_1.length c0_1) := (blk_cell BK409.out 1).trans rfl
     have hfz28_0 := blk_frozen BK409.out 0
     have hfz28_1 := blk_frozen BK409.out 1
     go_wp2
     repeat (go_quiet (fail); try go_wp2)
     go_loopg [44] k2 (fun kq v44 w' => ∃ (x44_3 : Int), v44 = .int .i64 x44_3 ∧ Aside0 (stillageref06_Same.l1 kq (l0_1.length : Int) x44_3 l0_0 l0_1 l1_0 l1_1 = some r) ∧ Aside0 (kq ≤ k2) ∧ Aside0 (w'.heap[gb409]? = some (.cells #[(.slice A0_0 l0_0.length c0_0), (.slice A0_1 l0_1.length c0_1)] 25 (0, 0))) ∧ Aside0 (w'.heap[gb410]? = some (.cells #[(.slice A1_0 l1_0.length c1_0), (.slice A1_1 l1_1.length c1_1)] 25 (0, 0))) ∧ Aside0 (Below w.heap.size w w'))
     case atStart => exact ⟨(0), rs, H', ⟨Nat.le_refl _⟩, ⟨by (with_reducible repeat (first | refine blk_drewN ?_ _ | refine blk_drew ?_ | refine blk_alloc ?_ _)); exact BK409.out⟩, ⟨by (with_reducible repeat (first | refine blk_drewN ?_ _ | refine blk_drew ?_ | refine blk_alloc ?_ _)); exact BK410.out⟩, ⟨by repeat (first | (with_reducible first | exact HB.out | apply below_alloc | apply pw_below_drewN | apply below_drew1 | refine below_set ?_ GE409.out | refine below_set ?_ GE410.out) | exact HB.out)⟩⟩
     case round =>
      clear H'
      obtain ⟨x44_3, rfl, HA, HK3, BK409, BK410, HB⟩ := hrel
      cases gk with
      | zero => exact absurd HA.out (by simp [stillageref06_Same.l1])
      | succ k3 =>
       have H := HA.out
       clear HA
       simp only [stillageref06_Same.l1] at H
       by_cases c29 : x44_3 < (l0_1.length : Int)
       rotate_left
       ·rw [if_neg c29] at H
        have c29b0 : decide (x44_3 < (l0_1.length : Int)) = false := decide_eq_false c29
        clear c29
        obtain rfl := Option.some.inj H
        go_wp2
        repeat (go_quiet (fail); try go_wp2)
        go_ret
        exact ⟨by first | rfl | (simp [errW_none, errW_some] <;> rfl) | (simp [*, errW_none, errW_some] <;> rfl), by repeat (first | (with_reducible first | exact HB.out | apply below_alloc | apply pw_below_drewN | apply below_drew1 | refine below_set ?_ GE409.out | refine below_set ?_ GE410.out) | exact HB.out)⟩

       rw [if_pos c29] at H
       have c29b0 : decide (x44_3 < (l0_1.length : Int)) = true := decide_eq_true c29
       clear c29
       by_cases c30 : 0 ≤ x44_3
       rotate_left; ·rw [if_neg c30] at H; exact absurd H (by simp)
       rw [if_pos c30] at H
       have c30b0 : decide (0 ≤ x44_3) = true := decide_eq_true c30
       clear c30
       by_cases c31 : x44_3 < (l0_1.length : Int)
       rotate_left; ·rw [if_neg c31] at H; exact absurd H (by simp)
       rw [if_pos c31] at H
       have c31b0 : decide (x44_3 < (l0_1.length : Int)) = true := decide_eq_true c31
       clear c31
       by_cases c32 : x44_3 < (l1_1.length : Int)
       rotate_left; ·rw [if_neg c32] at H; exact absurd H (by simp)
       rw [if_pos c32] at H
       have c32b0 : decide (x44_3 < (l1_1.length : Int)) = true := decide_eq_true c32
       clear c32
       by_cases c33 : (!(((rd_T38 l0_1 x44_3).f0) == ((rd_T38 l1_1 x44_3).f0)) || (!(((rd_T38 l0_1 x44_3).f1) == ((rd_T38 l1_1 x44_3).f1)))) = true
       ·rw [if_pos c33] at H
        have c33b0 : (!(((rd_T38 l0_1 x44_3).f0) == ((rd_T38 l1_1 x44_3).f0)) || (!(((rd_T38 l0_1 x44_3).f1) == ((rd_T38 l1_1 x44_3).f1)))) = true := c33
        clear c33
        obtain rfl := Option.some.inj H
        have hnb34 := NB409_410.out
        have hnc34 := NB410_409.out
        have hcz35_0 : wr.cell? ⟨gb409, 0, none⟩ = some (.slice A0_0 l0_0.length c0_0) := (blk_cell BK409.out 0).trans rfl
        have hcz35_1 : wr.cell? ⟨gb409, 1, none⟩ = some (.slice A0_1 l0_1.length c0_1) := (blk_cell BK409.out 1).trans rfl
        have hfz35_0 := blk_frozen BK409.out 0
        have hfz35_1 := blk_frozen BK409.out 1
        have p413 : 0 ≤ (x44_3 : Int) := oda
        have q413 : x44_3 < (l0_1.length : Int) := oda
        obtain ⟨ad413, e413, hx413_0, hx413_1⟩ := at_T38 HR0_1.out x44_3 p413 q413
        cases e413
        replace hx413_0 := (HB.out.cell (World.block_lt_of_cell? w _ hx413_0)).trans hx413_0
        replace hx413_1 := (HB.out.cell (World.block_lt_of_cell? w _ hx413_1)).trans hx413_1
        replace p413 := eq_true p413
        replace q413 := eq_true q413
        have hcz36_0 : wr.cell? ⟨gb410, 0, none⟩ = some (.slice A1_0 l1_0.length c1_0) := (blk_cell BK410.out 0).trans rfl
        have hcz36_1 : wr.cell? ⟨gb410, 1, none⟩ = some (.slice A1_1 l1_1.length c1_1) := (blk_cell BK410.out 1).trans rfl
        have hfz36_0 := blk_frozen BK410.out 0
        have hfz36_1 := blk_frozen BK410.out 1
        have p414 : 0 ≤ (x44_3 : Int) := oda
        have q414 : x44_3 < (l1_1.length : Int) := oda
        obtain ⟨ad414, e414, hx414_0, hx414_1⟩ := at_T38 HR1_1.out x44_3 p414 q414
        cases e414
        replace hx414_0 := (HB.out.cell (World.block_lt_of_cell? w _ hx414_0)).trans hx414_0
        replace hx414_1 := (HB.out.cell (World.block_lt_of_cell? w _ hx414_1)).trans hx414_1
        replace p414 := eq_true p414
        replace q414 := eq_true q414
        go_wp2
        repeat (go_quiet (fail); try go_wp2)
        go_ret
        exact ⟨by first | rfl | (simp [errW_none, errW_some] <;> rfl) | (simp [*, errW_none, errW_some] <;> rfl), by repeat (first | (with_reducible first | exact HB.out | apply below_alloc | apply pw_below_drewN | apply below_drew1 | refine below_set ?_ GE409.out | refine below_set ?_ GE410.out) | exact HB.out)⟩
       rw [if_neg c33] at H
       have c33b0 : (!(((rd_T38 l0_1 x44_3).f0) == ((rd_T38 l1_1 x44_3).f0)) || (!(((rd_T38 l0_1 x44_3).f1) == ((rd_T38 l1_1 x44_3).f1)))) = false := by simpa using c33
       clear c33
       have H' := Aside0.mk H; clear H
       have hnb37 := NB409_410.out
       have hnc37 := NB410_409.out
       have hcz38_0 : wr.cell? ⟨gb409, 0, none⟩ = some (.slice A0_0 l0_0.length c0_0) := (blk_cell BK409.out 0).trans rfl
       have hcz38_1 : wr.cell? ⟨gb409, 1, none⟩ = some (.slice A0_1 l0_1.length c0_1) := (blk_cell BK409.out 1).trans rfl
       have hfz38_0 := blk_frozen BK409.out 0
       have hfz38_1 := blk_frozen BK409.out 1
       have p413 : 0 ≤ (x44_3 : Int) := oda
       have q413 : x44_3 < (l0_1.length : Int) := oda
       obtain ⟨ad413, e413, hx413_0, hx413_1⟩ := at_T38 HR0_1.out x44_3 p413 q413
       cases e413
       replace hx413_0 := (HB.out.cell (World.block_lt_of_cell? w _ hx413_0)).trans hx413_0
       replace hx413_1 := (HB.out.cell (World.block_lt_of_cell? w _ hx413_1)).trans hx413_1
       replace p413 := eq_true p413
       replace q413 := eq_true q413
       have hcz39_0 : wr.cell? ⟨gb410, 0, none⟩ = some (.slice A1_0 l1_0.length c1_0) := (blk_cell BK410.out 0).trans rfl
       have hcz39_1 : wr.cell? ⟨gb410, 1, none⟩ = some (.slice A1_1 l1_1.length c1_1) := (blk_cell BK410.out 1).trans rfl
       have hfz39_0 := blk_frozen BK410.out 0
       have hfz39_1 := blk_frozen BK410.out 1
       have p414 : 0 ≤ (x44_3 : Int) := oda
       have q414 : x44_3 < (l1_1.length : Int) := oda
       obtain ⟨ad414, e414, hx414_0, hx414_1⟩ := at_T38 HR1_1.out x44_3 p414 q414
       cases e414
       replace hx414_0 := (HB.out.cell (World.block_lt_of_cell? w _ hx414_0)).trans hx414_0
       replace hx414_1 := (HB.out.cell (World.block_lt_of_cell? w _ hx414_1)).trans hx414_1
       replace p414 := eq_true p414
       replace q414 := eq_true q414
       go_wp2
       repeat (go_quiet (fail); try go_wp2)
       go_roundg k3
       case measure => have := HJ2.out; have := HK2.out; have := HK3.out; omega
       case rel => exact ⟨(wrap64 (x44_3 + 1)), rs, H', ⟨by have := HJ2.out; have := HK2.out; have := HK3.out; omega⟩, ⟨by (with_reducible repeat (first | refine blk_drewN ?_ _ | refine blk_drew ?_ | refine blk_alloc ?_ _)); exact BK409.out⟩, ⟨by (with_reducible repeat (first | refine blk_drewN ?_ _ | refine blk_drew ?_ | refine blk_alloc ?_ _)); exact BK410.out⟩, ⟨by repeat (first | (with_reducible first | exact HB.out | apply below_alloc | apply pw_below_drewN | apply below_drew1 | refine below_set ?_ GE409.out | refine below_set ?_ GE410.out) | exact HB.out)⟩⟩
end Go.Proofs.Ytbbdgndaaajejaa.PRouteTables
