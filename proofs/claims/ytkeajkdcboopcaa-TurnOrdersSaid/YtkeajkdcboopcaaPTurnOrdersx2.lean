-- Written by a program of this session (wip/oprint): after the pattern of the kit's print, which does not take this law. -- trimmed
import Derived.Test.YtkeajkdcboopcaaPTurnOrdersx0
import Derived.Test.YtkeajkdcboopcaaPTurnOrdersx1
namespace Go.Proofs.Ytkeajkdcboopcaa.PTurnOrders
open Go.RowKit Go.Proofs.YtkeajkdcboopcaaW.PrintWords Go.Proofs.YtkeajkdcboopcaaW.PrintLast Go.Proofs.YtkeajkdcboopcaaW.PrintMore
attribute [local go_sem] max2_int min2_int max_two min_two max_three min_three max_four min_four   -- for this text's walks alone
set_option linter.unusedVariables false
set_option linter.unusedSimpArgs false

/-! ### stillageref03_Order: function 8 -/
mutual
def stillageref03_Order.l0 : Nat → List Int → Int → List Int → Int → Option (List Int)
 | 0, _, _, _, _ => none
 | k + 1, x0, x1, x5, x6 => stillageref03_Order.l1 k x0 x1 x5 x6 65536 (x0.length : Int) 0
def stillageref03_Order.l1 : Nat → List Int → Int → List Int → Int → Int → Int → Int → Option (List Int)
 | 0, _, _, _, _, _, _, _ => none
 | k + 1, x0, x1, x5, x6, x7, x11, x12 => if x12 < x11 then (if 0 ≤ x12 then (if x12 < (x0.length : Int) then (if (Int.tmod (wrap64 ((wrap64 ((wrap64 (rd x0 x12)) - (wrap64 (x1)))) + 65536)) 65536) > x6 then (if (Int.tmod (wrap64 ((wrap64 ((wrap64 (rd x0 x12)) - (wrap64 (x1)))) + 65536)) 65536) < x7 then (stillageref03_Order.l1 k x0 x1 x5 x6 (Int.tmod (wrap64 ((wrap64 ((wrap64 (rd x0 x12)) - (wrap64 (x1)))) + 65536)) 65536) x11 (wrap64 (x12 + 1))) else (stillageref03_Order.l1 k x0 x1 x5 x6 x7 x11 (wrap64 (x12 + 1)))) else (stillageref03_Order.l1 k x0 x1 x5 x6 x7 x11 (wrap64 (x12 + 1)))) else (none)) else (none)) else (if x7 = 65536 then (some x5) else (if x5.length < 70368744177664 then (stillageref03_Order.l0 k x0 x1 (x5 ++ [IntKind.u16.wrap (Int.tmod (wrap64 (x7 + (wrap64 (x1)))) 65536)]) x7) else (none)))
end
def stillageref03_Order.f (k : Nat) (l0 : List Int) (a1 : Int) : Option (List Int) := stillageref03_Order.l0 k l0 a1 ([] : List Int) (-1)
theorem stillageref03_Order.mono_l : ∀ k, (∀ y0 y1 y2 y3, LeO (stillageref03_Order.l0 k y0 y1 y2 y3) (stillageref03_Order.l0 (k + 1) y0 y1 y2 y3)) ∧ (∀ y0 y1 y2 y3 y4 y5 y6, LeO (stillageref03_Order.l1 k y0 y1 y2 y3 y4 y5 y6) (stillageref03_Order.l1 (k + 1) y0 y1 y2 y3 y4 y5 y6))
 | 0 => ⟨fun _ _ _ _ r h => by simp [stillageref03_Order.l0] at h, fun _ _ _ _ _ _ _ r h => by simp [stillageref03_Order.l1] at h⟩
 | k + 1 => by
  obtain ⟨ih0, ih1⟩ := stillageref03_Order.mono_l k
  refine ⟨?_, ?_⟩
  ·intro y0 y1 y2 y3
   unfold stillageref03_Order.l0
   repeat' first
   | (with_reducible exact ih0 _ _ _ _)
   | (with_reducible exact ih1 _ _ _ _ _ _ _)
   | (with_reducible exact LeO.refl _)
   | (with_reducible exact LeO.none _)
   | (with_reducible refine LeO.ite ?_ ?_)
   | (with_reducible refine LeO.bind ?_ (fun _ => ?_))
   | exact ih0 _ _ _ _
   | exact ih1 _ _ _ _ _ _ _
   | exact LeO.none _
   | refine LeO.ite ?_ ?_
   | refine LeO.bind ?_ (fun _ => ?_)
  ·intro y0 y1 y2 y3 y4 y5 y6
   unfold stillageref03_Order.l1
   repeat' first
   | (with_reducible exact ih0 _ _ _ _)
   | (with_reducible exact ih1 _ _ _ _ _ _ _)
   | (with_reducible exact LeO.refl _)
   | (with_reducible exact LeO.none _)
   | (with_reducible refine LeO.ite ?_ ?_)
   | (with_reducible refine LeO.bind ?_ (fun _ => ?_))
   | exact ih0 _ _ _ _
   | exact ih1 _ _ _ _ _ _ _
   | exact LeO.none _
   | refine LeO.ite ?_ ?_
   | refine LeO.bind ?_ (fun _ => ?_)
theorem stillageref03_Order.mono : ∀ a0 a1 k, LeO (stillageref03_Order.f k a0 a1) (stillageref03_Order.f (k + 1) a0 a1) := by
 intro a0 a1 k
 obtain ⟨ih0, ih1⟩ := stillageref03_Order.mono_l k
 unfold stillageref03_Order.f
 repeat' first
   | (with_reducible exact ih0 _ _ _ _)
   | (with_reducible exact ih1 _ _ _ _ _ _ _)
   | (with_reducible exact LeO.refl _)
   | (with_reducible exact LeO.none _)
   | (with_reducible refine LeO.ite ?_ ?_)
   | (with_reducible refine LeO.bind ?_ (fun _ => ?_))
   | exact ih0 _ _ _ _
   | exact ih1 _ _ _ _ _ _ _
   | exact LeO.none _
   | refine LeO.ite ?_ ?_
   | refine LeO.bind ?_ (fun _ => ?_)
set_option maxHeartbeats 8000000 in
set_option maxRecDepth 100000 in
theorem stillageref03_Order.calls (k : Nat) (A0 : Option Addr) (c0 : Nat) (l0 : List Int) (a1 : Int) (r : List Int) (w : World) (hr0 : Kd.C (Kd.int .u16) w A0 l0.length l0) (hc0 : l0.length ≤ c0) (h : stillageref03_Order.f k l0 a1 = some r) :
  Calls Try.prog 8 #[.slice A0 l0.length c0, .int .u16 a1] w fun e w' => ∃ v0_ : Value, e = .returned (v0_) ∧ Kd.R (Kd.int .u16) 23 w' w.heap.size (fun _ => True) v0_ r ∧ Below w.heap.size w w' := by
 have HR0 := Aside0.mk hr0
 have HC0 := Aside0.mk hc0
 clear hr0 hc0
 have HB := Aside0.mk (Below.refl w.heap.size w)
 have H : (stillageref03_Order.l0 k l0 a1 ([] : List Int) (-1)) = some r := h
 clear h
 have H' := Aside0.mk H; clear H
 go_enter Try.func8, Try.ntmps8
 go_wp2
 go_loopg [5, 6] k (fun kq v5 v6 w' => ∃ (x5_1 : List Int) (x6_1 : Int), v6 = .int .i64 x6_1 ∧ Aside0 (stillageref03_Order.l0 kq l0 a1 x5_1 x6_1 = some r) ∧ Aside0 (kq ≤ k) ∧ Aside0 (Kd.R (Kd.int .u16) 23 w' w.heap.size (fun _ => True) v5 x5_1) ∧ Aside0 (Below w.heap.size w w'))
 case atStart => exact ⟨(([] : List Int)), ((-1)), (by first | rfl | (simp; done) | (simp [*]; done)), H', ⟨Nat.le_refl _⟩, ⟨by first | exact Kd.R_nil _ _ _ _ _ | exact Kd.N_nil _ _ _ _ _ | exact Kd.V_nil _ _ _ _ _ | exact Kd.Q_nil _ _ _ _ _ | exact Kd.S_nil _ _ _ _ _⟩, ⟨by repeat (first | (with_reducible first | exact HB.out | apply below_alloc | apply pw_below_drewN | apply below_drew1) | exact HB.out)⟩⟩
 case round =>
  clear H'
  obtain ⟨x5_1, x6_1, rfl, HA, HK1, HO_5, HB⟩ := hrel
  cases gk with
  | zero => exact absurd HA.out (by simp [stillageref03_Order.l0])
  | succ k1 =>
   have H := HA.out
   clear HA
   simp only [stillageref03_Order.l0] at H
   have H' := Aside0.mk H; clear H
   go_wp2
   go_loopg [7, 12] k1 (fun kq v7 v12 w' => ∃ (x7_2 : Int) (x12_2 : Int), v7 = .int .i64 x7_2 ∧ v12 = .int .i64 x12_2 ∧ Aside0 (stillageref03_Order.l1 kq l0 a1 x5_1 x6_1 x7_2 (l0.length : Int) x12_2 = some r) ∧ Aside0 (kq ≤ k1) ∧ Aside0 (Kd.R (Kd.int .u16) 23 w' w.heap.size (fun _ => True) u5 x5_1) ∧ Aside0 (Below w.heap.size w w'))
   case atStart => exact ⟨(65536), (0), (by first | rfl | (simp; done) | (simp [*]; done)), (by first | rfl | (simp; done) | (simp [*]; done)), H', ⟨Nat.le_refl _⟩, ⟨by (with_reducible repeat (first | apply Kd.R_alloc | apply Kd.R_drewN | apply Kd.R_drew)); exact HO_5.out⟩, ⟨by repeat (first | (with_reducible first | exact HB.out | apply below_alloc | apply pw_below_drewN | apply below_drew1) | exact HB.out)⟩⟩
   case round =>
    clear H'
    obtain ⟨x7_2, x12_2, rfl, rfl, HA, HK2, HO_5, HB⟩ := hrel
    cases gk with
    | zero => exact absurd HA.out (by simp [stillageref03_Order.l1])
    | succ k2 =>
     have H := HA.out
     clear HA
     simp only [stillageref03_Order.l1] at H
     by_cases c3 : x12_2 < (l0.length : Int)
     rotate_left
     ·rw [if_neg c3] at H
      have c3b0 : decide (x12_2 < (l0.length : Int)) = false := decide_eq_false c3
      clear c3
      by_cases c8 : x7_2 = 65536
      ·rw [if_pos c8] at H
       have c8b0 : (x7_2 == 65536) = true := beq_iff_eq.mpr c8
       have c8b1 : (x7_2 != 65536) = false := bne_eq_false_iff_eq.mpr c8
       clear c8
       obtain rfl := Option.some.inj H
       go_wp2
       go_ret
       exact ⟨_, by first | rfl | (simp [errW_none, errW_some] <;> rfl) | (simp [*, errW_none, errW_some] <;> rfl), by (with_reducible repeat (first | apply Kd.R_alloc | apply Kd.R_drewN | apply Kd.R_drew)); exact HO_5.out, by repeat (first | (with_reducible first | exact HB.out | apply below_alloc | apply pw_below_drewN | apply below_drew1) | exact HB.out)⟩
      rw [if_neg c8] at H
      have c8b0 : (x7_2 == 65536) = false := beq_eq_false_iff_ne.mpr c8
      have c8b1 : (x7_2 != 65536) = true := bne_iff_ne.mpr c8
      by_cases c9 : x5_1.length < 70368744177664
      rotate_left; ·rw [if_neg c9] at H; exact absurd H (by simp)

      rw [if_pos c9] at H
      have LMc9 := Aside0.mk c9
      clear c9
      obtain ⟨y110, hy110⟩ : ∃ y_ : List Int, y_ = (x5_1 ++ [IntKind.u16.wrap (Int.tmod (wrap64 (x7_2 + (wrap64 (a1)))) 65536)]) := ⟨_, rfl⟩
      replace H : (stillageref03_Order.l0 k2 l0 a1 y110 x7_2) = some r := by first | (rw [hy110]; with_reducible exact H) | (have H2_ := (Option.bind_some _ _).symm.trans H; rw [hy110]; with_reducible exact H2_) | (have H2_ := (Option.bind_some _ _).symm.trans H; with_reducible exact H2_) | with_reducible exact H | (rw [hy110]; exact H) | exact H
      have Ny110 := Aside0.mk hy110
      clear hy110
      have H' := Aside0.mk H; clear H
      go_wp2_with (first | ((with_reducible refine gate_builtin (b := .append) (xs := #[.tmp 38, .tmp 45]) rfl ?_); at_builtin; refine Kd.R_append (Kd.int .u16) (w0 := w) w.heap.size rfl (.tmp 38) (.tmp 45) 22 23 (.int .u16 0) 2 rfl Try.underlying22 info23 rfl (by decide) (by omega) u5 x5_1 (IntKind.u16.wrap (Int.tmod (wrap64 (x7_2 + (wrap64 (a1)))) 65536)) [.int .u16 (IntKind.u16.wrap (Int.tmod (wrap64 (x7_2 + (wrap64 (a1)))) 65536))] (fun _ => True) (fun _ => False) rfl rfl ?aP (fun _ hk => hk.elim) ?aF ?aO ?aB ?aS ?aL ?_; (case aP => exact rfl); (case aB => exact (by repeat (first | (with_reducible first | exact HB.out | apply below_alloc | apply pw_below_drewN | apply below_drew1) | exact HB.out))); (case aF => exact (fun _ _ => trivial)); (case aO => exact (by (with_reducible repeat (first | apply Kd.R_alloc | apply Kd.R_drewN | apply Kd.R_drew)); exact HO_5.out)); (case aS => exact (below_size (by repeat (first | (with_reducible first | exact HB.out | apply below_alloc | apply pw_below_drewN | apply below_drew1) | exact HB.out)))); (case aL => have := LMc9.out; omega); intro v111 w10 ho hb hg hat; rw [← Ny110.out] at ho; replace HB := Aside0.mk (hb); have HO112 := Aside0.mk (ho); clear HO_5; clear ho hb hg hat))
      go_roundg k2
      case measure => have := HK1.out; have := HK2.out; omega
      case rel => exact ⟨(y110), (x7_2), (by first | rfl | (simp; done) | (simp [*]; done)), H', ⟨by have := HK1.out; have := HK2.out; omega⟩, ⟨by (with_reducible repeat (first | apply Kd.R_alloc | apply Kd.R_drewN | apply Kd.R_drew)); exact HO112.out⟩, ⟨by repeat (first | (with_reducible first | exact HB.out | apply below_alloc | apply pw_below_drewN | apply below_drew1) | exact HB.out)⟩⟩
     rw [if_pos c3] at H
     have c3b0 : decide (x12_2 < (l0.length : Int)) = true := decide_eq_true c3
     clear c3
     by_cases c4 : 0 ≤ x12_2
     rotate_left; ·rw [if_neg c4] at H; exact absurd H (by simp)
     rw [if_pos c4] at H
     have c4b0 : decide (0 ≤ x12_2) = true := decide_eq_true c4
     clear c4
     by_cases c5 : x12_2 < (l0.length : Int)
     rotate_left; ·rw [if_neg c5] at H; exact absurd H (by simp)
     rw [if_pos c5] at H
     have c5b0 : decide (x12_2 < (l0.length : Int)) = true := decide_eq_true c5
     clear c5
     by_cases c6 : (Int.tmod (wrap64 ((wrap64 ((wrap64 (rd l0 x12_2)) - (wrap64 (a1)))) + 65536)) 65536) > x6_1
     rotate_left
     ·rw [if_neg c6] at H
      have c6b0 : decide (x6_1 < (Int.tmod (wrap64 ((wrap64 ((wrap64 (rd l0 x12_2)) - (wrap64 (a1)))) + 65536)) 65536)) = false := decide_eq_false c6
      clear c6
      have H' := Aside0.mk H; clear H
      have p109 : 0 ≤ (x12_2 : Int) := of_decide_eq_true (by first | (with_reducible assumption) | assumption)
      have q109 : x12_2 < (l0.length : Int) := of_decide_eq_true (by first | (with_reducible assumption) | assumption)
      obtain ⟨ad109, e109, hx109_0⟩ := Kd.at_int HR0.out x12_2 p109 q109
      cases e109
      replace hx109_0 := (HB.out.cell (World.block_lt_of_cell? w _ hx109_0)).trans hx109_0
      replace p109 := eq_true p109
      replace q109 := eq_true q109
      go_wp2
      go_roundg k2
      case measure => have := HK1.out; have := HK2.out; omega
      case rel => exact ⟨(x7_2), (wrap64 (x12_2 + 1)), (by first | rfl | (simp; done) | (simp [*]; done)), (by first | rfl | (simp; done) | (simp [*]; done)), H', ⟨by have := HK1.out; have := HK2.out; omega⟩, ⟨by (with_reducible repeat (first | apply Kd.R_alloc | apply Kd.R_drewN | apply Kd.R_drew)); exact HO_5.out⟩, ⟨by repeat (first | (with_reducible first | exact HB.out | apply below_alloc | apply pw_below_drewN | apply below_drew1) | exact HB.out)⟩⟩
     rw [if_pos c6] at H
     have c6b0 : decide (x6_1 < (Int.tmod (wrap64 ((wrap64 ((wrap64 (rd l0 x12_2)) - (wrap64 (a1)))) + 65536)) 65536)) = true := decide_eq_true c6
     clear c6
     by_cases c7 : (Int.tmod (wrap64 ((wrap64 ((wrap64 (rd l0 x12_2)) - (wrap64 (a1)))) + 65536)) 65536) < x7_2
     rotate_left
     ·rw [if_neg c7] at H
      have c7b0 : decide ((Int.tmod (wrap64 ((wrap64 ((wrap64 (rd l0 x12_2)) - (wrap64 (a1)))) + 65536)) 65536) < x7_2) = false := decide_eq_false c7
      clear c7
      have H' := Aside0.mk H; clear H
      have p109 : 0 ≤ (x12_2 : Int) := of_decide_eq_true (by first | (with_reducible assumption) | assumption)
      have q109 : x12_2 < (l0.length : Int) := of_decide_eq_true (by first | (with_reducible assumption) | assumption)
      obtain ⟨ad109, e109, hx109_0⟩ := Kd.at_int HR0.out x12_2 p109 q109
      cases e109
      replace hx109_0 := (HB.out.cell (World.block_lt_of_cell? w _ hx109_0)).trans hx109_0
      replace p109 := eq_true p109
      replace q109 := eq_true q109
      go_wp2
      go_roundg k2
      case measure => have := HK1.out; have := HK2.out; omega
      case rel => exact ⟨(x7_2), (wrap64 (x12_2 + 1)), (by first | rfl | (simp; done) | (simp [*]; done)), (by first | rfl | (simp; done) | (simp [*]; done)), H', ⟨by have := HK1.out; have := HK2.out; omega⟩, ⟨by (with_reducible repeat (first | apply Kd.R_alloc | apply Kd.R_drewN | apply Kd.R_drew)); exact HO_5.out⟩, ⟨by repeat (first | (with_reducible first | exact HB.out | apply below_alloc | apply pw_below_drewN | apply below_drew1) | exact HB.out)⟩⟩
     rw [if_pos c7] at H
     have c7b0 : decide ((Int.tmod (wrap64 ((wrap64 ((wrap64 (rd l0 x12_2)) - (wrap64 (a1)))) + 65536)) 65536) < x7_2) = true := decide_eq_true c7
     clear c7
     have H' := Aside0.mk H; clear H
     have p109 : 0 ≤ (x12_2 : Int) := of_decide_eq_true (by first | (with_reducible assumption) | assumption)
     have q109 : x12_2 < (l0.length : Int) := of_decide_eq_true (by first | (with_reducible assumption) | assumption)
     obtain ⟨ad109, e109, hx109_0⟩ := Kd.at_int HR0.out x12_2 p109 q109
     cases e109
     replace hx109_0 := (HB.out.cell (World.block_lt_of_cell? w _ hx109_0)).trans hx109_0
     replace p109 := eq_true p109
     replace q109 := eq_true q109
     go_wp2
     go_roundg k2
     case measure => have := HK1.out; have := HK2.out; omega
     case rel => exact ⟨(Int.tmod (wrap64 ((wrap64 ((wrap64 (rd l0 x12_2)) - (wrap64 (a1)))) + 65536)) 65536), (wrap64 (x12_2 + 1)), (by first | rfl | (simp; done) | (simp [*]; done)), (by first | rfl | (simp; done) | (simp [*]; done)), H', ⟨by have := HK1.out; have := HK2.out; omega⟩, ⟨by (with_reducible repeat (first | apply Kd.R_alloc | apply Kd.R_drewN | apply Kd.R_drew)); exact HO_5.out⟩, ⟨by repeat (first | (with_reducible first | exact HB.out | apply below_alloc | apply pw_below_drewN | apply below_drew1) | exact HB.out)⟩⟩
/-! ### stillagelaw03_TurnOrders: function 3 -/
mutual
def stillagelaw03_TurnOrders.j0 : Nat → List Int → Int → Bool → Option (Bool)
 | 0, _, _, _ => none
 | k + 1, x0, x1, x14 => if x14 = true then ((stillagelaw03_awake.f k).bind fun t114 => (some t114)) else ((some (([] : List Int) : List Int)).bind fun y115 => (if y115.length + x0.length < 70368744177664 then ((some (y115 ++ x0 : List Int)).bind fun y118 => ((turn_Order.f y118 x1).bind fun t121 => ((stillageref03_Same.f k y118 x0).bind fun t124 => (if t124 = true then ((stillageref03_Order.f k x0 x1).bind fun t125 => ((stillageref03_Same.f k t121 t125).bind fun t128 => (stillagelaw03_TurnOrders.j1 k x0 y118 t121 (!t128)))) else (stillagelaw03_TurnOrders.j1 k x0 y118 t121 true))))) else (none)))
def stillagelaw03_TurnOrders.j1 : Nat → List Int → List Int → List Int → Bool → Option (Bool)
 | 0, _, _, _, _ => none
 | k + 1, x0, x5, x6, x33 => if x33 = true then (some false) else (stillagelaw03_TurnOrders.l0 k x0 x5 x6 (x6.length : Int) 0)
def stillagelaw03_TurnOrders.l0 : Nat → List Int → List Int → List Int → Int → Int → Option (Bool)
 | 0, _, _, _, _, _ => none
 | k + 1, x0, x5, x6, x35, x36 => if x36 < x35 then (if 0 ≤ x36 then (if x36 < (x6.length : Int) then (stillagelaw03_TurnOrders.l0 k x0 x5 (x6.set (x36 : Int).toNat (IntKind.u16.wrap ((rd x6 x36) + 1))) x35 (wrap64 (x36 + 1))) else (none)) else (none)) else ((stillageref03_Same.f k x5 x0).bind fun t131 => (some t131))
end
def stillagelaw03_TurnOrders.f (k : Nat) (l0 : List Int) (a1 : Int) : Option (Bool) := (stillagelaw03_awake.f k).bind fun t113 => (if t113 = true then (stillagelaw03_TurnOrders.j0 k l0 a1 (decide ((l0.length : Int) > 200))) else (stillagelaw03_TurnOrders.j0 k l0 a1 true))
theorem stillagelaw03_TurnOrders.mono_l : ∀ k, (∀ y0 y1 y2, LeO (stillagelaw03_TurnOrders.j0 k y0 y1 y2) (stillagelaw03_TurnOrders.j0 (k + 1) y0 y1 y2)) ∧ (∀ y0 y1 y2 y3, LeO (stillagelaw03_TurnOrders.j1 k y0 y1 y2 y3) (stillagelaw03_TurnOrders.j1 (k + 1) y0 y1 y2 y3)) ∧ (∀ y0 y1 y2 y3 y4, LeO (stillagelaw03_TurnOrders.l0 k y0 y1 y2 y3 y4) (stillagelaw03_TurnOrders.l0 (k + 1) y0 y1 y2 y3 y4))
 | 0 => ⟨fun _ _ _ r h => by simp [stillagelaw03_TurnOrders.j0] at h, fun _ _ _ _ r h => by simp [stillagelaw03_TurnOrders.j1] at h, fun _ _ _ _ _ r h => by simp [stillagelaw03_TurnOrders.l0] at h⟩
 | k + 1 => by
  obtain ⟨ih0, ih1, ih2⟩ := stillagelaw03_TurnOrders.mono_l k
  refine ⟨?_, ?_, ?_⟩
  ·intro y0 y1 y2
   unfold stillagelaw03_TurnOrders.j0
   repeat' first
   | (with_reducible exact ih0 _ _ _)
   | (with_reducible exact ih1 _ _ _ _)
   | (with_reducible exact ih2 _ _ _ _ _)
   | (with_reducible exact stillagelaw03_awake.mono _)
   | (with_reducible exact stillageref03_Order.mono _ _ _)
   | (with_reducible exact stillageref03_Same.mono _ _ _)
   | (with_reducible exact LeO.refl _)
   | (with_reducible exact LeO.none _)
   | (with_reducible refine LeO.ite ?_ ?_)
   | (with_reducible refine LeO.bind ?_ (fun _ => ?_))
   | exact ih0 _ _ _
   | exact ih1 _ _ _ _
   | exact ih2 _ _ _ _ _
   | exact stillagelaw03_awake.mono _
   | exact stillageref03_Order.mono _ _ _
   | exact stillageref03_Same.mono _ _ _
   | exact LeO.none _
   | refine LeO.ite ?_ ?_
   | refine LeO.bind ?_ (fun _ => ?_)
  ·intro y0 y1 y2 y3
   unfold stillagelaw03_TurnOrders.j1
   repeat' first
   | (with_reducible exact ih0 _ _ _)
   | (with_reducible exact ih1 _ _ _ _)
   | (with_reducible exact ih2 _ _ _ _ _)
   | (with_reducible exact stillagelaw03_awake.mono _)
   | (with_reducible exact stillageref03_Order.mono _ _ _)
   | (with_reducible exact stillageref03_Same.mono _ _ _)
   | (with_reducible exact LeO.refl _)
   | (with_reducible exact LeO.none _)
   | (with_reducible refine LeO.ite ?_ ?_)
   | (with_reducible refine LeO.bind ?_ (fun _ => ?_))
   | exact ih0 _ _ _
   | exact ih1 _ _ _ _
   | exact ih2 _ _ _ _ _
   | exact stillagelaw03_awake.mono _
   | exact stillageref03_Order.mono _ _ _
   | exact stillageref03_Same.mono _ _ _
   | exact LeO.none _
   | refine LeO.ite ?_ ?_
   | refine LeO.bind ?_ (fun _ => ?_)
  ·intro y0 y1 y2 y3 y4
   unfold stillagelaw03_TurnOrders.l0
   repeat' first
   | (with_reducible exact ih0 _ _ _)
   | (with_reducible exact ih1 _ _ _ _)
   | (with_reducible exact ih2 _ _ _ _ _)
   | (with_reducible exact stillagelaw03_awake.mono _)
   | (with_reducible exact stillageref03_Order.mono _ _ _)
   | (with_reducible exact stillageref03_Same.mono _ _ _)
   | (with_reducible exact LeO.refl _)
   | (with_reducible exact LeO.none _)
   | (with_reducible refine LeO.ite ?_ ?_)
   | (with_reducible refine LeO.bind ?_ (fun _ => ?_))
   | exact ih0 _ _ _
   | exact ih1 _ _ _ _
   | exact ih2 _ _ _ _ _
   | exact stillagelaw03_awake.mono _
   | exact stillageref03_Order.mono _ _ _
   | exact stillageref03_Same.mono _ _ _
   | exact LeO.none _
   | refine LeO.ite ?_ ?_
   | refine LeO.bind ?_ (fun _ => ?_)
theorem stillagelaw03_TurnOrders.mono : ∀ a0 a1 k, LeO (stillagelaw03_TurnOrders.f k a0 a1) (stillagelaw03_TurnOrders.f (k + 1) a0 a1) := by
 intro a0 a1 k
 obtain ⟨ih0, ih1, ih2⟩ := stillagelaw03_TurnOrders.mono_l k
 unfold stillagelaw03_TurnOrders.f
 repeat' first
   | (with_reducible exact ih0 _ _ _)
   | (with_reducible exact ih1 _ _ _ _)
   | (with_reducible exact ih2 _ _ _ _ _)
   | (with_reducible exact stillagelaw03_awake.mono _)
   | (with_reducible exact stillageref03_Order.mono _ _ _)
   | (with_reducible exact stillageref03_Same.mono _ _ _)
   | (with_reducible exact LeO.refl _)
   | (with_reducible exact LeO.none _)
   | (with_reducible refine LeO.ite ?_ ?_)
   | (with_reducible refine LeO.bind ?_ (fun _ => ?_))
   | exact ih0 _ _ _
   | exact ih1 _ _ _ _
   | exact ih2 _ _ _ _ _
   | exact stillagelaw03_awake.mono _
   | exact stillageref03_Order.mono _ _ _
   | exact stillageref03_Same.mono _ _ _
   | exact LeO.none _
   | refine LeO.ite ?_ ?_
   | refine LeO.bind ?_ (fun _ => ?_)
set_option maxHeartbeats 8000000 in
set_option maxRecDepth 100000 in
theorem stillagelaw03_TurnOrders.calls (k : Nat) (A0 : Option Addr) (c0 : Nat) (l0 : List Int) (a1 : Int) (r : Bool) (w : World) (hr0 : Kd.C (Kd.int .u16) w A0 l0.length l0) (hc0 : l0.length ≤ c0) (h : stillagelaw03_TurnOrders.f k l0 a1 = some r) :
  Calls Try.prog 3 #[.slice A0 l0.length c0, .int .u16 a1] w fun e w' => e = .returned (.bool r) ∧ Below w.heap.size w w' := by
 have HR0 := Aside0.mk hr0
 have HC0 := Aside0.mk hc0
 clear hr0 hc0
 have HB := Aside0.mk (Below.refl w.heap.size w)
 have H : ((stillagelaw03_awake.f k).bind fun t113 => (if t113 = true then (stillagelaw03_TurnOrders.j0 k l0 a1 (decide ((l0.length : Int) > 200))) else (stillagelaw03_TurnOrders.j0 k l0 a1 true))) = some r := h
 clear h
 have HC3 := Aside0.mk H
 clear H
 go_enter Try.func3, Try.ntmps3
 go_upto_region 1 with (fail)
 go_cut [14] (fun v14 wc => ∃ (kq : Nat) (x14_2 : Bool), v14 = .bool x14_2 ∧ Aside0 (stillagelaw03_TurnOrders.j0 kq l0 a1 x14_2 = some r) ∧ Aside0 (kq ≤ k) ∧ Aside0 (Below w.heap.size w wc))
 case first =>
  have H := HC3.out
  clear HC3
  replace H := Option.bind_eq_some_iff.mp H; obtain ⟨t113, A40, H⟩ := H
  replace H : (if t113 = true then (stillagelaw03_TurnOrders.j0 k l0 a1 (decide ((l0.length : Int) > 200))) else (stillagelaw03_TurnOrders.j0 k l0 a1 true)) = some r := H
  have A4 := Aside0.mk A40
  clear A40
  by_cases c5 : t113 = true
  ·subst c5
   have H1 : (stillagelaw03_TurnOrders.j0 k l0 a1 (decide ((l0.length : Int) > 200))) = some r := by rw [if_pos rfl] at H; exact H
   clear H; have H := H1; clear H1
   have H' := Aside0.mk H; clear H
   go_wp2_with (first | ((with_reducible refine gate_callee (f := 5) rfl ?_); refine goesL_ (some 8) rfl rfl Try.func5 (by kernel_rfl) rfl #[] rfl (by (try simp only [List.map_toArray, List.map_cons, List.map_nil]); first | done | rfl | (simp only [List.length_drop, List.length_take]; rfl)) ?_; (with_reducible refine (stillagelaw03_awake.calls k  true _ A4.out).mono ?_); rintro e w' ⟨rfl, ⟨nd, rfl⟩⟩; refine ⟨_, rfl, ?_⟩))
   go_meet
   case rel => exact ⟨_, (decide ((l0.length : Int) > 200)), (by first | rfl | (simp; done) | (simp [*]; done)), H', ⟨by first | omega | exact Nat.le_refl _⟩, ⟨by repeat (first | (with_reducible first | exact HB.out | apply below_alloc | apply pw_below_drewN | apply below_drew1) | exact HB.out)⟩⟩
  replace c5 := Bool.eq_false_iff.mpr c5
  subst c5
  have H1 : (stillagelaw03_TurnOrders.j0 k l0 a1 true) = some r := by rw [if_neg (show ¬ (false = true) by decide)] at H; exact H
  clear H; have H := H1; clear H1
  have H' := Aside0.mk H; clear H
  go_wp2_with (first | ((with_reducible refine gate_callee (f := 5) rfl ?_); refine goesL_ (some 8) rfl rfl Try.func5 (by kernel_rfl) rfl #[] rfl (by (try simp only [List.map_toArray, List.map_cons, List.map_nil]); first | done | rfl | (simp only [List.length_drop, List.length_take]; rfl)) ?_; (with_reducible refine (stillagelaw03_awake.calls k  false _ A4.out).mono ?_); rintro e w' ⟨rfl, ⟨nd, rfl⟩⟩; refine ⟨_, rfl, ?_⟩))
  go_meet
  case rel => exact ⟨_, (true), (by first | rfl | (simp; done) | (simp [*]; done)), H', ⟨by first | omega | exact Nat.le_refl _⟩, ⟨by repeat (first | (with_reducible first | exact HB.out | apply below_alloc | apply pw_below_drewN | apply below_drew1) | exact HB.out)⟩⟩
 case rest =>
  clear HC3
  obtain ⟨kq, x14_2, rfl, HA, HJ2, HB⟩ := hcut
  cases kq with
  | zero => exact absurd HA.out (by simp [stillagelaw03_TurnOrders.j0])
  | succ kj2 =>
   have H := HA.out
   clear HA
   simp only [stillagelaw03_TurnOrders.j0] at H
   by_cases c6 : x14_2 = true
   ·subst c6
    have H1 : ((stillagelaw03_awake.f kj2).bind fun t114 => (some t114)) = some r := by rw [if_pos rfl] at H; exact H
    clear H; have H := H1; clear H1
    replace H := Option.bind_eq_some_iff.mp H; obtain ⟨t114, A70, H⟩ := H
    replace H : (some t114) = some r := H
    have A7 := Aside0.mk A70
    clear A70
    obtain rfl := Option.some.inj H
    go_wp2_with (first | ((with_reducible refine gate_callee (f := 5) rfl ?_); refine goesL_ (some 15) rfl rfl Try.func5 (by kernel_rfl) rfl #[] rfl (by (try simp only [List.map_toArray, List.map_cons, List.map_nil]); first | done | rfl | (simp only [List.length_drop, List.length_take]; rfl)) ?_; (with_reducible refine (stillagelaw03_awake.calls kj2  t114 _ A7.out).mono ?_); rintro e w' ⟨rfl, ⟨nd, rfl⟩⟩; refine ⟨_, rfl, ?_⟩))
    go_ret
    exact ⟨by first | rfl | (simp [errW_none, errW_some] <;> rfl) | (simp [*, errW_none, errW_some] <;> rfl), by repeat (first | (with_reducible first | exact HB.out | apply below_alloc | apply pw_below_drewN | apply below_drew1) | exact HB.out)⟩
   replace c6 := Bool.eq_false_iff.mpr c6
   subst c6
   have H1 : ((some (([] : List Int) : List Int)).bind fun y115 => (if y115.length + l0.length < 70368744177664 then ((some (y115 ++ l0 : List Int)).bind fun y118 => ((turn_Order.f y118 a1).bind fun t121 => ((stillageref03_Same.f kj2 y118 l0).bind fun t124 => (if t124 = true then ((stillageref03_Order.f kj2 l0 a1).bind fun t125 => ((stillageref03_Same.f kj2 t121 t125).bind fun t128 => (stillagelaw03_TurnOrders.j1 kj2 l0 y118 t121 (!t128)))) else (stillagelaw03_TurnOrders.j1 kj2 l0 y118 t121 true))))) else (none))) = some r := by rw [if_neg (show ¬ (false = true) by decide)] at H; exact H
   clear H; have H := H1; clear H1
   obtain ⟨y115, hy115⟩ : ∃ y_ : List Int, y_ = (([] : List Int)) := ⟨_, rfl⟩
   replace H : (if y115.length + l0.length < 70368744177664 then ((some (y115 ++ l0 : List Int)).bind fun y118 => ((turn_Order.f y118 a1).bind fun t121 => ((stillageref03_Same.f kj2 y118 l0).bind fun t124 => (if t124 = true then ((stillageref03_Order.f kj2 l0 a1).bind fun t125 => ((stillageref03_Same.f kj2 t121 t125).bind fun t128 => (stillagelaw03_TurnOrders.j1 kj2 l0 y118 t121 (!t128)))) else (stillagelaw03_TurnOrders.j1 kj2 l0 y118 t121 true))))) else (none)) = some r := by first | (rw [hy115]; with_reducible exact H) | (have H2_ := (Option.bind_some _ _).symm.trans H; rw [hy115]; with_reducible exact H2_) | (have H2_ := (Option.bind_some _ _).symm.trans H; with_reducible exact H2_) | with_reducible exact H | (rw [hy115]; exact H) | exact H
   have Ny115 := Aside0.mk hy115
   clear hy115
   by_cases c8 : y115.length + l0.length < 70368744177664
   rotate_left; ·rw [if_neg c8] at H; exact absurd H (by simp)

   rw [if_pos c8] at H
   have LMc8 := Aside0.mk c8
   clear c8
   obtain ⟨y118, hy118⟩ : ∃ y_ : List Int, y_ = (y115 ++ l0) := ⟨_, rfl⟩
   replace H : ((turn_Order.f y118 a1).bind fun t121 => ((stillageref03_Same.f kj2 y118 l0).bind fun t124 => (if t124 = true then ((stillageref03_Order.f kj2 l0 a1).bind fun t125 => ((stillageref03_Same.f kj2 t121 t125).bind fun t128 => (stillagelaw03_TurnOrders.j1 kj2 l0 y118 t121 (!t128)))) else (stillagelaw03_TurnOrders.j1 kj2 l0 y118 t121 true)))) = some r := by first | (rw [hy118]; with_reducible exact H) | (have H2_ := (Option.bind_some _ _).symm.trans H; rw [hy118]; with_reducible exact H2_) | (have H2_ := (Option.bind_some _ _).symm.trans H; with_reducible exact H2_) | with_reducible exact H | (rw [hy118]; exact H) | exact H
   have Ny118 := Aside0.mk hy118
   clear hy118
   replace H := Option.bind_eq_some_iff.mp H; obtain ⟨t121, A90, H⟩ := H
   replace H : ((stillageref03_Same.f kj2 y118 l0).bind fun t124 => (if t124 = true then ((stillageref03_Order.f kj2 l0 a1).bind fun t125 => ((stillageref03_Same.f kj2 t121 t125).bind fun t128 => (stillagelaw03_TurnOrders.j1 kj2 l0 y118 t121 (!t128)))) else (stillagelaw03_TurnOrders.j1 kj2 l0 y118 t121 true))) = some r := H
   have A9 := Aside0.mk A90
   clear A90
   have HC10 := Aside0.mk H
   clear H
   go_upto_region 5 with (first | ((with_reducible refine gate_dst (N := 16) rfl ?_); (try (refine gate_guard (by rfl) ?_; dsimp only)); refine Kd.R_lit (Kd.int .u16) _ 23 ?hg (N := 16) ?hd (xs := ([] : List Int)) (inner := []) (ok := fun _ => True) (okp := fun _ => True) ?hr ?hp (fun _ hk => hk) trivial (Below.refl _ _) (Nat.le_refl _) (by simp) ?_; (case hd => rfl); (case hg => rfl); (case hr => first | (go_simp; done) | (go_simp; rfl)); (case hp => exact (Reps.none _ _)); intro v116 w11 ho12 hb hg_ hnew_; clear hg_ hnew_; (first | rw [← Ny115.out] at ho12 | (simp only [Int.reduceToNat] at ho12; rw [← Ny115.out] at ho12)); have HO117 := Aside0.mk (Kd.R_lower ho12 (below_size (by repeat (first | (with_reducible first | exact HB.out | apply below_alloc | apply pw_below_drewN | apply below_drew1) | exact HB.out)))); replace HB := Aside0.mk (below_step (by repeat (first | (with_reducible first | exact HB.out | apply below_alloc | apply pw_below_drewN | apply below_drew1) | exact HB.out)) hb); clear hb ho12) | ((with_reducible refine gate_builtin (b := .append) (xs := #[.tmp 16, .tmp 17]) rfl ?_); (try (refine gate_guard (by rfl) ?_; dsimp only)); at_builtin; refine Kd.R_append_rows (Kd.int .u16) (w0 := w) w.heap.size rfl (.tmp 16) (.tmp 17) 22 23 (.int .u16 0) 2 rfl Try.underlying22 info23 rfl (by decide) (by omega) v116 y115 l0 _ _ _ (fun _ => True) (fun _ => False) rfl rfl ?aO ?aR (fun _ _ h => h) (fun _ h => h.elim) ?aF ?aB ?aS ?aL ?_; (case aR => repeat (first | exact (Kd.C_below HR0.out HB.out) | (with_reducible refine Kd.C_alloc ?_ _) | (with_reducible refine Kd.C_drewN ?_ _) | (with_reducible refine Kd.C_drew ?_))); (case aB => exact (by repeat (first | (with_reducible first | exact HB.out | apply below_alloc | apply pw_below_drewN | apply below_drew1) | exact HB.out))); (case aF => exact (fun _ _ => trivial)); (case aO => exact (by (with_reducible repeat (first | apply Kd.R_alloc | apply Kd.R_drewN | apply Kd.R_drew)); exact HO117.out)); (case aS => exact (below_size (by repeat (first | (with_reducible first | exact HB.out | apply below_alloc | apply pw_below_drewN | apply below_drew1) | exact HB.out)))); (case aL => have := LMc8.out; omega); intro v119 w13 ho hb hg hat; rw [← Ny118.out] at ho; replace HB := Aside0.mk (hb); have HO120 := Aside0.mk (ho); clear HO117; clear ho hb hg hat; obtain ⟨Ao14, co14, eo14⟩ := Kd.R_slice HO120.out; subst eo14) | ((with_reducible refine gate_callee (f := 6) rfl ?_); refine goesL_ (some 21) rfl rfl Try.func6 (by kernel_rfl) rfl #[.slice Ao14 y118.length co14, .int .u16 a1] rfl (by (try simp only [List.map_toArray, List.map_cons, List.map_nil]); first | done | rfl | (simp only [List.length_drop, List.length_take]; rfl)) ?_; (with_reducible refine (turn_Order.calls _ _ y118 a1 t121 _ ?side1 ?side2 A9.out).mono ?_); (case side1 => repeat (first | exact (Kd.R_reads' HO120.out).2.2 | (with_reducible refine Kd.C_alloc ?_ _) | (with_reducible refine Kd.C_drewN ?_ _) | (with_reducible refine Kd.C_drew ?_))); (case side2 => exact (Kd.R_reads' HO120.out).2.1); rintro e w15 ⟨v122, rfl, ho0, hb⟩; refine ⟨_, rfl, ?_⟩; have HO123 := Aside0.mk (Kd.P_lower (Kd.P_new' ho0 (Kd.R_lt (by (with_reducible repeat (first | apply Kd.R_alloc | apply Kd.R_drewN | apply Kd.R_drew)); exact HO120.out))) (below_size (by repeat (first | (with_reducible first | exact HB.out | apply below_alloc | apply pw_below_drewN | apply below_drew1) | exact HB.out)))); replace HO120 := Aside0.mk (Kd.R_elder' (by (with_reducible repeat (first | apply Kd.R_alloc | apply Kd.R_drewN | apply Kd.R_drew)); exact HO120.out) (Kd.P_base ho0) hb); replace HB := Aside0.mk (below_step (by repeat (first | (with_reducible first | exact HB.out | apply below_alloc | apply pw_below_drewN | apply below_drew1) | exact HB.out)) hb); (try clear hb); (try clear ho0)))
   (try simp only [Act.put, List.setIfInBounds_toArray, List.set_cons_zero, List.set_cons_succ])
   go_cut [33] (fun v33 wc => ∃ (kq : Nat) (x33_9 : Bool), v33 = .bool x33_9 ∧ Aside0 (stillagelaw03_TurnOrders.j1 kq l0 y118 t121 x33_9 = some r) ∧ Aside0 (kq ≤ kj2) ∧ Aside0 (Kd.R (Kd.int .u16) 23 wc w.heap.size (fun k_ => some k_ ≠ (v122 : Value).ownBlock) (.slice Ao14 y118.length co14) y118) ∧ Aside0 (Kd.P (Kd.int .u16) 23 wc w.heap.size (fun k_ => some k_ ≠ ((.slice Ao14 y118.length co14) : Value).ownBlock) v122 t121) ∧ Aside0 (Below w.heap.size w wc))
   case first =>
    have H := HC10.out
    clear HC10
    replace H := Option.bind_eq_some_iff.mp H; obtain ⟨t124, A160, H⟩ := H
    replace H : (if t124 = true then ((stillageref03_Order.f kj2 l0 a1).bind fun t125 => ((stillageref03_Same.f kj2 t121 t125).bind fun t128 => (stillagelaw03_TurnOrders.j1 kj2 l0 y118 t121 (!t128)))) else (stillagelaw03_TurnOrders.j1 kj2 l0 y118 t121 true)) = some r := H
    have A16 := Aside0.mk A160
    clear A160
    by_cases c17 : t124 = true
    rotate_left
    ·replace c17 := Bool.eq_false_iff.mpr c17
     subst c17
     have H1 : (stillagelaw03_TurnOrders.j1 kj2 l0 y118 t121 true) = some r := by rw [if_neg (show ¬ (false = true) by decide)] at H; exact H
     clear H; have H := H1; clear H1
     have H' := Aside0.mk H; clear H
     go_wp2_with (first | ((with_reducible refine gate_callee (f := 7) rfl ?_); refine goesL_ (some 24) rfl rfl Try.func7 (by kernel_rfl) rfl #[.slice Ao14 y118.length co14, .slice A0 l0.length c0] rfl (by (try simp only [List.map_toArray, List.map_cons, List.map_nil]); first | done | rfl | (simp only [List.length_drop, List.length_take]; rfl)) ?_; (with_reducible refine (stillageref03_Same.calls kj2 _ _ y118 _ _ l0 false _ ?side1 ?side2 ?side3 ?side4 A16.out).mono ?_); (case side1 => repeat (first | exact (Kd.R_reads' HO120.out).2.2 | (with_reducible refine Kd.C_alloc ?_ _) | (with_reducible refine Kd.C_drewN ?_ _) | (with_reducible refine Kd.C_drew ?_))); (case side2 => exact (Kd.R_reads' HO120.out).2.1); (case side3 => repeat (first | exact (Kd.C_below HR0.out HB.out) | (with_reducible refine Kd.C_alloc ?_ _) | (with_reducible refine Kd.C_drewN ?_ _) | (with_reducible refine Kd.C_drew ?_))); (case side4 => exact HC0.out); rintro e w' ⟨rfl, ⟨nd, rfl⟩⟩; refine ⟨_, rfl, ?_⟩))
     go_meet
     case rel => exact ⟨_, (true), (by first | rfl | (simp; done) | (simp [*]; done)), H', ⟨by have := HJ2.out; first | omega | exact Nat.le_refl _⟩, ⟨by (with_reducible repeat (first | apply Kd.R_alloc | apply Kd.R_drewN | apply Kd.R_drew)); exact Kd.R_mono HO120.out (fun _ hk => hk.2)⟩, ⟨by (with_reducible repeat (first | apply Kd.P_alloc | apply Kd.P_drewN | apply Kd.P_drew)); exact Kd.P_mono HO123.out (fun _ hk => hk.2)⟩, ⟨by repeat (first | (with_reducible first | exact HB.out | apply below_alloc | apply pw_below_drewN | apply below_drew1) | exact HB.out)⟩⟩
    subst c17
    have H1 : ((stillageref03_Order.f kj2 l0 a1).bind fun t125 => ((stillageref03_Same.f kj2 t121 t125).bind fun t128 => (stillagelaw03_TurnOrders.j1 kj2 l0 y118 t121 (!t128)))) = some r := by rw [if_pos rfl] at H; exact H
    clear H; have H := H1; clear H1
    replace H := Option.bind_eq_some_iff.mp H; obtain ⟨t125, A180, H⟩ := H
    replace H : ((stillageref03_Same.f kj2 t121 t125).bind fun t128 => (stillagelaw03_TurnOrders.j1 kj2 l0 y118 t121 (!t128))) = some r := H
    have A18 := Aside0.mk A180
    clear A180
    replace H := Option.bind_eq_some_iff.mp H; obtain ⟨t128, A190, H⟩ := H
    replace H : (stillagelaw03_TurnOrders.j1 kj2 l0 y118 t121 (!t128)) = some r := H
    have A19 := Aside0.mk A190
    clear A190
    have H' := Aside0.mk H; clear H
    go_wp2_with (first | ((with_reducible refine gate_callee (f := 7) rfl ?_); refine goesL_ (some 24) rfl rfl Try.func7 (by kernel_rfl) rfl #[.slice Ao14 y118.length co14, .slice A0 l0.length c0] rfl (by (try simp only [List.map_toArray, List.map_cons, List.map_nil]); first | done | rfl | (simp only [List.length_drop, List.length_take]; rfl)) ?_; (with_reducible refine (stillageref03_Same.calls kj2 _ _ y118 _ _ l0 true _ ?side1 ?side2 ?side3 ?side4 A16.out).mono ?_); (case side1 => repeat (first | exact (Kd.R_reads' HO120.out).2.2 | (with_reducible refine Kd.C_alloc ?_ _) | (with_reducible refine Kd.C_drewN ?_ _) | (with_reducible refine Kd.C_drew ?_))); (case side2 => exact (Kd.R_reads' HO120.out).2.1); (case side3 => repeat (first | exact (Kd.C_below HR0.out HB.out) | (with_reducible refine Kd.C_alloc ?_ _) | (with_reducible refine Kd.C_drewN ?_ _) | (with_reducible refine Kd.C_drew ?_))); (case side4 => exact HC0.out); rintro e w' ⟨rfl, ⟨nd, rfl⟩⟩; refine ⟨_, rfl, ?_⟩) | (go_at_call 8; (with_reducible refine (stillageref03_Order.calls kj2 _ _ l0 a1 t125 _ ?side1 ?side2 A18.out).mono ?_); (case side1 => repeat (first | exact (Kd.C_below HR0.out (by repeat (first | (with_reducible first | exact HB.out | apply below_alloc | apply pw_below_drewN | apply below_drew1) | exact HB.out))) | (with_reducible refine Kd.C_alloc ?_ _) | (with_reducible refine Kd.C_drewN ?_ _) | (with_reducible refine Kd.C_drew ?_))); (case side2 => exact HC0.out); rintro e w20 ⟨v126, rfl, ho0, hb⟩; have HO127 := Aside0.mk (Kd.R_lower (Kd.R_new' (Kd.R_new' ho0 (Kd.R_lt (by (with_reducible repeat (first | apply Kd.R_alloc | apply Kd.R_drewN | apply Kd.R_drew)); exact HO120.out))) (Kd.P_lt (by (with_reducible repeat (first | apply Kd.P_alloc | apply Kd.P_drewN | apply Kd.P_drew)); exact HO123.out))) (below_size (by repeat (first | (with_reducible first | exact HB.out | apply below_alloc | apply pw_below_drewN | apply below_drew1) | exact HB.out)))); replace HO120 := Aside0.mk (Kd.R_elder' (by (with_reducible repeat (first | apply Kd.R_alloc | apply Kd.R_drewN | apply Kd.R_drew)); exact HO120.out) (Kd.R_base ho0) hb); replace HO123 := Aside0.mk (Kd.P_elder' (by (with_reducible repeat (first | apply Kd.P_alloc | apply Kd.P_drewN | apply Kd.P_drew)); exact HO123.out) (Kd.R_base ho0) hb); replace HB := Aside0.mk (below_step (by repeat (first | (with_reducible first | exact HB.out | apply below_alloc | apply pw_below_drewN | apply below_drew1) | exact HB.out)) hb); (try clear hb); (try clear ho0); obtain ⟨Ao21, co21, eo21⟩ := Kd.P_slice HO123.out; subst eo21; obtain ⟨Ao22, co22, eo22⟩ := Kd.R_slice HO127.out; subst eo22) | (go_at_call 7; (with_reducible refine (stillageref03_Same.calls kj2 _ _ t121 _ _ t125 t128 _ ?side1 ?side2 ?side3 ?side4 A19.out).mono ?_); (case side1 => repeat (first | exact (Kd.P_reads' HO123.out).2.2 | (with_reducible refine Kd.C_alloc ?_ _) | (with_reducible refine Kd.C_drewN ?_ _) | (with_reducible refine Kd.C_drew ?_))); (case side2 => exact (Kd.P_reads' HO123.out).2.1); (case side3 => repeat (first | exact (Kd.R_reads' HO127.out).2.2 | (with_reducible refine Kd.C_alloc ?_ _) | (with_reducible refine Kd.C_drewN ?_ _) | (with_reducible refine Kd.C_drew ?_))); (case side4 => exact (Kd.R_reads' HO127.out).2.1); rintro e w' ⟨rfl, ⟨nd, rfl⟩⟩))
    go_meet
    case rel => exact ⟨_, (!t128), (by first | rfl | (simp; done) | (simp [*]; done)), H', ⟨by have := HJ2.out; first | omega | exact Nat.le_refl _⟩, ⟨by (with_reducible repeat (first | apply Kd.R_alloc | apply Kd.R_drewN | apply Kd.R_drew)); exact Kd.R_mono HO120.out (fun _ hk => hk.1.2)⟩, ⟨by (with_reducible repeat (first | apply Kd.P_alloc | apply Kd.P_drewN | apply Kd.P_drew)); exact Kd.P_mono HO123.out (fun _ hk => hk.1.2)⟩, ⟨by repeat (first | (with_reducible first | exact HB.out | apply below_alloc | apply pw_below_drewN | apply below_drew1) | exact HB.out)⟩⟩
   case rest =>
    clear HC10
    obtain ⟨kq, x33_9, rfl, HA, HJ9, HO_5, HO_6, HB⟩ := hcut
    cases kq with
    | zero => exact absurd HA.out (by simp [stillagelaw03_TurnOrders.j1])
    | succ kj9 =>
     have H := HA.out
     clear HA
     simp only [stillagelaw03_TurnOrders.j1] at H
     by_cases c23 : x33_9 = true
     ·subst c23
      have H1 : (some false) = some r := by rw [if_pos rfl] at H; exact H
      clear H; have H := H1; clear H1
      obtain rfl := Option.some.inj H
      go_wp2
      go_ret
      exact ⟨by first | rfl | (simp [errW_none, errW_some] <;> rfl) | (simp [*, errW_none, errW_some] <;> rfl), by repeat (first | (with_reducible first | exact HB.out | apply below_alloc | apply pw_below_drewN | apply below_drew1) | exact HB.out)⟩
     replace c23 := Bool.eq_false_iff.mpr c23
     subst c23
     have H1 : (stillagelaw03_TurnOrders.l0 kj9 l0 y118 t121 (t121.length : Int) 0) = some r := by rw [if_neg (show ¬ (false = true) by decide)] at H; exact H
     clear H; have H := H1; clear H1
     have H' := Aside0.mk H; clear H
     obtain ⟨Ao24, co24, eo24⟩ := Kd.P_slice HO_6.out
     subst eo24
     go_wp2
     go_loopg [36] kj9 (fun kq v36 w' => ∃ (x6_3 : List Int) (x36_3 : Int), v36 = .int .i64 x36_3 ∧ Aside0 (stillagelaw03_TurnOrders.l0 kq l0 y118 x6_3 (t121.length : Int) x36_3 = some r) ∧ Aside0 (kq ≤ kj9) ∧ Aside0 (Kd.R (Kd.int .u16) 23 w' w.heap.size (fun k_ => some k_ ≠ ((.slice Ao24 t121.length co24) : Value).ownBlock) (.slice Ao14 y118.length co14) y118) ∧ Aside0 (Kd.P (Kd.int .u16) 23 w' w.heap.size (fun k_ => some k_ ≠ ((.slice Ao14 y118.length co14) : Value).ownBlock) (.slice Ao24 t121.length co24) x6_3) ∧ Aside0 (Below w.heap.size w w'))
     case atStart => exact ⟨(t121), (0), (by first | rfl | (simp; done) | (simp [*]; done)), H', ⟨Nat.le_refl _⟩, ⟨by (with_reducible repeat (first | apply Kd.R_alloc | apply Kd.R_drewN | apply Kd.R_drew)); exact HO_5.out⟩, ⟨by (with_reducible repeat (first | apply Kd.P_alloc | apply Kd.P_drewN | apply Kd.P_drew)); exact HO_6.out⟩, ⟨by repeat (first | (with_reducible first | exact HB.out | apply below_alloc | apply pw_below_drewN | apply below_drew1) | exact HB.out)⟩⟩
     case round =>
      clear H'
      obtain ⟨x6_3, x36_3, rfl, HA, HK3, HO_5, HO_6, HB⟩ := hrel
      have hl6_3 := (Kd.P_reads' HO_6.out).1
      rw [hl6_3] at HO_6
      (try simp only [hl6_3])
      (try simp only [hl6_3] at HO_5)
      cases gk with
      | zero => exact absurd HA.out (by simp [stillagelaw03_TurnOrders.l0])
      | succ k3 =>
       have H := HA.out
       clear HA
       simp only [stillagelaw03_TurnOrders.l0] at H
       by_cases c25 : x36_3 < (t121.length : Int)
       rotate_left
       ·rw [if_neg c25] at H
        have c25b0 : decide (x36_3 < (t121.length : Int)) = false := decide_eq_false c25
        (try (have c25z0 := c25b0; simp only [hl6_3] at c25z0))
        clear c25
        replace H := Option.bind_eq_some_iff.mp H; obtain ⟨t131, A310, H⟩ := H
        replace H : (some t131) = some r := H
        have A31 := Aside0.mk A310
        clear A310
        obtain rfl := Option.some.inj H
        go_wp2_with (first | ((with_reducible refine gate_callee (f := 7) rfl ?_); refine goesL_ (some 48) rfl rfl Try.func7 (by kernel_rfl) rfl #[.slice Ao14 y118.length co14, .slice A0 l0.length c0] rfl (by (try simp only [List.map_toArray, List.map_cons, List.map_nil]); first | done | rfl | (simp only [List.length_drop, List.length_take]; rfl)) ?_; (with_reducible refine (stillageref03_Same.calls k3 _ _ y118 _ _ l0 t131 _ ?side1 ?side2 ?side3 ?side4 A31.out).mono ?_); (case side1 => repeat (first | exact (Kd.R_reads' HO_5.out).2.2 | (with_reducible refine Kd.C_alloc ?_ _) | (with_reducible refine Kd.C_drewN ?_ _) | (with_reducible refine Kd.C_drew ?_))); (case side2 => exact (Kd.R_reads' HO_5.out).2.1); (case side3 => repeat (first | exact (Kd.C_below HR0.out HB.out) | (with_reducible refine Kd.C_alloc ?_ _) | (with_reducible refine Kd.C_drewN ?_ _) | (with_reducible refine Kd.C_drew ?_))); (case side4 => exact HC0.out); rintro e w' ⟨rfl, ⟨nd, rfl⟩⟩; refine ⟨_, rfl, ?_⟩))
        go_ret
        exact ⟨by first | rfl | (simp [errW_none, errW_some] <;> rfl) | (simp [*, errW_none, errW_some] <;> rfl), by repeat (first | (with_reducible first | exact HB.out | apply below_alloc | apply pw_below_drewN | apply below_drew1) | exact HB.out)⟩
       rw [if_pos c25] at H
       have c25b0 : decide (x36_3 < (t121.length : Int)) = true := decide_eq_true c25
       (try (have c25z0 := c25b0; simp only [hl6_3] at c25z0))
       clear c25
       by_cases c26 : 0 ≤ x36_3
       rotate_left; ·rw [if_neg c26] at H; exact absurd H (by simp)
       rw [if_pos c26] at H
       have c26b0 : decide (0 ≤ x36_3) = true := decide_eq_true c26
       clear c26
       by_cases c27 : x36_3 < (x6_3.length : Int)
       rotate_left; ·rw [if_neg c27] at H; exact absurd H (by simp)
       rw [if_pos c27] at H
       have c27b0 : decide (x36_3 < (x6_3.length : Int)) = true := decide_eq_true c27
       (try (have c27z0 := c27b0; simp only [hl6_3] at c27z0))
       clear c27
       obtain ⟨y130, hy130⟩ : ∃ y_ : List Int, y_ = (x6_3.set (x36_3 : Int).toNat (IntKind.u16.wrap ((rd x6_3 x36_3) + 1))) := ⟨_, rfl⟩
       replace H : (stillagelaw03_TurnOrders.l0 k3 l0 y118 y130 (t121.length : Int) (wrap64 (x36_3 + 1))) = some r := by first | (rw [hy130]; with_reducible exact H) | (have H2_ := (Option.bind_some _ _).symm.trans H; rw [hy130]; with_reducible exact H2_) | (have H2_ := (Option.bind_some _ _).symm.trans H; with_reducible exact H2_) | with_reducible exact H | (rw [hy130]; exact H) | exact H
       have Ny130 := Aside0.mk hy130
       clear hy130
       have H' := Aside0.mk H; clear H
       have p129 : 0 ≤ (x36_3 : Int) := of_decide_eq_true (by first | (with_reducible assumption) | assumption)
       have q129 : x36_3 < (x6_3.length : Int) := of_decide_eq_true (by first | (with_reducible assumption) | assumption)
       obtain ⟨ad129, e129, hx129_0⟩ := Kd.at_int (Kd.P_reads' HO_6.out).2.2 x36_3 p129 q129
       cases e129
       replace p129 := eq_true p129
       replace q129 := eq_true q129
       have p28 : 0 ≤ (x36_3 : Int) := of_decide_eq_true (by first | (with_reducible assumption) | assumption)
       have q28 : (x36_3 : Int) < ((x6_3.length : Int) : Int) := of_decide_eq_true (by first | (with_reducible assumption) | assumption)
       obtain ⟨go28, co28, eo28, gb28, gl28, cl28, HG28⟩ := Kd.P_form HO_6.out (by omega)
       (first | cases eo28 | (injection eo28 with ea_ en_ ec_; (first | subst ea_ | (injection ea_ with ea_; subst ea_)); subst ec_; clear en_))
       have GB28 := Aside0.mk gb28
       have GG28 := Aside0.mk HG28
       clear gb28 gl28 HG28
       (first | simp only [add_plain] at hx129_0 | skip)
       obtain ⟨hx28_0, hf28_0⟩ := Kd.P_celln 0 HO_6.out (x36_3 : Int) p28 q28
       replace p28 := eq_true p28
       replace q28 := eq_true q28
       have HP29 := Kd.P_putg HO_6.out (x36_3 : Int) (IntKind.u16.wrap ((rd x6_3 x36_3) + 1))
       go_wp2_with (first | ((with_reducible refine gate_store (t := 23) (p := 44) rfl ?_); refine store_event (t := 23) (p := 44) (v := ?vo_w30) (w1 := (wr.setCell ⟨go28, (x36_3 : Int).toNat, none⟩ (.int .u16 (IntKind.u16.wrap ((rd x6_3 x36_3) + 1))))) ?hg ?ho ?hn ?hr ?_; (case ho => rfl); (case hg => rfl); (case hn => rfl); (case hr => first | (go_simp; done) | (go_simp; rfl)); intro w30 hw; have hg : wr.grownBy w30 (some go28) := (by rw [hw]; exact HP29.2); have hp_ : Kd.P (Kd.int .u16) 23 w30 w.heap.size (fun k_ => some k_ ≠ (.slice Ao14 y118.length co14 : Value).ownBlock) (.slice (some ⟨go28, 0, none⟩) x6_3.length co24) y130 := (by rw [hw, Ny130.out]; exact HP29.1); clear HP29; replace HO_5 := Aside0.mk (Kd.R_after (v := (.slice (some ⟨go28, 0, none⟩) x6_3.length co24)) (v1 := (.slice (some ⟨go28, 0, none⟩) x6_3.length co24)) (ok := (fun _ => True)) (by (with_reducible repeat (first | apply Kd.R_alloc | apply Kd.R_drewN | apply Kd.R_drew)); exact Kd.R_mono HO_5.out (fun _ hk => ⟨trivial, hk⟩)) hg (.inl rfl)); replace HO_6 := Aside0.mk (hp_); replace HB := Aside0.mk ((by rw [hw]; exact below_set (HB.out) GB28.out : Below w.heap.size w w30)); clear hg hw hp_))
       (try simp only [← hl6_3])
       go_roundg k3
       case measure => have := HJ2.out; have := HJ9.out; have := HK3.out; omega
       case rel => exact ⟨(y130), (wrap64 (x36_3 + 1)), (by first | rfl | (simp; done) | (simp [*]; done)), H', ⟨by have := HJ2.out; have := HJ9.out; have := HK3.out; omega⟩, ⟨by (try simp only [hl6_3]); (with_reducible repeat (first | apply Kd.R_alloc | apply Kd.R_drewN | apply Kd.R_drew)); exact Kd.R_mono HO_5.out (fun _ hk => hk.2)⟩, ⟨by (try simp only [hl6_3]); (with_reducible repeat (first | apply Kd.P_alloc | apply Kd.P_drewN | apply Kd.P_drew)); exact HO_6.out⟩, ⟨by repeat (first | (with_reducible first | exact HB.out | apply below_alloc | apply pw_below_drewN | apply below_drew1) | exact HB.out)⟩⟩
/-- THE ONE PURE STATEMENT of stillagelaw03_TurnOrders: yours. -/
def stillagelaw03_TurnOrders.Pure : Prop := ∀ (l0 : List Int) (a1 : Int), l0.length ≤ maxLen → l0.length * 2 ≤ 140737488351232 → (∀ x ∈ l0, (Lit.int .u16 x).wf = true) → (Lit.int .u16 a1).wf = true → ∃ k, stillagelaw03_TurnOrders.f k l0 a1 = some true
theorem stillagelaw03_TurnOrders.walk (P : stillagelaw03_TurnOrders.Pure) (a0 : Option Addr) (len0 cap0 : Nat) (z0 : List Int) (a1 : Int) (w : World) (w0 : (a0 = none ∧ len0 = 0 ∧ cap0 = 0 ∧ z0 = []) ∨ ∃ x, a0 = some x ∧ len0 ≤ cap0 ∧ cap0 ≤ maxLen ∧ z0.length = cap0 ∧ (∀ i, i < z0.length → w.cell? (x.add i) = some (.int .u16 (z0.getD i 0))) ∧ ∀ n ∈ z0, (Lit.int .u16 n).wf = true) (y0 : len0 * 2 ≤ 140737488351232) (w1 : (Lit.int .u16 a1).wf = true) :
  Calls Try.prog 3 #[.slice a0 len0 cap0, .int .u16 a1] w fun e w' => e = .returned (.bool true) ∧ Below w.heap.size w w' := by
 obtain ⟨l0, rfl, hr0, hm0, hw0, hc0⟩ := ReadsInt.ofRowC w0
 obtain ⟨k, h⟩ := P l0 a1 hm0 y0 hw0 w1
 refine (stillagelaw03_TurnOrders.calls k _ _ l0 a1 true w (Kd.C_of_reads (d := (0 : Int)) (h1 := fun _ => rfl) hr0) hc0 h).mono ?_
 rintro e w' ⟨rfl, hd⟩
 exact ⟨rfl, hd⟩

end Go.Proofs.Ytkeajkdcboopcaa.PTurnOrders
