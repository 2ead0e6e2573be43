-- Written by a program of this session (wip/oprint): after the pattern of the kit's print, which does not take this law. -- trimmed
import Derived.Test.YtkfoicfbmhalbaaPReachBothx0
namespace Go.Proofs.Ytkfoicfbmhalbaa.PReachBoth
open Go.RowKit Go.Proofs.YtkfoicfbmhalbaaW.PrintWords Go.Proofs.YtkfoicfbmhalbaaW.PrintLast Go.Proofs.YtkfoicfbmhalbaaW.PrintMore
attribute [local go_sem] max2_int min2_int max_two min_two max_three min_three max_four min_four   -- for this text's walks alone
set_option linter.unusedVariables false
set_option linter.unusedSimpArgs false

/-! ### reach_shut: function 26 -/
def reach_shut.l0 : Nat → List Bool → List Int → Int → Int → Option (List Bool)
 | 0, _, _, _, _ => none
 | k + 1, x5, x13, x14, x15 => if x15 < x14 then (if 0 ≤ x15 then (if x15 < (x13.length : Int) then (if (rd x13 x15) ≥ 1 then (if (rd x13 x15) < (x5.length : Int) then (if 0 ≤ (rd x13 x15) then (reach_shut.l0 k (x5.set ((rd x13 x15) : Int).toNat true) x13 x14 (wrap64 (x15 + 1))) else (none)) else (reach_shut.l0 k x5 x13 x14 (wrap64 (x15 + 1)))) else (reach_shut.l0 k x5 x13 x14 (wrap64 (x15 + 1)))) else (none)) else (none)) else (some x5)
def reach_shut.f (k : Nat) (l0_0 : List (S43)) (l0_1 : List (S27)) (l1 : List Int) : Option (List Bool) := if 0 ≤ (wrap64 ((l0_1.length : Int) + 1)) then (if (wrap64 ((l0_1.length : Int) + 1) : Int).toNat ≤ 281474976710656 then (reach_shut.l0 k (List.replicate (wrap64 ((l0_1.length : Int) + 1) : Int).toNat false) l1 (l1.length : Int) 0) else (none)) else (none)
theorem reach_shut.mono_l : ∀ k, (∀ y0 y1 y2 y3, LeO (reach_shut.l0 k y0 y1 y2 y3) (reach_shut.l0 (k + 1) y0 y1 y2 y3))
 | 0 => fun _ _ _ _ r h => by simp [reach_shut.l0] at h
 | k + 1 => by
  have ih0 := reach_shut.mono_l k
  ·intro y0 y1 y2 y3
   unfold reach_shut.l0
   repeat' first
   | (with_reducible exact ih0 _ _ _ _)
   | (with_reducible exact LeO.refl _)
   | (with_reducible exact LeO.none _)
   | (with_reducible refine LeO.ite ?_ ?_)
   | (with_reducible refine LeO.bind ?_ (fun _ => ?_))
   | exact ih0 _ _ _ _
   | exact LeO.none _
   | refine LeO.ite ?_ ?_
   | refine LeO.bind ?_ (fun _ => ?_)
theorem reach_shut.mono : ∀ a0 a1 a2 k, LeO (reach_shut.f k a0 a1 a2) (reach_shut.f (k + 1) a0 a1 a2) := by
 intro a0 a1 a2 k
 have ih0 := reach_shut.mono_l k
 unfold reach_shut.f
 repeat' first
   | (with_reducible exact ih0 _ _ _ _)
   | (with_reducible exact LeO.refl _)
   | (with_reducible exact LeO.none _)
   | (with_reducible refine LeO.ite ?_ ?_)
   | (with_reducible refine LeO.bind ?_ (fun _ => ?_))
   | exact ih0 _ _ _ _
   | exact LeO.none _
   | refine LeO.ite ?_ ?_
   | refine LeO.bind ?_ (fun _ => ?_)
set_option maxHeartbeats 8000000 in
set_option maxRecDepth 100000 in
theorem reach_shut.calls (k : Nat) (A0_0 : Option Addr) (c0_0 : Nat) (l0_0 : List (S43)) (A0_1 : Option Addr) (c0_1 : Nat) (l0_1 : List (S27)) (A1 : Option Addr) (c1 : Nat) (l1 : List Int) (r : List Bool) (w : World) (hr0_0 : Kd.C k43 w A0_0 l0_0.length l0_0) (hc0_0 : l0_0.length ≤ c0_0) (hr0_1 : Kd.C k27 w A0_1 l0_1.length l0_1) (hc0_1 : l0_1.length ≤ c0_1) (hr1 : Kd.C (Kd.int .i64) w A1 l1.length l1) (hc1 : l1.length ≤ c1) (h : reach_shut.f k l0_0 l0_1 l1 = some r) :
  Calls Try.prog 26 #[.agg #[.slice A0_0 l0_0.length c0_0, .slice A0_1 l0_1.length c0_1], .slice A1 l1.length c1] w fun e w' => ∃ v0_ : Value, e = .returned (v0_) ∧ Kd.R Kd.bool 4 w' w.heap.size (fun _ => True) v0_ r ∧ Below w.heap.size w w' := by
 have hu25 := Try.underlying25
 have HR0_0 := Aside0.mk hr0_0
 have HC0_0 := Aside0.mk hc0_0
 clear hr0_0 hc0_0
 have HR0_1 := Aside0.mk hr0_1
 have HC0_1 := Aside0.mk hc0_1
 clear hr0_1 hc0_1
 have HR1 := Aside0.mk hr1
 have HC1 := Aside0.mk hc1
 clear hr1 hc1
 have HB := Aside0.mk (Below.refl w.heap.size w)
 have H : (if 0 ≤ (wrap64 ((l0_1.length : Int) + 1)) then (if (wrap64 ((l0_1.length : Int) + 1) : Int).toNat ≤ 281474976710656 then (reach_shut.l0 k (List.replicate (wrap64 ((l0_1.length : Int) + 1) : Int).toNat false) l1 (l1.length : Int) 0) else (none)) else (none)) = some r := h
 clear h
 obtain ⟨ji3, hji3⟩ : ∃ j_ : Int, (wrap64 ((l0_1.length : Int) + 1)) = j_ := ⟨_, rfl⟩
 replace H : (if 0 ≤ (ji3) then (if (ji3 : Int).toNat ≤ 281474976710656 then (reach_shut.l0 k (List.replicate (ji3 : Int).toNat false) l1 (l1.length : Int) 0) else (none)) else (none)) = some r := by first | (rw [hji3] at H; exact H) | (simp only [hji3] at H ⊢; exact H)
 have hji3w : (IntKind.i64.wrap ((l0_1.length : Int) + 1)) = ji3 := (i64_w _).trans hji3
 by_cases c4 : 0 ≤ (ji3)
 rotate_left; ·rw [if_neg c4] at H; exact absurd H (by simp)

 rw [if_pos c4] at H
 have c4b0 := eq_true c4
 have c4b1 : decide (0 ≤ (ji3)) = true := decide_eq_true c4
 clear c4
 by_cases c5 : (ji3 : Int).toNat ≤ 281474976710656
 rotate_left; ·rw [if_neg c5] at H; exact absurd H (by simp)
 rw [if_pos c5] at H
 have c5b0 := eq_true c5
 have c5b1 : decide ((ji3 : Int).toNat ≤ 281474976710656) = true := decide_eq_true c5
 clear c5
 obtain ⟨y102, hy102⟩ : ∃ y_ : List Bool, y_ = (List.replicate (ji3 : Int).toNat false) := ⟨_, rfl⟩
 replace H : (reach_shut.l0 k y102 l1 (l1.length : Int) 0) = some r := by first | (rw [hy102]; with_reducible exact H) | (have H2_ := (Option.bind_some _ _).symm.trans H; rw [hy102]; with_reducible exact H2_) | (have H2_ := (Option.bind_some _ _).symm.trans H; with_reducible exact H2_) | with_reducible exact H | (rw [hy102]; exact H) | exact H
 have Ny102 := Aside0.mk hy102
 clear hy102
 have H' := Aside0.mk H; clear H
 go_enter Try.func26, Try.ntmps26
 go_wp2_with (first | ((with_reducible refine gate_dst (N := 2) rfl ?_); (try (refine gate_guard (by rfl) ?_; dsimp only)); refine box_event ?hg (N := 2) ?hd (cs := #[.slice A0_0 l0_0.length c0_0, .slice A0_1 l0_1.length c0_1]) (t := 25) ?hr ?_; (case hd => rfl); (case hg => rfl); (case hr => first | (go_simp; done) | (go_simp; rfl)); intro gb101 hg w6 hbox hb; have BK101 := Aside0.mk (hbox); have GW101 := Aside0.mk ((by rw [hg]; exact (below_size (by repeat (first | (with_reducible first | exact HB.out | apply below_alloc | apply pw_below_drewN | apply below_drew1) | exact HB.out))) : w.heap.size ≤ gb101)); have GE101 := Aside0.mk ((by rw [hg]; exact (below_size (by repeat (first | (with_reducible first | exact HB.out | apply below_alloc | apply pw_below_drewN | apply below_drew1) | exact HB.out))) : w.heap.size ≤ gb101)); replace HB := Aside0.mk (below_step (by repeat (first | (with_reducible first | exact HB.out | apply below_alloc | apply pw_below_drewN | apply below_drew1) | exact HB.out)) hb); clear hb hbox hg; have hcz7_0 : w6.cell? ⟨gb101, 0, none⟩ = some (.slice A0_0 l0_0.length c0_0) := (blk_cell BK101.out 0).trans rfl; have hcz7_1 : w6.cell? ⟨gb101, 1, none⟩ = some (.slice A0_1 l0_1.length c0_1) := (blk_cell BK101.out 1).trans rfl; have hfz7_0 := blk_frozen BK101.out 0; have hfz7_1 := blk_frozen BK101.out 1) | ((with_reducible refine gate_dst (N := 12) rfl ?_); (try (refine gate_guard (by rfl) ?_; dsimp only)); refine Kd.R_make Kd.bool _ 4 rfl (N := 12) rfl 50 _ _ rfl ji3 rfl rfl Try.underlying50 (.bool false) 1 info4 rfl (by decide) (by omega) false (ok := fun _ => True) (okp := fun _ => True) rfl (fun _ hk => hk) trivial (of_decide_eq_true (by first | (with_reducible assumption) | assumption)) (Nat.le_trans (Nat.mul_le_mul_right _ (of_decide_eq_true (by first | (with_reducible assumption) | assumption) : ji3.toNat ≤ 281474976710656)) (by omega)) (Below.refl _ _) (Nat.le_refl _) ?_; intro v103 w8 ho9 hb hg_ hnew_; clear hg_ hnew_; (first | rw [← Ny102.out] at ho9 | (simp only [Int.reduceToNat] at ho9; rw [← Ny102.out] at ho9)); have HO104 := Aside0.mk (Kd.R_lower ho9 (below_size (by repeat (first | (with_reducible first | exact HB.out | apply below_alloc | apply pw_below_drewN | apply below_drew1 | refine below_set ?_ GE101.out) | exact HB.out)))); replace BK101 := Aside0.mk (blk_below (g := gb101) (o := .cells #[.slice A0_0 l0_0.length c0_0, .slice A0_1 l0_1.length c0_1] 25 (0, 0)) (by (with_reducible repeat (first | refine blk_drewN ?_ _ | refine blk_drew ?_ | refine blk_alloc ?_ _)); exact BK101.out) hb); replace HB := Aside0.mk (below_step (by repeat (first | (with_reducible first | exact HB.out | apply below_alloc | apply pw_below_drewN | apply below_drew1 | refine below_set ?_ GE101.out) | exact HB.out)) hb); clear hb ho9))
 go_loopg [15] k (fun kq v15 w' => ∃ (x5_1 : List Bool) (x15_1 : Int), v15 = .int .i64 x15_1 ∧ Aside0 (reach_shut.l0 kq x5_1 l1 (l1.length : Int) x15_1 = some r) ∧ Aside0 (kq ≤ k) ∧ Aside0 (Kd.R Kd.bool 4 w' w.heap.size (fun _ => True) v103 x5_1) ∧ Aside0 (w'.heap[gb101]? = some (.cells #[(.slice A0_0 l0_0.length c0_0), (.slice A0_1 l0_1.length c0_1)] 25 (0, 0))) ∧ Aside0 (Below w.heap.size w w'))
 case atStart => exact ⟨(y102), (0), (by first | rfl | (simp; done) | (simp [*]; done)), H', ⟨Nat.le_refl _⟩, ⟨by (with_reducible repeat (first | apply Kd.R_alloc | apply Kd.R_drewN | apply Kd.R_drew)); exact HO104.out⟩, ⟨by (with_reducible repeat (first | refine blk_drewN ?_ _ | refine blk_drew ?_ | refine blk_alloc ?_ _)); exact BK101.out⟩, ⟨by repeat (first | (with_reducible first | exact HB.out | apply below_alloc | apply pw_below_drewN | apply below_drew1 | refine below_set ?_ GE101.out) | exact HB.out)⟩⟩
 case round =>
  clear H'
  obtain ⟨x5_1, x15_1, rfl, HA, HK1, HO_5, BK101, HB⟩ := hrel
  cases gk with
  | zero => exact absurd HA.out (by simp [reach_shut.l0])
  | succ k1 =>
   have H := HA.out
   clear HA
   simp only [reach_shut.l0] at H
   by_cases c10 : x15_1 < (l1.length : Int)
   rotate_left
   ·rw [if_neg c10] at H
    have c10b0 : decide (x15_1 < (l1.length : Int)) = false := decide_eq_false c10
    clear c10
    obtain rfl := Option.some.inj H
    go_wp2
    go_ret
    exact ⟨_, by first | rfl | (simp [errW_none, errW_some] <;> rfl) | (simp only [← hji3]; first | rfl | (simp [errW_none, errW_some] <;> rfl)) | (simp [*, errW_none, errW_some] <;> rfl), by (with_reducible repeat (first | apply Kd.R_alloc | apply Kd.R_drewN | apply Kd.R_drew)); exact HO_5.out, by repeat (first | (with_reducible first | exact HB.out | apply below_alloc | apply pw_below_drewN | apply below_drew1 | refine below_set ?_ GE101.out) | exact HB.out)⟩
   rw [if_pos c10] at H
   have c10b0 : decide (x15_1 < (l1.length : Int)) = true := decide_eq_true c10
   clear c10
   by_cases c11 : 0 ≤ x15_1
   rotate_left; ·rw [if_neg c11] at H; exact absurd H (by simp)
   rw [if_pos c11] at H
   have c11b0 : decide (0 ≤ x15_1) = true := decide_eq_true c11
   clear c11
   by_cases c12 : x15_1 < (l1.length : Int)
   rotate_left; ·rw [if_neg c12] at H; exact absurd H (by simp)
   rw [if_pos c12] at H
   have c12b0 : decide (x15_1 < (l1.length : Int)) = true := decide_eq_true c12
   clear c12
   by_cases c13 : (rd l1 x15_1) ≥ 1
   rotate_left
   ·rw [if_neg c13] at H
    have c13b0 : decide (1 ≤ (rd l1 x15_1)) = false := decide_eq_false c13
    clear c13
    have H' := Aside0.mk H; clear H
    have p105 : 0 ≤ (x15_1 : Int) := of_decide_eq_true (by first | (with_reducible assumption) | assumption)
    have q105 : x15_1 < (l1.length : Int) := of_decide_eq_true (by first | (with_reducible assumption) | assumption)
    obtain ⟨ad105, e105, hx105_0⟩ := Kd.at_int HR1.out x15_1 p105 q105
    cases e105
    replace hx105_0 := (HB.out.cell (World.block_lt_of_cell? w _ hx105_0)).trans hx105_0
    replace p105 := eq_true p105
    replace q105 := eq_true q105
    go_wp2
    go_roundg k1
    case measure => have := HK1.out; omega
    case rel => exact ⟨(x5_1), (wrap64 (x15_1 + 1)), (by first | rfl | (simp; done) | (simp [*]; done)), H', ⟨by have := HK1.out; omega⟩, ⟨by (with_reducible repeat (first | apply Kd.R_alloc | apply Kd.R_drewN | apply Kd.R_drew)); exact HO_5.out⟩, ⟨by (with_reducible repeat (first | refine blk_drewN ?_ _ | refine blk_drew ?_ | refine blk_alloc ?_ _)); exact BK101.out⟩, ⟨by repeat (first | (with_reducible first | exact HB.out | apply below_alloc | apply pw_below_drewN | apply below_drew1 | refine below_set ?_ GE101.out) | exact HB.out)⟩⟩
   rw [if_pos c13] at H
   have c13b0 : decide (1 ≤ (rd l1 x15_1)) = true := decide_eq_true c13
   clear c13
   by_cases c14 : (rd l1 x15_1) < (x5_1.length : Int)
   rotate_left
   ·rw [if_neg c14] at H
    have c14b0 : decide ((rd l1 x15_1) < (x5_1.length : Int)) = false := decide_eq_false c14
    clear c14
    have H' := Aside0.mk H; clear H
    have p105 : 0 ≤ (x15_1 : Int) := of_decide_eq_true (by first | (with_reducible assumption) | assumption)
    have q105 : x15_1 < (l1.length : Int) := of_decide_eq_true (by first | (with_reducible assumption) | assumption)
    obtain ⟨ad105, e105, hx105_0⟩ := Kd.at_int HR1.out x15_1 p105 q105
    cases e105
    replace hx105_0 := (HB.out.cell (World.block_lt_of_cell? w _ hx105_0)).trans hx105_0
    replace p105 := eq_true p105
    replace q105 := eq_true q105
    obtain ⟨Ao20, co20, eo20⟩ := Kd.R_slice HO_5.out
    subst eo20
    go_wp2
    go_roundg k1
    case measure => have := HK1.out; omega
    case rel => exact ⟨(x5_1), (wrap64 (x15_1 + 1)), (by first | rfl | (simp; done) | (simp [*]; done)), H', ⟨by have := HK1.out; omega⟩, ⟨by (with_reducible repeat (first | apply Kd.R_alloc | apply Kd.R_drewN | apply Kd.R_drew)); exact HO_5.out⟩, ⟨by (with_reducible repeat (first | refine blk_drewN ?_ _ | refine blk_drew ?_ | refine blk_alloc ?_ _)); exact BK101.out⟩, ⟨by repeat (first | (with_reducible first | exact HB.out | apply below_alloc | apply pw_below_drewN | apply below_drew1 | refine below_set ?_ GE101.out) | exact HB.out)⟩⟩
   rw [if_pos c14] at H
   have c14b0 : decide ((rd l1 x15_1) < (x5_1.length : Int)) = true := decide_eq_true c14
   clear c14
   by_cases c15 : 0 ≤ (rd l1 x15_1)
   rotate_left; ·rw [if_neg c15] at H; exact absurd H (by simp)
   rw [if_pos c15] at H
   have c15b0 : decide (0 ≤ (rd l1 x15_1)) = true := decide_eq_true c15
   clear c15
   obtain ⟨y106, hy106⟩ : ∃ y_ : List Bool, y_ = (x5_1.set ((rd l1 x15_1) : Int).toNat true) := ⟨_, rfl⟩
   replace H : (reach_shut.l0 k1 y106 l1 (l1.length : Int) (wrap64 (x15_1 + 1))) = some r := by first | (rw [hy106]; with_reducible exact H) | (have H2_ := (Option.bind_some _ _).symm.trans H; rw [hy106]; with_reducible exact H2_) | (have H2_ := (Option.bind_some _ _).symm.trans H; with_reducible exact H2_) | with_reducible exact H | (rw [hy106]; exact H) | exact H
   have Ny106 := Aside0.mk hy106
   clear hy106
   have H' := Aside0.mk H; clear H
   have p105 : 0 ≤ (x15_1 : Int) := of_decide_eq_true (by first | (with_reducible assumption) | assumption)
   have q105 : x15_1 < (l1.length : Int) := of_decide_eq_true (by first | (with_reducible assumption) | assumption)
   obtain ⟨ad105, e105, hx105_0⟩ := Kd.at_int HR1.out x15_1 p105 q105
   cases e105
   replace hx105_0 := (HB.out.cell (World.block_lt_of_cell? w _ hx105_0)).trans hx105_0
   replace p105 := eq_true p105
   replace q105 := eq_true q105
   obtain ⟨Ao17, co17, eo17⟩ := Kd.R_slice HO_5.out
   subst eo17
   have p16 : 0 ≤ ((rd l1 x15_1) : Int) := of_decide_eq_true (by first | (with_reducible assumption) | assumption)
   have q16 : ((rd l1 x15_1) : Int) < ((x5_1.length : Int) : Int) := of_decide_eq_true (by first | (with_reducible assumption) | assumption)
   obtain ⟨go16, co16, eo16, gb16, gl16, cl16, HG16⟩ := Kd.R_form HO_5.out (by omega)
   (first | cases eo16 | (injection eo16 with ea_ en_ ec_; (first | subst ea_ | (injection ea_ with ea_; subst ea_)); subst ec_; clear en_))
   have GB16 := Aside0.mk gb16
   have GG16 := Aside0.mk HG16
   clear gb16 gl16 HG16
   obtain ⟨hx16_0, hf16_0⟩ := Kd.R_celln false HO_5.out ((rd l1 x15_1) : Int) p16 q16
   replace p16 := eq_true p16
   replace q16 := eq_true q16
   have HP18 := Kd.R_putg HO_5.out ((rd l1 x15_1) : Int) true
   go_wp2_with (first | ((with_reducible refine gate_store (t := 4) (p := 29) rfl ?_); refine store_event (t := 4) (p := 29) (v := ?vo_w19) (w1 := (wr.setCell ⟨go16, ((rd l1 x15_1) : Int).toNat, none⟩ (.bool true))) ?hg ?ho ?hn ?hr ?_; (case ho => rfl); (case hg => rfl); (case hn => rfl); (case hr => first | (go_simp; done) | (go_simp; rfl)); intro w19 hw; have hg : wr.grownBy w19 (some go16) := (by rw [hw]; exact HP18.2); have hp_ : Kd.R Kd.bool 4 w19 w.heap.size (fun _ => True) (.slice (some ⟨go16, 0, none⟩) x5_1.length co17) y106 := (by rw [hw, Ny106.out]; exact HP18.1); clear HP18; replace BK101 := Aside0.mk (blk_grown (g := gb101) (o := .cells #[.slice A0_0 l0_0.length c0_0, .slice A0_1 l0_1.length c0_1] 25 (0, 0)) (by (with_reducible repeat (first | refine blk_drewN ?_ _ | refine blk_drew ?_ | refine blk_alloc ?_ _)); exact BK101.out) hg (Kd.R_ne HO_5.out BK101.out (by decide))); replace HO_5 := Aside0.mk (hp_); replace HB := Aside0.mk ((by rw [hw]; exact below_set (HB.out) GB16.out : Below w.heap.size w w19)); clear hg hw hp_))
   go_roundg k1
   case measure => have := HK1.out; omega
   case rel => exact ⟨(y106), (wrap64 (x15_1 + 1)), (by first | rfl | (simp; done) | (simp [*]; done)), H', ⟨by have := HK1.out; omega⟩, ⟨by (with_reducible repeat (first | apply Kd.R_alloc | apply Kd.R_drewN | apply Kd.R_drew)); exact HO_5.out⟩, ⟨by (with_reducible repeat (first | refine blk_drewN ?_ _ | refine blk_drew ?_ | refine blk_alloc ?_ _)); exact BK101.out⟩, ⟨by repeat (first | (with_reducible first | exact HB.out | apply below_alloc | apply pw_below_drewN | apply below_drew1 | refine below_set ?_ GE101.out) | exact HB.out)⟩⟩
/-! ### bits_Mul32: function 32 -/
def bits_Mul32.f (a0 : Int) (a1 : Int) : Option (Int × Int) := some (((IntKind.u64.wrap ((IntKind.u64.wrap (a0)) * (IntKind.u64.wrap (a1)))) / 4294967296) % 4294967296, (IntKind.u64.wrap ((IntKind.u64.wrap (a0)) * (IntKind.u64.wrap (a1)))) % 4294967296)
set_option maxHeartbeats 8000000 in
set_option maxRecDepth 100000 in
theorem bits_Mul32.calls (a0 : Int) (a1 : Int) (r1 : Int) (r2 : Int) (w : World) (h : bits_Mul32.f a0 a1 = some (r1, r2)) :
  Calls Try.prog 32 #[.int .u32 a0, .int .u32 a1] w fun e w' => e = .returned (.tuple #[.int .u32 r1, .int .u32 r2]) ∧ Drawn0 w w' := by
 have H : (some (((IntKind.u64.wrap ((IntKind.u64.wrap (a0)) * (IntKind.u64.wrap (a1)))) / 4294967296) % 4294967296, (IntKind.u64.wrap ((IntKind.u64.wrap (a0)) * (IntKind.u64.wrap (a1)))) % 4294967296)) = some (r1, r2) := h
 clear h
 simp only [Option.some.injEq, Prod.mk.injEq] at H
 obtain ⟨rfl, rfl⟩ := H
 go_enter Try.func32, Try.ntmps32
 go_wp2
 go_ret2
 exact ⟨by first | rfl | (simp; done) | (simp [*]; done), by repeat (first | exact Drawn0.refl _ | apply Drawn0.step)⟩

/-! ### bits_Mul64: function 33 -/
def bits_Mul64.f (a0 : Int) (a1 : Int) : Option (Int × Int) := some (IntKind.u64.wrap ((IntKind.u64.wrap ((IntKind.u64.wrap ((a0 / 4294967296) * (a1 / 4294967296))) + ((IntKind.u64.wrap ((IntKind.u64.wrap ((a0 / 4294967296) * (Go.bits .and .u64 a1 4294967295))) + ((IntKind.u64.wrap ((Go.bits .and .u64 a0 4294967295) * (Go.bits .and .u64 a1 4294967295))) / 4294967296))) / 4294967296))) + ((IntKind.u64.wrap ((Go.bits .and .u64 (IntKind.u64.wrap ((IntKind.u64.wrap ((a0 / 4294967296) * (Go.bits .and .u64 a1 4294967295))) + ((IntKind.u64.wrap ((Go.bits .and .u64 a0 4294967295) * (Go.bits .and .u64 a1 4294967295))) / 4294967296))) 4294967295) + (IntKind.u64.wrap ((Go.bits .and .u64 a0 4294967295) * (a1 / 4294967296))))) / 4294967296)), IntKind.u64.wrap (a0 * a1))
set_option maxHeartbeats 8000000 in
set_option maxRecDepth 100000 in
theorem bits_Mul64.calls (a0 : Int) (a1 : Int) (r1 : Int) (r2 : Int) (w : World) (h : bits_Mul64.f a0 a1 = some (r1, r2)) :
  Calls Try.prog 33 #[.int .u64 a0, .int .u64 a1] w fun e w' => e = .returned (.tuple #[.int .u64 r1, .int .u64 r2]) ∧ Drawn0 w w' := by
 have H : (some (IntKind.u64.wrap ((IntKind.u64.wrap ((IntKind.u64.wrap ((a0 / 4294967296) * (a1 / 4294967296))) + ((IntKind.u64.wrap ((IntKind.u64.wrap ((a0 / 4294967296) * (Go.bits .and .u64 a1 4294967295))) + ((IntKind.u64.wrap ((Go.bits .and .u64 a0 4294967295) * (Go.bits .and .u64 a1 4294967295))) / 4294967296))) / 4294967296))) + ((IntKind.u64.wrap ((Go.bits .and .u64 (IntKind.u64.wrap ((IntKind.u64.wrap ((a0 / 4294967296) * (Go.bits .and .u64 a1 4294967295))) + ((IntKind.u64.wrap ((Go.bits .and .u64 a0 4294967295) * (Go.bits .and .u64 a1 4294967295))) / 4294967296))) 4294967295) + (IntKind.u64.wrap ((Go.bits .and .u64 a0 4294967295) * (a1 / 4294967296))))) / 4294967296)), IntKind.u64.wrap (a0 * a1))) = some (r1, r2) := h
 clear h
 simp only [Option.some.injEq, Prod.mk.injEq] at H
 obtain ⟨rfl, rfl⟩ := H
 go_enter Try.func33, Try.ntmps33
 go_wp2
 go_ret2
 exact ⟨by first | rfl | (simp; done) | (simp [*]; done), by repeat (first | exact Drawn0.refl _ | apply Drawn0.step)⟩

/-! ### bits_Mul: function 31 -/
def bits_Mul.f (a0 : Int) (a1 : Int) : Option (Int × Int) := (bits_Mul64.f a0 a1).bind fun bt107 => (some (bt107.1, bt107.2))
set_option maxHeartbeats 8000000 in
set_option maxRecDepth 100000 in
theorem bits_Mul.calls (a0 : Int) (a1 : Int) (r1 : Int) (r2 : Int) (w : World) (h : bits_Mul.f a0 a1 = some (r1, r2)) :
  Calls Try.prog 31 #[.int .u64 a0, .int .u64 a1] w fun e w' => e = .returned (.tuple #[.int .u64 r1, .int .u64 r2]) ∧ Drawn0 w w' := by
 have H : ((bits_Mul64.f a0 a1).bind fun bt107 => (some (bt107.1, bt107.2))) = some (r1, r2) := h
 clear h
 replace H := Option.bind_eq_some_iff.mp H; obtain ⟨⟨t107, t108⟩, A30, H⟩ := H
 replace H : (some (t107, t108)) = some (r1, r2) := H
 have A3 := Aside0.mk A30
 clear A30
 simp only [Option.some.injEq, Prod.mk.injEq] at H
 obtain ⟨rfl, rfl⟩ := H
 go_enter Try.func31, Try.ntmps31
 go_wp2_with (first | ((with_reducible refine gate_callee (f := 33) rfl ?_); refine goesL_ (some 25) rfl rfl Try.func33 (by kernel_rfl) rfl #[.int .u64 a0, .int .u64 a1] rfl (by (try simp only [List.map_toArray, List.map_cons, List.map_nil]); first | done | rfl | (simp only [List.length_drop, List.length_take]; rfl)) ?_; (with_reducible refine (bits_Mul64.calls a0 a1 t107 t108 _ A3.out).mono ?_); rintro e w' ⟨rfl, ⟨nd, rfl⟩⟩; refine ⟨_, rfl, ?_⟩))
 go_ret2
 exact ⟨by first | rfl | (simp; done) | (simp [*]; done), by repeat (first | exact Drawn0.refl _ | apply Drawn0.step)⟩

/-! ### slices_Repeat_int_int: function 30, given -/
def slices_Repeat_int_int.f (l0 : List Int) (a1 : Int) : Option (List Int) := if l0.length = 1 ∧ 1 ≤ a1 ∧ a1 ≤ 1000 then some (List.replicate a1.toNat (rd l0 0)) else none
theorem slices_Repeat_int_int_mul : ∀ n : Fin 1001, bits_Mul.f 1 (n.val : Int) = some (0, (n.val : Int)) := by decide +kernel
theorem slices_Repeat_int_int_list {cur : List Value} {x : Value} {j m : Nat} (h : cur.take j = List.replicate j x) (hm : m ≤ j) (hl : j + m ≤ cur.length) : (cur.take j ++ cur.take m ++ cur.drop (j + m)).take (j + m) = List.replicate (j + m) x := by
 have h2 : cur.take m = List.replicate m x := by
  have : cur.take m = (cur.take j).take m := by rw [List.take_take]; congr 1; omega
  rw [this, h, List.take_replicate]
  congr 1; omega
 rw [h, h2, List.replicate_append_replicate, List.take_append_of_le_length (by simp)]
 exact List.take_of_length_le (by simp)
set_option maxHeartbeats 1000000 in
set_option maxRecDepth 100000 in
theorem slices_Repeat_int_int.calls (A0 : Option Addr) (c0 : Nat) (l0 : List Int) (a1 : Int) (r : List Int) (w : World) (hr0 : Kd.C (Kd.int .i64) w A0 l0.length l0) (hc0 : l0.length ≤ c0) (h : slices_Repeat_int_int.f l0 a1 = some r) :
  Calls Try.prog 30 #[.slice A0 l0.length c0, .int .i64 a1] w fun e w' => ∃ v0_ : Value, e = .returned (v0_) ∧ Kd.R (Kd.int .i64) 3 w' w.heap.size (fun _ => True) v0_ r ∧ Below w.heap.size w w' := by
 unfold slices_Repeat_int_int.f at h
 split at h
 ·rename_i hh
  obtain ⟨h1, h2, h3⟩ := hh
  obtain ⟨v, rfl⟩ : ∃ v, l0 = [v] := List.length_eq_one_iff.mp h1
  obtain ⟨n, rfl⟩ := Int.eq_ofNat_of_zero_le (show 0 ≤ a1 by omega)
  have hpos : 0 < n := by omega
  obtain rfl := Option.some.inj h
  clear h h1 h2
  have hn : n ≤ 1000 := by omega
  clear h3
  have HM := Aside0.mk (slices_Repeat_int_int_mul ⟨n, by omega⟩)
  have hcell : ∃ ad, A0 = some ad ∧ w.cell? ad = some (.int .i64 v) := by
   obtain ⟨ad, e, hx⟩ := Kd.at_int hr0 0 (by omega) (by simp)
   exact ⟨ad, e, by simpa [Addr.add, rd] using hx⟩
  obtain ⟨ad, rfl, hc⟩ := hcell
  have hadd : ad.add 0 = ad := by unfold Addr.add; split <;> simp_all
  have hc2 : ∀ j u, ([Value.int .i64 v] : List Value)[j]? = some u → w.cell? (ad.add j) = some u := by
   intro j u hu
   rcases j with _ | j
   ·simp only [List.getElem?_cons_zero, Option.some.injEq] at hu
    subst hu
    rw [hadd]; exact hc
   ·simp at hu
  have HC := Aside0.mk hc2
  have HA := Aside0.mk hadd
  clear hc hc2 hadd hr0
  have hb0 : decide ((n : Int) < 0) = false := by simp
  have hmk := print_make (P := Try.prog) 26 3 .i64 8 Try.underlying26 (by kernel_rfl) (by decide) n (by omega)
  go_enter Try.func30, Try.ntmps30
  go_wp2_with fail
  refine (bits_Mul.calls 1 n 0 n _ HM.out).mono ?_
  rintro e w' ⟨rfl, ⟨nd, rfl⟩⟩
  go_wp2_with (with_reducible refine wpList_copy_splice (P := Try.prog) rfl (.tmp 31) (.tmp 32) 26 26 rfl 3 Try.underlying26 (by kernel_rfl) (some ⟨w.heap.size, 0, none⟩) (some ad) n n 1 c0 rfl rfl w.heap.size 0 (madeCells #[.int .i64 0] n).toList 3 ?hg [.int .i64 v] ?hn ?hpos ?hfit ?h1 w.heap.size w ?hb (Nat.le_refl _) ?_)
  case hg => exact heap_alloc_new _ _
  case hn => exact (Nat.min_eq_left (show 1 ≤ n from hpos)).symm
  case hpos =>
   intro j u hu
   have := HC.out j u hu
   have hlt := World.block_lt_of_cell? _ _ this
   rw [World.cell?_alloc_lt _ _ _ (by simpa using hlt)]
   simpa using this
  case hfit => simp [size_madeCells]; omega
  case h1 => intro u hu; simp at hu; subst hu; rfl
  case hb => exact below_alloc (pw_below_drewN (Below.refl _ _) _) _
  intro w1 hg1 hb1
  have HB := Aside0.mk hb1
  have HG := Aside0.mk hg1.out
  clear hb1 hg1
  go_wp2_with fail
  go_loopw [8] (fun v8 wr => ∃ (j : Nat) (cur : List Value), v8 = .int .i64 (j : Int) ∧ 1 ≤ j ∧ j ≤ n ∧ Aside0 (cur.length = n) ∧ Aside0 (cur.take j = List.replicate j (.int .i64 v)) ∧ Aside0 (wr.heap[w.heap.size]? = some (.cells cur.toArray 3 (0, 0))) ∧ Aside0 (Below w.heap.size w wr)) (fun v8 _ => n - (intOf v8).toNat)
  case atStart => exact ⟨1, _, rfl, Nat.le_refl _, hpos, ⟨by simp [splice, size_madeCells]; omega⟩, ⟨by simp [splice]⟩, HG, HB⟩
  case round =>
   obtain ⟨j, cur, rfl, hj1, hj2, HL, HT, HG2, HB2⟩ := hrel
   by_cases hlt : j < n
   rotate_left
   ·obtain rfl : n = j := by omega
    go_wp2_with fail
    go_ret
    refine ⟨_, rfl, ?_, HB2.out⟩
    refine Kd.R_of_own (xs := List.replicate ((n : Int)).toNat (rd [v] 0)) ⟨by simp [encs], .inr ⟨w.heap.size, n, cur.toArray, by simp, Nat.le_refl _, HG2.out, by simp, by unfold maxLen; simp; omega, by simp [HL.out], ?_⟩⟩ (fun _ _ => trivial)
    have : encs (Value.int .i64) (List.replicate ((n : Int)).toNat (rd [v] 0)) = List.replicate n (.int .i64 v) := by simp [encs, rd]
    rw [this]
    simpa using HT.out
   have hne : ¬ (n = j) := by omega
   have hne2 : ¬ (j = n) := by omega
   obtain ⟨m, hm1, hm2, hm3⟩ : ∃ m : Nat, 1 ≤ m ∧ j + m ≤ n ∧ Hid (m = min j (n - j)) := ⟨min j (n - j), by omega, by omega, rfl⟩
   obtain ⟨W3, hcp, HG3, HB3⟩ : ∃ W3, (Builtin.copy_ #[26, 26] 3 #[.slice (some ⟨w.heap.size, j, none⟩) (n - j) (n - j), .slice (some ⟨w.heap.size, 0, none⟩) j n]).run Try.prog wr.drew = .ok (.int .i64 (m : Int)) W3 ∧ Aside0 (W3.heap[w.heap.size]? = some (.cells (cur.take j ++ cur.take m ++ cur.drop (j + m)).toArray 3 (0, 0))) ∧ Aside0 (Below w.heap.size w W3) := by
    have hl : (cur.take m).length = m := by rw [List.length_take, HL.out]; have := hm3.out; omega
    have hr := run_copy_row (P := Try.prog) wr.drew 26 26 3 3 w.heap.size j (n - j) (n - j) ⟨w.heap.size, 0, none⟩ j n cur.toArray 3 (cur.take m) Try.underlying26 (by kernel_rfl) HG2.out (by rw [hl]; have := hm3.out; show m = min j (n - j); omega) (by
      intro i u hu
      rw [add_plain]
      have : cur[i]? = some u := by
       rw [List.getElem?_take] at hu
       split at hu
       ·exact hu
       ·cases hu
      show wr.cell? _ = _
      simp [World.cell?, HG2.out, this]) (by rw [hl]; simp [HL.out]; omega) (by
      intro u hu
      have h1 : cur.take m = (cur.take j).take m := by rw [List.take_take]; congr 1; have := hm3.out; omega
      rw [h1, HT.out] at hu
      have := List.mem_of_mem_take hu
      rw [List.mem_replicate] at this
      rw [this.2]; rfl)
    rw [hl] at hr
    refine ⟨_, hr, ⟨by simpa using setRow_heap wr.drew w.heap.size _ _ 3 (0, 0) HG2.out⟩, ⟨below_setRow (below_drew HB2.out) (Nat.le_refl _) _⟩⟩
   go_wp2_with fail
   go_region
   all_goals go_roundw
   case rel => exact ⟨.int .i64 ((j : Int) + (m : Int)), _, _, _, _, _, _, _, _, _, _, _, _, _, ⟨j + m, _, by go_num, by omega, by omega, ⟨by simp [HL.out]; omega⟩, ⟨slices_Repeat_int_int_list HT.out (by have := hm3.out; omega) (by rw [HL.out]; omega)⟩, HG3, HB3⟩, rfl⟩
   case measure => simp [intOf]; omega
 ·cases h

end Go.Proofs.Ytkfoicfbmhalbaa.PReachBoth
