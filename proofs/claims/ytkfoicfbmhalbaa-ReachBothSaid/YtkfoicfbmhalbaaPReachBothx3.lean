-- Written by a program of this session (wip/oprint): after the pattern of the kit's print, which does not take this law. -- trimmed
import Derived.Test.YtkfoicfbmhalbaaPReachBothx0
import Derived.Test.YtkfoicfbmhalbaaPReachBothx2
namespace Go.Proofs.Ytkfoicfbmhalbaa.PReachBoth
open Go.RowKit Go.Proofs.YtkfoicfbmhalbaaW.PrintWords Go.Proofs.YtkfoicfbmhalbaaW.PrintLast Go.Proofs.YtkfoicfbmhalbaaW.PrintMore
attribute [local go_sem] max2_int min2_int max_two min_two max_three min_three max_four min_four   -- for this text's walks alone
set_option linter.unusedVariables false
set_option linter.unusedSimpArgs false

/-! ### reach_lengths_0: function 27 -/
mutual
def reach_lengths_0.l0 : Nat → List Bool → Int → List Int → List Int → List (S43) → List (S27) → Option (List Int)
 | 0, _, _, _, _, _, _ => none
 | k + 1, x1, x2, x9, x10, x110000, x110001 => if (x10.length : Int) > 0 then (if 0 < (x10.length : Int) then (if (rd x10 0) = x2 then (reach_lengths_0.j1 k x1 x2 x9 x10 (rd x10 0) false x110000 x110001) else (if 0 ≤ (rd x10 0) then (if (rd x10 0) < (x110000.length : Int) then (reach_lengths_0.j1 k x1 x2 x9 x10 (rd x10 0) (((rd_T43 x110000 (rd x10 0)).f1) != 1) x110000 x110001) else (none)) else (none))) else (none)) else (some x9)
def reach_lengths_0.j1 : Nat → List Bool → Int → List Int → List Int → Int → Bool → List (S43) → List (S27) → Option (List Int)
 | 0, _, _, _, _, _, _, _, _ => none
 | k + 1, x1, x2, x9, x10, x11, x44, x110000, x110001 => if x44 = true then (if 1 ≤ (x10.length : Int) then (reach_lengths_0.l0 k x1 x2 x9 (x10.drop (1 : Int).toNat) x110000 x110001) else (none)) else (reach_lengths_0.l1 k x1 x2 x9 x10 x11 x110001 (x110001.length : Int) 0 x110000 x110001)
def reach_lengths_0.l1 : Nat → List Bool → Int → List Int → List Int → Int → List (S27) → Int → Int → List (S43) → List (S27) → Option (List Int)
 | 0, _, _, _, _, _, _, _, _, _, _ => none
 | k + 1, x1, x2, x9, x10, x11, x46, x47, x48, x110000, x110001 => if x48 < x47 then (if 0 ≤ x48 then (if x48 < (x46.length : Int) then (if 0 ≤ (wrap64 (x48 + 1)) then (if (wrap64 (x48 + 1)) < (x1.length : Int) then (if (rdOf false x1 (wrap64 (x48 + 1)) = true) then (reach_lengths_0.l1 k x1 x2 x9 x10 x11 x46 x47 (wrap64 (x48 + 1)) x110000 x110001) else (if ((rd_T27 x46 x48).f0) = x11 then (if 0 ≤ ((rd_T27 x46 x48).f1) then (if ((rd_T27 x46 x48).f1) < (x9.length : Int) then (if (rd x9 ((rd_T27 x46 x48).f1)) < 0 then (if 0 ≤ x11 then (if x11 < (x9.length : Int) then (if x10.length < 17592186044416 then (reach_lengths_0.l1 k x1 x2 (x9.set (((rd_T27 x46 x48).f1) : Int).toNat (wrap64 ((rd x9 x11) + 1))) (x10 ++ [(rd_T27 x46 x48).f1]) x11 x46 x47 (wrap64 (x48 + 1)) x110000 x110001) else (none)) else (none)) else (none)) else (reach_lengths_0.l1 k x1 x2 x9 x10 x11 x46 x47 (wrap64 (x48 + 1)) x110000 x110001)) else (none)) else (none)) else (reach_lengths_0.l1 k x1 x2 x9 x10 x11 x46 x47 (wrap64 (x48 + 1)) x110000 x110001))) else (none)) else (none)) else (none)) else (none)) else (if 1 ≤ (x10.length : Int) then (reach_lengths_0.l0 k x1 x2 x9 (x10.drop (1 : Int).toNat) x110000 x110001) else (none))
end
def reach_lengths_0.f (k : Nat) (l0_0 : List (S43)) (l0_1 : List (S27)) (l1 : List Bool) (a2 : Int) (a3 : Int) : Option (List Int) := (slices_Repeat_int_int.f (([(-1)] : List Int)) (l0_0.length : Int)).bind fun t113 => (if 0 ≤ a2 then (if a2 < (t113.length : Int) then (reach_lengths_0.l0 k l1 a2 (t113.set (a2 : Int).toNat 0) (([a2] : List Int)) l0_0 l0_1) else (none)) else (none))
theorem reach_lengths_0.mono_l : ∀ k, (∀ y0 y1 y2 y3 y4 y5, LeO (reach_lengths_0.l0 k y0 y1 y2 y3 y4 y5) (reach_lengths_0.l0 (k + 1) y0 y1 y2 y3 y4 y5)) ∧ (∀ y0 y1 y2 y3 y4 y5 y6 y7, LeO (reach_lengths_0.j1 k y0 y1 y2 y3 y4 y5 y6 y7) (reach_lengths_0.j1 (k + 1) y0 y1 y2 y3 y4 y5 y6 y7)) ∧ (∀ y0 y1 y2 y3 y4 y5 y6 y7 y8 y9, LeO (reach_lengths_0.l1 k y0 y1 y2 y3 y4 y5 y6 y7 y8 y9) (reach_lengths_0.l1 (k + 1) y0 y1 y2 y3 y4 y5 y6 y7 y8 y9))
 | 0 => ⟨fun _ _ _ _ _ _ r h => by simp [reach_lengths_0.l0] at h, fun _ _ _ _ _ _ _ _ r h => by simp [reach_lengths_0.j1] at h, fun _ _ _ _ _ _ _ _ _ _ r h => by simp [reach_lengths_0.l1] at h⟩
 | k + 1 => by
  obtain ⟨ih0, ih1, ih2⟩ := reach_lengths_0.mono_l k
  refine ⟨?_, ?_, ?_⟩
  ·intro y0 y1 y2 y3 y4 y5
   unfold reach_lengths_0.l0
   repeat' first
   | (with_reducible exact ih0 _ _ _ _ _ _)
   | (with_reducible exact ih1 _ _ _ _ _ _ _ _)
   | (with_reducible exact ih2 _ _ _ _ _ _ _ _ _ _)
   | (with_reducible exact LeO.refl _)
   | (with_reducible exact LeO.none _)
   | (with_reducible refine LeO.ite ?_ ?_)
   | (with_reducible refine LeO.bind ?_ (fun _ => ?_))
   | exact ih0 _ _ _ _ _ _
   | exact ih1 _ _ _ _ _ _ _ _
   | exact ih2 _ _ _ _ _ _ _ _ _ _
   | exact LeO.none _
   | refine LeO.ite ?_ ?_
   | refine LeO.bind ?_ (fun _ => ?_)
  ·intro y0 y1 y2 y3 y4 y5 y6 y7
   unfold reach_lengths_0.j1
   repeat' first
   | (with_reducible exact ih0 _ _ _ _ _ _)
   | (with_reducible exact ih1 _ _ _ _ _ _ _ _)
   | (with_reducible exact ih2 _ _ _ _ _ _ _ _ _ _)
   | (with_reducible exact LeO.refl _)
   | (with_reducible exact LeO.none _)
   | (with_reducible refine LeO.ite ?_ ?_)
   | (with_reducible refine LeO.bind ?_ (fun _ => ?_))
   | exact ih0 _ _ _ _ _ _
   | exact ih1 _ _ _ _ _ _ _ _
   | exact ih2 _ _ _ _ _ _ _ _ _ _
   | exact LeO.none _
   | refine LeO.ite ?_ ?_
   | refine LeO.bind ?_ (fun _ => ?_)
  ·intro y0 y1 y2 y3 y4 y5 y6 y7 y8 y9
   unfold reach_lengths_0.l1
   repeat' first
   | (with_reducible exact ih0 _ _ _ _ _ _)
   | (with_reducible exact ih1 _ _ _ _ _ _ _ _)
   | (with_reducible exact ih2 _ _ _ _ _ _ _ _ _ _)
   | (with_reducible exact LeO.refl _)
   | (with_reducible exact LeO.none _)
   | (with_reducible refine LeO.ite ?_ ?_)
   | (with_reducible refine LeO.bind ?_ (fun _ => ?_))
   | exact ih0 _ _ _ _ _ _
   | exact ih1 _ _ _ _ _ _ _ _
   | exact ih2 _ _ _ _ _ _ _ _ _ _
   | exact LeO.none _
   | refine LeO.ite ?_ ?_
   | refine LeO.bind ?_ (fun _ => ?_)
theorem reach_lengths_0.mono : ∀ a0 a1 a2 a3 a4 k, LeO (reach_lengths_0.f k a0 a1 a2 a3 a4) (reach_lengths_0.f (k + 1) a0 a1 a2 a3 a4) := by
 intro a0 a1 a2 a3 a4 k
 obtain ⟨ih0, ih1, ih2⟩ := reach_lengths_0.mono_l k
 unfold reach_lengths_0.f
 repeat' first
   | (with_reducible exact ih0 _ _ _ _ _ _)
   | (with_reducible exact ih1 _ _ _ _ _ _ _ _)
   | (with_reducible exact ih2 _ _ _ _ _ _ _ _ _ _)
   | (with_reducible exact LeO.refl _)
   | (with_reducible exact LeO.none _)
   | (with_reducible refine LeO.ite ?_ ?_)
   | (with_reducible refine LeO.bind ?_ (fun _ => ?_))
   | exact ih0 _ _ _ _ _ _
   | exact ih1 _ _ _ _ _ _ _ _
   | exact ih2 _ _ _ _ _ _ _ _ _ _
   | exact LeO.none _
   | refine LeO.ite ?_ ?_
   | refine LeO.bind ?_ (fun _ => ?_)
set_option maxHeartbeats 8000000 in
set_option maxRecDepth 100000 in
theorem reach_lengths_0.calls (k : Nat) (A0_0 : Option Addr) (c0_0 : Nat) (l0_0 : List (S43)) (A0_1 : Option Addr) (c0_1 : Nat) (l0_1 : List (S27)) (A1 : Option Addr) (c1 : Nat) (l1 : List Bool) (a2 : Int) (a3 : Int) (r : List Int) (w : World) (hr0_0 : Kd.C k43 w A0_0 l0_0.length l0_0) (hc0_0 : l0_0.length ≤ c0_0) (hr0_1 : Kd.C k27 w A0_1 l0_1.length l0_1) (hc0_1 : l0_1.length ≤ c0_1) (hr1 : Kd.C Kd.bool w A1 l1.length l1) (hc1 : l1.length ≤ c1) (h : reach_lengths_0.f k l0_0 l0_1 l1 a2 a3 = some r) :
  Calls Try.prog 27 #[.agg #[.slice A0_0 l0_0.length c0_0, .slice A0_1 l0_1.length c0_1], .slice A1 l1.length c1, .int .i64 a2, .int .i64 0] w fun e w' => ∃ v0_ : Value, e = .returned (v0_) ∧ Kd.R (Kd.int .i64) 3 w' w.heap.size (fun _ => True) v0_ r ∧ Below w.heap.size w w' := by
 have hu25 := Try.underlying25
 have hu27 := Try.underlying27
 have HR0_0 := Aside0.mk hr0_0
 have HC0_0 := Aside0.mk hc0_0
 clear hr0_0 hc0_0
 have HR0_1 := Aside0.mk hr0_1
 have HC0_1 := Aside0.mk hc0_1
 clear hr0_1 hc0_1
 have HR1 := Aside0.mk hr1
 have HC1 := Aside0.mk hc1
 clear hr1 hc1
 have HB := Aside0.mk (Below.refl w.heap.size w)
 have H : ((slices_Repeat_int_int.f (([(-1)] : List Int)) (l0_0.length : Int)).bind fun t113 => (if 0 ≤ a2 then (if a2 < (t113.length : Int) then (reach_lengths_0.l0 k l1 a2 (t113.set (a2 : Int).toNat 0) (([a2] : List Int)) l0_0 l0_1) else (none)) else (none))) = some r := h
 clear h
 obtain ⟨y110, hy110⟩ : ∃ y_ : List Int, y_ = (([(-1)] : List Int)) := ⟨_, rfl⟩
 replace H : ((slices_Repeat_int_int.f y110 (l0_0.length : Int)).bind fun t113 => (if 0 ≤ a2 then (if a2 < (t113.length : Int) then (reach_lengths_0.l0 k l1 a2 (t113.set (a2 : Int).toNat 0) (([a2] : List Int)) l0_0 l0_1) else (none)) else (none))) = some r := by first | (rw [hy110]; with_reducible exact H) | (have H2_ := (Option.bind_some _ _).symm.trans H; rw [hy110]; with_reducible exact H2_) | (have H2_ := (Option.bind_some _ _).symm.trans H; with_reducible exact H2_) | with_reducible exact H | (rw [hy110]; exact H) | exact H
 have Ny110 := Aside0.mk hy110
 clear hy110
 replace H := Option.bind_eq_some_iff.mp H; obtain ⟨t113, A50, H⟩ := H
 replace H : (if 0 ≤ a2 then (if a2 < (t113.length : Int) then (reach_lengths_0.l0 k l1 a2 (t113.set (a2 : Int).toNat 0) (([a2] : List Int)) l0_0 l0_1) else (none)) else (none)) = some r := H
 have A5 := Aside0.mk A50
 clear A50
 by_cases c6 : 0 ≤ a2
 rotate_left; ·rw [if_neg c6] at H; exact absurd H (by simp)

 rw [if_pos c6] at H
 have c6b0 : decide (0 ≤ a2) = true := decide_eq_true c6
 clear c6
 by_cases c7 : a2 < (t113.length : Int)
 rotate_left; ·rw [if_neg c7] at H; exact absurd H (by simp)
 rw [if_pos c7] at H
 have c7b0 : decide (a2 < (t113.length : Int)) = true := decide_eq_true c7
 clear c7
 obtain ⟨y116, hy116⟩ : ∃ y_ : List Int, y_ = (t113.set (a2 : Int).toNat 0) := ⟨_, rfl⟩
 replace H : (reach_lengths_0.l0 k l1 a2 y116 (([a2] : List Int)) l0_0 l0_1) = some r := by first | (rw [hy116]; with_reducible exact H) | (have H2_ := (Option.bind_some _ _).symm.trans H; rw [hy116]; with_reducible exact H2_) | (have H2_ := (Option.bind_some _ _).symm.trans H; with_reducible exact H2_) | with_reducible exact H | (rw [hy116]; exact H) | exact H
 have Ny116 := Aside0.mk hy116
 clear hy116
 obtain ⟨y117, hy117⟩ : ∃ y_ : List Int, y_ = (([a2] : List Int)) := ⟨_, rfl⟩
 replace H : (reach_lengths_0.l0 k l1 a2 y116 y117 l0_0 l0_1) = some r := by first | (rw [hy117]; with_reducible exact H) | (have H2_ := (Option.bind_some _ _).symm.trans H; rw [hy117]; with_reducible exact H2_) | (have H2_ := (Option.bind_some _ _).symm.trans H; with_reducible exact H2_) | with_reducible exact H | (rw [hy117]; exact H) | exact H
 have Ny117 := Aside0.mk hy117
 clear hy117
 have H' := Aside0.mk H; clear H
 go_enter Try.func27, Try.ntmps27
 go_wp2_with (first | ((with_reducible refine gate_dst (N := 4) rfl ?_); refine box_event ?hg (N := 4) ?hd (cs := #[.slice A0_0 l0_0.length c0_0, .slice A0_1 l0_1.length c0_1]) (t := 25) ?hr ?_; (case hd => rfl); (case hg => rfl); (case hr => first | (go_simp; done) | (go_simp; rfl)); intro gb109 hg w9 hbox hb; have BK109 := Aside0.mk (hbox); have GW109 := Aside0.mk ((by rw [hg]; exact (below_size (by repeat (first | (with_reducible first | exact HB.out | apply below_alloc | apply pw_below_drewN | apply below_drew1) | exact HB.out))) : w.heap.size ≤ gb109)); have GE109 := Aside0.mk ((by rw [hg]; exact (below_size (by repeat (first | (with_reducible first | exact HB.out | apply below_alloc | apply pw_below_drewN | apply below_drew1) | exact HB.out))) : w.heap.size ≤ gb109)); replace HB := Aside0.mk (below_step (by repeat (first | (with_reducible first | exact HB.out | apply below_alloc | apply pw_below_drewN | apply below_drew1) | exact HB.out)) hb); clear hb hbox hg) | ((with_reducible refine gate_dst (N := 15) rfl ?_); refine Kd.R_lit (Kd.int .i64) _ 3 ?hg (N := 15) ?hd (xs := ([(-1)] : List Int)) (inner := [.int .i64 (-1)]) (ok := fun _ => True) (okp := fun _ => True) ?hr ?hp (fun _ hk => hk) trivial (Below.refl _ _) (Nat.le_refl _) (by simp) ?_; (case hd => rfl); (case hg => rfl); (case hr => first | (go_simp; done) | (go_simp; rfl)); (case hp => exact (Reps.one (show Kd.M (Kd.int .i64) _ _ _ (-1) [.int .i64 (-1)] from rfl) (Reps.none _ _))); intro v111 w10 ho11 hb hg_ hnew_; clear hg_ hnew_; (first | rw [← Ny110.out] at ho11 | (simp only [Int.reduceToNat] at ho11; rw [← Ny110.out] at ho11)); have HO112 := Aside0.mk (Kd.R_lower ho11 (below_size (by repeat (first | (with_reducible first | exact HB.out | apply below_alloc | apply pw_below_drewN | apply below_drew1 | refine below_set ?_ GE109.out) | exact HB.out)))); replace BK109 := Aside0.mk (blk_below (g := gb109) (o := .cells #[.slice A0_0 l0_0.length c0_0, .slice A0_1 l0_1.length c0_1] 25 (0, 0)) (by (with_reducible repeat (first | refine blk_drewN ?_ _ | refine blk_drew ?_ | refine blk_alloc ?_ _)); exact BK109.out) hb); replace HB := Aside0.mk (below_step (by repeat (first | (with_reducible first | exact HB.out | apply below_alloc | apply pw_below_drewN | apply below_drew1 | refine below_set ?_ GE109.out) | exact HB.out)) hb); clear hb ho11; have hcz12_0 : w10.cell? ⟨gb109, 0, none⟩ = some (.slice A0_0 l0_0.length c0_0) := (blk_cell BK109.out 0).trans rfl; have hcz12_1 : w10.cell? ⟨gb109, 1, none⟩ = some (.slice A0_1 l0_1.length c0_1) := (blk_cell BK109.out 1).trans rfl; have hfz12_0 := blk_frozen BK109.out 0; have hfz12_1 := blk_frozen BK109.out 1; obtain ⟨Ao13, co13, eo13⟩ := Kd.R_slice HO112.out; subst eo13) | ((with_reducible refine gate_callee (f := 30) rfl ?_); refine goesL_ (some 19) rfl rfl Try.func30 (by kernel_rfl) rfl #[.slice Ao13 y110.length co13, .int .i64 (l0_0.length : Int)] rfl (by (try simp only [List.map_toArray, List.map_cons, List.map_nil]); first | done | rfl | (simp only [List.length_drop, List.length_take]; rfl)) ?_; (with_reducible refine (slices_Repeat_int_int.calls _ _ y110 (l0_0.length : Int) t113 _ ?side1 ?side2 A5.out).mono ?_); (case side1 => repeat (first | exact (Kd.R_reads' HO112.out).2.2 | (with_reducible refine Kd.C_alloc ?_ _) | (with_reducible refine Kd.C_drewN ?_ _) | (with_reducible refine Kd.C_drew ?_))); (case side2 => exact (Kd.R_reads' HO112.out).2.1); rintro e w14 ⟨v114, rfl, ho0, hb⟩; refine ⟨_, rfl, ?_⟩; have HO115 := Aside0.mk (Kd.R_lower (Kd.R_new' ho0 (Kd.R_lt (by (with_reducible repeat (first | apply Kd.R_alloc | apply Kd.R_drewN | apply Kd.R_drew)); exact HO112.out))) (below_size (by repeat (first | (with_reducible first | exact HB.out | apply below_alloc | apply pw_below_drewN | apply below_drew1 | refine below_set ?_ GE109.out) | exact HB.out)))); replace HO112 := Aside0.mk (Kd.R_elder' (by (with_reducible repeat (first | apply Kd.R_alloc | apply Kd.R_drewN | apply Kd.R_drew)); exact HO112.out) (Kd.R_base ho0) hb); replace BK109 := Aside0.mk (blk_below (g := gb109) (o := .cells #[.slice A0_0 l0_0.length c0_0, .slice A0_1 l0_1.length c0_1] 25 (0, 0)) (by (with_reducible repeat (first | refine blk_drewN ?_ _ | refine blk_drew ?_ | refine blk_alloc ?_ _)); exact BK109.out) hb); replace HB := Aside0.mk (below_step (by repeat (first | (with_reducible first | exact HB.out | apply below_alloc | apply pw_below_drewN | apply below_drew1 | refine below_set ?_ GE109.out) | exact HB.out)) hb); (try clear hb); (try clear ho0); have p8 : 0 ≤ (a2 : Int) := of_decide_eq_true (by first | (with_reducible assumption) | assumption); have q8 : (a2 : Int) < ((t113.length : Int) : Int) := of_decide_eq_true (by first | (with_reducible assumption) | assumption); obtain ⟨go8, co8, eo8, gb8, gl8, cl8, HG8⟩ := Kd.R_form HO115.out (by omega); (first | cases eo8 | (injection eo8 with ea_ en_ ec_; (first | subst ea_ | (injection ea_ with ea_; subst ea_)); subst ec_; clear en_)); have GB8 := Aside0.mk gb8; have GG8 := Aside0.mk HG8; clear gb8 gl8 HG8; obtain ⟨hx8_0, hf8_0⟩ := Kd.R_celln 0 HO115.out (a2 : Int) p8 q8; replace p8 := eq_true p8; replace q8 := eq_true q8; have n_ := Aside0.mk (Kd.R_mono (ok' := (fun k_ => some k_ ≠ (.slice Ao13 y110.length co13 : Value).ownBlock)) HO115.out (fun k_ hk => hk.2)); clear HO115; have HO115 := n_; clear n_; obtain ⟨hy15_, hz15_⟩ := Kd.R_celln 0 HO115.out (a2 : Int) (of_decide_eq_true (by first | (with_reducible assumption) | assumption)) (of_decide_eq_true (by first | (with_reducible assumption) | assumption)); have HP15 := Kd.R_putg HO115.out (a2 : Int) 0) | ((with_reducible refine gate_store (t := 3) (p := 22) rfl ?_); refine store_event (t := 3) (p := 22) (v := ?vo_w16) (w1 := (w14.setCell ⟨go8, (a2 : Int).toNat, none⟩ (.int .i64 0))) ?hg ?ho ?hn ?hr ?_; (case ho => rfl); (case hg => rfl); (case hn => rfl); (case hr => first | (go_simp; done) | (go_simp; rfl)); intro w16 hw; have hg : w14.grownBy w16 (some go8) := (by rw [hw]; exact HP15.2); have hp_ : Kd.R (Kd.int .i64) 3 w16 w.heap.size (fun k_ => some k_ ≠ (.slice Ao13 y110.length co13 : Value).ownBlock) (.slice (some ⟨go8, 0, none⟩) t113.length co8) y116 := (by rw [hw, Ny116.out]; exact HP15.1); clear HP15; replace BK109 := Aside0.mk (blk_grown (g := gb109) (o := .cells #[.slice A0_0 l0_0.length c0_0, .slice A0_1 l0_1.length c0_1] 25 (0, 0)) (by (with_reducible repeat (first | refine blk_drewN ?_ _ | refine blk_drew ?_ | refine blk_alloc ?_ _)); exact BK109.out) hg (Kd.R_ne HO115.out BK109.out (by decide))); replace HO112 := Aside0.mk (Kd.R_after (v := (.slice (some ⟨go8, 0, none⟩) t113.length co8)) (v1 := (.slice (some ⟨go8, 0, none⟩) t113.length co8)) (ok := (fun _ => True)) (by (with_reducible repeat (first | apply Kd.R_alloc | apply Kd.R_drewN | apply Kd.R_drew)); exact HO112.out) hg (.inl rfl)); replace HO115 := Aside0.mk (hp_); replace HB := Aside0.mk ((by rw [hw]; exact below_set (HB.out) GB8.out : Below w.heap.size w w16)); clear hg hw hp_) | ((with_reducible refine gate_dst (N := 24) rfl ?_); refine Kd.R_lit (Kd.int .i64) _ 3 ?hg (N := 24) ?hd (xs := ([a2] : List Int)) (inner := [.int .i64 a2]) (ok := fun _ => True) (okp := fun _ => True) ?hr ?hp (fun _ hk => hk) trivial (Below.refl _ _) (Nat.le_refl _) (by simp) ?_; (case hd => rfl); (case hg => rfl); (case hr => first | (go_simp; done) | (go_simp; rfl)); (case hp => exact (Reps.one (show Kd.M (Kd.int .i64) _ _ _ a2 [.int .i64 a2] from rfl) (Reps.none _ _))); intro v118 w17 ho18 hb hg_ hnew_; clear hg_ hnew_; (first | rw [← Ny117.out] at ho18 | (simp only [Int.reduceToNat] at ho18; rw [← Ny117.out] at ho18)); have HO119 := Aside0.mk (Kd.R_lower (Kd.R_new' (Kd.R_new' ho18 (Kd.R_lt (by (with_reducible repeat (first | apply Kd.R_alloc | apply Kd.R_drewN | apply Kd.R_drew)); exact HO112.out))) (Kd.R_lt (by (with_reducible repeat (first | apply Kd.R_alloc | apply Kd.R_drewN | apply Kd.R_drew)); exact HO115.out))) (below_size (by repeat (first | (with_reducible first | exact HB.out | apply below_alloc | apply pw_below_drewN | apply below_drew1 | refine below_set ?_ GE109.out) | exact HB.out)))); replace HO112 := Aside0.mk (Kd.R_elder' (by (with_reducible repeat (first | apply Kd.R_alloc | apply Kd.R_drewN | apply Kd.R_drew)); exact HO112.out) (Kd.R_base ho18) hb); replace HO115 := Aside0.mk (Kd.R_elder' (by (with_reducible repeat (first | apply Kd.R_alloc | apply Kd.R_drewN | apply Kd.R_drew)); exact HO115.out) (Kd.R_base ho18) hb); replace BK109 := Aside0.mk (blk_below (g := gb109) (o := .cells #[.slice A0_0 l0_0.length c0_0, .slice A0_1 l0_1.length c0_1] 25 (0, 0)) (by (with_reducible repeat (first | refine blk_drewN ?_ _ | refine blk_drew ?_ | refine blk_alloc ?_ _)); exact BK109.out) hb); replace HB := Aside0.mk (below_step (by repeat (first | (with_reducible first | exact HB.out | apply below_alloc | apply pw_below_drewN | apply below_drew1 | refine below_set ?_ GE109.out) | exact HB.out)) hb); clear hb ho18))
 go_loopg [10] k (fun kq v10 w' => ∃ (x9_1 : List Int) (x10_1 : List Int), Aside0 (reach_lengths_0.l0 kq l1 a2 x9_1 x10_1 l0_0 l0_1 = some r) ∧ Aside0 (kq ≤ k) ∧ Aside0 (Kd.R (Kd.int .i64) 3 w' w.heap.size (fun k_ => some k_ ≠ (v10 : Value).ownBlock) (.slice (some ⟨go8, 0, none⟩) t113.length co8) x9_1) ∧ Aside0 (Kd.Q (Kd.int .i64) 3 w' w.heap.size (fun k_ => some k_ ≠ ((.slice (some ⟨go8, 0, none⟩) t113.length co8) : Value).ownBlock) v10 x10_1) ∧ Aside0 (w'.heap[gb109]? = some (.cells #[(.slice A0_0 l0_0.length c0_0), (.slice A0_1 l0_1.length c0_1)] 25 (0, 0))) ∧ Aside0 (Below w.heap.size w w'))
 case atStart => exact ⟨(y116), (y117), H', ⟨Nat.le_refl _⟩, ⟨by (with_reducible repeat (first | apply Kd.R_alloc | apply Kd.R_drewN | apply Kd.R_drew)); exact Kd.R_mono HO115.out (fun _ hk => hk.2)⟩, ⟨Kd.Q_of_R (by (with_reducible repeat (first | apply Kd.R_alloc | apply Kd.R_drewN | apply Kd.R_drew)); exact Kd.R_mono HO119.out (fun _ hk => hk.2))⟩, ⟨by (with_reducible repeat (first | refine blk_drewN ?_ _ | refine blk_drew ?_ | refine blk_alloc ?_ _)); exact BK109.out⟩, ⟨by repeat (first | (with_reducible first | exact HB.out | apply below_alloc | apply pw_below_drewN | apply below_drew1 | refine below_set ?_ GE109.out) | exact HB.out)⟩⟩
 case round =>
  clear H'
  obtain ⟨x9_1, x10_1, HA, HK1, HO_9, HO_10, BK109, HB⟩ := hrel
  have hl9_1 := (Kd.R_reads' HO_9.out).1
  rw [hl9_1] at HO_9
  (try simp only [hl9_1])
  (try simp only [hl9_1] at BK109)
  (try simp only [hl9_1] at HO_10)
  cases gk with
  | zero => exact absurd HA.out (by simp [reach_lengths_0.l0])
  | succ k1 =>
   have H := HA.out
   clear HA
   simp only [reach_lengths_0.l0] at H
   by_cases c19 : (x10_1.length : Int) > 0
   rotate_left
   ·rw [if_neg c19] at H
    have c19b0 : decide (0 < (x10_1.length : Int)) = false := decide_eq_false c19
    have c19b1 : decide (0 < x10_1.length) = false := decide_eq_false (by omega)
    (try (have c19z0 := c19b0; simp only [hl9_1] at c19z0))
    (try (have c19z1 := c19b1; simp only [hl9_1] at c19z1))
    clear c19
    obtain rfl := Option.some.inj H
    obtain ⟨Ao67, co67, eo67, _⟩ := Kd.Q_slice HO_10.out
    subst eo67
    go_wp2
    go_ret
    exact ⟨_, by first | rfl | (simp [errW_none, errW_some] <;> rfl) | (simp [*, errW_none, errW_some] <;> rfl), by (with_reducible repeat (first | apply Kd.R_alloc | apply Kd.R_drewN | apply Kd.R_drew)); exact Kd.R_mono HO_9.out (fun _ hk => trivial), by repeat (first | (with_reducible first | exact HB.out | apply below_alloc | apply pw_below_drewN | apply below_drew1 | refine below_set ?_ GE109.out) | exact HB.out)⟩
   rw [if_pos c19] at H
   have c19b0 : decide (0 < (x10_1.length : Int)) = true := decide_eq_true c19
   have c19b1 : decide (0 < x10_1.length) = true := decide_eq_true (by omega)
   (try (have c19z0 := c19b0; simp only [hl9_1] at c19z0))
   (try (have c19z1 := c19b1; simp only [hl9_1] at c19z1))
   clear c19
   by_cases c20 : 0 < (x10_1.length : Int)
   rotate_left; ·rw [if_neg c20] at H; exact absurd H (by simp)
   rw [if_pos c20] at H
   have c20b0 : decide (0 < (x10_1.length : Int)) = true := decide_eq_true c20
   have c20b1 : decide (0 < x10_1.length) = true := decide_eq_true (by omega)
   (try (have c20z0 := c20b0; simp only [hl9_1] at c20z0))
   (try (have c20z1 := c20b1; simp only [hl9_1] at c20z1))
   clear c20
   have HC21 := Aside0.mk H
   clear H
   obtain ⟨Ao22, co22, eo22, _⟩ := Kd.Q_slice HO_10.out
   subst eo22
   have p120 : 0 ≤ (0 : Int) := (by omega)
   have q120 : 0 < (x10_1.length : Int) := of_decide_eq_true (by first | (with_reducible assumption) | assumption)
   obtain ⟨ad120, e120, hx120_0⟩ := Kd.at_int (Kd.Q_reads' HO_10.out).2.2 0 p120 q120
   cases e120
   have qi120 : (0 < x10_1.length) = True := eq_true (by omega)
   (try rw [show ((0 : Int)).toNat = 0 from rfl] at hx120_0)
   (try rw [Addr.add_zero'] at hx120_0)
   replace p120 := eq_true p120
   replace q120 := eq_true q120
   go_upto_region 7 with (fail)
   go_cut [44] (fun v44 wc => ∃ (kq : Nat) (x44_20 : Bool), v44 = .bool x44_20 ∧ Aside0 (reach_lengths_0.j1 kq l1 a2 x9_1 x10_1 (rd x10_1 0) x44_20 l0_0 l0_1 = some r) ∧ Aside0 (kq ≤ k1) ∧ Aside0 (Kd.R (Kd.int .i64) 3 wc w.heap.size (fun k_ => some k_ ≠ ((.slice (some ad120) x10_1.length co22) : Value).ownBlock) (.slice (some ⟨go8, 0, none⟩) x9_1.length co8) x9_1) ∧ Aside0 (Kd.Q (Kd.int .i64) 3 wc w.heap.size (fun k_ => some k_ ≠ ((.slice (some ⟨go8, 0, none⟩) x9_1.length co8) : Value).ownBlock) (.slice (some ad120) x10_1.length co22) x10_1) ∧ Aside0 (wc.heap[gb109]? = some (.cells #[(.slice A0_0 l0_0.length c0_0), (.slice A0_1 l0_1.length c0_1)] 25 (0, 0))) ∧ Aside0 (Below w.heap.size w wc))
   case first =>
    have H := HC21.out
    clear HC21
    by_cases c23 : (rd x10_1 0) = a2
    ·rw [if_pos c23] at H
     have c23b0 : ((rd x10_1 0) == a2) = true := beq_iff_eq.mpr c23
     have c23b1 : ((rd x10_1 0) != a2) = false := bne_eq_false_iff_eq.mpr c23
     clear c23
     (first | rw [c23b0] | (simp only [i64_w, i32_w]; rw [c23b0]) | skip)
     have H' := Aside0.mk H; clear H
     go_wp2
     go_meet
     case rel => exact ⟨_, (false), (by first | rfl | (simp; done) | (simp [*]; done)), H', ⟨by have := HK1.out; first | omega | exact Nat.le_refl _⟩, ⟨by (try simp only [hl9_1]); (with_reducible repeat (first | apply Kd.R_alloc | apply Kd.R_drewN | apply Kd.R_drew)); exact HO_9.out⟩, ⟨by (try simp only [hl9_1]); (with_reducible repeat (first | apply Kd.Q_alloc | apply Kd.Q_drewN | apply Kd.Q_drew)); exact HO_10.out⟩, ⟨by (try simp only [hl9_1]); (with_reducible repeat (first | refine blk_drewN ?_ _ | refine blk_drew ?_ | refine blk_alloc ?_ _)); exact BK109.out⟩, ⟨by repeat (first | (with_reducible first | exact HB.out | apply below_alloc | apply pw_below_drewN | apply below_drew1 | refine below_set ?_ GE109.out) | exact HB.out)⟩⟩
    rw [if_neg c23] at H
    have c23b0 : ((rd x10_1 0) == a2) = false := beq_eq_false_iff_ne.mpr c23
    have c23b1 : ((rd x10_1 0) != a2) = true := bne_iff_ne.mpr c23
    (first | rw [c23b0] | (simp only [i64_w, i32_w]; rw [c23b0]) | skip)
    by_cases c24 : 0 ≤ (rd x10_1 0)
    rotate_left; ·rw [if_neg c24] at H; exact absurd H (by simp)
    rw [if_pos c24] at H
    have c24b0 : decide (0 ≤ (rd x10_1 0)) = true := decide_eq_true c24
    clear c24
    by_cases c25 : (rd x10_1 0) < (l0_0.length : Int)
    rotate_left; ·rw [if_neg c25] at H; exact absurd H (by simp)
    rw [if_pos c25] at H
    have c25b0 : decide ((rd x10_1 0) < (l0_0.length : Int)) = true := decide_eq_true c25
    (try (have c25z0 := c25b0; simp only [hl9_1] at c25z0))
    clear c25
    have H' := Aside0.mk H; clear H
    have hcz26_0 : wr.cell? ⟨gb109, 0, none⟩ = some (.slice A0_0 l0_0.length c0_0) := (blk_cell BK109.out 0).trans rfl
    have hcz26_1 : wr.cell? ⟨gb109, 1, none⟩ = some (.slice A0_1 l0_1.length c0_1) := (blk_cell BK109.out 1).trans rfl
    have hfz26_0 := blk_frozen BK109.out 0
    have hfz26_1 := blk_frozen BK109.out 1
    have p121 : 0 ≤ ((rd x10_1 0) : Int) := of_decide_eq_true (by first | (with_reducible assumption) | assumption)
    have q121 : (rd x10_1 0) < (l0_0.length : Int) := of_decide_eq_true (by first | (with_reducible assumption) | assumption)
    obtain ⟨ad121, e121, hx121_0, hx121_1, hx121_2⟩ := at_T43 HR0_0.out (rd x10_1 0) p121 q121
    cases e121
    replace hx121_0 := (HB.out.cell (World.block_lt_of_cell? w _ hx121_0)).trans hx121_0
    replace hx121_1 := (HB.out.cell (World.block_lt_of_cell? w _ hx121_1)).trans hx121_1
    replace hx121_2 := (HB.out.cell (World.block_lt_of_cell? w _ hx121_2)).trans hx121_2
    replace p121 := eq_true p121
    replace q121 := eq_true q121
    go_wp2
    go_meet
    case rel => exact ⟨_, ((((rd_T43 l0_0 (rd x10_1 0)).f1) != 1)), (by first | rfl | (simp; done) | (simp [*]; done)), H', ⟨by have := HK1.out; first | omega | exact Nat.le_refl _⟩, ⟨by (try simp only [hl9_1]); (with_reducible repeat (first | apply Kd.R_alloc | apply Kd.R_drewN | apply Kd.R_drew)); exact HO_9.out⟩, ⟨by (try simp only [hl9_1]); (with_reducible repeat (first | apply Kd.Q_alloc | apply Kd.Q_drewN | apply Kd.Q_drew)); exact HO_10.out⟩, ⟨by (try simp only [hl9_1]); (with_reducible repeat (first | refine blk_drewN ?_ _ | refine blk_drew ?_ | refine blk_alloc ?_ _)); exact BK109.out⟩, ⟨by repeat (first | (with_reducible first | exact HB.out | apply below_alloc | apply pw_below_drewN | apply below_drew1 | refine below_set ?_ GE109.out) | exact HB.out)⟩⟩
   case rest =>
    clear HC21
    obtain ⟨kq, x44_20, rfl, HA, HJ20, HO_9, HO_10, BK109, HB⟩ := hcut
    cases kq with
    | zero => exact absurd HA.out (by simp [reach_lengths_0.j1])
    | succ kj20 =>
     have H := HA.out
     clear HA
     simp only [reach_lengths_0.j1] at H
     by_cases c27 : x44_20 = true
     ·subst c27
      have H1 : (if 1 ≤ (x10_1.length : Int) then (reach_lengths_0.l0 kj20 l1 a2 x9_1 (x10_1.drop (1 : Int).toNat) l0_0 l0_1) else (none)) = some r := by rw [if_pos rfl] at H; exact H
      clear H; have H := H1; clear H1
      by_cases c28 : 1 ≤ (x10_1.length : Int)
      rotate_left; ·rw [if_neg c28] at H; exact absurd H (by simp)
      rw [if_pos c28] at H
      have c28b0 := eq_true c28
      have c28b1 : decide (1 ≤ (x10_1.length : Int)) = true := decide_eq_true c28
      clear c28
      obtain ⟨y122, hy122⟩ : ∃ y_ : List Int, y_ = (x10_1.drop (1 : Int).toNat) := ⟨_, rfl⟩
      replace H : (reach_lengths_0.l0 kj20 l1 a2 x9_1 y122 l0_0 l0_1) = some r := by first | (rw [hy122]; with_reducible exact H) | (have H2_ := (Option.bind_some _ _).symm.trans H; rw [hy122]; with_reducible exact H2_) | (have H2_ := (Option.bind_some _ _).symm.trans H; with_reducible exact H2_) | with_reducible exact H | (rw [hy122]; exact H) | exact H
      have Ny122 := Aside0.mk hy122
      clear hy122
      have H' := Aside0.mk H; clear H
      have q29 : (1 : Int) ≤ ((x10_1.length : Int) : Int) := of_decide_eq_true (by first | (with_reducible assumption) | assumption)
      obtain ⟨i029, hi029, _, hsz29, _⟩ := info_parts info3
      have hcut29 := cut_from (P := Try.prog) 26 3 .i64 Try.underlying26 hi029 1 hsz29 (some ad120) x10_1.length co22 1 (by omega) q29
      have hr29 := Kd.Q_drop (k := (1 : Int).toNat) HO_10.out (by omega)
      obtain ⟨A29, hA29⟩ : ∃ A1, A1 = (if co22 = (1 : Int).toNat then (some ad120) else ((some ad120) : Option Addr).map (·.add ((1 : Int).toNat * 1))) := ⟨_, rfl⟩
      obtain ⟨c29, hc29⟩ : ∃ c1, c1 = co22 - (1 : Int).toNat := ⟨_, rfl⟩
      have hy29 : y122.length = x10_1.length - (1 : Int).toNat := (by rw [Ny122.out, List.length_drop])
      rw [← Ny122.out] at hr29
      rw [← hy29, ← hA29, ← hc29] at hcut29
      replace hr29 : Kd.Q (Kd.int .i64) 3 wc w.heap.size (fun k_ => some k_ ≠ (.slice (some ⟨go8, 0, none⟩) x9_1.length co8 : Value).ownBlock) (.slice A29 y122.length c29) y122 := (by rw [hA29, hc29, hy29]; exact hr29)
      have HE29 : Aside0 ((Value.slice A29 y122.length c29).ownBlock = (.slice (some ad120) x10_1.length co22 : Value).ownBlock) := ⟨by rw [hA29]; split <;> (cases ((some ad120) : Option Addr) <;> rfl)⟩
      clear hy29 hi029 hsz29 HO_10 hA29 hc29
      have HO124 := Aside0.mk hr29
      clear hr29
      replace q29 := eq_true q29
      have n_ := Aside0.mk (Kd.R_mono (ok' := fun k_ => some k_ ≠ (.slice A29 y122.length c29 : Value).ownBlock) HO_9.out (fun k_ hk => (by rw [HE29.out]; exact hk)))
      clear HO_9
      have HO_9 := n_
      clear n_
      go_wp2
      (try simp only [← hl9_1])
      go_roundg kj20
      case measure => have := HK1.out; have := HJ20.out; omega
      case rel => exact ⟨(x9_1), (y122), H', ⟨by have := HK1.out; have := HJ20.out; omega⟩, ⟨by (try simp only [hl9_1]); (with_reducible repeat (first | apply Kd.R_alloc | apply Kd.R_drewN | apply Kd.R_drew)); exact HO_9.out⟩, ⟨by (try simp only [hl9_1]); (with_reducible repeat (first | apply Kd.Q_alloc | apply Kd.Q_drewN | apply Kd.Q_drew)); exact HO124.out⟩, ⟨by (try simp only [hl9_1]); (with_reducible repeat (first | refine blk_drewN ?_ _ | refine blk_drew ?_ | refine blk_alloc ?_ _)); exact BK109.out⟩, ⟨by repeat (first | (with_reducible first | exact HB.out | apply below_alloc | apply pw_below_drewN | apply below_drew1 | refine below_set ?_ GE109.out) | exact HB.out)⟩⟩
     replace c27 := Bool.eq_false_iff.mpr c27
     subst c27
     have H1 : (reach_lengths_0.l1 kj20 l1 a2 x9_1 x10_1 (rd x10_1 0) l0_1 (l0_1.length : Int) 0 l0_0 l0_1) = some r := by rw [if_neg (show ¬ (false = true) by decide)] at H; exact H
     clear H; have H := H1; clear H1
     have H' := Aside0.mk H; clear H
     have hcz30_0 : wc.cell? ⟨gb109, 0, none⟩ = some (.slice A0_0 l0_0.length c0_0) := (blk_cell BK109.out 0).trans rfl
     have hcz30_1 : wc.cell? ⟨gb109, 1, none⟩ = some (.slice A0_1 l0_1.length c0_1) := (blk_cell BK109.out 1).trans rfl
     have hfz30_0 := blk_frozen BK109.out 0
     have hfz30_1 := blk_frozen BK109.out 1
     go_wp2
     go_loopg [10, 48] kj20 (fun kq v10 v48 w' => ∃ (x9_3 : List Int) (x10_3 : List Int) (x48_3 : Int), v48 = .int .i64 x48_3 ∧ Aside0 (reach_lengths_0.l1 kq l1 a2 x9_3 x10_3 (rd x10_1 0) l0_1 (l0_1.length : Int) x48_3 l0_0 l0_1 = some r) ∧ Aside0 (kq ≤ kj20) ∧ Aside0 (Kd.R (Kd.int .i64) 3 w' w.heap.size (fun k_ => some k_ ≠ (v10 : Value).ownBlock) (.slice (some ⟨go8, 0, none⟩) x9_1.length co8) x9_3) ∧ Aside0 (Kd.Q (Kd.int .i64) 3 w' w.heap.size (fun k_ => some k_ ≠ ((.slice (some ⟨go8, 0, none⟩) x9_1.length co8) : Value).ownBlock) v10 x10_3) ∧ Aside0 (w'.heap[gb109]? = some (.cells #[(.slice A0_0 l0_0.length c0_0), (.slice A0_1 l0_1.length c0_1)] 25 (0, 0))) ∧ Aside0 (Below w.heap.size w w'))
     case atStart => exact ⟨(x9_1), (x10_1), (0), (by first | rfl | (simp; done) | (simp [*]; done)), H', ⟨Nat.le_refl _⟩, ⟨by (try simp only [hl9_1]); (with_reducible repeat (first | apply Kd.R_alloc | apply Kd.R_drewN | apply Kd.R_drew)); exact HO_9.out⟩, ⟨by (try simp only [hl9_1]); (with_reducible repeat (first | apply Kd.Q_alloc | apply Kd.Q_drewN | apply Kd.Q_drew)); exact HO_10.out⟩, ⟨by (try simp only [hl9_1]); (with_reducible repeat (first | refine blk_drewN ?_ _ | refine blk_drew ?_ | refine blk_alloc ?_ _)); exact BK109.out⟩, ⟨by repeat (first | (with_reducible first | exact HB.out | apply below_alloc | apply pw_below_drewN | apply below_drew1 | refine below_set ?_ GE109.out) | exact HB.out)⟩⟩
     case round =>
      clear H'
      obtain ⟨x9_3, x10_3, x48_3, rfl, HA, HK3, HO_9, HO_10, BK109, HB⟩ := hrel
      have hl9_3 := (Kd.R_reads' HO_9.out).1
      rw [hl9_3] at HO_9
      (try simp only [hl9_3])
      (try simp only [hl9_3] at BK109)
      (try simp only [hl9_3] at HO_10)
      cases gk with
      | zero => exact absurd HA.out (by simp [reach_lengths_0.l1])
      | succ k3 =>
       have H := HA.out
       clear HA
       simp only [reach_lengths_0.l1] at H
       by_cases c31 : x48_3 < (l0_1.length : Int)
       rotate_left
       ·rw [if_neg c31] at H
        have c31b0 : decide (x48_3 < (l0_1.length : Int)) = false := decide_eq_false c31
        (try (have c31z0 := c31b0; simp only [hl9_1, hl9_3] at c31z0))
        clear c31
        by_cases c64 : 1 ≤ (x10_3.length : Int)
        rotate_left; ·rw [if_neg c64] at H; exact absurd H (by simp)
        rw [if_pos c64] at H
        have c64b0 := eq_true c64
        have c64b1 : decide (1 ≤ (x10_3.length : Int)) = true := decide_eq_true c64
        clear c64
        obtain ⟨y134, hy134⟩ : ∃ y_ : List Int, y_ = (x10_3.drop (1 : Int).toNat) := ⟨_, rfl⟩
        replace H : (reach_lengths_0.l0 k3 l1 a2 x9_3 y134 l0_0 l0_1) = some r := by first | (rw [hy134]; with_reducible exact H) | (have H2_ := (Option.bind_some _ _).symm.trans H; rw [hy134]; with_reducible exact H2_) | (have H2_ := (Option.bind_some _ _).symm.trans H; with_reducible exact H2_) | with_reducible exact H | (rw [hy134]; exact H) | exact H
        have Ny134 := Aside0.mk hy134
        clear hy134
        have H' := Aside0.mk H; clear H
        obtain ⟨Ao65, co65, eo65, _⟩ := Kd.Q_slice HO_10.out
        subst eo65
        have q66 : (1 : Int) ≤ ((x10_3.length : Int) : Int) := of_decide_eq_true (by first | (with_reducible assumption) | assumption)
        obtain ⟨i066, hi066, _, hsz66, _⟩ := info_parts info3
        have hcut66 := cut_from (P := Try.prog) 26 3 .i64 Try.underlying26 hi066 1 hsz66 Ao65 x10_3.length co65 1 (by omega) q66
        have hr66 := Kd.Q_drop (k := (1 : Int).toNat) HO_10.out (by omega)
        obtain ⟨A66, hA66⟩ : ∃ A1, A1 = (if co65 = (1 : Int).toNat then Ao65 else (Ao65 : Option Addr).map (·.add ((1 : Int).toNat * 1))) := ⟨_, rfl⟩
        obtain ⟨c66, hc66⟩ : ∃ c1, c1 = co65 - (1 : Int).toNat := ⟨_, rfl⟩
        have hy66 : y134.length = x10_3.length - (1 : Int).toNat := (by rw [Ny134.out, List.length_drop])
        rw [← Ny134.out] at hr66
        rw [← hy66, ← hA66, ← hc66] at hcut66
        replace hr66 : Kd.Q (Kd.int .i64) 3 wr w.heap.size (fun k_ => some k_ ≠ (.slice (some ⟨go8, 0, none⟩) x9_3.length co8 : Value).ownBlock) (.slice A66 y134.length c66) y134 := (by rw [hA66, hc66, hy66]; exact hr66)
        have HE66 : Aside0 ((Value.slice A66 y134.length c66).ownBlock = (.slice Ao65 x10_3.length co65 : Value).ownBlock) := ⟨by rw [hA66]; split <;> (cases (Ao65 : Option Addr) <;> rfl)⟩
        clear hy66 hi066 hsz66 HO_10 hA66 hc66
        have HO136 := Aside0.mk hr66
        clear hr66
        replace q66 := eq_true q66
        have n_ := Aside0.mk (Kd.R_mono (ok' := fun k_ => some k_ ≠ (.slice A66 y134.length c66 : Value).ownBlock) HO_9.out (fun k_ hk => (by rw [HE66.out]; exact hk)))
        clear HO_9
        have HO_9 := n_
        clear n_
        go_wp2
        (try simp only [← hl9_1, ← hl9_3])
        go_roundg k3
        case measure => have := HK1.out; have := HJ20.out; have := HK3.out; omega
        case rel => exact ⟨(x9_3), (y134), H', ⟨by have := HK1.out; have := HJ20.out; have := HK3.out; omega⟩, ⟨by (try simp only [hl9_1]); (try simp only [hl9_3]); (with_reducible repeat (first | apply Kd.R_alloc | apply Kd.R_drewN | apply Kd.R_drew)); exact HO_9.out⟩, ⟨by (try simp only [hl9_1]); (try simp only [hl9_3]); (with_reducible repeat (first | apply Kd.Q_alloc | apply Kd.Q_drewN | apply Kd.Q_drew)); exact HO136.out⟩, ⟨by (try simp only [hl9_1]); (try simp only [hl9_3]); (with_reducible repeat (first | refine blk_drewN ?_ _ | refine blk_drew ?_ | refine blk_alloc ?_ _)); exact BK109.out⟩, ⟨by repeat (first | (with_reducible first | exact HB.out | apply below_alloc | apply pw_below_drewN | apply below_drew1 | refine below_set ?_ GE109.out) | exact HB.out)⟩⟩
       rw [if_pos c31] at H
       have c31b0 : decide (x48_3 < (l0_1.length : Int)) = true := decide_eq_true c31
       (try (have c31z0 := c31b0; simp only [hl9_1, hl9_3] at c31z0))
       clear c31
       by_cases c32 : 0 ≤ x48_3
       rotate_left; ·rw [if_neg c32] at H; exact absurd H (by simp)
       rw [if_pos c32] at H
       have c32b0 : decide (0 ≤ x48_3) = true := decide_eq_true c32
       clear c32
       by_cases c33 : x48_3 < (l0_1.length : Int)
       rotate_left; ·rw [if_neg c33] at H; exact absurd H (by simp)
       rw [if_pos c33] at H
       have c33b0 : decide (x48_3 < (l0_1.length : Int)) = true := decide_eq_true c33
       (try (have c33z0 := c33b0; simp only [hl9_1, hl9_3] at c33z0))
       clear c33
       obtain ⟨ji34, hji34⟩ : ∃ j_ : Int, (wrap64 (x48_3 + 1)) = j_ := ⟨_, rfl⟩
       replace H : (if 0 ≤ (ji34) then (if (ji34) < (l1.length : Int) then (if (rdOf false l1 (ji34) = true) then (reach_lengths_0.l1 k3 l1 a2 x9_3 x10_3 (rd x10_1 0) l0_1 (l0_1.length : Int) ji34 l0_0 l0_1) else (if ((rd_T27 l0_1 x48_3).f0) = (rd x10_1 0) then (if 0 ≤ ((rd_T27 l0_1 x48_3).f1) then (if ((rd_T27 l0_1 x48_3).f1) < (x9_3.length : Int) then (if (rd x9_3 ((rd_T27 l0_1 x48_3).f1)) < 0 then (if 0 ≤ (rd x10_1 0) then (if (rd x10_1 0) < (x9_3.length : Int) then (if x10_3.length < 17592186044416 then (reach_lengths_0.l1 k3 l1 a2 (x9_3.set (((rd_T27 l0_1 x48_3).f1) : Int).toNat (wrap64 ((rd x9_3 (rd x10_1 0)) + 1))) (x10_3 ++ [(rd_T27 l0_1 x48_3).f1]) (rd x10_1 0) l0_1 (l0_1.length : Int) ji34 l0_0 l0_1) else (none)) else (none)) else (none)) else (reach_lengths_0.l1 k3 l1 a2 x9_3 x10_3 (rd x10_1 0) l0_1 (l0_1.length : Int) ji34 l0_0 l0_1)) else (none)) else (none)) else (reach_lengths_0.l1 k3 l1 a2 x9_3 x10_3 (rd x10_1 0) l0_1 (l0_1.length : Int) ji34 l0_0 l0_1))) else (none)) else (none)) = some r := by first | (rw [hji34] at H; exact H) | (simp only [hji34] at H ⊢; exact H)
       have hji34w : (IntKind.i64.wrap (x48_3 + 1)) = ji34 := (i64_w _).trans hji34
       by_cases c35 : 0 ≤ (ji34)
       rotate_left; ·rw [if_neg c35] at H; exact absurd H (by simp)
       rw [if_pos c35] at H
       have c35b0 : decide (0 ≤ (ji34)) = true := decide_eq_true c35
       clear c35
       by_cases c36 : (ji34) < (l1.length : Int)
       rotate_left; ·rw [if_neg c36] at H; exact absurd H (by simp)
       rw [if_pos c36] at H
       have c36b0 : decide ((ji34) < (l1.length : Int)) = true := decide_eq_true c36
       (try (have c36z0 := c36b0; simp only [hl9_1, hl9_3] at c36z0))
       clear c36
       obtain ⟨bq37, hbq37⟩ : ∃ b_ : Bool, b_ = (rdOf false l1 (ji34)) := ⟨_, rfl⟩
       replace H : (if (bq37 = true) then (reach_lengths_0.l1 k3 l1 a2 x9_3 x10_3 (rd x10_1 0) l0_1 (l0_1.length : Int) ji34 l0_0 l0_1) else (if ((rd_T27 l0_1 x48_3).f0) = (rd x10_1 0) then (if 0 ≤ ((rd_T27 l0_1 x48_3).f1) then (if ((rd_T27 l0_1 x48_3).f1) < (x9_3.length : Int) then (if (rd x9_3 ((rd_T27 l0_1 x48_3).f1)) < 0 then (if 0 ≤ (rd x10_1 0) then (if (rd x10_1 0) < (x9_3.length : Int) then (if x10_3.length < 17592186044416 then (reach_lengths_0.l1 k3 l1 a2 (x9_3.set (((rd_T27 l0_1 x48_3).f1) : Int).toNat (wrap64 ((rd x9_3 (rd x10_1 0)) + 1))) (x10_3 ++ [(rd_T27 l0_1 x48_3).f1]) (rd x10_1 0) l0_1 (l0_1.length : Int) ji34 l0_0 l0_1) else (none)) else (none)) else (none)) else (reach_lengths_0.l1 k3 l1 a2 x9_3 x10_3 (rd x10_1 0) l0_1 (l0_1.length : Int) ji34 l0_0 l0_1)) else (none)) else (none)) else (reach_lengths_0.l1 k3 l1 a2 x9_3 x10_3 (rd x10_1 0) l0_1 (l0_1.length : Int) ji34 l0_0 l0_1))) = some r := by rw [← hbq37] at H; exact H
       have Nbq37 := Aside0.mk hbq37
       clear hbq37
       by_cases c38 : (bq37 = true)
       ·subst c38
        have H1 : (reach_lengths_0.l1 k3 l1 a2 x9_3 x10_3 (rd x10_1 0) l0_1 (l0_1.length : Int) ji34 l0_0 l0_1) = some r := by rw [if_pos rfl] at H; exact H
        clear H; have H := H1; clear H1
        have H' := Aside0.mk H; clear H
        have p125 : 0 ≤ (x48_3 : Int) := of_decide_eq_true (by first | (with_reducible assumption) | assumption)
        have q125 : x48_3 < (l0_1.length : Int) := of_decide_eq_true (by first | (with_reducible assumption) | assumption)
        obtain ⟨ad125, e125, hx125_0, hx125_1⟩ := at_T27 HR0_1.out x48_3 p125 q125
        cases e125
        replace hx125_0 := (HB.out.cell (World.block_lt_of_cell? w _ hx125_0)).trans hx125_0
        replace hx125_1 := (HB.out.cell (World.block_lt_of_cell? w _ hx125_1)).trans hx125_1
        replace p125 := eq_true p125
        replace q125 := eq_true q125
        go_wp2_with (first | ((with_reducible refine gate_dst (N := 13) rfl ?_); refine box_event ?hg (N := 13) ?hd (cs := #[.int .i64 0, .int .i64 0]) (t := 27) ?hr ?_; (case hd => rfl); (case hg => rfl); (case hr => first | (go_simp; done) | (go_simp; rfl)); intro gb126 hg w39 hbox hb; replace HO_9 := Aside0.mk (Kd.R_below (by (with_reducible repeat (first | apply Kd.R_alloc | apply Kd.R_drewN | apply Kd.R_drew)); exact HO_9.out) hb); replace HO_10 := Aside0.mk (Kd.Q_below (by (with_reducible repeat (first | apply Kd.Q_alloc | apply Kd.Q_drewN | apply Kd.Q_drew)); exact HO_10.out) hb); have BK126 := Aside0.mk (hbox); have GW126 := Aside0.mk ((by rw [hg]; exact (below_size (by repeat (first | (with_reducible first | exact HB.out | apply below_alloc | apply pw_below_drewN | apply below_drew1 | refine below_set ?_ GE109.out) | exact HB.out))) : w.heap.size ≤ gb126)); have GE126 := Aside0.mk ((by rw [hg]; exact (below_size (by repeat (first | (with_reducible first | exact HB.out | apply below_alloc | apply pw_below_drewN | apply below_drew1 | refine below_set ?_ GE109.out) | exact HB.out))) : w.heap.size ≤ gb126)); replace HB := Aside0.mk (below_step (by repeat (first | (with_reducible first | exact HB.out | apply below_alloc | apply pw_below_drewN | apply below_drew1 | refine below_set ?_ GE109.out) | exact HB.out)) hb); have NB109_126 := Aside0.mk ((by rw [hg]; exact Nat.ne_of_lt (blk_lt (g := gb109) (o := .cells #[.slice A0_0 l0_0.length c0_0, .slice (some ad125) l0_1.length c0_1] 25 (0, 0)) (by (with_reducible repeat (first | refine blk_drewN ?_ _ | refine blk_drew ?_ | refine blk_alloc ?_ _)); exact BK109.out)) : gb109 ≠ gb126)); have NB126_109 := Aside0.mk ((by rw [hg]; exact Nat.ne_of_gt (blk_lt (g := gb109) (o := .cells #[.slice A0_0 l0_0.length c0_0, .slice (some ad125) l0_1.length c0_1] 25 (0, 0)) (by (with_reducible repeat (first | refine blk_drewN ?_ _ | refine blk_drew ?_ | refine blk_alloc ?_ _)); exact BK109.out)) : gb126 ≠ gb109)); replace BK109 := Aside0.mk (blk_below (g := gb109) (o := .cells #[.slice A0_0 l0_0.length c0_0, .slice (some ad125) l0_1.length c0_1] 25 (0, 0)) (by (with_reducible repeat (first | refine blk_drewN ?_ _ | refine blk_drew ?_ | refine blk_alloc ?_ _)); exact BK109.out) hb); clear hb hbox hg; have hnb40 := NB126_109.out; have hnc40 := NB109_126.out; have hcz41_0 : w39.cell? ⟨gb126, 0, none⟩ = some (.int .i64 0) := (blk_cell BK126.out 0).trans rfl; have hcz41_1 : w39.cell? ⟨gb126, 1, none⟩ = some (.int .i64 0) := (blk_cell BK126.out 1).trans rfl; have hfz41_0 := blk_frozen BK126.out 0; have hfz41_1 := blk_frozen BK126.out 1; have p127 : 0 ≤ ((ji34) : Int) := of_decide_eq_true (by first | (with_reducible assumption) | assumption); have q127 : (ji34) < (l1.length : Int) := of_decide_eq_true (by first | (with_reducible assumption) | assumption); obtain ⟨ad127, e127, hx127_0⟩ := Kd.at_bool HR1.out (ji34) p127 q127; (try rw [← Nbq37.out] at hx127_0); cases e127; have hn127_0 : (ad127 : Addr).block ≠ gb126 := Nat.ne_of_lt (Nat.lt_of_lt_of_le (by have := World.block_lt_of_cell? _ _ hx127_0; first | rwa [add_block] at this | exact this) GW126.out); have hn127_1 : (ad127 : Addr).block ≠ gb126 := Nat.ne_of_lt (Nat.lt_of_lt_of_le (by have := World.block_lt_of_cell? _ _ hx127_0; first | rwa [add_block] at this | exact this) GW126.out); replace hx127_0 := (HB.out.cell (World.block_lt_of_cell? w _ hx127_0)).trans hx127_0; replace hx127_0 := (cell_far (p := ⟨gb126, 0, none⟩) (by first | (rw [add_block]; exact hn127_0) | (show (Addr.add _ _).block ≠ _; rw [add_block]; exact hn127_0) | exact hn127_0) (.int .i64 ((rd_T27 l0_1 x48_3).f0))).trans hx127_0; replace hx127_0 := (cell_far (p := ⟨gb126, 1, none⟩) (by first | (rw [add_block]; exact hn127_1) | (show (Addr.add _ _).block ≠ _; rw [add_block]; exact hn127_1) | exact hn127_1) (.int .i64 ((rd_T27 l0_1 x48_3).f1))).trans hx127_0; clear hn127_0; clear hn127_1; replace p127 := eq_true p127; replace q127 := eq_true q127))
        (try simp only [← hl9_3])
        go_roundg k3
        case measure => have := HK1.out; have := HJ20.out; have := HK3.out; omega
        case rel => exact ⟨(x9_3), (x10_3), (ji34), (by first | rfl | (simp; done) | (simp only [← hji34] <;> (first | rfl | simp)) | (simp [*]; done)), H', ⟨by have := HK1.out; have := HJ20.out; have := HK3.out; omega⟩, ⟨by (try simp only [hl9_1]); (try simp only [hl9_3]); (with_reducible repeat (first | apply Kd.R_alloc | apply Kd.R_drewN | apply Kd.R_drew)); exact Kd.R_mono (Kd.R_far (p := ⟨gb126, 1, none⟩) (Kd.R_far (p := ⟨gb126, 0, none⟩) (Kd.R_types HO_9.out BK126.out (by decide)) (fun _ hk => hk.2) (.int .i64 ((rd_T27 l0_1 x48_3).f0))) (fun _ hk => hk.2) (.int .i64 ((rd_T27 l0_1 x48_3).f1))) (fun _ hk => hk.1)⟩, ⟨by (try simp only [hl9_1]); (try simp only [hl9_3]); (with_reducible repeat (first | apply Kd.Q_alloc | apply Kd.Q_drewN | apply Kd.Q_drew)); exact Kd.Q_mono (Kd.Q_far (p := ⟨gb126, 1, none⟩) (Kd.Q_far (p := ⟨gb126, 0, none⟩) (Kd.Q_types HO_10.out BK126.out (by decide)) (fun _ hk => hk.2) (.int .i64 ((rd_T27 l0_1 x48_3).f0))) (fun _ hk => hk.2) (.int .i64 ((rd_T27 l0_1 x48_3).f1))) (fun _ hk => hk.1)⟩, ⟨by (try simp only [hl9_1]); (try simp only [hl9_3]); (with_reducible repeat (first | refine blk_drewN ?_ _ | refine blk_drew ?_ | refine blk_alloc ?_ _)); refine blk_far ?_ NB109_126.out _; (with_reducible repeat (first | refine blk_drewN ?_ _ | refine blk_drew ?_ | refine blk_alloc ?_ _)); refine blk_far ?_ NB109_126.out _; (with_reducible repeat (first | refine blk_drewN ?_ _ | refine blk_drew ?_ | refine blk_alloc ?_ _)); exact BK109.out⟩, ⟨by repeat (first | (with_reducible first | exact HB.out | apply below_alloc | apply pw_below_drewN | apply below_drew1 | refine below_set ?_ GE109.out | refine below_set ?_ GE126.out) | exact HB.out)⟩⟩
       replace c38 := Bool.eq_false_iff.mpr c38
       subst c38
       have H1 : (if ((rd_T27 l0_1 x48_3).f0) = (rd x10_1 0) then (if 0 ≤ ((rd_T27 l0_1 x48_3).f1) then (if ((rd_T27 l0_1 x48_3).f1) < (x9_3.length : Int) then (if (rd x9_3 ((rd_T27 l0_1 x48_3).f1)) < 0 then (if 0 ≤ (rd x10_1 0) then (if (rd x10_1 0) < (x9_3.length : Int) then (if x10_3.length < 17592186044416 then (reach_lengths_0.l1 k3 l1 a2 (x9_3.set (((rd_T27 l0_1 x48_3).f1) : Int).toNat (wrap64 ((rd x9_3 (rd x10_1 0)) + 1))) (x10_3 ++ [(rd_T27 l0_1 x48_3).f1]) (rd x10_1 0) l0_1 (l0_1.length : Int) ji34 l0_0 l0_1) else (none)) else (none)) else (none)) else (reach_lengths_0.l1 k3 l1 a2 x9_3 x10_3 (rd x10_1 0) l0_1 (l0_1.length : Int) ji34 l0_0 l0_1)) else (none)) else (none)) else (reach_lengths_0.l1 k3 l1 a2 x9_3 x10_3 (rd x10_1 0) l0_1 (l0_1.length : Int) ji34 l0_0 l0_1)) = some r := by rw [if_neg (show ¬ (false = true) by decide)] at H; exact H
       clear H; have H := H1; clear H1
       by_cases c42 : ((rd_T27 l0_1 x48_3).f0) = (rd x10_1 0)
       rotate_left
       ·rw [if_neg c42] at H
        have c42b0 : (((rd_T27 l0_1 x48_3).f0) == (rd x10_1 0)) = false := beq_eq_false_iff_ne.mpr c42
        have c42b1 : (((rd_T27 l0_1 x48_3).f0) != (rd x10_1 0)) = true := bne_iff_ne.mpr c42
        have H' := Aside0.mk H; clear H
        have p125 : 0 ≤ (x48_3 : Int) := of_decide_eq_true (by first | (with_reducible assumption) | assumption)
        have q125 : x48_3 < (l0_1.length : Int) := of_decide_eq_true (by first | (with_reducible assumption) | assumption)
        obtain ⟨ad125, e125, hx125_0, hx125_1⟩ := at_T27 HR0_1.out x48_3 p125 q125
        cases e125
        replace hx125_0 := (HB.out.cell (World.block_lt_of_cell? w _ hx125_0)).trans hx125_0
        replace hx125_1 := (HB.out.cell (World.block_lt_of_cell? w _ hx125_1)).trans hx125_1
        replace p125 := eq_true p125
        replace q125 := eq_true q125
        go_wp2_with (first | ((with_reducible refine gate_dst (N := 13) rfl ?_); refine box_event ?hg (N := 13) ?hd (cs := #[.int .i64 0, .int .i64 0]) (t := 27) ?hr ?_; (case hd => rfl); (case hg => rfl); (case hr => first | (go_simp; done) | (go_simp; rfl)); intro gb126 hg w61 hbox hb; replace HO_9 := Aside0.mk (Kd.R_below (by (with_reducible repeat (first | apply Kd.R_alloc | apply Kd.R_drewN | apply Kd.R_drew)); exact HO_9.out) hb); replace HO_10 := Aside0.mk (Kd.Q_below (by (with_reducible repeat (first | apply Kd.Q_alloc | apply Kd.Q_drewN | apply Kd.Q_drew)); exact HO_10.out) hb); have BK126 := Aside0.mk (hbox); have GW126 := Aside0.mk ((by rw [hg]; exact (below_size (by repeat (first | (with_reducible first | exact HB.out | apply below_alloc | apply pw_below_drewN | apply below_drew1 | refine below_set ?_ GE109.out) | exact HB.out))) : w.heap.size ≤ gb126)); have GE126 := Aside0.mk ((by rw [hg]; exact (below_size (by repeat (first | (with_reducible first | exact HB.out | apply below_alloc | apply pw_below_drewN | apply below_drew1 | refine below_set ?_ GE109.out) | exact HB.out))) : w.heap.size ≤ gb126)); replace HB := Aside0.mk (below_step (by repeat (first | (with_reducible first | exact HB.out | apply below_alloc | apply pw_below_drewN | apply below_drew1 | refine below_set ?_ GE109.out) | exact HB.out)) hb); have NB109_126 := Aside0.mk ((by rw [hg]; exact Nat.ne_of_lt (blk_lt (g := gb109) (o := .cells #[.slice A0_0 l0_0.length c0_0, .slice (some ad125) l0_1.length c0_1] 25 (0, 0)) (by (with_reducible repeat (first | refine blk_drewN ?_ _ | refine blk_drew ?_ | refine blk_alloc ?_ _)); exact BK109.out)) : gb109 ≠ gb126)); have NB126_109 := Aside0.mk ((by rw [hg]; exact Nat.ne_of_gt (blk_lt (g := gb109) (o := .cells #[.slice A0_0 l0_0.length c0_0, .slice (some ad125) l0_1.length c0_1] 25 (0, 0)) (by (with_reducible repeat (first | refine blk_drewN ?_ _ | refine blk_drew ?_ | refine blk_alloc ?_ _)); exact BK109.out)) : gb126 ≠ gb109)); replace BK109 := Aside0.mk (blk_below (g := gb109) (o := .cells #[.slice A0_0 l0_0.length c0_0, .slice (some ad125) l0_1.length c0_1] 25 (0, 0)) (by (with_reducible repeat (first | refine blk_drewN ?_ _ | refine blk_drew ?_ | refine blk_alloc ?_ _)); exact BK109.out) hb); clear hb hbox hg; have hnb62 := NB126_109.out; have hnc62 := NB109_126.out; have hcz63_0 : w61.cell? ⟨gb126, 0, none⟩ = some (.int .i64 0) := (blk_cell BK126.out 0).trans rfl; have hcz63_1 : w61.cell? ⟨gb126, 1, none⟩ = some (.int .i64 0) := (blk_cell BK126.out 1).trans rfl; have hfz63_0 := blk_frozen BK126.out 0; have hfz63_1 := blk_frozen BK126.out 1; have p127 : 0 ≤ ((ji34) : Int) := of_decide_eq_true (by first | (with_reducible assumption) | assumption); have q127 : (ji34) < (l1.length : Int) := of_decide_eq_true (by first | (with_reducible assumption) | assumption); obtain ⟨ad127, e127, hx127_0⟩ := Kd.at_bool HR1.out (ji34) p127 q127; (try rw [← Nbq37.out] at hx127_0); cases e127; have hn127_0 : (ad127 : Addr).block ≠ gb126 := Nat.ne_of_lt (Nat.lt_of_lt_of_le (by have := World.block_lt_of_cell? _ _ hx127_0; first | rwa [add_block] at this | exact this) GW126.out); have hn127_1 : (ad127 : Addr).block ≠ gb126 := Nat.ne_of_lt (Nat.lt_of_lt_of_le (by have := World.block_lt_of_cell? _ _ hx127_0; first | rwa [add_block] at this | exact this) GW126.out); replace hx127_0 := (HB.out.cell (World.block_lt_of_cell? w _ hx127_0)).trans hx127_0; replace hx127_0 := (cell_far (p := ⟨gb126, 0, none⟩) (by first | (rw [add_block]; exact hn127_0) | (show (Addr.add _ _).block ≠ _; rw [add_block]; exact hn127_0) | exact hn127_0) (.int .i64 ((rd_T27 l0_1 x48_3).f0))).trans hx127_0; replace hx127_0 := (cell_far (p := ⟨gb126, 1, none⟩) (by first | (rw [add_block]; exact hn127_1) | (show (Addr.add _ _).block ≠ _; rw [add_block]; exact hn127_1) | exact hn127_1) (.int .i64 ((rd_T27 l0_1 x48_3).f1))).trans hx127_0; clear hn127_0; clear hn127_1; replace p127 := eq_true p127; replace q127 := eq_true q127))
        (try simp only [← hl9_3])
        go_roundg k3
        case measure => have := HK1.out; have := HJ20.out; have := HK3.out; omega
        case rel => exact ⟨(x9_3), (x10_3), (ji34), (by first | rfl | (simp; done) | (simp only [← hji34] <;> (first | rfl | simp)) | (simp [*]; done)), H', ⟨by have := HK1.out; have := HJ20.out; have := HK3.out; omega⟩, ⟨by (try simp only [hl9_1]); (try simp only [hl9_3]); (with_reducible repeat (first | apply Kd.R_alloc | apply Kd.R_drewN | apply Kd.R_drew)); exact Kd.R_mono (Kd.R_far (p := ⟨gb126, 1, none⟩) (Kd.R_far (p := ⟨gb126, 0, none⟩) (Kd.R_types HO_9.out BK126.out (by decide)) (fun _ hk => hk.2) (.int .i64 ((rd_T27 l0_1 x48_3).f0))) (fun _ hk => hk.2) (.int .i64 ((rd_T27 l0_1 x48_3).f1))) (fun _ hk => hk.1)⟩, ⟨by (try simp only [hl9_1]); (try simp only [hl9_3]); (with_reducible repeat (first | apply Kd.Q_alloc | apply Kd.Q_drewN | apply Kd.Q_drew)); exact Kd.Q_mono (Kd.Q_far (p := ⟨gb126, 1, none⟩) (Kd.Q_far (p := ⟨gb126, 0, none⟩) (Kd.Q_types HO_10.out BK126.out (by decide)) (fun _ hk => hk.2) (.int .i64 ((rd_T27 l0_1 x48_3).f0))) (fun _ hk => hk.2) (.int .i64 ((rd_T27 l0_1 x48_3).f1))) (fun _ hk => hk.1)⟩, ⟨by (try simp only [hl9_1]); (try simp only [hl9_3]); (with_reducible repeat (first | refine blk_drewN ?_ _ | refine blk_drew ?_ | refine blk_alloc ?_ _)); refine blk_far ?_ NB109_126.out _; (with_reducible repeat (first | refine blk_drewN ?_ _ | refine blk_drew ?_ | refine blk_alloc ?_ _)); refine blk_far ?_ NB109_126.out _; (with_reducible repeat (first | refine blk_drewN ?_ _ | refine blk_drew ?_ | refine blk_alloc ?_ _)); exact BK109.out⟩, ⟨by repeat (first | (with_reducible first | exact HB.out | apply below_alloc | apply pw_below_drewN | apply below_drew1 | refine below_set ?_ GE109.out | refine below_set ?_ GE126.out) | exact HB.out)⟩⟩
       rw [if_pos c42] at H
       have c42b0 : (((rd_T27 l0_1 x48_3).f0) == (rd x10_1 0)) = true := beq_iff_eq.mpr c42
       have c42b1 : (((rd_T27 l0_1 x48_3).f0) != (rd x10_1 0)) = false := bne_eq_false_iff_eq.mpr c42
       clear c42
       by_cases c43 : 0 ≤ ((rd_T27 l0_1 x48_3).f1)
       rotate_left; ·rw [if_neg c43] at H; exact absurd H (by simp)
       rw [if_pos c43] at H
       have c43b0 : decide (0 ≤ ((rd_T27 l0_1 x48_3).f1)) = true := decide_eq_true c43
       clear c43
       by_cases c44 : ((rd_T27 l0_1 x48_3).f1) < (x9_3.length : Int)
       rotate_left; ·rw [if_neg c44] at H; exact absurd H (by simp)
       rw [if_pos c44] at H
       have c44b0 : decide (((rd_T27 l0_1 x48_3).f1) < (x9_3.length : Int)) = true := decide_eq_true c44
       (try (have c44z0 := c44b0; simp only [hl9_1, hl9_3] at c44z0))
       clear c44
       by_cases c45 : (rd x9_3 ((rd_T27 l0_1 x48_3).f1)) < 0
       rotate_left
       ·rw [if_neg c45] at H
        have c45b0 : decide ((rd x9_3 ((rd_T27 l0_1 x48_3).f1)) < 0) = false := decide_eq_false c45
        clear c45
        have H' := Aside0.mk H; clear H
        have p125 : 0 ≤ (x48_3 : Int) := of_decide_eq_true (by first | (with_reducible assumption) | assumption)
        have q125 : x48_3 < (l0_1.length : Int) := of_decide_eq_true (by first | (with_reducible assumption) | assumption)
        obtain ⟨ad125, e125, hx125_0, hx125_1⟩ := at_T27 HR0_1.out x48_3 p125 q125
        cases e125
        replace hx125_0 := (HB.out.cell (World.block_lt_of_cell? w _ hx125_0)).trans hx125_0
        replace hx125_1 := (HB.out.cell (World.block_lt_of_cell? w _ hx125_1)).trans hx125_1
        replace p125 := eq_true p125
        replace q125 := eq_true q125
        go_wp2_with (first | ((with_reducible refine gate_dst (N := 13) rfl ?_); refine box_event ?hg (N := 13) ?hd (cs := #[.int .i64 0, .int .i64 0]) (t := 27) ?hr ?_; (case hd => rfl); (case hg => rfl); (case hr => first | (go_simp; done) | (go_simp; rfl)); intro gb126 hg w58 hbox hb; replace HO_9 := Aside0.mk (Kd.R_below (by (with_reducible repeat (first | apply Kd.R_alloc | apply Kd.R_drewN | apply Kd.R_drew)); exact HO_9.out) hb); replace HO_10 := Aside0.mk (Kd.Q_below (by (with_reducible repeat (first | apply Kd.Q_alloc | apply Kd.Q_drewN | apply Kd.Q_drew)); exact HO_10.out) hb); have BK126 := Aside0.mk (hbox); have GW126 := Aside0.mk ((by rw [hg]; exact (below_size (by repeat (first | (with_reducible first | exact HB.out | apply below_alloc | apply pw_below_drewN | apply below_drew1 | refine below_set ?_ GE109.out) | exact HB.out))) : w.heap.size ≤ gb126)); have GE126 := Aside0.mk ((by rw [hg]; exact (below_size (by repeat (first | (with_reducible first | exact HB.out | apply below_alloc | apply pw_below_drewN | apply below_drew1 | refine below_set ?_ GE109.out) | exact HB.out))) : w.heap.size ≤ gb126)); replace HB := Aside0.mk (below_step (by repeat (first | (with_reducible first | exact HB.out | apply below_alloc | apply pw_below_drewN | apply below_drew1 | refine below_set ?_ GE109.out) | exact HB.out)) hb); have NB109_126 := Aside0.mk ((by rw [hg]; exact Nat.ne_of_lt (blk_lt (g := gb109) (o := .cells #[.slice A0_0 l0_0.length c0_0, .slice (some ad125) l0_1.length c0_1] 25 (0, 0)) (by (with_reducible repeat (first | refine blk_drewN ?_ _ | refine blk_drew ?_ | refine blk_alloc ?_ _)); exact BK109.out)) : gb109 ≠ gb126)); have NB126_109 := Aside0.mk ((by rw [hg]; exact Nat.ne_of_gt (blk_lt (g := gb109) (o := .cells #[.slice A0_0 l0_0.length c0_0, .slice (some ad125) l0_1.length c0_1] 25 (0, 0)) (by (with_reducible repeat (first | refine blk_drewN ?_ _ | refine blk_drew ?_ | refine blk_alloc ?_ _)); exact BK109.out)) : gb126 ≠ gb109)); replace BK109 := Aside0.mk (blk_below (g := gb109) (o := .cells #[.slice A0_0 l0_0.length c0_0, .slice (some ad125) l0_1.length c0_1] 25 (0, 0)) (by (with_reducible repeat (first | refine blk_drewN ?_ _ | refine blk_drew ?_ | refine blk_alloc ?_ _)); exact BK109.out) hb); clear hb hbox hg; have hnb59 := NB126_109.out; have hnc59 := NB109_126.out; have hcz60_0 : w58.cell? ⟨gb126, 0, none⟩ = some (.int .i64 0) := (blk_cell BK126.out 0).trans rfl; have hcz60_1 : w58.cell? ⟨gb126, 1, none⟩ = some (.int .i64 0) := (blk_cell BK126.out 1).trans rfl; have hfz60_0 := blk_frozen BK126.out 0; have hfz60_1 := blk_frozen BK126.out 1; have p127 : 0 ≤ ((ji34) : Int) := of_decide_eq_true (by first | (with_reducible assumption) | assumption); have q127 : (ji34) < (l1.length : Int) := of_decide_eq_true (by first | (with_reducible assumption) | assumption); obtain ⟨ad127, e127, hx127_0⟩ := Kd.at_bool HR1.out (ji34) p127 q127; (try rw [← Nbq37.out] at hx127_0); cases e127; have hn127_0 : (ad127 : Addr).block ≠ gb126 := Nat.ne_of_lt (Nat.lt_of_lt_of_le (by have := World.block_lt_of_cell? _ _ hx127_0; first | rwa [add_block] at this | exact this) GW126.out); have hn127_1 : (ad127 : Addr).block ≠ gb126 := Nat.ne_of_lt (Nat.lt_of_lt_of_le (by have := World.block_lt_of_cell? _ _ hx127_0; first | rwa [add_block] at this | exact this) GW126.out); replace hx127_0 := (HB.out.cell (World.block_lt_of_cell? w _ hx127_0)).trans hx127_0; replace hx127_0 := (cell_far (p := ⟨gb126, 0, none⟩) (by first | (rw [add_block]; exact hn127_0) | (show (Addr.add _ _).block ≠ _; rw [add_block]; exact hn127_0) | exact hn127_0) (.int .i64 ((rd_T27 l0_1 x48_3).f0))).trans hx127_0; replace hx127_0 := (cell_far (p := ⟨gb126, 1, none⟩) (by first | (rw [add_block]; exact hn127_1) | (show (Addr.add _ _).block ≠ _; rw [add_block]; exact hn127_1) | exact hn127_1) (.int .i64 ((rd_T27 l0_1 x48_3).f1))).trans hx127_0; clear hn127_0; clear hn127_1; replace p127 := eq_true p127; replace q127 := eq_true q127; have p128 : 0 ≤ (((rd_T27 l0_1 x48_3).f1) : Int) := of_decide_eq_true (by first | (with_reducible assumption) | assumption); have q128 : ((rd_T27 l0_1 x48_3).f1) < (x9_3.length : Int) := of_decide_eq_true (by first | (with_reducible assumption) | assumption); obtain ⟨ad128, e128, hx128_0⟩ := Kd.at_int (Kd.R_reads' HO_9.out).2.2 ((rd_T27 l0_1 x48_3).f1) p128 q128; obtain rfl : (⟨go8, 0, none⟩ : Addr) = ad128 := (by injection e128); (first | simp only [add_plain] at hx128_0 | simp only [add_at] at hx128_0 | simp only [Addr.add, Nat.zero_add] at hx128_0 | skip); have hn128_0 : (⟨go8, 0, none⟩ : Addr).block ≠ gb126 := Kd.own_blk (Kd.R_ne HO_9.out BK126.out (by decide)); have hn128_1 : (⟨go8, 0, none⟩ : Addr).block ≠ gb126 := Kd.own_blk (Kd.R_ne HO_9.out BK126.out (by decide)); replace hx128_0 := (cell_far (p := ⟨gb126, 0, none⟩) (by first | (rw [add_block]; exact hn128_0) | (show (Addr.add _ _).block ≠ _; rw [add_block]; exact hn128_0) | exact hn128_0) (.int .i64 ((rd_T27 l0_1 x48_3).f0))).trans hx128_0; replace hx128_0 := (cell_far (p := ⟨gb126, 1, none⟩) (by first | (rw [add_block]; exact hn128_1) | (show (Addr.add _ _).block ≠ _; rw [add_block]; exact hn128_1) | exact hn128_1) (.int .i64 ((rd_T27 l0_1 x48_3).f1))).trans hx128_0; clear hn128_0; clear hn128_1; replace p128 := eq_true p128; replace q128 := eq_true q128))
        (try simp only [← hl9_3])
        go_roundg k3
        case measure => have := HK1.out; have := HJ20.out; have := HK3.out; omega
        case rel => exact ⟨(x9_3), (x10_3), (ji34), (by first | rfl | (simp; done) | (simp only [← hji34] <;> (first | rfl | simp)) | (simp [*]; done)), H', ⟨by have := HK1.out; have := HJ20.out; have := HK3.out; omega⟩, ⟨by (try simp only [hl9_1]); (try simp only [hl9_3]); (with_reducible repeat (first | apply Kd.R_alloc | apply Kd.R_drewN | apply Kd.R_drew)); exact Kd.R_mono (Kd.R_far (p := ⟨gb126, 1, none⟩) (Kd.R_far (p := ⟨gb126, 0, none⟩) (Kd.R_types HO_9.out BK126.out (by decide)) (fun _ hk => hk.2) (.int .i64 ((rd_T27 l0_1 x48_3).f0))) (fun _ hk => hk.2) (.int .i64 ((rd_T27 l0_1 x48_3).f1))) (fun _ hk => hk.1)⟩, ⟨by (try simp only [hl9_1]); (try simp only [hl9_3]); (with_reducible repeat (first | apply Kd.Q_alloc | apply Kd.Q_drewN | apply Kd.Q_drew)); exact Kd.Q_mono (Kd.Q_far (p := ⟨gb126, 1, none⟩) (Kd.Q_far (p := ⟨gb126, 0, none⟩) (Kd.Q_types HO_10.out BK126.out (by decide)) (fun _ hk => hk.2) (.int .i64 ((rd_T27 l0_1 x48_3).f0))) (fun _ hk => hk.2) (.int .i64 ((rd_T27 l0_1 x48_3).f1))) (fun _ hk => hk.1)⟩, ⟨by (try simp only [hl9_1]); (try simp only [hl9_3]); (with_reducible repeat (first | refine blk_drewN ?_ _ | refine blk_drew ?_ | refine blk_alloc ?_ _)); refine blk_far ?_ NB109_126.out _; (with_reducible repeat (first | refine blk_drewN ?_ _ | refine blk_drew ?_ | refine blk_alloc ?_ _)); refine blk_far ?_ NB109_126.out _; (with_reducible repeat (first | refine blk_drewN ?_ _ | refine blk_drew ?_ | refine blk_alloc ?_ _)); exact BK109.out⟩, ⟨by repeat (first | (with_reducible first | exact HB.out | apply below_alloc | apply pw_below_drewN | apply below_drew1 | refine below_set ?_ GE109.out | refine below_set ?_ GE126.out) | exact HB.out)⟩⟩
       rw [if_pos c45] at H
       have c45b0 : decide ((rd x9_3 ((rd_T27 l0_1 x48_3).f1)) < 0) = true := decide_eq_true c45
       clear c45
       by_cases c46 : 0 ≤ (rd x10_1 0)
       rotate_left; ·rw [if_neg c46] at H; exact absurd H (by simp)
       rw [if_pos c46] at H
       have c46b0 : decide (0 ≤ (rd x10_1 0)) = true := decide_eq_true c46
       clear c46
       by_cases c47 : (rd x10_1 0) < (x9_3.length : Int)
       rotate_left; ·rw [if_neg c47] at H; exact absurd H (by simp)
       rw [if_pos c47] at H
       have c47b0 : decide ((rd x10_1 0) < (x9_3.length : Int)) = true := decide_eq_true c47
       (try (have c47z0 := c47b0; simp only [hl9_1, hl9_3] at c47z0))
       clear c47
       obtain ⟨y130, hy130⟩ : ∃ y_ : List Int, y_ = (x9_3.set (((rd_T27 l0_1 x48_3).f1) : Int).toNat (wrap64 ((rd x9_3 (rd x10_1 0)) + 1))) := ⟨_, rfl⟩
       replace H : (if x10_3.length < 17592186044416 then (reach_lengths_0.l1 k3 l1 a2 y130 (x10_3 ++ [(rd_T27 l0_1 x48_3).f1]) (rd x10_1 0) l0_1 (l0_1.length : Int) ji34 l0_0 l0_1) else (none)) = some r := by first | (rw [hy130]; with_reducible exact H) | (have H2_ := (Option.bind_some _ _).symm.trans H; rw [hy130]; with_reducible exact H2_) | (have H2_ := (Option.bind_some _ _).symm.trans H; with_reducible exact H2_) | with_reducible exact H | (rw [hy130]; exact H) | exact H
       have Ny130 := Aside0.mk hy130
       clear hy130
       by_cases c49 : x10_3.length < 17592186044416
       rotate_left; ·rw [if_neg c49] at H; exact absurd H (by simp)
       rw [if_pos c49] at H
       have LMc49 := Aside0.mk c49
       clear c49
       obtain ⟨y131, hy131⟩ : ∃ y_ : List Int, y_ = (x10_3 ++ [(rd_T27 l0_1 x48_3).f1]) := ⟨_, rfl⟩
       replace H : (reach_lengths_0.l1 k3 l1 a2 y130 y131 (rd x10_1 0) l0_1 (l0_1.length : Int) ji34 l0_0 l0_1) = some r := by first | (rw [hy131]; with_reducible exact H) | (have H2_ := (Option.bind_some _ _).symm.trans H; rw [hy131]; with_reducible exact H2_) | (have H2_ := (Option.bind_some _ _).symm.trans H; with_reducible exact H2_) | with_reducible exact H | (rw [hy131]; exact H) | exact H
       have Ny131 := Aside0.mk hy131
       clear hy131
       have H' := Aside0.mk H; clear H
       have p125 : 0 ≤ (x48_3 : Int) := of_decide_eq_true (by first | (with_reducible assumption) | assumption)
       have q125 : x48_3 < (l0_1.length : Int) := of_decide_eq_true (by first | (with_reducible assumption) | assumption)
       obtain ⟨ad125, e125, hx125_0, hx125_1⟩ := at_T27 HR0_1.out x48_3 p125 q125
       cases e125
       replace hx125_0 := (HB.out.cell (World.block_lt_of_cell? w _ hx125_0)).trans hx125_0
       replace hx125_1 := (HB.out.cell (World.block_lt_of_cell? w _ hx125_1)).trans hx125_1
       replace p125 := eq_true p125
       replace q125 := eq_true q125
       go_wp2_with (first | ((with_reducible refine gate_dst (N := 13) rfl ?_); refine box_event ?hg (N := 13) ?hd (cs := #[.int .i64 0, .int .i64 0]) (t := 27) ?hr ?_; (case hd => rfl); (case hg => rfl); (case hr => first | (go_simp; done) | (go_simp; rfl)); intro gb126 hg w50 hbox hb; replace HO_9 := Aside0.mk (Kd.R_below (by (with_reducible repeat (first | apply Kd.R_alloc | apply Kd.R_drewN | apply Kd.R_drew)); exact HO_9.out) hb); replace HO_10 := Aside0.mk (Kd.Q_below (by (with_reducible repeat (first | apply Kd.Q_alloc | apply Kd.Q_drewN | apply Kd.Q_drew)); exact HO_10.out) hb); have BK126 := Aside0.mk (hbox); have GW126 := Aside0.mk ((by rw [hg]; exact (below_size (by repeat (first | (with_reducible first | exact HB.out | apply below_alloc | apply pw_below_drewN | apply below_drew1 | refine below_set ?_ GE109.out) | exact HB.out))) : w.heap.size ≤ gb126)); have GE126 := Aside0.mk ((by rw [hg]; exact (below_size (by repeat (first | (with_reducible first | exact HB.out | apply below_alloc | apply pw_below_drewN | apply below_drew1 | refine below_set ?_ GE109.out) | exact HB.out))) : w.heap.size ≤ gb126)); replace HB := Aside0.mk (below_step (by repeat (first | (with_reducible first | exact HB.out | apply below_alloc | apply pw_below_drewN | apply below_drew1 | refine below_set ?_ GE109.out) | exact HB.out)) hb); have NB109_126 := Aside0.mk ((by rw [hg]; exact Nat.ne_of_lt (blk_lt (g := gb109) (o := .cells #[.slice A0_0 l0_0.length c0_0, .slice (some ad125) l0_1.length c0_1] 25 (0, 0)) (by (with_reducible repeat (first | refine blk_drewN ?_ _ | refine blk_drew ?_ | refine blk_alloc ?_ _)); exact BK109.out)) : gb109 ≠ gb126)); have NB126_109 := Aside0.mk ((by rw [hg]; exact Nat.ne_of_gt (blk_lt (g := gb109) (o := .cells #[.slice A0_0 l0_0.length c0_0, .slice (some ad125) l0_1.length c0_1] 25 (0, 0)) (by (with_reducible repeat (first | refine blk_drewN ?_ _ | refine blk_drew ?_ | refine blk_alloc ?_ _)); exact BK109.out)) : gb126 ≠ gb109)); replace BK109 := Aside0.mk (blk_below (g := gb109) (o := .cells #[.slice A0_0 l0_0.length c0_0, .slice (some ad125) l0_1.length c0_1] 25 (0, 0)) (by (with_reducible repeat (first | refine blk_drewN ?_ _ | refine blk_drew ?_ | refine blk_alloc ?_ _)); exact BK109.out) hb); clear hb hbox hg; have hnb51 := NB126_109.out; have hnc51 := NB109_126.out; have hcz52_0 : w50.cell? ⟨gb126, 0, none⟩ = some (.int .i64 0) := (blk_cell BK126.out 0).trans rfl; have hcz52_1 : w50.cell? ⟨gb126, 1, none⟩ = some (.int .i64 0) := (blk_cell BK126.out 1).trans rfl; have hfz52_0 := blk_frozen BK126.out 0; have hfz52_1 := blk_frozen BK126.out 1) | ((with_reducible refine gate_store (t := 27) (p := 13) rfl ?_); refine store_event (t := 27) (p := 13) (v := ?vo_w53) (w1 := ((w50.setCell ⟨gb126, 0, none⟩ (.int .i64 ((rd_T27 l0_1 x48_3).f0))).setCell ⟨gb126, 1, none⟩ (.int .i64 ((rd_T27 l0_1 x48_3).f1)))) ?hg ?ho ?hn ?hr ?_; (case ho => rfl); (case hg => rfl); (case hn => rfl); (case hr => first | (go_simp; done) | (go_simp; rfl)); intro w53 hw; have n0_ : Aside0 (Kd.R (Kd.int .i64) 3 w53 w.heap.size (fun k_ => some k_ ≠ (u10 : Value).ownBlock) (.slice (some ⟨go8, 0, none⟩) x9_3.length co8) x9_3) := ⟨(by rw [hw]; exact (by (with_reducible repeat (first | apply Kd.R_alloc | apply Kd.R_drewN | apply Kd.R_drew)); exact Kd.R_mono (Kd.R_far (p := ⟨gb126, 1, none⟩) (Kd.R_far (p := ⟨gb126, 0, none⟩) (Kd.R_types HO_9.out BK126.out (by decide)) (fun _ hk => hk.2) (.int .i64 ((rd_T27 l0_1 x48_3).f0))) (fun _ hk => hk.2) (.int .i64 ((rd_T27 l0_1 x48_3).f1))) (fun _ hk => hk.1)))⟩; have n1_ : Aside0 (Kd.Q (Kd.int .i64) 3 w53 w.heap.size (fun k_ => some k_ ≠ (.slice (some ⟨go8, 0, none⟩) x9_3.length co8 : Value).ownBlock) u10 x10_3) := ⟨(by rw [hw]; exact (by (with_reducible repeat (first | apply Kd.Q_alloc | apply Kd.Q_drewN | apply Kd.Q_drew)); exact Kd.Q_mono (Kd.Q_far (p := ⟨gb126, 1, none⟩) (Kd.Q_far (p := ⟨gb126, 0, none⟩) (Kd.Q_types HO_10.out BK126.out (by decide)) (fun _ hk => hk.2) (.int .i64 ((rd_T27 l0_1 x48_3).f0))) (fun _ hk => hk.2) (.int .i64 ((rd_T27 l0_1 x48_3).f1))) (fun _ hk => hk.1)))⟩; have n2_ : Aside0 (w53.heap[gb109]? = some (.cells #[.slice A0_0 l0_0.length c0_0, .slice (some ad125) l0_1.length c0_1] 25 (0, 0))) := ⟨(by rw [hw]; exact (by (with_reducible repeat (first | refine blk_drewN ?_ _ | refine blk_drew ?_ | refine blk_alloc ?_ _)); refine blk_far ?_ NB109_126.out _; (with_reducible repeat (first | refine blk_drewN ?_ _ | refine blk_drew ?_ | refine blk_alloc ?_ _)); refine blk_far ?_ NB109_126.out _; (with_reducible repeat (first | refine blk_drewN ?_ _ | refine blk_drew ?_ | refine blk_alloc ?_ _)); exact BK109.out))⟩; have n3_ : Aside0 (w53.heap[gb126]? = some (.cells #[.int .i64 ((rd_T27 l0_1 x48_3).f0), .int .i64 ((rd_T27 l0_1 x48_3).f1)] 27 (0, 0))) := ⟨(by rw [hw]; exact (by (with_reducible repeat (first | refine blk_drewN ?_ _ | refine blk_drew ?_ | refine blk_alloc ?_ _)); refine blk_put (cs := #[.int .i64 ((rd_T27 l0_1 x48_3).f0), .int .i64 0]) ?_ 1 _ rfl; (with_reducible repeat (first | refine blk_drewN ?_ _ | refine blk_drew ?_ | refine blk_alloc ?_ _)); refine blk_put (cs := #[.int .i64 0, .int .i64 0]) ?_ 0 _ rfl; (with_reducible repeat (first | refine blk_drewN ?_ _ | refine blk_drew ?_ | refine blk_alloc ?_ _)); exact BK126.out))⟩; have n4_ : Aside0 (Below w.heap.size w w53) := ⟨(by rw [hw]; exact (by repeat (first | (with_reducible first | exact HB.out | apply below_alloc | apply pw_below_drewN | apply below_drew1 | refine below_set ?_ GE109.out | refine below_set ?_ GE126.out) | exact HB.out)))⟩; clear hw; clear HO_9; clear HO_10; clear BK109; clear BK126; clear HB; have HO_9 := n0_; have HO_10 := n1_; have BK109 := n2_; have BK126 := n3_; have HB := n4_; clear n0_ n1_ n2_ n3_ n4_; have hcz54_0 : w53.cell? ⟨gb126, 0, none⟩ = some (.int .i64 ((rd_T27 l0_1 x48_3).f0)) := (blk_cell BK126.out 0).trans rfl; have hcz54_1 : w53.cell? ⟨gb126, 1, none⟩ = some (.int .i64 ((rd_T27 l0_1 x48_3).f1)) := (blk_cell BK126.out 1).trans rfl; have hfz54_0 := blk_frozen BK126.out 0; have hfz54_1 := blk_frozen BK126.out 1; have p127 : 0 ≤ ((ji34) : Int) := of_decide_eq_true (by first | (with_reducible assumption) | assumption); have q127 : (ji34) < (l1.length : Int) := of_decide_eq_true (by first | (with_reducible assumption) | assumption); obtain ⟨ad127, e127, hx127_0⟩ := Kd.at_bool HR1.out (ji34) p127 q127; (try rw [← Nbq37.out] at hx127_0); cases e127; replace hx127_0 := (HB.out.cell (World.block_lt_of_cell? w _ hx127_0)).trans hx127_0; replace p127 := eq_true p127; replace q127 := eq_true q127; have p128 : 0 ≤ (((rd_T27 l0_1 x48_3).f1) : Int) := of_decide_eq_true (by first | (with_reducible assumption) | assumption); have q128 : ((rd_T27 l0_1 x48_3).f1) < (x9_3.length : Int) := of_decide_eq_true (by first | (with_reducible assumption) | assumption); obtain ⟨ad128, e128, hx128_0⟩ := Kd.at_int (Kd.R_reads' HO_9.out).2.2 ((rd_T27 l0_1 x48_3).f1) p128 q128; obtain rfl : (⟨go8, 0, none⟩ : Addr) = ad128 := (by injection e128); (first | simp only [add_plain] at hx128_0 | simp only [add_at] at hx128_0 | simp only [Addr.add, Nat.zero_add] at hx128_0 | skip); replace p128 := eq_true p128; replace q128 := eq_true q128; have p129 : 0 ≤ ((rd x10_1 0) : Int) := of_decide_eq_true (by first | (with_reducible assumption) | assumption); have q129 : (rd x10_1 0) < (x9_3.length : Int) := of_decide_eq_true (by first | (with_reducible assumption) | assumption); obtain ⟨ad129, e129, hx129_0⟩ := Kd.at_int (Kd.R_reads' HO_9.out).2.2 (rd x10_1 0) p129 q129; obtain rfl : (⟨go8, 0, none⟩ : Addr) = ad129 := (by injection e129); (first | simp only [add_plain] at hx129_0 | simp only [add_at] at hx129_0 | simp only [Addr.add, Nat.zero_add] at hx129_0 | skip); replace p129 := eq_true p129; replace q129 := eq_true q129; have p48 : 0 ≤ (((rd_T27 l0_1 x48_3).f1) : Int) := of_decide_eq_true (by first | (with_reducible assumption) | assumption); have q48 : (((rd_T27 l0_1 x48_3).f1) : Int) < ((x9_3.length : Int) : Int) := of_decide_eq_true (by first | (with_reducible assumption) | assumption); obtain ⟨hx48_0, hf48_0⟩ := Kd.R_celln 0 HO_9.out (((rd_T27 l0_1 x48_3).f1) : Int) p48 q48; replace p48 := eq_true p48; replace q48 := eq_true q48; obtain ⟨hy55_, hz55_⟩ := Kd.R_celln 0 HO_9.out (((rd_T27 l0_1 x48_3).f1) : Int) (of_decide_eq_true (by first | (with_reducible assumption) | assumption)) (of_decide_eq_true (by first | (with_reducible assumption) | assumption)); have HP55 := Kd.R_putg HO_9.out (((rd_T27 l0_1 x48_3).f1) : Int) (wrap64 ((rd x9_3 (rd x10_1 0)) + 1))) | ((with_reducible refine gate_store (t := 3) (p := 84) rfl ?_); refine store_event (t := 3) (p := 84) (v := ?vo_w56) (w1 := (w53.setCell ⟨go8, (((rd_T27 l0_1 x48_3).f1) : Int).toNat, none⟩ (.int .i64 (wrap64 ((rd x9_3 (rd x10_1 0)) + 1))))) ?hg ?ho ?hn ?hr ?_; (case ho => rfl); (case hg => rfl); (case hn => rfl); (case hr => first | (go_simp; done) | (go_simp; rfl)); intro w56 hw; have hg : w53.grownBy w56 (some go8) := (by rw [hw]; exact HP55.2); have hp_ : Kd.R (Kd.int .i64) 3 w56 w.heap.size (fun k_ => some k_ ≠ (u10 : Value).ownBlock) (.slice (some ⟨go8, 0, none⟩) x9_3.length co8) y130 := (by rw [hw, Ny130.out]; exact HP55.1); clear HP55; replace HO_10 := Aside0.mk (Kd.Q_after (v := (.slice (some ⟨go8, 0, none⟩) x9_3.length co8)) (v1 := (.slice (some ⟨go8, 0, none⟩) x9_3.length co8)) (ok := (fun _ => True)) (by (with_reducible repeat (first | apply Kd.Q_alloc | apply Kd.Q_drewN | apply Kd.Q_drew)); exact Kd.Q_mono HO_10.out (fun _ hk => ⟨trivial, hk⟩)) hg (.inl rfl)); replace BK109 := Aside0.mk (blk_grown (g := gb109) (o := .cells #[.slice A0_0 l0_0.length c0_0, .slice (some ad125) l0_1.length c0_1] 25 (0, 0)) (by (with_reducible repeat (first | refine blk_drewN ?_ _ | refine blk_drew ?_ | refine blk_alloc ?_ _)); exact BK109.out) hg (Kd.R_ne HO_9.out BK109.out (by decide))); replace BK126 := Aside0.mk (blk_grown (g := gb126) (o := .cells #[.int .i64 ((rd_T27 l0_1 x48_3).f0), .int .i64 ((rd_T27 l0_1 x48_3).f1)] 27 (0, 0)) (by (with_reducible repeat (first | refine blk_drewN ?_ _ | refine blk_drew ?_ | refine blk_alloc ?_ _)); exact BK126.out) hg (Kd.R_ne HO_9.out BK126.out (by decide))); replace HO_9 := Aside0.mk (hp_); replace HB := Aside0.mk ((by rw [hw]; exact below_set (HB.out) GB8.out : Below w.heap.size w w56)); clear hg hw hp_) | ((with_reducible refine gate_builtin (b := .append) (xs := #[.tmp 85, .tmp 87]) rfl ?_); at_builtin; refine Kd.Q_append (Kd.int .i64) (w0 := w) w.heap.size rfl (.tmp 85) (.tmp 87) 26 3 (.int .i64 0) 8 rfl Try.underlying26 info3 rfl (by decide) (by omega) u10 x10_3 ((rd_T27 l0_1 x48_3).f1) [.int .i64 ((rd_T27 l0_1 x48_3).f1)] (fun k_ => some k_ ≠ (.slice (some ⟨go8, 0, none⟩) x9_3.length co8 : Value).ownBlock) (fun _ => False) rfl rfl ?aP (fun _ hk => hk.elim) ?aF ?aO ?aB ?aS ?aL ?_; (case aP => exact rfl); (case aB => exact (by repeat (first | (with_reducible first | exact HB.out | apply below_alloc | apply pw_below_drewN | apply below_drew1 | refine below_set ?_ GE109.out | refine below_set ?_ GE126.out) | exact HB.out))); (case aF => exact (fun k_ hk => Kd.fresh' (Kd.R_lt (by (with_reducible repeat (first | apply Kd.R_alloc | apply Kd.R_drewN | apply Kd.R_drew)); exact HO_9.out)) k_ hk)); (case aO => exact (by (with_reducible repeat (first | apply Kd.Q_alloc | apply Kd.Q_drewN | apply Kd.Q_drew)); exact Kd.Q_mono HO_10.out (fun _ hk => hk.2))); (case aS => exact (below_size (by repeat (first | (with_reducible first | exact HB.out | apply below_alloc | apply pw_below_drewN | apply below_drew1 | refine below_set ?_ GE109.out | refine below_set ?_ GE126.out) | exact HB.out)))); (case aL => have := LMc49.out; omega); intro v132 w57 ho hb hg hat; rw [← Ny131.out] at ho; replace HO_9 := Aside0.mk (Kd.R_after (ok := (fun _ => True)) (by (with_reducible repeat (first | apply Kd.R_alloc | apply Kd.R_drewN | apply Kd.R_drew)); exact Kd.R_mono HO_9.out (fun _ hk => ⟨trivial, hk⟩)) hg hat); replace BK109 := Aside0.mk (blk_grown (g := gb109) (o := .cells #[.slice A0_0 l0_0.length c0_0, .slice (some ad125) l0_1.length c0_1] 25 (0, 0)) (by (with_reducible repeat (first | refine blk_drewN ?_ _ | refine blk_drew ?_ | refine blk_alloc ?_ _)); exact BK109.out) hg (Kd.Q_ne HO_10.out BK109.out (by decide))); replace BK126 := Aside0.mk (blk_grown (g := gb126) (o := .cells #[.int .i64 ((rd_T27 l0_1 x48_3).f0), .int .i64 ((rd_T27 l0_1 x48_3).f1)] 27 (0, 0)) (by (with_reducible repeat (first | refine blk_drewN ?_ _ | refine blk_drew ?_ | refine blk_alloc ?_ _)); exact BK126.out) hg (Kd.Q_ne HO_10.out BK126.out (by decide))); replace HB := Aside0.mk (hb); have HO133 := Aside0.mk (ho); clear HO_10; clear ho hb hg hat))
       (try simp only [← hl9_3])
       go_roundg k3
       case measure => have := HK1.out; have := HJ20.out; have := HK3.out; omega
       case rel => exact ⟨(y130), (y131), (ji34), (by first | rfl | (simp; done) | (simp only [← hji34] <;> (first | rfl | simp)) | (simp [*]; done)), H', ⟨by have := HK1.out; have := HJ20.out; have := HK3.out; omega⟩, ⟨by (try simp only [hl9_1]); (try simp only [hl9_3]); (with_reducible repeat (first | apply Kd.R_alloc | apply Kd.R_drewN | apply Kd.R_drew)); exact Kd.R_mono HO_9.out (fun _ hk => hk.2)⟩, ⟨by (try simp only [hl9_1]); (try simp only [hl9_3]); (with_reducible repeat (first | apply Kd.Q_alloc | apply Kd.Q_drewN | apply Kd.Q_drew)); exact HO133.out⟩, ⟨by (try simp only [hl9_1]); (try simp only [hl9_3]); (with_reducible repeat (first | refine blk_drewN ?_ _ | refine blk_drew ?_ | refine blk_alloc ?_ _)); exact BK109.out⟩, ⟨by repeat (first | (with_reducible first | exact HB.out | apply below_alloc | apply pw_below_drewN | apply below_drew1 | refine below_set ?_ GE109.out | refine below_set ?_ GE126.out) | exact HB.out)⟩⟩
end Go.Proofs.Ytkfoicfbmhalbaa.PReachBoth
