-- Written by a program of this session (wip/oprint): after the pattern of the kit's print, which does not take this law. -- trimmed
import Derived.Test.YtkfoicfbmhalbaaPReachBothx0
import Derived.Test.YtkfoicfbmhalbaaPReachBothx2
namespace Go.Proofs.Ytkfoicfbmhalbaa.PReachBoth
open Go.RowKit Go.Proofs.YtkfoicfbmhalbaaW.PrintWords Go.Proofs.YtkfoicfbmhalbaaW.PrintLast Go.Proofs.YtkfoicfbmhalbaaW.PrintMore
attribute [local go_sem] max2_int min2_int max_two min_two max_three min_three max_four min_four   -- for this text's walks alone
set_option linter.unusedVariables false
set_option linter.unusedSimpArgs false

/-! ### reach_lengths_1: function 27 -/
mutual
def reach_lengths_1.l0 : Nat → List Bool → Int → List Int → List Int → List (S43) → List (S27) → Option (List Int)
 | 0, _, _, _, _, _, _ => none
 | k + 1, x1, x2, x9, x10, x138000, x138001 => if (x10.length : Int) > 0 then (if 0 < (x10.length : Int) then (if (rd x10 0) = x2 then (reach_lengths_1.j1 k x1 x2 x9 x10 (rd x10 0) false x138000 x138001) else (if 0 ≤ (rd x10 0) then (if (rd x10 0) < (x138000.length : Int) then (reach_lengths_1.j1 k x1 x2 x9 x10 (rd x10 0) (((rd_T43 x138000 (rd x10 0)).f1) != 1) x138000 x138001) else (none)) else (none))) else (none)) else (some x9)
def reach_lengths_1.j1 : Nat → List Bool → Int → List Int → List Int → Int → Bool → List (S43) → List (S27) → Option (List Int)
 | 0, _, _, _, _, _, _, _, _ => none
 | k + 1, x1, x2, x9, x10, x11, x44, x138000, x138001 => if x44 = true then (if 1 ≤ (x10.length : Int) then (reach_lengths_1.l0 k x1 x2 x9 (x10.drop (1 : Int).toNat) x138000 x138001) else (none)) else (reach_lengths_1.l1 k x1 x2 x9 x10 x11 x138001 (x138001.length : Int) 0 x138000 x138001)
def reach_lengths_1.l1 : Nat → List Bool → Int → List Int → List Int → Int → List (S27) → Int → Int → List (S43) → List (S27) → Option (List Int)
 | 0, _, _, _, _, _, _, _, _, _, _ => none
 | k + 1, x1, x2, x9, x10, x11, x46, x47, x48, x138000, x138001 => if x48 < x47 then (if 0 ≤ x48 then (if x48 < (x46.length : Int) then (if 0 ≤ (wrap64 (x48 + 1)) then (if (wrap64 (x48 + 1)) < (x1.length : Int) then (if (rdOf false x1 (wrap64 (x48 + 1)) = true) then (reach_lengths_1.l1 k x1 x2 x9 x10 x11 x46 x47 (wrap64 (x48 + 1)) x138000 x138001) else (if ((rd_T27 x46 x48).f1) = x11 then (if 0 ≤ ((rd_T27 x46 x48).f0) then (if ((rd_T27 x46 x48).f0) < (x9.length : Int) then (if (rd x9 ((rd_T27 x46 x48).f0)) < 0 then (if 0 ≤ x11 then (if x11 < (x9.length : Int) then (if x10.length < 17592186044416 then (reach_lengths_1.l1 k x1 x2 (x9.set (((rd_T27 x46 x48).f0) : Int).toNat (wrap64 ((rd x9 x11) + 1))) (x10 ++ [(rd_T27 x46 x48).f0]) x11 x46 x47 (wrap64 (x48 + 1)) x138000 x138001) else (none)) else (none)) else (none)) else (reach_lengths_1.l1 k x1 x2 x9 x10 x11 x46 x47 (wrap64 (x48 + 1)) x138000 x138001)) else (none)) else (none)) else (reach_lengths_1.l1 k x1 x2 x9 x10 x11 x46 x47 (wrap64 (x48 + 1)) x138000 x138001))) else (none)) else (none)) else (none)) else (none)) else (if 1 ≤ (x10.length : Int) then (reach_lengths_1.l0 k x1 x2 x9 (x10.drop (1 : Int).toNat) x138000 x138001) else (none))
end
def reach_lengths_1.f (k : Nat) (l0_0 : List (S43)) (l0_1 : List (S27)) (l1 : List Bool) (a2 : Int) (a3 : Int) : Option (List Int) := (slices_Repeat_int_int.f (([(-1)] : List Int)) (l0_0.length : Int)).bind fun t141 => (if 0 ≤ a2 then (if a2 < (t141.length : Int) then (reach_lengths_1.l0 k l1 a2 (t141.set (a2 : Int).toNat 0) (([a2] : List Int)) l0_0 l0_1) else (none)) else (none))
theorem reach_lengths_1.mono_l : ∀ k, (∀ y0 y1 y2 y3 y4 y5, LeO (reach_lengths_1.l0 k y0 y1 y2 y3 y4 y5) (reach_lengths_1.l0 (k + 1) y0 y1 y2 y3 y4 y5)) ∧ (∀ y0 y1 y2 y3 y4 y5 y6 y7, LeO (reach_lengths_1.j1 k y0 y1 y2 y3 y4 y5 y6 y7) (reach_lengths_1.j1 (k + 1) y0 y1 y2 y3 y4 y5 y6 y7)) ∧ (∀ y0 y1 y2 y3 y4 y5 y6 y7 y8 y9, LeO (reach_lengths_1.l1 k y0 y1 y2 y3 y4 y5 y6 y7 y8 y9) (reach_lengths_1.l1 (k + 1) y0 y1 y2 y3 y4 y5 y6 y7 y8 y9))
 | 0 => ⟨fun _ _ _ _ _ _ r h => by simp [reach_lengths_1.l0] at h, fun _ _ _ _ _ _ _ _ r h => by simp [reach_lengths_1.j1] at h, fun _ _ _ _ _ _ _ _ _ _ r h => by simp [reach_lengths_1.l1] at h⟩
 | k + 1 => by
  obtain ⟨ih0, ih1, ih2⟩ := reach_lengths_1.mono_l k
  refine ⟨?_, ?_, ?_⟩
  ·intro y0 y1 y2 y3 y4 y5
   unfold reach_lengths_1.l0
   repeat' first
   | (with_reducible exact ih0 _ _ _ _ _ _)
   | (with_reducible exact ih1 _ _ _ _ _ _ _ _)
   | (with_reducible exact ih2 _ _ _ _ _ _ _ _ _ _)
   | (with_reducible exact LeO.refl _)
   | (with_reducible exact LeO.none _)
   | (with_reducible refine LeO.ite ?_ ?_)
   | (with_reducible refine LeO.bind ?_ (fun _ => ?_))
   | exact ih0 _ _ _ _ _ _
   | exact ih1 _ _ _ _ _ _ _ _
   | exact ih2 _ _ _ _ _ _ _ _ _ _
   | exact LeO.none _
   | refine LeO.ite ?_ ?_
   | refine LeO.bind ?_ (fun _ => ?_)
  ·intro y0 y1 y2 y3 y4 y5 y6 y7
   unfold reach_lengths_1.j1
   repeat' first
   | (with_reducible exact ih0 _ _ _ _ _ _)
   | (with_reducible exact ih1 _ _ _ _ _ _ _ _)
   | (with_reducible exact ih2 _ _ _ _ _ _ _ _ _ _)
   | (with_reducible exact LeO.refl _)
   | (with_reducible exact LeO.none _)
   | (with_reducible refine LeO.ite ?_ ?_)
   | (with_reducible refine LeO.bind ?_ (fun _ => ?_))
   | exact ih0 _ _ _ _ _ _
   | exact ih1 _ _ _ _ _ _ _ _
   | exact ih2 _ _ _ _ _ _ _ _ _ _
   | exact LeO.none _
   | refine LeO.ite ?_ ?_
   | refine LeO.bind ?_ (fun _ => ?_)
  ·intro y0 y1 y2 y3 y4 y5 y6 y7 y8 y9
   unfold reach_lengths_1.l1
   repeat' first
   | (with_reducible exact ih0 _ _ _ _ _ _)
   | (with_reducible exact ih1 _ _ _ _ _ _ _ _)
   | (with_reducible exact ih2 _ _ _ _ _ _ _ _ _ _)
   | (with_reducible exact LeO.refl _)
   | (with_reducible exact LeO.none _)
   | (with_reducible refine LeO.ite ?_ ?_)
   | (with_reducible refine LeO.bind ?_ (fun _ => ?_))
   | exact ih0 _ _ _ _ _ _
   | exact ih1 _ _ _ _ _ _ _ _
   | exact ih2 _ _ _ _ _ _ _ _ _ _
   | exact LeO.none _
   | refine LeO.ite ?_ ?_
   | refine LeO.bind ?_ (fun _ => ?_)
theorem reach_lengths_1.mono : ∀ a0 a1 a2 a3 a4 k, LeO (reach_lengths_1.f k a0 a1 a2 a3 a4) (reach_lengths_1.f (k + 1) a0 a1 a2 a3 a4) := by
 intro a0 a1 a2 a3 a4 k
 obtain ⟨ih0, ih1, ih2⟩ := reach_lengths_1.mono_l k
 unfold reach_lengths_1.f
 repeat' first
   | (with_reducible exact ih0 _ _ _ _ _ _)
   | (with_reducible exact ih1 _ _ _ _ _ _ _ _)
   | (with_reducible exact ih2 _ _ _ _ _ _ _ _ _ _)
   | (with_reducible exact LeO.refl _)
   | (with_reducible exact LeO.none _)
   | (with_reducible refine LeO.ite ?_ ?_)
   | (with_reducible refine LeO.bind ?_ (fun _ => ?_))
   | exact ih0 _ _ _ _ _ _
   | exact ih1 _ _ _ _ _ _ _ _
   | exact ih2 _ _ _ _ _ _ _ _ _ _
   | exact LeO.none _
   | refine LeO.ite ?_ ?_
   | refine LeO.bind ?_ (fun _ => ?_)
set_option maxHeartbeats 8000000 in
set_option maxRecDepth 100000 in
theorem reach_lengths_1.calls (k : Nat) (A0_0 : Option Addr) (c0_0 : Nat) (l0_0 : List (S43)) (A0_1 : Option Addr) (c0_1 : Nat) (l0_1 : List (S27)) (A1 : Option Addr) (c1 : Nat) (l1 : List Bool) (a2 : Int) (a3 : Int) (r : List Int) (w : World) (hr0_0 : Kd.C k43 w A0_0 l0_0.length l0_0) (hc0_0 : l0_0.length ≤ c0_0) (hr0_1 : Kd.C k27 w A0_1 l0_1.length l0_1) (hc0_1 : l0_1.length ≤ c0_1) (hr1 : Kd.C Kd.bool w A1 l1.length l1) (hc1 : l1.length ≤ c1) (h : reach_lengths_1.f k l0_0 l0_1 l1 a2 a3 = some r) :
  Calls Try.prog 27 #[.agg #[.slice A0_0 l0_0.length c0_0, .slice A0_1 l0_1.length c0_1], .slice A1 l1.length c1, .int .i64 a2, .int .i64 1] w fun e w' => ∃ v0_ : Value, e = .returned (v0_) ∧ Kd.R (Kd.int .i64) 3 w' w.heap.size (fun _ => True) v0_ r ∧ Below w.heap.size w w' := by
 have hu25 := Try.underlying25
 have hu27 := Try.underlying27
 have HR0_0 := Aside0.mk hr0_0
 have HC0_0 := Aside0.mk hc0_0
 clear hr0_0 hc0_0
 have HR0_1 := Aside0.mk hr0_1
 have HC0_1 := Aside0.mk hc0_1
 clear hr0_1 hc0_1
 have HR1 := Aside0.mk hr1
 have HC1 := Aside0.mk hc1
 clear hr1 hc1
 have HB := Aside0.mk (Below.refl w.heap.size w)
 have H : ((slices_Repeat_int_int.f (([(-1)] : List Int)) (l0_0.length : Int)).bind fun t141 => (if 0 ≤ a2 then (if a2 < (t141.length : Int) then (reach_lengths_1.l0 k l1 a2 (t141.set (a2 : Int).toNat 0) (([a2] : List Int)) l0_0 l0_1) else (none)) else (none))) = some r := h
 clear h
 obtain ⟨y138, hy138⟩ : ∃ y_ : List Int, y_ = (([(-1)] : List Int)) := ⟨_, rfl⟩
 replace H : ((slices_Repeat_int_int.f y138 (l0_0.length : Int)).bind fun t141 => (if 0 ≤ a2 then (if a2 < (t141.length : Int) then (reach_lengths_1.l0 k l1 a2 (t141.set (a2 : Int).toNat 0) (([a2] : List Int)) l0_0 l0_1) else (none)) else (none))) = some r := by first | (rw [hy138]; with_reducible exact H) | (have H2_ := (Option.bind_some _ _).symm.trans H; rw [hy138]; with_reducible exact H2_) | (have H2_ := (Option.bind_some _ _).symm.trans H; with_reducible exact H2_) | with_reducible exact H | (rw [hy138]; exact H) | exact H
 have Ny138 := Aside0.mk hy138
 clear hy138
 replace H := Option.bind_eq_some_iff.mp H; obtain ⟨t141, A50, H⟩ := H
 replace H : (if 0 ≤ a2 then (if a2 < (t141.length : Int) then (reach_lengths_1.l0 k l1 a2 (t141.set (a2 : Int).toNat 0) (([a2] : List Int)) l0_0 l0_1) else (none)) else (none)) = some r := H
 have A5 := Aside0.mk A50
 clear A50
 by_cases c6 : 0 ≤ a2
 rotate_left; ·rw [if_neg c6] at H; exact absurd H (by simp)

 rw [if_pos c6] at H
 have c6b0 : decide (0 ≤ a2) = true := decide_eq_true c6
 clear c6
 by_cases c7 : a2 < (t141.length : Int)
 rotate_left; ·rw [if_neg c7] at H; exact absurd H (by simp)
 rw [if_pos c7] at H
 have c7b0 : decide (a2 < (t141.length : Int)) = true := decide_eq_true c7
 clear c7
 obtain ⟨y144, hy144⟩ : ∃ y_ : List Int, y_ = (t141.set (a2 : Int).toNat 0) := ⟨_, rfl⟩
 replace H : (reach_lengths_1.l0 k l1 a2 y144 (([a2] : List Int)) l0_0 l0_1) = some r := by first | (rw [hy144]; with_reducible exact H) | (have H2_ := (Option.bind_some _ _).symm.trans H; rw [hy144]; with_reducible exact H2_) | (have H2_ := (Option.bind_some _ _).symm.trans H; with_reducible exact H2_) | with_reducible exact H | (rw [hy144]; exact H) | exact H
 have Ny144 := Aside0.mk hy144
 clear hy144
 obtain ⟨y145, hy145⟩ : ∃ y_ : List Int, y_ = (([a2] : List Int)) := ⟨_, rfl⟩
 replace H : (reach_lengths_1.l0 k l1 a2 y144 y145 l0_0 l0_1) = some r := by first | (rw [hy145]; with_reducible exact H) | (have H2_ := (Option.bind_some _ _).symm.trans H; rw [hy145]; with_reducible exact H2_) | (have H2_ := (Option.bind_some _ _).symm.trans H; with_reducible exact H2_) | with_reducible exact H | (rw [hy145]; exact H) | exact H
 have Ny145 := Aside0.mk hy145
 clear hy145
 have H' := Aside0.mk H; clear H
 go_enter Try.func27, Try.ntmps27
 go_wp2_with (first | ((with_reducible refine gate_dst (N := 4) rfl ?_); refine box_event ?hg (N := 4) ?hd (cs := #[.slice A0_0 l0_0.length c0_0, .slice A0_1 l0_1.length c0_1]) (t := 25) ?hr ?_; (case hd => rfl); (case hg => rfl); (case hr => first | (go_simp; done) | (go_simp; rfl)); intro gb137 hg w9 hbox hb; have BK137 := Aside0.mk (hbox); have GW137 := Aside0.mk ((by rw [hg]; exact (below_size (by repeat (first | (with_reducible first | exact HB.out | apply below_alloc | apply pw_below_drewN | apply below_drew1) | exact HB.out))) : w.heap.size ≤ gb137)); have GE137 := Aside0.mk ((by rw [hg]; exact (below_size (by repeat (first | (with_reducible first | exact HB.out | apply below_alloc | apply pw_below_drewN | apply below_drew1) | exact HB.out))) : w.heap.size ≤ gb137)); replace HB := Aside0.mk (below_step (by repeat (first | (with_reducible first | exact HB.out | apply below_alloc | apply pw_below_drewN | apply below_drew1) | exact HB.out)) hb); clear hb hbox hg) | ((with_reducible refine gate_dst (N := 15) rfl ?_); refine Kd.R_lit (Kd.int .i64) _ 3 ?hg (N := 15) ?hd (xs := ([(-1)] : List Int)) (inner := [.int .i64 (-1)]) (ok := fun _ => True) (okp := fun _ => True) ?hr ?hp (fun _ hk => hk) trivial (Below.refl _ _) (Nat.le_refl _) (by simp) ?_; (case hd => rfl); (case hg => rfl); (case hr => first | (go_simp; done) | (go_simp; rfl)); (case hp => exact (Reps.one (show Kd.M (Kd.int .i64) _ _ _ (-1) [.int .i64 (-1)] from rfl) (Reps.none _ _))); intro v139 w10 ho11 hb hg_ hnew_; clear hg_ hnew_; (first | rw [← Ny138.out] at ho11 | (simp only [Int.reduceToNat] at ho11; rw [← Ny138.out] at ho11)); have HO140 := Aside0.mk (Kd.R_lower ho11 (below_size (by repeat (first | (with_reducible first | exact HB.out | apply below_alloc | apply pw_below_drewN | apply below_drew1 | refine below_set ?_ GE137.out) | exact HB.out)))); replace BK137 := Aside0.mk (blk_below (g := gb137) (o := .cells #[.slice A0_0 l0_0.length c0_0, .slice A0_1 l0_1.length c0_1] 25 (0, 0)) (by (with_reducible repeat (first | refine blk_drewN ?_ _ | refine blk_drew ?_ | refine blk_alloc ?_ _)); exact BK137.out) hb); replace HB := Aside0.mk (below_step (by repeat (first | (with_reducible first | exact HB.out | apply below_alloc | apply pw_below_drewN | apply below_drew1 | refine below_set ?_ GE137.out) | exact HB.out)) hb); clear hb ho11; have hcz12_0 : w10.cell? ⟨gb137, 0, none⟩ = some (.slice A0_0 l0_0.length c0_0) := (blk_cell BK137.out 0).trans rfl; have hcz12_1 : w10.cell? ⟨gb137, 1, none⟩ = some (.slice A0_1 l0_1.length c0_1) := (blk_cell BK137.out 1).trans rfl; have hfz12_0 := blk_frozen BK137.out 0; have hfz12_1 := blk_frozen BK137.out 1; obtain ⟨Ao13, co13, eo13⟩ := Kd.R_slice HO140.out; subst eo13) | ((with_reducible refine gate_callee (f := 30) rfl ?_); refine goesL_ (some 19) rfl rfl Try.func30 (by kernel_rfl) rfl #[.slice Ao13 y138.length co13, .int .i64 (l0_0.length : Int)] rfl (by (try simp only [List.map_toArray, List.map_cons, List.map_nil]); first | done | rfl | (simp only [List.length_drop, List.length_take]; rfl)) ?_; (with_reducible refine (slices_Repeat_int_int.calls _ _ y138 (l0_0.length : Int) t141 _ ?side1 ?side2 A5.out).mono ?_); (case side1 => repeat (first | exact (Kd.R_reads' HO140.out).2.2 | (with_reducible refine Kd.C_alloc ?_ _) | (with_reducible refine Kd.C_drewN ?_ _) | (with_reducible refine Kd.C_drew ?_))); (case side2 => exact (Kd.R_reads' HO140.out).2.1); rintro e w14 ⟨v142, rfl, ho0, hb⟩; refine ⟨_, rfl, ?_⟩; have HO143 := Aside0.mk (Kd.R_lower (Kd.R_new' ho0 (Kd.R_lt (by (with_reducible repeat (first | apply Kd.R_alloc | apply Kd.R_drewN | apply Kd.R_drew)); exact HO140.out))) (below_size (by repeat (first | (with_reducible first | exact HB.out | apply below_alloc | apply pw_below_drewN | apply below_drew1 | refine below_set ?_ GE137.out) | exact HB.out)))); replace HO140 := Aside0.mk (Kd.R_elder' (by (with_reducible repeat (first | apply Kd.R_alloc | apply Kd.R_drewN | apply Kd.R_drew)); exact HO140.out) (Kd.R_base ho0) hb); replace BK137 := Aside0.mk (blk_below (g := gb137) (o := .cells #[.slice A0_0 l0_0.length c0_0, .slice A0_1 l0_1.length c0_1] 25 (0, 0)) (by (with_reducible repeat (first | refine blk_drewN ?_ _ | refine blk_drew ?_ | refine blk_alloc ?_ _)); exact BK137.out) hb); replace HB := Aside0.mk (below_step (by repeat (first | (with_reducible first | exact HB.out | apply below_alloc | apply pw_below_drewN | apply below_drew1 | refine below_set ?_ GE137.out) | exact HB.out)) hb); (try clear hb); (try clear ho0); have p8 : 0 ≤ (a2 : Int) := of_decide_eq_true (by first | (with_reducible assumption) | assumption); have q8 : (a2 : Int) < ((t141.length : Int) : Int) := of_decide_eq_true (by first | (with_reducible assumption) | assumption); obtain ⟨go8, co8, eo8, gb8, gl8, cl8, HG8⟩ := Kd.R_form HO143.out (by omega); (first | cases eo8 | (injection eo8 with ea_ en_ ec_; (first | subst ea_ | (injection ea_ with ea_; subst ea_)); subst ec_; clear en_)); have GB8 := Aside0.mk gb8; have GG8 := Aside0.mk HG8; clear gb8 gl8 HG8; obtain ⟨hx8_0, hf8_0⟩ := Kd.R_celln 0 HO143.out (a2 : Int) p8 q8; replace p8 := eq_true p8; replace q8 := eq_true q8; have n_ := Aside0.mk (Kd.R_mono (ok' := (fun k_ => some k_ ≠ (.slice Ao13 y138.length co13 : Value).ownBlock)) HO143.out (fun k_ hk => hk.2)); clear HO143; have HO143 := n_; clear n_; obtain ⟨hy15_, hz15_⟩ := Kd.R_celln 0 HO143.out (a2 : Int) (of_decide_eq_true (by first | (with_reducible assumption) | assumption)) (of_decide_eq_true (by first | (with_reducible assumption) | assumption)); have HP15 := Kd.R_putg HO143.out (a2 : Int) 0) | ((with_reducible refine gate_store (t := 3) (p := 22) rfl ?_); refine store_event (t := 3) (p := 22) (v := ?vo_w16) (w1 := (w14.setCell ⟨go8, (a2 : Int).toNat, none⟩ (.int .i64 0))) ?hg ?ho ?hn ?hr ?_; (case ho => rfl); (case hg => rfl); (case hn => rfl); (case hr => first | (go_simp; done) | (go_simp; rfl)); intro w16 hw; have hg : w14.grownBy w16 (some go8) := (by rw [hw]; exact HP15.2); have hp_ : Kd.R (Kd.int .i64) 3 w16 w.heap.size (fun k_ => some k_ ≠ (.slice Ao13 y138.length co13 : Value).ownBlock) (.slice (some ⟨go8, 0, none⟩) t141.length co8) y144 := (by rw [hw, Ny144.out]; exact HP15.1); clear HP15; replace BK137 := Aside0.mk (blk_grown (g := gb137) (o := .cells #[.slice A0_0 l0_0.length c0_0, .slice A0_1 l0_1.length c0_1] 25 (0, 0)) (by (with_reducible repeat (first | refine blk_drewN ?_ _ | refine blk_drew ?_ | refine blk_alloc ?_ _)); exact BK137.out) hg (Kd.R_ne HO143.out BK137.out (by decide))); replace HO140 := Aside0.mk (Kd.R_after (v := (.slice (some ⟨go8, 0, none⟩) t141.length co8)) (v1 := (.slice (some ⟨go8, 0, none⟩) t141.length co8)) (ok := (fun _ => True)) (by (with_reducible repeat (first | apply Kd.R_alloc | apply Kd.R_drewN | apply Kd.R_drew)); exact HO140.out) hg (.inl rfl)); replace HO143 := Aside0.mk (hp_); replace HB := Aside0.mk ((by rw [hw]; exact below_set (HB.out) GB8.out : Below w.heap.size w w16)); clear hg hw hp_) | ((with_reducible refine gate_dst (N := 24) rfl ?_); refine Kd.R_lit (Kd.int .i64) _ 3 ?hg (N := 24) ?hd (xs := ([a2] : List Int)) (inner := [.int .i64 a2]) (ok := fun _ => True) (okp := fun _ => True) ?hr ?hp (fun _ hk => hk) trivial (Below.refl _ _) (Nat.le_refl _) (by simp) ?_; (case hd => rfl); (case hg => rfl); (case hr => first | (go_simp; done) | (go_simp; rfl)); (case hp => exact (Reps.one (show Kd.M (Kd.int .i64) _ _ _ a2 [.int .i64 a2] from rfl) (Reps.none _ _))); intro v146 w17 ho18 hb hg_ hnew_; clear hg_ hnew_; (first | rw [← Ny145.out] at ho18 | (simp only [Int.reduceToNat] at ho18; rw [← Ny145.out] at ho18)); have HO147 := Aside0.mk (Kd.R_lower (Kd.R_new' (Kd.R_new' ho18 (Kd.R_lt (by (with_reducible repeat (first | apply Kd.R_alloc | apply Kd.R_drewN | apply Kd.R_drew)); exact HO140.out))) (Kd.R_lt (by (with_reducible repeat (first | apply Kd.R_alloc | apply Kd.R_drewN | apply Kd.R_drew)); exact HO143.out))) (below_size (by repeat (first | (with_reducible first | exact HB.out | apply below_alloc | apply pw_below_drewN | apply below_drew1 | refine below_set ?_ GE137.out) | exact HB.out)))); replace HO140 := Aside0.mk (Kd.R_elder' (by (with_reducible repeat (first | apply Kd.R_alloc | apply Kd.R_drewN | apply Kd.R_drew)); exact HO140.out) (Kd.R_base ho18) hb); replace HO143 := Aside0.mk (Kd.R_elder' (by (with_reducible repeat (first | apply Kd.R_alloc | apply Kd.R_drewN | apply Kd.R_drew)); exact HO143.out) (Kd.R_base ho18) hb); replace BK137 := Aside0.mk (blk_below (g := gb137) (o := .cells #[.slice A0_0 l0_0.length c0_0, .slice A0_1 l0_1.length c0_1] 25 (0, 0)) (by (with_reducible repeat (first | refine blk_drewN ?_ _ | refine blk_drew ?_ | refine blk_alloc ?_ _)); exact BK137.out) hb); replace HB := Aside0.mk (below_step (by repeat (first | (with_reducible first | exact HB.out | apply below_alloc | apply pw_below_drewN | apply below_drew1 | refine below_set ?_ GE137.out) | exact HB.out)) hb); clear hb ho18))
 go_loopg [10] k (fun kq v10 w' => ∃ (x9_1 : List Int) (x10_1 : List Int), Aside0 (reach_lengths_1.l0 kq l1 a2 x9_1 x10_1 l0_0 l0_1 = some r) ∧ Aside0 (kq ≤ k) ∧ Aside0 (Kd.R (Kd.int .i64) 3 w' w.heap.size (fun k_ => some k_ ≠ (v10 : Value).ownBlock) (.slice (some ⟨go8, 0, none⟩) t141.length co8) x9_1) ∧ Aside0 (Kd.Q (Kd.int .i64) 3 w' w.heap.size (fun k_ => some k_ ≠ ((.slice (some ⟨go8, 0, none⟩) t141.length co8) : Value).ownBlock) v10 x10_1) ∧ Aside0 (w'.heap[gb137]? = some (.cells #[(.slice A0_0 l0_0.length c0_0), (.slice A0_1 l0_1.length c0_1)] 25 (0, 0))) ∧ Aside0 (Below w.heap.size w w'))
 case atStart => exact ⟨(y144), (y145), H', ⟨Nat.le_refl _⟩, ⟨by (with_reducible repeat (first | apply Kd.R_alloc | apply Kd.R_drewN | apply Kd.R_drew)); exact Kd.R_mono HO143.out (fun _ hk => hk.2)⟩, ⟨Kd.Q_of_R (by (with_reducible repeat (first | apply Kd.R_alloc | apply Kd.R_drewN | apply Kd.R_drew)); exact Kd.R_mono HO147.out (fun _ hk => hk.2))⟩, ⟨by (with_reducible repeat (first | refine blk_drewN ?_ _ | refine blk_drew ?_ | refine blk_alloc ?_ _)); exact BK137.out⟩, ⟨by repeat (first | (with_reducible first | exact HB.out | apply below_alloc | apply pw_below_drewN | apply below_drew1 | refine below_set ?_ GE137.out) | exact HB.out)⟩⟩
 case round =>
  clear H'
  obtain ⟨x9_1, x10_1, HA, HK1, HO_9, HO_10, BK137, HB⟩ := hrel
  have hl9_1 := (Kd.R_reads' HO_9.out).1
  rw [hl9_1] at HO_9
  (try simp only [hl9_1])
  (try simp only [hl9_1] at BK137)
  (try simp only [hl9_1] at HO_10)
  cases gk with
  | zero => exact absurd HA.out (by simp [reach_lengths_1.l0])
  | succ k1 =>
   have H := HA.out
   clear HA
   simp only [reach_lengths_1.l0] at H
   by_cases c19 : (x10_1.length : Int) > 0
   rotate_left
   ·rw [if_neg c19] at H
    have c19b0 : decide (0 < (x10_1.length : Int)) = false := decide_eq_false c19
    have c19b1 : decide (0 < x10_1.length) = false := decide_eq_false (by omega)
    (try (have c19z0 := c19b0; simp only [hl9_1] at c19z0))
    (try (have c19z1 := c19b1; simp only [hl9_1] at c19z1))
    clear c19
    obtain rfl := Option.some.inj H
    obtain ⟨Ao67, co67, eo67, _⟩ := Kd.Q_slice HO_10.out
    subst eo67
    go_wp2
    go_ret
    exact ⟨_, by first | rfl | (simp [errW_none, errW_some] <;> rfl) | (simp [*, errW_none, errW_some] <;> rfl), by (with_reducible repeat (first | apply Kd.R_alloc | apply Kd.R_drewN | apply Kd.R_drew)); exact Kd.R_mono HO_9.out (fun _ hk => trivial), by repeat (first | (with_reducible first | exact HB.out | apply below_alloc | apply pw_below_drewN | apply below_drew1 | refine below_set ?_ GE137.out) | exact HB.out)⟩
   rw [if_pos c19] at H
   have c19b0 : decide (0 < (x10_1.length : Int)) = true := decide_eq_true c19
   have c19b1 : decide (0 < x10_1.length) = true := decide_eq_true (by omega)
   (try (have c19z0 := c19b0; simp only [hl9_1] at c19z0))
   (try (have c19z1 := c19b1; simp only [hl9_1] at c19z1))
   clear c19
   by_cases c20 : 0 < (x10_1.length : Int)
   rotate_left; ·rw [if_neg c20] at H; exact absurd H (by simp)
   rw [if_pos c20] at H
   have c20b0 : decide (0 < (x10_1.length : Int)) = true := decide_eq_true c20
   have c20b1 : decide (0 < x10_1.length) = true := decide_eq_true (by omega)
   (try (have c20z0 := c20b0; simp only [hl9_1] at c20z0))
   (try (have c20z1 := c20b1; simp only [hl9_1] at c20z1))
   clear c20
   have HC21 := Aside0.mk H
   clear H
   obtain ⟨Ao22, co22, eo22, _⟩ := Kd.Q_slice HO_10.out
   subst eo22
   have p148 : 0 ≤ (0 : Int) := (by omega)
   have q148 : 0 < (x10_1.length : Int) := of_decide_eq_true (by first | (with_reducible assumption) | assumption)
   obtain ⟨ad148, e148, hx148_0⟩ := Kd.at_int (Kd.Q_reads' HO_10.out).2.2 0 p148 q148
   cases e148
   have qi148 : (0 < x10_1.length) = True := eq_true (by omega)
   (try rw [show ((0 : Int)).toNat = 0 from rfl] at hx148_0)
   (try rw [Addr.add_zero'] at hx148_0)
   replace p148 := eq_true p148
   replace q148 := eq_true q148
   go_upto_region 7 with (fail)
   go_cut [44] (fun v44 wc => ∃ (kq : Nat) (x44_20 : Bool), v44 = .bool x44_20 ∧ Aside0 (reach_lengths_1.j1 kq l1 a2 x9_1 x10_1 (rd x10_1 0) x44_20 l0_0 l0_1 = some r) ∧ Aside0 (kq ≤ k1) ∧ Aside0 (Kd.R (Kd.int .i64) 3 wc w.heap.size (fun k_ => some k_ ≠ ((.slice (some ad148) x10_1.length co22) : Value).ownBlock) (.slice (some ⟨go8, 0, none⟩) x9_1.length co8) x9_1) ∧ Aside0 (Kd.Q (Kd.int .i64) 3 wc w.heap.size (fun k_ => some k_ ≠ ((.slice (some ⟨go8, 0, none⟩) x9_1.length co8) : Value).ownBlock) (.slice (some ad148) x10_1.length co22) x10_1) ∧ Aside0 (wc.heap[gb137]? = some (.cells #[(.slice A0_0 l0_0.length c0_0), (.slice A0_1 l0_1.length c0_1)] 25 (0, 0))) ∧ Aside0 (Below w.heap.size w wc))
   case first =>
    have H := HC21.out
    clear HC21
    by_cases c23 : (rd x10_1 0) = a2
    ·rw [if_pos c23] at H
     have c23b0 : ((rd x10_1 0) == a2) = true := beq_iff_eq.mpr c23
     have c23b1 : ((rd x10_1 0) != a2) = false := bne_eq_false_iff_eq.mpr c23
     clear c23
     (first | rw [c23b0] | (simp only [i64_w, i32_w]; rw [c23b0]) | skip)
     have H' := Aside0.mk H; clear H
     go_wp2
     go_meet
     case rel => exact ⟨_, (false), (by first | rfl | (simp; done) | (simp [*]; done)), H', ⟨by have := HK1.out; first | omega | exact Nat.le_refl _⟩, ⟨by (try simp only [hl9_1]); (with_reducible repeat (first | apply Kd.R_alloc | apply Kd.R_drewN | apply Kd.R_drew)); exact HO_9.out⟩, ⟨by (try simp only [hl9_1]); (with_reducible repeat (first | apply Kd.Q_alloc | apply Kd.Q_drewN | apply Kd.Q_drew)); exact HO_10.out⟩, ⟨by (try simp only [hl9_1]); (with_reducible repeat (first | refine blk_drewN ?_ _ | refine blk_drew ?_ | refine blk_alloc ?_ _)); exact BK137.out⟩, ⟨by repeat (first | (with_reducible first | exact HB.out | apply below_alloc | apply pw_below_drewN | apply below_drew1 | refine below_set ?_ GE137.out) | exact HB.out)⟩⟩
    rw [if_neg c23] at H
    have c23b0 : ((rd x10_1 0) == a2) = false := beq_eq_false_iff_ne.mpr c23
    have c23b1 : ((rd x10_1 0) != a2) = true := bne_iff_ne.mpr c23
    (first | rw [c23b0] | (simp only [i64_w, i32_w]; rw [c23b0]) | skip)
    by_cases c24 : 0 ≤ (rd x10_1 0)
    rotate_left; ·rw [if_neg c24] at H; exact absurd H (by simp)
    rw [if_pos c24] at H
    have c24b0 : decide (0 ≤ (rd x10_1 0)) = true := decide_eq_true c24
    clear c24
    by_cases c25 : (rd x10_1 0) < (l0_0.length : Int)
    rotate_left; ·rw [if_neg c25] at H; exact absurd H (by simp)
    rw [if_pos c25] at H
    have c25b0 : decide ((rd x10_1 0) < (l0_0.length : Int)) = true := decide_eq_true c25
    (try (have c25z0 := c25b0; simp only [hl9_1] at c25z0))
    clear c25
    have H' := Aside0.mk H; clear H
    have hcz26_0 : wr.cell? ⟨gb137, 0, none⟩ = some (.slice A0_0 l0_0.length c0_0) := (blk_cell BK137.out 0).trans rfl
    have hcz26_1 : wr.cell? ⟨gb137, 1, none⟩ = some (.slice A0_1 l0_1.length c0_1) := (blk_cell BK137.out 1).trans rfl
    have hfz26_0 := blk_frozen BK137.out 0
    have hfz26_1 := blk_frozen BK137.out 1
    have p149 : 0 ≤ ((rd x10_1 0) : Int) := of_decide_eq_true (by first | (with_reducible assumption) | assumption)
    have q149 : (rd x10_1 0) < (l0_0.length : Int) := of_decide_eq_true (by first | (with_reducible assumption) | assumption)
    obtain ⟨ad149, e149, hx149_0, hx149_1, hx149_2⟩ := at_T43 HR0_0.out (rd x10_1 0) p149 q149
    cases e149
    replace hx149_0 := (HB.out.cell (World.block_lt_of_cell? w _ hx149_0)).trans hx149_0
    replace hx149_1 := (HB.out.cell (World.block_lt_of_cell? w _ hx149_1)).trans hx149_1
    replace hx149_2 := (HB.out.cell (World.block_lt_of_cell? w _ hx149_2)).trans hx149_2
    replace p149 := eq_true p149
    replace q149 := eq_true q149
    go_wp2
    go_meet
    case rel => exact ⟨_, ((((rd_T43 l0_0 (rd x10_1 0)).f1) != 1)), (by first | rfl | (simp; done) | (simp [*]; done)), H', ⟨by have := HK1.out; first | omega | exact Nat.le_refl _⟩, ⟨by (try simp only [hl9_1]); (with_reducible repeat (first | apply Kd.R_alloc | apply Kd.R_drewN | apply Kd.R_drew)); exact HO_9.out⟩, ⟨by (try simp only [hl9_1]); (with_reducible repeat (first | apply Kd.Q_alloc | apply Kd.Q_drewN | apply Kd.Q_drew)); exact HO_10.out⟩, ⟨by (try simp only [hl9_1]); (with_reducible repeat (first | refine blk_drewN ?_ _ | refine blk_drew ?_ | refine blk_alloc ?_ _)); exact BK137.out⟩, ⟨by repeat (first | (with_reducible first | exact HB.out | apply below_alloc | apply pw_below_drewN | apply below_drew1 | refine below_set ?_ GE137.out) | exact HB.out)⟩⟩
   case rest =>
    clear HC21
    obtain ⟨kq, x44_20, rfl, HA, HJ20, HO_9, HO_10, BK137, HB⟩ := hcut
    cases kq with
    | zero => exact absurd HA.out (by simp [reach_lengths_1.j1])
    | succ kj20 =>
     have H := HA.out
     clear HA
     simp only [reach_lengths_1.j1] at H
     by_cases c27 : x44_20 = true
     ·subst c27
      have H1 : (if 1 ≤ (x10_1.length : Int) then (reach_lengths_1.l0 kj20 l1 a2 x9_1 (x10_1.drop (1 : Int).toNat) l0_0 l0_1) else (none)) = some r := by rw [if_pos rfl] at H; exact H
      clear H; have H := H1; clear H1
      by_cases c28 : 1 ≤ (x10_1.length : Int)
      rotate_left; ·rw [if_neg c28] at H; exact absurd H (by simp)
      rw [if_pos c28] at H
      have c28b0 := eq_true c28
      have c28b1 : decide (1 ≤ (x10_1.length : Int)) = true := decide_eq_true c28
      clear c28
      obtain ⟨y150, hy150⟩ : ∃ y_ : List Int, y_ = (x10_1.drop (1 : Int).toNat) := ⟨_, rfl⟩
      replace H : (reach_lengths_1.l0 kj20 l1 a2 x9_1 y150 l0_0 l0_1) = some r := by first | (rw [hy150]; with_reducible exact H) | (have H2_ := (Option.bind_some _ _).symm.trans H; rw [hy150]; with_reducible exact H2_) | (have H2_ := (Option.bind_some _ _).symm.trans H; with_reducible exact H2_) | with_reducible exact H | (rw [hy150]; exact H) | exact H
      have Ny150 := Aside0.mk hy150
      clear hy150
      have H' := Aside0.mk H; clear H
      have q29 : (1 : Int) ≤ ((x10_1.length : Int) : Int) := of_decide_eq_true (by first | (with_reducible assumption) | assumption)
      obtain ⟨i029, hi029, _, hsz29, _⟩ := info_parts info3
      have hcut29 := cut_from (P := Try.prog) 26 3 .i64 Try.underlying26 hi029 1 hsz29 (some ad148) x10_1.length co22 1 (by omega) q29
      have hr29 := Kd.Q_drop (k := (1 : Int).toNat) HO_10.out (by omega)
      obtain ⟨A29, hA29⟩ : ∃ A1, A1 = (if co22 = (1 : Int).toNat then (some ad148) else ((some ad148) : Option Addr).map (·.add ((1 : Int).toNat * 1))) := ⟨_, rfl⟩
      obtain ⟨c29, hc29⟩ : ∃ c1, c1 = co22 - (1 : Int).toNat := ⟨_, rfl⟩
      have hy29 : y150.length = x10_1.length - (1 : Int).toNat := (by rw [Ny150.out, List.length_drop])
      rw [← Ny150.out] at hr29
      rw [← hy29, ← hA29, ← hc29] at hcut29
      replace hr29 : Kd.Q (Kd.int .i64) 3 wc w.heap.size (fun k_ => some k_ ≠ (.slice (some ⟨go8, 0, none⟩) x9_1.length co8 : Value).ownBlock) (.slice A29 y150.length c29) y150 := (by rw [hA29, hc29, hy29]; exact hr29)
      have HE29 : Aside0 ((Value.slice A29 y150.length c29).ownBlock = (.slice (some ad148) x10_1.length co22 : Value).ownBlock) := ⟨by rw [hA29]; split <;> (cases ((some ad148) : Option Addr) <;> rfl)⟩
      clear hy29 hi029 hsz29 HO_10 hA29 hc29
      have HO152 := Aside0.mk hr29
      clear hr29
      replace q29 := eq_true q29
      have n_ := Aside0.mk (Kd.R_mono (ok' := fun k_ => some k_ ≠ (.slice A29 y150.length c29 : Value).ownBlock) HO_9.out (fun k_ hk => (by rw [HE29.out]; exact hk)))
      clear HO_9
      have HO_9 := n_
      clear n_
      go_wp2
      (try simp only [← hl9_1])
      go_roundg kj20
      case measure => have := HK1.out; have := HJ20.out; omega
      case rel => exact ⟨(x9_1), (y150), H', ⟨by have := HK1.out; have := HJ20.out; omega⟩, ⟨by (try simp only [hl9_1]); (with_reducible repeat (first | apply Kd.R_alloc | apply Kd.R_drewN | apply Kd.R_drew)); exact HO_9.out⟩, ⟨by (try simp only [hl9_1]); (with_reducible repeat (first | apply Kd.Q_alloc | apply Kd.Q_drewN | apply Kd.Q_drew)); exact HO152.out⟩, ⟨by (try simp only [hl9_1]); (with_reducible repeat (first | refine blk_drewN ?_ _ | refine blk_drew ?_ | refine blk_alloc ?_ _)); exact BK137.out⟩, ⟨by repeat (first | (with_reducible first | exact HB.out | apply below_alloc | apply pw_below_drewN | apply below_drew1 | refine below_set ?_ GE137.out) | exact HB.out)⟩⟩
     replace c27 := Bool.eq_false_iff.mpr c27
     subst c27
     have H1 : (reach_lengths_1.l1 kj20 l1 a2 x9_1 x10_1 (rd x10_1 0) l0_1 (l0_1.length : Int) 0 l0_0 l0_1) = some r := by rw [if_neg (show ¬ (false = true) by decide)] at H; exact H
     clear H; have H := H1; clear H1
     have H' := Aside0.mk H; clear H
     have hcz30_0 : wc.cell? ⟨gb137, 0, none⟩ = some (.slice A0_0 l0_0.length c0_0) := (blk_cell BK137.out 0).trans rfl
     have hcz30_1 : wc.cell? ⟨gb137, 1, none⟩ = some (.slice A0_1 l0_1.length c0_1) := (blk_cell BK137.out 1).trans rfl
     have hfz30_0 := blk_frozen BK137.out 0
     have hfz30_1 := blk_frozen BK137.out 1
     go_wp2
     go_loopg [10, 48] kj20 (fun kq v10 v48 w' => ∃ (x9_3 : List Int) (x10_3 : List Int) (x48_3 : Int), v48 = .int .i64 x48_3 ∧ Aside0 (reach_lengths_1.l1 kq l1 a2 x9_3 x10_3 (rd x10_1 0) l0_1 (l0_1.length : Int) x48_3 l0_0 l0_1 = some r) ∧ Aside0 (kq ≤ kj20) ∧ Aside0 (Kd.R (Kd.int .i64) 3 w' w.heap.size (fun k_ => some k_ ≠ (v10 : Value).ownBlock) (.slice (some ⟨go8, 0, none⟩) x9_1.length co8) x9_3) ∧ Aside0 (Kd.Q (Kd.int .i64) 3 w' w.heap.size (fun k_ => some k_ ≠ ((.slice (some ⟨go8, 0, none⟩) x9_1.length co8) : Value).ownBlock) v10 x10_3) ∧ Aside0 (w'.heap[gb137]? = some (.cells #[(.slice A0_0 l0_0.length c0_0), (.slice A0_1 l0_1.length c0_1)] 25 (0, 0))) ∧ Aside0 (Below w.heap.size w w'))
     case atStart => exact ⟨(x9_1), (x10_1), (0), (by first | rfl | (simp; done) | (simp [*]; done)), H', ⟨Nat.le_refl _⟩, ⟨by (try simp only [hl9_1]); (with_reducible repeat (first | apply Kd.R_alloc | apply Kd.R_drewN | apply Kd.R_drew)); exact HO_9.out⟩, ⟨by (try simp only [hl9_1]); (with_reducible repeat (first | apply Kd.Q_alloc | apply Kd.Q_drewN | apply Kd.Q_drew)); exact HO_10.out⟩, ⟨by (try simp only [hl9_1]); (with_reducible repeat (first | refine blk_drewN ?_ _ | refine blk_drew ?_ | refine blk_alloc ?_ _)); exact BK137.out⟩, ⟨by repeat (first | (with_reducible first | exact HB.out | apply below_alloc | apply pw_below_drewN | apply below_drew1 | refine below_set ?_ GE137.out) | exact HB.out)⟩⟩
     case round =>
      clear H'
      obtain ⟨x9_3, x10_3, x48_3, rfl, HA, HK3, HO_9, HO_10, BK137, HB⟩ := hrel
      have hl9_3 := (Kd.R_reads' HO_9.out).1
      rw [hl9_3] at HO_9
      (try simp only [hl9_3])
      (try simp only [hl9_3] at BK137)
      (try simp only [hl9_3] at HO_10)
      cases gk with
      | zero => exact absurd HA.out (by simp [reach_lengths_1.l1])
      | succ k3 =>
       have H := HA.out
       clear HA
       simp only [reach_lengths_1.l1] at H
       by_cases c31 : x48_3 < (l0_1.length : Int)
       rotate_left
       ·rw [if_neg c31] at H
        have c31b0 : decide (x48_3 < (l0_1.length : Int)) = false := decide_eq_false c31
        (try (have c31z0 := c31b0; simp only [hl9_1, hl9_3] at c31z0))
        clear c31
        by_cases c64 : 1 ≤ (x10_3.length : Int)
        rotate_left; ·rw [if_neg c64] at H; exact absurd H (by simp)
        rw [if_pos c64] at H
        have c64b0 := eq_true c64
        have c64b1 : decide (1 ≤ (x10_3.length : Int)) = true := decide_eq_true c64
        clear c64
        obtain ⟨y162, hy162⟩ : ∃ y_ : List Int, y_ = (x10_3.drop (1 : Int).toNat) := ⟨_, rfl⟩
        replace H : (reach_lengths_1.l0 k3 l1 a2 x9_3 y162 l0_0 l0_1) = some r := by first | (rw [hy162]; with_reducible exact H) | (have H2_ := (Option.bind_some _ _).symm.trans H; rw [hy162]; with_reducible exact H2_) | (have H2_ := (Option.bind_some _ _).symm.trans H; with_reducible exact H2_) | with_reducible exact H | (rw [hy162]; exact H) | exact H
        have Ny162 := Aside0.mk hy162
        clear hy162
        have H' := Aside0.mk H; clear H
        obtain ⟨Ao65, co65, eo65, _⟩ := Kd.Q_slice HO_10.out
        subst eo65
        have q66 : (1 : Int) ≤ ((x10_3.length : Int) : Int) := of_decide_eq_true (by first | (with_reducible assumption) | assumption)
        obtain ⟨i066, hi066, _, hsz66, _⟩ := info_parts info3
        have hcut66 := cut_from (P := Try.prog) 26 3 .i64 Try.underlying26 hi066 1 hsz66 Ao65 x10_3.length co65 1 (by omega) q66
        have hr66 := Kd.Q_drop (k := (1 : Int).toNat) HO_10.out (by omega)
        obtain ⟨A66, hA66⟩ : ∃ A1, A1 = (if co65 = (1 : Int).toNat then Ao65 else (Ao65 : Option Addr).map (·.add ((1 : Int).toNat * 1))) := ⟨_, rfl⟩
        obtain ⟨c66, hc66⟩ : ∃ c1, c1 = co65 - (1 : Int).toNat := ⟨_, rfl⟩
        have hy66 : y162.length = x10_3.length - (1 : Int).toNat := (by rw [Ny162.out, List.length_drop])
        rw [← Ny162.out] at hr66
        rw [← hy66, ← hA66, ← hc66] at hcut66
        replace hr66 : Kd.Q (Kd.int .i64) 3 wr w.heap.size (fun k_ => some k_ ≠ (.slice (some ⟨go8, 0, none⟩) x9_3.length co8 : Value).ownBlock) (.slice A66 y162.length c66) y162 := (by rw [hA66, hc66, hy66]; exact hr66)
        have HE66 : Aside0 ((Value.slice A66 y162.length c66).ownBlock = (.slice Ao65 x10_3.length co65 : Value).ownBlock) := ⟨by rw [hA66]; split <;> (cases (Ao65 : Option Addr) <;> rfl)⟩
        clear hy66 hi066 hsz66 HO_10 hA66 hc66
        have HO164 := Aside0.mk hr66
        clear hr66
        replace q66 := eq_true q66
        have n_ := Aside0.mk (Kd.R_mono (ok' := fun k_ => some k_ ≠ (.slice A66 y162.length c66 : Value).ownBlock) HO_9.out (fun k_ hk => (by rw [HE66.out]; exact hk)))
        clear HO_9
        have HO_9 := n_
        clear n_
        go_wp2
        (try simp only [← hl9_1, ← hl9_3])
        go_roundg k3
        case measure => have := HK1.out; have := HJ20.out; have := HK3.out; omega
        case rel => exact ⟨(x9_3), (y162), H', ⟨by have := HK1.out; have := HJ20.out; have := HK3.out; omega⟩, ⟨by (try simp only [hl9_1]); (try simp only [hl9_3]); (with_reducible repeat (first | apply Kd.R_alloc | apply Kd.R_drewN | apply Kd.R_drew)); exact HO_9.out⟩, ⟨by (try simp only [hl9_1]); (try simp only [hl9_3]); (with_reducible repeat (first | apply Kd.Q_alloc | apply Kd.Q_drewN | apply Kd.Q_drew)); exact HO164.out⟩, ⟨by (try simp only [hl9_1]); (try simp only [hl9_3]); (with_reducible repeat (first | refine blk_drewN ?_ _ | refine blk_drew ?_ | refine blk_alloc ?_ _)); exact BK137.out⟩, ⟨by repeat (first | (with_reducible first | exact HB.out | apply below_alloc | apply pw_below_drewN | apply below_drew1 | refine below_set ?_ GE137.out) | exact HB.out)⟩⟩
       rw [if_pos c31] at H
       have c31b0 : decide (x48_3 < (l0_1.length : Int)) = true := decide_eq_true c31
       (try (have c31z0 := c31b0; simp only [hl9_1, hl9_3] at c31z0))
       clear c31
       by_cases c32 : 0 ≤ x48_3
       rotate_left; ·rw [if_neg c32] at H; exact absurd H (by simp)
       rw [if_pos c32] at H
       have c32b0 : decide (0 ≤ x48_3) = true := decide_eq_true c32
       clear c32
       by_cases c33 : x48_3 < (l0_1.length : Int)
       rotate_left; ·rw [if_neg c33] at H; exact absurd H (by simp)
       rw [if_pos c33] at H
       have c33b0 : decide (x48_3 < (l0_1.length : Int)) = true := decide_eq_true c33
       (try (have c33z0 := c33b0; simp only [hl9_1, hl9_3] at c33z0))
       clear c33
       obtain ⟨ji34, hji34⟩ : ∃ j_ : Int, (wrap64 (x48_3 + 1)) = j_ := ⟨_, rfl⟩
       replace H : (if 0 ≤ (ji34) then (if (ji34) < (l1.length : Int) then (if (rdOf false l1 (ji34) = true) then (reach_lengths_1.l1 k3 l1 a2 x9_3 x10_3 (rd x10_1 0) l0_1 (l0_1.length : Int) ji34 l0_0 l0_1) else (if ((rd_T27 l0_1 x48_3).f1) = (rd x10_1 0) then (if 0 ≤ ((rd_T27 l0_1 x48_3).f0) then (if ((rd_T27 l0_1 x48_3).f0) < (x9_3.length : Int) then (if (rd x9_3 ((rd_T27 l0_1 x48_3).f0)) < 0 then (if 0 ≤ (rd x10_1 0) then (if (rd x10_1 0) < (x9_3.length : Int) then (if x10_3.length < 17592186044416 then (reach_lengths_1.l1 k3 l1 a2 (x9_3.set (((rd_T27 l0_1 x48_3).f0) : Int).toNat (wrap64 ((rd x9_3 (rd x10_1 0)) + 1))) (x10_3 ++ [(rd_T27 l0_1 x48_3).f0]) (rd x10_1 0) l0_1 (l0_1.length : Int) ji34 l0_0 l0_1) else (none)) else (none)) else (none)) else (reach_lengths_1.l1 k3 l1 a2 x9_3 x10_3 (rd x10_1 0) l0_1 (l0_1.length : Int) ji34 l0_0 l0_1)) else (none)) else (none)) else (reach_lengths_1.l1 k3 l1 a2 x9_3 x10_3 (rd x10_1 0) l0_1 (l0_1.length : Int) ji34 l0_0 l0_1))) else (none)) else (none)) = some r := by first | (rw [hji34] at H; exact H) | (simp only [hji34] at H ⊢; exact H)
       have hji34w : (IntKind.i64.wrap (x48_3 + 1)) = ji34 := (i64_w _).trans hji34
       by_cases c35 : 0 ≤ (ji34)
       rotate_left; ·rw [if_neg c35] at H; exact absurd H (by simp)
       rw [if_pos c35] at H
       have c35b0 : decide (0 ≤ (ji34)) = true := decide_eq_true c35
       clear c35
       by_cases c36 : (ji34) < (l1.length : Int)
       rotate_left; ·rw [if_neg c36] at H; exact absurd H (by simp)
       rw [if_pos c36] at H
       have c36b0 : decide ((ji34) < (l1.length : Int)) = true := decide_eq_true c36
       (try (have c36z0 := c36b0; simp only [hl9_1, hl9_3] at c36z0))
       clear c36
       obtain ⟨bq37, hbq37⟩ : ∃ b_ : Bool, b_ = (rdOf false l1 (ji34)) := ⟨_, rfl⟩
       replace H : (if (bq37 = true) then (reach_lengths_1.l1 k3 l1 a2 x9_3 x10_3 (rd x10_1 0) l0_1 (l0_1.length : Int) ji34 l0_0 l0_1) else (if ((rd_T27 l0_1 x48_3).f1) = (rd x10_1 0) then (if 0 ≤ ((rd_T27 l0_1 x48_3).f0) then (if ((rd_T27 l0_1 x48_3).f0) < (x9_3.length : Int) then (if (rd x9_3 ((rd_T27 l0_1 x48_3).f0)) < 0 then (if 0 ≤ (rd x10_1 0) then (if (rd x10_1 0) < (x9_3.length : Int) then (if x10_3.length < 17592186044416 then (reach_lengths_1.l1 k3 l1 a2 (x9_3.set (((rd_T27 l0_1 x48_3).f0) : Int).toNat (wrap64 ((rd x9_3 (rd x10_1 0)) + 1))) (x10_3 ++ [(rd_T27 l0_1 x48_3).f0]) (rd x10_1 0) l0_1 (l0_1.length : Int) ji34 l0_0 l0_1) else (none)) else (none)) else (none)) else (reach_lengths_1.l1 k3 l1 a2 x9_3 x10_3 (rd x10_1 0) l0_1 (l0_1.length : Int) ji34 l0_0 l0_1)) else (none)) else (none)) else (reach_lengths_1.l1 k3 l1 a2 x9_3 x10_3 (rd x10_1 0) l0_1 (l0_1.length : Int) ji34 l0_0 l0_1))) = some r := by rw [← hbq37] at H; exact H
       have Nbq37 := Aside0.mk hbq37
       clear hbq37
       by_cases c38 : (bq37 = true)
       ·subst c38
        have H1 : (reach_lengths_1.l1 k3 l1 a2 x9_3 x10_3 (rd x10_1 0) l0_1 (l0_1.length : Int) ji34 l0_0 l0_1) = some r := by rw [if_pos rfl] at H; exact H
        clear H; have H := H1; clear H1
        have H' := Aside0.mk H; clear H
        have p153 : 0 ≤ (x48_3 : Int) := of_decide_eq_true (by first | (with_reducible assumption) | assumption)
        have q153 : x48_3 < (l0_1.length : Int) := of_decide_eq_true (by first | (with_reducible assumption) | assumption)
        obtain ⟨ad153, e153, hx153_0, hx153_1⟩ := at_T27 HR0_1.out x48_3 p153 q153
        cases e153
        replace hx153_0 := (HB.out.cell (World.block_lt_of_cell? w _ hx153_0)).trans hx153_0
        replace hx153_1 := (HB.out.cell (World.block_lt_of_cell? w _ hx153_1)).trans hx153_1
        replace p153 := eq_true p153
        replace q153 := eq_true q153
        go_wp2_with (first | ((with_reducible refine gate_dst (N := 13) rfl ?_); refine box_event ?hg (N := 13) ?hd (cs := #[.int .i64 0, .int .i64 0]) (t := 27) ?hr ?_; (case hd => rfl); (case hg => rfl); (case hr => first | (go_simp; done) | (go_simp; rfl)); intro gb154 hg w39 hbox hb; replace HO_9 := Aside0.mk (Kd.R_below (by (with_reducible repeat (first | apply Kd.R_alloc | apply Kd.R_drewN | apply Kd.R_drew)); exact HO_9.out) hb); replace HO_10 := Aside0.mk (Kd.Q_below (by (with_reducible repeat (first | apply Kd.Q_alloc | apply Kd.Q_drewN | apply Kd.Q_drew)); exact HO_10.out) hb); have BK154 := Aside0.mk (hbox); have GW154 := Aside0.mk ((by rw [hg]; exact (below_size (by repeat (first | (with_reducible first | exact HB.out | apply below_alloc | apply pw_below_drewN | apply below_drew1 | refine below_set ?_ GE137.out) | exact HB.out))) : w.heap.size ≤ gb154)); have GE154 := Aside0.mk ((by rw [hg]; exact (below_size (by repeat (first | (with_reducible first | exact HB.out | apply below_alloc | apply pw_below_drewN | apply below_drew1 | refine below_set ?_ GE137.out) | exact HB.out))) : w.heap.size ≤ gb154)); replace HB := Aside0.mk (below_step (by repeat (first | (with_reducible first | exact HB.out | apply below_alloc | apply pw_below_drewN | apply below_drew1 | refine below_set ?_ GE137.out) | exact HB.out)) hb); have NB137_154 := Aside0.mk ((by rw [hg]; exact Nat.ne_of_lt (blk_lt (g := gb137) (o := .cells #[.slice A0_0 l0_0.length c0_0, .slice (some ad153) l0_1.length c0_1] 25 (0, 0)) (by (with_reducible repeat (first | refine blk_drewN ?_ _ | refine blk_drew ?_ | refine blk_alloc ?_ _)); exact BK137.out)) : gb137 ≠ gb154)); have NB154_137 := Aside0.mk ((by rw [hg]; exact Nat.ne_of_gt (blk_lt (g := gb137) (o := .cells #[.slice A0_0 l0_0.length c0_0, .slice (some ad153) l0_1.length c0_1] 25 (0, 0)) (by (with_reducible repeat (first | refine blk_drewN ?_ _ | refine blk_drew ?_ | refine blk_alloc ?_ _)); exact BK137.out)) : gb154 ≠ gb137)); replace BK137 := Aside0.mk (blk_below (g := gb137) (o := .cells #[.slice A0_0 l0_0.length c0_0, .slice (some ad153) l0_1.length c0_1] 25 (0, 0)) (by (with_reducible repeat (first | refine blk_drewN ?_ _ | refine blk_drew ?_ | refine blk_alloc ?_ _)); exact BK137.out) hb); clear hb hbox hg; have hnb40 := NB154_137.out; have hnc40 := NB137_154.out; have hcz41_0 : w39.cell? ⟨gb154, 0, none⟩ = some (.int .i64 0) := (blk_cell BK154.out 0).trans rfl; have hcz41_1 : w39.cell? ⟨gb154, 1, none⟩ = some (.int .i64 0) := (blk_cell BK154.out 1).trans rfl; have hfz41_0 := blk_frozen BK154.out 0; have hfz41_1 := blk_frozen BK154.out 1; have p155 : 0 ≤ ((ji34) : Int) := of_decide_eq_true (by first | (with_reducible assumption) | assumption); have q155 : (ji34) < (l1.length : Int) := of_decide_eq_true (by first | (with_reducible assumption) | assumption); obtain ⟨ad155, e155, hx155_0⟩ := Kd.at_bool HR1.out (ji34) p155 q155; (try rw [← Nbq37.out] at hx155_0); cases e155; have hn155_0 : (ad155 : Addr).block ≠ gb154 := Nat.ne_of_lt (Nat.lt_of_lt_of_le (by have := World.block_lt_of_cell? _ _ hx155_0; first | rwa [add_block] at this | exact this) GW154.out); have hn155_1 : (ad155 : Addr).block ≠ gb154 := Nat.ne_of_lt (Nat.lt_of_lt_of_le (by have := World.block_lt_of_cell? _ _ hx155_0; first | rwa [add_block] at this | exact this) GW154.out); replace hx155_0 := (HB.out.cell (World.block_lt_of_cell? w _ hx155_0)).trans hx155_0; replace hx155_0 := (cell_far (p := ⟨gb154, 0, none⟩) (by first | (rw [add_block]; exact hn155_0) | (show (Addr.add _ _).block ≠ _; rw [add_block]; exact hn155_0) | exact hn155_0) (.int .i64 ((rd_T27 l0_1 x48_3).f0))).trans hx155_0; replace hx155_0 := (cell_far (p := ⟨gb154, 1, none⟩) (by first | (rw [add_block]; exact hn155_1) | (show (Addr.add _ _).block ≠ _; rw [add_block]; exact hn155_1) | exact hn155_1) (.int .i64 ((rd_T27 l0_1 x48_3).f1))).trans hx155_0; clear hn155_0; clear hn155_1; replace p155 := eq_true p155; replace q155 := eq_true q155))
        (try simp only [← hl9_3])
        go_roundg k3
        case measure => have := HK1.out; have := HJ20.out; have := HK3.out; omega
        case rel => exact ⟨(x9_3), (x10_3), (ji34), (by first | rfl | (simp; done) | (simp only [← hji34] <;> (first | rfl | simp)) | (simp [*]; done)), H', ⟨by have := HK1.out; have := HJ20.out; have := HK3.out; omega⟩, ⟨by (try simp only [hl9_1]); (try simp only [hl9_3]); (with_reducible repeat (first | apply Kd.R_alloc | apply Kd.R_drewN | apply Kd.R_drew)); exact Kd.R_mono (Kd.R_far (p := ⟨gb154, 1, none⟩) (Kd.R_far (p := ⟨gb154, 0, none⟩) (Kd.R_types HO_9.out BK154.out (by decide)) (fun _ hk => hk.2) (.int .i64 ((rd_T27 l0_1 x48_3).f0))) (fun _ hk => hk.2) (.int .i64 ((rd_T27 l0_1 x48_3).f1))) (fun _ hk => hk.1)⟩, ⟨by (try simp only [hl9_1]); (try simp only [hl9_3]); (with_reducible repeat (first | apply Kd.Q_alloc | apply Kd.Q_drewN | apply Kd.Q_drew)); exact Kd.Q_mono (Kd.Q_far (p := ⟨gb154, 1, none⟩) (Kd.Q_far (p := ⟨gb154, 0, none⟩) (Kd.Q_types HO_10.out BK154.out (by decide)) (fun _ hk => hk.2) (.int .i64 ((rd_T27 l0_1 x48_3).f0))) (fun _ hk => hk.2) (.int .i64 ((rd_T27 l0_1 x48_3).f1))) (fun _ hk => hk.1)⟩, ⟨by (try simp only [hl9_1]); (try simp only [hl9_3]); (with_reducible repeat (first | refine blk_drewN ?_ _ | refine blk_drew ?_ | refine blk_alloc ?_ _)); refine blk_far ?_ NB137_154.out _; (with_reducible repeat (first | refine blk_drewN ?_ _ | refine blk_drew ?_ | refine blk_alloc ?_ _)); refine blk_far ?_ NB137_154.out _; (with_reducible repeat (first | refine blk_drewN ?_ _ | refine blk_drew ?_ | refine blk_alloc ?_ _)); exact BK137.out⟩, ⟨by repeat (first | (with_reducible first | exact HB.out | apply below_alloc | apply pw_below_drewN | apply below_drew1 | refine below_set ?_ GE137.out | refine below_set ?_ GE154.out) | exact HB.out)⟩⟩
       replace c38 := Bool.eq_false_iff.mpr c38
       subst c38
       have H1 : (if ((rd_T27 l0_1 x48_3).f1) = (rd x10_1 0) then (if 0 ≤ ((rd_T27 l0_1 x48_3).f0) then (if ((rd_T27 l0_1 x48_3).f0) < (x9_3.length : Int) then (if (rd x9_3 ((rd_T27 l0_1 x48_3).f0)) < 0 then (if 0 ≤ (rd x10_1 0) then (if (rd x10_1 0) < (x9_3.length : Int) then (if x10_3.length < 17592186044416 then (reach_lengths_1.l1 k3 l1 a2 (x9_3.set (((rd_T27 l0_1 x48_3).f0) : Int).toNat (wrap64 ((rd x9_3 (rd x10_1 0)) + 1))) (x10_3 ++ [(rd_T27 l0_1 x48_3).f0]) (rd x10_1 0) l0_1 (l0_1.length : Int) ji34 l0_0 l0_1) else (none)) else (none)) else (none)) else (reach_lengths_1.l1 k3 l1 a2 x9_3 x10_3 (rd x10_1 0) l0_1 (l0_1.length : Int) ji34 l0_0 l0_1)) else (none)) else (none)) else (reach_lengths_1.l1 k3 l1 a2 x9_3 x10_3 (rd x10_1 0) l0_1 (l0_1.length : Int) ji34 l0_0 l0_1)) = some r := by rw [if_neg (show ¬ (false = true) by decide)] at H; exact H
       clear H; have H := H1; clear H1
       by_cases c42 : ((rd_T27 l0_1 x48_3).f1) = (rd x10_1 0)
       rotate_left
       ·rw [if_neg c42] at H
        have c42b0 : (((rd_T27 l0_1 x48_3).f1) == (rd x10_1 0)) = false := beq_eq_false_iff_ne.mpr c42
        have c42b1 : (((rd_T27 l0_1 x48_3).f1) != (rd x10_1 0)) = true := bne_iff_ne.mpr c42
        have H' := Aside0.mk H; clear H
        have p153 : 0 ≤ (x48_3 : Int) := of_decide_eq_true (by first | (with_reducible assumption) | assumption)
        have q153 : x48_3 < (l0_1.length : Int) := of_decide_eq_true (by first | (with_reducible assumption) | assumption)
        obtain ⟨ad153, e153, hx153_0, hx153_1⟩ := at_T27 HR0_1.out x48_3 p153 q153
        cases e153
        replace hx153_0 := (HB.out.cell (World.block_lt_of_cell? w _ hx153_0)).trans hx153_0
        replace hx153_1 := (HB.out.cell (World.block_lt_of_cell? w _ hx153_1)).trans hx153_1
        replace p153 := eq_true p153
        replace q153 := eq_true q153
        go_wp2_with (first | ((with_reducible refine gate_dst (N := 13) rfl ?_); refine box_event ?hg (N := 13) ?hd (cs := #[.int .i64 0, .int .i64 0]) (t := 27) ?hr ?_; (case hd => rfl); (case hg => rfl); (case hr => first | (go_simp; done) | (go_simp; rfl)); intro gb154 hg w61 hbox hb; replace HO_9 := Aside0.mk (Kd.R_below (by (with_reducible repeat (first | apply Kd.R_alloc | apply Kd.R_drewN | apply Kd.R_drew)); exact HO_9.out) hb); replace HO_10 := Aside0.mk (Kd.Q_below (by (with_reducible repeat (first | apply Kd.Q_alloc | apply Kd.Q_drewN | apply Kd.Q_drew)); exact HO_10.out) hb); have BK154 := Aside0.mk (hbox); have GW154 := Aside0.mk ((by rw [hg]; exact (below_size (by repeat (first | (with_reducible first | exact HB.out | apply below_alloc | apply pw_below_drewN | apply below_drew1 | refine below_set ?_ GE137.out) | exact HB.out))) : w.heap.size ≤ gb154)); have GE154 := Aside0.mk ((by rw [hg]; exact (below_size (by repeat (first | (with_reducible first | exact HB.out | apply below_alloc | apply pw_below_drewN | apply below_drew1 | refine below_set ?_ GE137.out) | exact HB.out))) : w.heap.size ≤ gb154)); replace HB := Aside0.mk (below_step (by repeat (first | (with_reducible first | exact HB.out | apply below_alloc | apply pw_below_drewN | apply below_drew1 | refine below_set ?_ GE137.out) | exact HB.out)) hb); have NB137_154 := Aside0.mk ((by rw [hg]; exact Nat.ne_of_lt (blk_lt (g := gb137) (o := .cells #[.slice A0_0 l0_0.length c0_0, .slice (some ad153) l0_1.length c0_1] 25 (0, 0)) (by (with_reducible repeat (first | refine blk_drewN ?_ _ | refine blk_drew ?_ | refine blk_alloc ?_ _)); exact BK137.out)) : gb137 ≠ gb154)); have NB154_137 := Aside0.mk ((by rw [hg]; exact Nat.ne_of_gt (blk_lt (g := gb137) (o := .cells #[.slice A0_0 l0_0.length c0_0, .slice (some ad153) l0_1.length c0_1] 25 (0, 0)) (by (with_reducible repeat (first | refine blk_drewN ?_ _ | refine blk_drew ?_ | refine blk_alloc ?_ _)); exact BK137.out)) : gb154 ≠ gb137)); replace BK137 := Aside0.mk (blk_below (g := gb137) (o := .cells #[.slice A0_0 l0_0.length c0_0, .slice (some ad153) l0_1.length c0_1] 25 (0, 0)) (by (with_reducible repeat (first | refine blk_drewN ?_ _ | refine blk_drew ?_ | refine blk_alloc ?_ _)); exact BK137.out) hb); clear hb hbox hg; have hnb62 := NB154_137.out; have hnc62 := NB137_154.out; have hcz63_0 : w61.cell? ⟨gb154, 0, none⟩ = some (.int .i64 0) := (blk_cell BK154.out 0).trans rfl; have hcz63_1 : w61.cell? ⟨gb154, 1, none⟩ = some (.int .i64 0) := (blk_cell BK154.out 1).trans rfl; have hfz63_0 := blk_frozen BK154.out 0; have hfz63_1 := blk_frozen BK154.out 1; have p155 : 0 ≤ ((ji34) : Int) := of_decide_eq_true (by first | (with_reducible assumption) | assumption); have q155 : (ji34) < (l1.length : Int) := of_decide_eq_true (by first | (with_reducible assumption) | assumption); obtain ⟨ad155, e155, hx155_0⟩ := Kd.at_bool HR1.out (ji34) p155 q155; (try rw [← Nbq37.out] at hx155_0); cases e155; have hn155_0 : (ad155 : Addr).block ≠ gb154 := Nat.ne_of_lt (Nat.lt_of_lt_of_le (by have := World.block_lt_of_cell? _ _ hx155_0; first | rwa [add_block] at this | exact this) GW154.out); have hn155_1 : (ad155 : Addr).block ≠ gb154 := Nat.ne_of_lt (Nat.lt_of_lt_of_le (by have := World.block_lt_of_cell? _ _ hx155_0; first | rwa [add_block] at this | exact this) GW154.out); replace hx155_0 := (HB.out.cell (World.block_lt_of_cell? w _ hx155_0)).trans hx155_0; replace hx155_0 := (cell_far (p := ⟨gb154, 0, none⟩) (by first | (rw [add_block]; exact hn155_0) | (show (Addr.add _ _).block ≠ _; rw [add_block]; exact hn155_0) | exact hn155_0) (.int .i64 ((rd_T27 l0_1 x48_3).f0))).trans hx155_0; replace hx155_0 := (cell_far (p := ⟨gb154, 1, none⟩) (by first | (rw [add_block]; exact hn155_1) | (show (Addr.add _ _).block ≠ _; rw [add_block]; exact hn155_1) | exact hn155_1) (.int .i64 ((rd_T27 l0_1 x48_3).f1))).trans hx155_0; clear hn155_0; clear hn155_1; replace p155 := eq_true p155; replace q155 := eq_true q155))
        (try simp only [← hl9_3])
        go_roundg k3
        case measure => have := HK1.out; have := HJ20.out; have := HK3.out; omega
        case rel => exact ⟨(x9_3), (x10_3), (ji34), (by first | rfl | (simp; done) | (simp only [← hji34] <;> (first | rfl | simp)) | (simp [*]; done)), H', ⟨by have := HK1.out; have := HJ20.out; have := HK3.out; omega⟩, ⟨by (try simp only [hl9_1]); (try simp only [hl9_3]); (with_reducible repeat (first | apply Kd.R_alloc | apply Kd.R_drewN | apply Kd.R_drew)); exact Kd.R_mono (Kd.R_far (p := ⟨gb154, 1, none⟩) (Kd.R_far (p := ⟨gb154, 0, none⟩) (Kd.R_types HO_9.out BK154.out (by decide)) (fun _ hk => hk.2) (.int .i64 ((rd_T27 l0_1 x48_3).f0))) (fun _ hk => hk.2) (.int .i64 ((rd_T27 l0_1 x48_3).f1))) (fun _ hk => hk.1)⟩, ⟨by (try simp only [hl9_1]); (try simp only [hl9_3]); (with_reducible repeat (first | apply Kd.Q_alloc | apply Kd.Q_drewN | apply Kd.Q_drew)); exact Kd.Q_mono (Kd.Q_far (p := ⟨gb154, 1, none⟩) (Kd.Q_far (p := ⟨gb154, 0, none⟩) (Kd.Q_types HO_10.out BK154.out (by decide)) (fun _ hk => hk.2) (.int .i64 ((rd_T27 l0_1 x48_3).f0))) (fun _ hk => hk.2) (.int .i64 ((rd_T27 l0_1 x48_3).f1))) (fun _ hk => hk.1)⟩, ⟨by (try simp only [hl9_1]); (try simp only [hl9_3]); (with_reducible repeat (first | refine blk_drewN ?_ _ | refine blk_drew ?_ | refine blk_alloc ?_ _)); refine blk_far ?_ NB137_154.out _; (with_reducible repeat (first | refine blk_drewN ?_ _ | refine blk_drew ?_ | refine blk_alloc ?_ _)); refine blk_far ?_ NB137_154.out _; (with_reducible repeat (first | refine blk_drewN ?_ _ | refine blk_drew ?_ | refine blk_alloc ?_ _)); exact BK137.out⟩, ⟨by repeat (first | (with_reducible first | exact HB.out | apply below_alloc | apply pw_below_drewN | apply below_drew1 | refine below_set ?_ GE137.out | refine below_set ?_ GE154.out) | exact HB.out)⟩⟩
       rw [if_pos c42] at H
       have c42b0 : (((rd_T27 l0_1 x48_3).f1) == (rd x10_1 0)) = true := beq_iff_eq.mpr c42
       have c42b1 : (((rd_T27 l0_1 x48_3).f1) != (rd x10_1 0)) = false := bne_eq_false_iff_eq.mpr c42
       clear c42
       by_cases c43 : 0 ≤ ((rd_T27 l0_1 x48_3).f0)
       rotate_left; ·rw [if_neg c43] at H; exact absurd H (by simp)
       rw [if_pos c43] at H
       have c43b0 : decide (0 ≤ ((rd_T27 l0_1 x48_3).f0)) = true := decide_eq_true c43
       clear c43
       by_cases c44 : ((rd_T27 l0_1 x48_3).f0) < (x9_3.length : Int)
       rotate_left; ·rw [if_neg c44] at H; exact absurd H (by simp)
       rw [if_pos c44] at H
       have c44b0 : decide (((rd_T27 l0_1 x48_3).f0) < (x9_3.length : Int)) = true := decide_eq_true c44
       (try (have c44z0 := c44b0; simp only [hl9_1, hl9_3] at c44z0))
       clear c44
       by_cases c45 : (rd x9_3 ((rd_T27 l0_1 x48_3).f0)) < 0
       rotate_left
       ·rw [if_neg c45] at H
        have c45b0 : decide ((rd x9_3 ((rd_T27 l0_1 x48_3).f0)) < 0) = false := decide_eq_false c45
        clear c45
        have H' := Aside0.mk H; clear H
        have p153 : 0 ≤ (x48_3 : Int) := of_decide_eq_true (by first | (with_reducible assumption) | assumption)
        have q153 : x48_3 < (l0_1.length : Int) := of_decide_eq_true (by first | (with_reducible assumption) | assumption)
        obtain ⟨ad153, e153, hx153_0, hx153_1⟩ := at_T27 HR0_1.out x48_3 p153 q153
        cases e153
        replace hx153_0 := (HB.out.cell (World.block_lt_of_cell? w _ hx153_0)).trans hx153_0
        replace hx153_1 := (HB.out.cell (World.block_lt_of_cell? w _ hx153_1)).trans hx153_1
        replace p153 := eq_true p153
        replace q153 := eq_true q153
        go_wp2_with (first | ((with_reducible refine gate_dst (N := 13) rfl ?_); refine box_event ?hg (N := 13) ?hd (cs := #[.int .i64 0, .int .i64 0]) (t := 27) ?hr ?_; (case hd => rfl); (case hg => rfl); (case hr => first | (go_simp; done) | (go_simp; rfl)); intro gb154 hg w58 hbox hb; replace HO_9 := Aside0.mk (Kd.R_below (by (with_reducible repeat (first | apply Kd.R_alloc | apply Kd.R_drewN | apply Kd.R_drew)); exact HO_9.out) hb); replace HO_10 := Aside0.mk (Kd.Q_below (by (with_reducible repeat (first | apply Kd.Q_alloc | apply Kd.Q_drewN | apply Kd.Q_drew)); exact HO_10.out) hb); have BK154 := Aside0.mk (hbox); have GW154 := Aside0.mk ((by rw [hg]; exact (below_size (by repeat (first | (with_reducible first | exact HB.out | apply below_alloc | apply pw_below_drewN | apply below_drew1 | refine below_set ?_ GE137.out) | exact HB.out))) : w.heap.size ≤ gb154)); have GE154 := Aside0.mk ((by rw [hg]; exact (below_size (by repeat (first | (with_reducible first | exact HB.out | apply below_alloc | apply pw_below_drewN | apply below_drew1 | refine below_set ?_ GE137.out) | exact HB.out))) : w.heap.size ≤ gb154)); replace HB := Aside0.mk (below_step (by repeat (first | (with_reducible first | exact HB.out | apply below_alloc | apply pw_below_drewN | apply below_drew1 | refine below_set ?_ GE137.out) | exact HB.out)) hb); have NB137_154 := Aside0.mk ((by rw [hg]; exact Nat.ne_of_lt (blk_lt (g := gb137) (o := .cells #[.slice A0_0 l0_0.length c0_0, .slice (some ad153) l0_1.length c0_1] 25 (0, 0)) (by (with_reducible repeat (first | refine blk_drewN ?_ _ | refine blk_drew ?_ | refine blk_alloc ?_ _)); exact BK137.out)) : gb137 ≠ gb154)); have NB154_137 := Aside0.mk ((by rw [hg]; exact Nat.ne_of_gt (blk_lt (g := gb137) (o := .cells #[.slice A0_0 l0_0.length c0_0, .slice (some ad153) l0_1.length c0_1] 25 (0, 0)) (by (with_reducible repeat (first | refine blk_drewN ?_ _ | refine blk_drew ?_ | refine blk_alloc ?_ _)); exact BK137.out)) : gb154 ≠ gb137)); replace BK137 := Aside0.mk (blk_below (g := gb137) (o := .cells #[.slice A0_0 l0_0.length c0_0, .slice (some ad153) l0_1.length c0_1] 25 (0, 0)) (by (with_reducible repeat (first | refine blk_drewN ?_ _ | refine blk_drew ?_ | refine blk_alloc ?_ _)); exact BK137.out) hb); clear hb hbox hg; have hnb59 := NB154_137.out; have hnc59 := NB137_154.out; have hcz60_0 : w58.cell? ⟨gb154, 0, none⟩ = some (.int .i64 0) := (blk_cell BK154.out 0).trans rfl; have hcz60_1 : w58.cell? ⟨gb154, 1, none⟩ = some (.int .i64 0) := (blk_cell BK154.out 1).trans rfl; have hfz60_0 := blk_frozen BK154.out 0; have hfz60_1 := blk_frozen BK154.out 1; have p155 : 0 ≤ ((ji34) : Int) := of_decide_eq_true (by first | (with_reducible assumption) | assumption); have q155 : (ji34) < (l1.length : Int) := of_decide_eq_true (by first | (with_reducible assumption) | assumption); obtain ⟨ad155, e155, hx155_0⟩ := Kd.at_bool HR1.out (ji34) p155 q155; (try rw [← Nbq37.out] at hx155_0); cases e155; have hn155_0 : (ad155 : Addr).block ≠ gb154 := Nat.ne_of_lt (Nat.lt_of_lt_of_le (by have := World.block_lt_of_cell? _ _ hx155_0; first | rwa [add_block] at this | exact this) GW154.out); have hn155_1 : (ad155 : Addr).block ≠ gb154 := Nat.ne_of_lt (Nat.lt_of_lt_of_le (by have := World.block_lt_of_cell? _ _ hx155_0; first | rwa [add_block] at this | exact this) GW154.out); replace hx155_0 := (HB.out.cell (World.block_lt_of_cell? w _ hx155_0)).trans hx155_0; replace hx155_0 := (cell_far (p := ⟨gb154, 0, none⟩) (by first | (rw [add_block]; exact hn155_0) | (show (Addr.add _ _).block ≠ _; rw [add_block]; exact hn155_0) | exact hn155_0) (.int .i64 ((rd_T27 l0_1 x48_3).f0))).trans hx155_0; replace hx155_0 := (cell_far (p := ⟨gb154, 1, none⟩) (by first | (rw [add_block]; exact hn155_1) | (show (Addr.add _ _).block ≠ _; rw [add_block]; exact hn155_1) | exact hn155_1) (.int .i64 ((rd_T27 l0_1 x48_3).f1))).trans hx155_0; clear hn155_0; clear hn155_1; replace p155 := eq_true p155; replace q155 := eq_true q155; have p156 : 0 ≤ (((rd_T27 l0_1 x48_3).f0) : Int) := of_decide_eq_true (by first | (with_reducible assumption) | assumption); have q156 : ((rd_T27 l0_1 x48_3).f0) < (x9_3.length : Int) := of_decide_eq_true (by first | (with_reducible assumption) | assumption); obtain ⟨ad156, e156, hx156_0⟩ := Kd.at_int (Kd.R_reads' HO_9.out).2.2 ((rd_T27 l0_1 x48_3).f0) p156 q156; obtain rfl : (⟨go8, 0, none⟩ : Addr) = ad156 := (by injection e156); (first | simp only [add_plain] at hx156_0 | simp only [add_at] at hx156_0 | simp only [Addr.add, Nat.zero_add] at hx156_0 | skip); have hn156_0 : (⟨go8, 0, none⟩ : Addr).block ≠ gb154 := Kd.own_blk (Kd.R_ne HO_9.out BK154.out (by decide)); have hn156_1 : (⟨go8, 0, none⟩ : Addr).block ≠ gb154 := Kd.own_blk (Kd.R_ne HO_9.out BK154.out (by decide)); replace hx156_0 := (cell_far (p := ⟨gb154, 0, none⟩) (by first | (rw [add_block]; exact hn156_0) | (show (Addr.add _ _).block ≠ _; rw [add_block]; exact hn156_0) | exact hn156_0) (.int .i64 ((rd_T27 l0_1 x48_3).f0))).trans hx156_0; replace hx156_0 := (cell_far (p := ⟨gb154, 1, none⟩) (by first | (rw [add_block]; exact hn156_1) | (show (Addr.add _ _).block ≠ _; rw [add_block]; exact hn156_1) | exact hn156_1) (.int .i64 ((rd_T27 l0_1 x48_3).f1))).trans hx156_0; clear hn156_0; clear hn156_1; replace p156 := eq_true p156; replace q156 := eq_true q156))
        (try simp only [← hl9_3])
        go_roundg k3
        case measure => have := HK1.out; have := HJ20.out; have := HK3.out; omega
        case rel => exact ⟨(x9_3), (x10_3), (ji34), (by first | rfl | (simp; done) | (simp only [← hji34] <;> (first | rfl | simp)) | (simp [*]; done)), H', ⟨by have := HK1.out; have := HJ20.out; have := HK3.out; omega⟩, ⟨by (try simp only [hl9_1]); (try simp only [hl9_3]); (with_reducible repeat (first | apply Kd.R_alloc | apply Kd.R_drewN | apply Kd.R_drew)); exact Kd.R_mono (Kd.R_far (p := ⟨gb154, 1, none⟩) (Kd.R_far (p := ⟨gb154, 0, none⟩) (Kd.R_types HO_9.out BK154.out (by decide)) (fun _ hk => hk.2) (.int .i64 ((rd_T27 l0_1 x48_3).f0))) (fun _ hk => hk.2) (.int .i64 ((rd_T27 l0_1 x48_3).f1))) (fun _ hk => hk.1)⟩, ⟨by (try simp only [hl9_1]); (try simp only [hl9_3]); (with_reducible repeat (first | apply Kd.Q_alloc | apply Kd.Q_drewN | apply Kd.Q_drew)); exact Kd.Q_mono (Kd.Q_far (p := ⟨gb154, 1, none⟩) (Kd.Q_far (p := ⟨gb154, 0, none⟩) (Kd.Q_types HO_10.out BK154.out (by decide)) (fun _ hk => hk.2) (.int .i64 ((rd_T27 l0_1 x48_3).f0))) (fun _ hk => hk.2) (.int .i64 ((rd_T27 l0_1 x48_3).f1))) (fun _ hk => hk.1)⟩, ⟨by (try simp only [hl9_1]); (try simp only [hl9_3]); (with_reducible repeat (first | refine blk_drewN ?_ _ | refine blk_drew ?_ | refine blk_alloc ?_ _)); refine blk_far ?_ NB137_154.out _; (with_reducible repeat (first | refine blk_drewN ?_ _ | refine blk_drew ?_ | refine blk_alloc ?_ _)); refine blk_far ?_ NB137_154.out _; (with_reducible repeat (first | refine blk_drewN ?_ _ | refine blk_drew ?_ | refine blk_alloc ?_ _)); exact BK137.out⟩, ⟨by repeat (first | (with_reducible first | exact HB.out | apply below_alloc | apply pw_below_drewN | apply below_drew1 | refine below_set ?_ GE137.out | refine below_set ?_ GE154.out) | exact HB.out)⟩⟩
       rw [if_pos c45] at H
       have c45b0 : decide ((rd x9_3 ((rd_T27 l0_1 x48_3).f0)) < 0) = true := decide_eq_true c45
       clear c45
       by_cases c46 : 0 ≤ (rd x10_1 0)
       rotate_left; ·rw [if_neg c46] at H; exact absurd H (by simp)
       rw [if_pos c46] at H
       have c46b0 : decide (0 ≤ (rd x10_1 0)) = true := decide_eq_true c46
       clear c46
       by_cases c47 : (rd x10_1 0) < (x9_3.length : Int)
       rotate_left; ·rw [if_neg c47] at H; exact absurd H (by simp)
       rw [if_pos c47] at H
       have c47b0 : decide ((rd x10_1 0) < (x9_3.length : Int)) = true := decide_eq_true c47
       (try (have c47z0 := c47b0; simp only [hl9_1, hl9_3] at c47z0))
       clear c47
       obtain ⟨y158, hy158⟩ : ∃ y_ : List Int, y_ = (x9_3.set (((rd_T27 l0_1 x48_3).f0) : Int).toNat (wrap64 ((rd x9_3 (rd x10_1 0)) + 1))) := ⟨_, rfl⟩
       replace H : (if x10_3.length < 17592186044416 then (reach_lengths_1.l1 k3 l1 a2 y158 (x10_3 ++ [(rd_T27 l0_1 x48_3).f0]) (rd x10_1 0) l0_1 (l0_1.length : Int) ji34 l0_0 l0_1) else (none)) = some r := by first | (rw [hy158]; with_reducible exact H) | (have H2_ := (Option.bind_some _ _).symm.trans H; rw [hy158]; with_reducible exact H2_) | (have H2_ := (Option.bind_some _ _).symm.trans H; with_reducible exact H2_) | with_reducible exact H | (rw [hy158]; exact H) | exact H
       have Ny158 := Aside0.mk hy158
       clear hy158
       by_cases c49 : x10_3.length < 17592186044416
       rotate_left; ·rw [if_neg c49] at H; exact absurd H (by simp)
       rw [if_pos c49] at H
       have LMc49 := Aside0.mk c49
       clear c49
       obtain ⟨y159, hy159⟩ : ∃ y_ : List Int, y_ = (x10_3 ++ [(rd_T27 l0_1 x48_3).f0]) := ⟨_, rfl⟩
       replace H : (reach_lengths_1.l1 k3 l1 a2 y158 y159 (rd x10_1 0) l0_1 (l0_1.length : Int) ji34 l0_0 l0_1) = some r := by first | (rw [hy159]; with_reducible exact H) | (have H2_ := (Option.bind_some _ _).symm.trans H; rw [hy159]; with_reducible exact H2_) | (have H2_ := (Option.bind_some _ _).symm.trans H; with_reducible exact H2_) | with_reducible exact H | (rw [hy159]; exact H) | exact H
       have Ny159 := Aside0.mk hy159
       clear hy159
       have H' := Aside0.mk H; clear H
       have p153 : 0 ≤ (x48_3 : Int) := of_decide_eq_true (by first | (with_reducible assumption) | assumption)
       have q153 : x48_3 < (l0_1.length : Int) := of_decide_eq_true (by first | (with_reducible assumption) | assumption)
       obtain ⟨ad153, e153, hx153_0, hx153_1⟩ := at_T27 HR0_1.out x48_3 p153 q153
       cases e153
       replace hx153_0 := (HB.out.cell (World.block_lt_of_cell? w _ hx153_0)).trans hx153_0
       replace hx153_1 := (HB.out.cell (World.block_lt_of_cell? w _ hx153_1)).trans hx153_1
       replace p153 := eq_true p153
       replace q153 := eq_true q153
       go_wp2_with (first | ((with_reducible refine gate_dst (N := 13) rfl ?_); refine box_event ?hg (N := 13) ?hd (cs := #[.int .i64 0, .int .i64 0]) (t := 27) ?hr ?_; (case hd => rfl); (case hg => rfl); (case hr => first | (go_simp; done) | (go_simp; rfl)); intro gb154 hg w50 hbox hb; replace HO_9 := Aside0.mk (Kd.R_below (by (with_reducible repeat (first | apply Kd.R_alloc | apply Kd.R_drewN | apply Kd.R_drew)); exact HO_9.out) hb); replace HO_10 := Aside0.mk (Kd.Q_below (by (with_reducible repeat (first | apply Kd.Q_alloc | apply Kd.Q_drewN | apply Kd.Q_drew)); exact HO_10.out) hb); have BK154 := Aside0.mk (hbox); have GW154 := Aside0.mk ((by rw [hg]; exact (below_size (by repeat (first | (with_reducible first | exact HB.out | apply below_alloc | apply pw_below_drewN | apply below_drew1 | refine below_set ?_ GE137.out) | exact HB.out))) : w.heap.size ≤ gb154)); have GE154 := Aside0.mk ((by rw [hg]; exact (below_size (by repeat (first | (with_reducible first | exact HB.out | apply below_alloc | apply pw_below_drewN | apply below_drew1 | refine below_set ?_ GE137.out) | exact HB.out))) : w.heap.size ≤ gb154)); replace HB := Aside0.mk (below_step (by repeat (first | (with_reducible first | exact HB.out | apply below_alloc | apply pw_below_drewN | apply below_drew1 | refine below_set ?_ GE137.out) | exact HB.out)) hb); have NB137_154 := Aside0.mk ((by rw [hg]; exact Nat.ne_of_lt (blk_lt (g := gb137) (o := .cells #[.slice A0_0 l0_0.length c0_0, .slice (some ad153) l0_1.length c0_1] 25 (0, 0)) (by (with_reducible repeat (first | refine blk_drewN ?_ _ | refine blk_drew ?_ | refine blk_alloc ?_ _)); exact BK137.out)) : gb137 ≠ gb154)); have NB154_137 := Aside0.mk ((by rw [hg]; exact Nat.ne_of_gt (blk_lt (g := gb137) (o := .cells #[.slice A0_0 l0_0.length c0_0, .slice (some ad153) l0_1.length c0_1] 25 (0, 0)) (by (with_reducible repeat (first | refine blk_drewN ?_ _ | refine blk_drew ?_ | refine blk_alloc ?_ _)); exact BK137.out)) : gb154 ≠ gb137)); replace BK137 := Aside0.mk (blk_below (g := gb137) (o := .cells #[.slice A0_0 l0_0.length c0_0, .slice (some ad153) l0_1.length c0_1] 25 (0, 0)) (by (with_reducible repeat (first | refine blk_drewN ?_ _ | refine blk_drew ?_ | refine blk_alloc ?_ _)); exact BK137.out) hb); clear hb hbox hg; have hnb51 := NB154_137.out; have hnc51 := NB137_154.out; have hcz52_0 : w50.cell? ⟨gb154, 0, none⟩ = some (.int .i64 0) := (blk_cell BK154.out 0).trans rfl; have hcz52_1 : w50.cell? ⟨gb154, 1, none⟩ = some (.int .i64 0) := (blk_cell BK154.out 1).trans rfl; have hfz52_0 := blk_frozen BK154.out 0; have hfz52_1 := blk_frozen BK154.out 1) | ((with_reducible refine gate_store (t := 27) (p := 13) rfl ?_); refine store_event (t := 27) (p := 13) (v := ?vo_w53) (w1 := ((w50.setCell ⟨gb154, 0, none⟩ (.int .i64 ((rd_T27 l0_1 x48_3).f0))).setCell ⟨gb154, 1, none⟩ (.int .i64 ((rd_T27 l0_1 x48_3).f1)))) ?hg ?ho ?hn ?hr ?_; (case ho => rfl); (case hg => rfl); (case hn => rfl); (case hr => first | (go_simp; done) | (go_simp; rfl)); intro w53 hw; have n0_ : Aside0 (Kd.R (Kd.int .i64) 3 w53 w.heap.size (fun k_ => some k_ ≠ (u10 : Value).ownBlock) (.slice (some ⟨go8, 0, none⟩) x9_3.length co8) x9_3) := ⟨(by rw [hw]; exact (by (with_reducible repeat (first | apply Kd.R_alloc | apply Kd.R_drewN | apply Kd.R_drew)); exact Kd.R_mono (Kd.R_far (p := ⟨gb154, 1, none⟩) (Kd.R_far (p := ⟨gb154, 0, none⟩) (Kd.R_types HO_9.out BK154.out (by decide)) (fun _ hk => hk.2) (.int .i64 ((rd_T27 l0_1 x48_3).f0))) (fun _ hk => hk.2) (.int .i64 ((rd_T27 l0_1 x48_3).f1))) (fun _ hk => hk.1)))⟩; have n1_ : Aside0 (Kd.Q (Kd.int .i64) 3 w53 w.heap.size (fun k_ => some k_ ≠ (.slice (some ⟨go8, 0, none⟩) x9_3.length co8 : Value).ownBlock) u10 x10_3) := ⟨(by rw [hw]; exact (by (with_reducible repeat (first | apply Kd.Q_alloc | apply Kd.Q_drewN | apply Kd.Q_drew)); exact Kd.Q_mono (Kd.Q_far (p := ⟨gb154, 1, none⟩) (Kd.Q_far (p := ⟨gb154, 0, none⟩) (Kd.Q_types HO_10.out BK154.out (by decide)) (fun _ hk => hk.2) (.int .i64 ((rd_T27 l0_1 x48_3).f0))) (fun _ hk => hk.2) (.int .i64 ((rd_T27 l0_1 x48_3).f1))) (fun _ hk => hk.1)))⟩; have n2_ : Aside0 (w53.heap[gb137]? = some (.cells #[.slice A0_0 l0_0.length c0_0, .slice (some ad153) l0_1.length c0_1] 25 (0, 0))) := ⟨(by rw [hw]; exact (by (with_reducible repeat (first | refine blk_drewN ?_ _ | refine blk_drew ?_ | refine blk_alloc ?_ _)); refine blk_far ?_ NB137_154.out _; (with_reducible repeat (first | refine blk_drewN ?_ _ | refine blk_drew ?_ | refine blk_alloc ?_ _)); refine blk_far ?_ NB137_154.out _; (with_reducible repeat (first | refine blk_drewN ?_ _ | refine blk_drew ?_ | refine blk_alloc ?_ _)); exact BK137.out))⟩; have n3_ : Aside0 (w53.heap[gb154]? = some (.cells #[.int .i64 ((rd_T27 l0_1 x48_3).f0), .int .i64 ((rd_T27 l0_1 x48_3).f1)] 27 (0, 0))) := ⟨(by rw [hw]; exact (by (with_reducible repeat (first | refine blk_drewN ?_ _ | refine blk_drew ?_ | refine blk_alloc ?_ _)); refine blk_put (cs := #[.int .i64 ((rd_T27 l0_1 x48_3).f0), .int .i64 0]) ?_ 1 _ rfl; (with_reducible repeat (first | refine blk_drewN ?_ _ | refine blk_drew ?_ | refine blk_alloc ?_ _)); refine blk_put (cs := #[.int .i64 0, .int .i64 0]) ?_ 0 _ rfl; (with_reducible repeat (first | refine blk_drewN ?_ _ | refine blk_drew ?_ | refine blk_alloc ?_ _)); exact BK154.out))⟩; have n4_ : Aside0 (Below w.heap.size w w53) := ⟨(by rw [hw]; exact (by repeat (first | (with_reducible first | exact HB.out | apply below_alloc | apply pw_below_drewN | apply below_drew1 | refine below_set ?_ GE137.out | refine below_set ?_ GE154.out) | exact HB.out)))⟩; clear hw; clear HO_9; clear HO_10; clear BK137; clear BK154; clear HB; have HO_9 := n0_; have HO_10 := n1_; have BK137 := n2_; have BK154 := n3_; have HB := n4_; clear n0_ n1_ n2_ n3_ n4_; have hcz54_0 : w53.cell? ⟨gb154, 0, none⟩ = some (.int .i64 ((rd_T27 l0_1 x48_3).f0)) := (blk_cell BK154.out 0).trans rfl; have hcz54_1 : w53.cell? ⟨gb154, 1, none⟩ = some (.int .i64 ((rd_T27 l0_1 x48_3).f1)) := (blk_cell BK154.out 1).trans rfl; have hfz54_0 := blk_frozen BK154.out 0; have hfz54_1 := blk_frozen BK154.out 1; have p155 : 0 ≤ ((ji34) : Int) := of_decide_eq_true (by first | (with_reducible assumption) | assumption); have q155 : (ji34) < (l1.length : Int) := of_decide_eq_true (by first | (with_reducible assumption) | assumption); obtain ⟨ad155, e155, hx155_0⟩ := Kd.at_bool HR1.out (ji34) p155 q155; (try rw [← Nbq37.out] at hx155_0); cases e155; replace hx155_0 := (HB.out.cell (World.block_lt_of_cell? w _ hx155_0)).trans hx155_0; replace p155 := eq_true p155; replace q155 := eq_true q155; have p156 : 0 ≤ (((rd_T27 l0_1 x48_3).f0) : Int) := of_decide_eq_true (by first | (with_reducible assumption) | assumption); have q156 : ((rd_T27 l0_1 x48_3).f0) < (x9_3.length : Int) := of_decide_eq_true (by first | (with_reducible assumption) | assumption); obtain ⟨ad156, e156, hx156_0⟩ := Kd.at_int (Kd.R_reads' HO_9.out).2.2 ((rd_T27 l0_1 x48_3).f0) p156 q156; obtain rfl : (⟨go8, 0, none⟩ : Addr) = ad156 := (by injection e156); (first | simp only [add_plain] at hx156_0 | simp only [add_at] at hx156_0 | simp only [Addr.add, Nat.zero_add] at hx156_0 | skip); replace p156 := eq_true p156; replace q156 := eq_true q156; have p157 : 0 ≤ ((rd x10_1 0) : Int) := of_decide_eq_true (by first | (with_reducible assumption) | assumption); have q157 : (rd x10_1 0) < (x9_3.length : Int) := of_decide_eq_true (by first | (with_reducible assumption) | assumption); obtain ⟨ad157, e157, hx157_0⟩ := Kd.at_int (Kd.R_reads' HO_9.out).2.2 (rd x10_1 0) p157 q157; obtain rfl : (⟨go8, 0, none⟩ : Addr) = ad157 := (by injection e157); (first | simp only [add_plain] at hx157_0 | simp only [add_at] at hx157_0 | simp only [Addr.add, Nat.zero_add] at hx157_0 | skip); replace p157 := eq_true p157; replace q157 := eq_true q157; have p48 : 0 ≤ (((rd_T27 l0_1 x48_3).f0) : Int) := of_decide_eq_true (by first | (with_reducible assumption) | assumption); have q48 : (((rd_T27 l0_1 x48_3).f0) : Int) < ((x9_3.length : Int) : Int) := of_decide_eq_true (by first | (with_reducible assumption) | assumption); obtain ⟨hx48_0, hf48_0⟩ := Kd.R_celln 0 HO_9.out (((rd_T27 l0_1 x48_3).f0) : Int) p48 q48; replace p48 := eq_true p48; replace q48 := eq_true q48; obtain ⟨hy55_, hz55_⟩ := Kd.R_celln 0 HO_9.out (((rd_T27 l0_1 x48_3).f0) : Int) (of_decide_eq_true (by first | (with_reducible assumption) | assumption)) (of_decide_eq_true (by first | (with_reducible assumption) | assumption)); have HP55 := Kd.R_putg HO_9.out (((rd_T27 l0_1 x48_3).f0) : Int) (wrap64 ((rd x9_3 (rd x10_1 0)) + 1))) | ((with_reducible refine gate_store (t := 3) (p := 84) rfl ?_); refine store_event (t := 3) (p := 84) (v := ?vo_w56) (w1 := (w53.setCell ⟨go8, (((rd_T27 l0_1 x48_3).f0) : Int).toNat, none⟩ (.int .i64 (wrap64 ((rd x9_3 (rd x10_1 0)) + 1))))) ?hg ?ho ?hn ?hr ?_; (case ho => rfl); (case hg => rfl); (case hn => rfl); (case hr => first | (go_simp; done) | (go_simp; rfl)); intro w56 hw; have hg : w53.grownBy w56 (some go8) := (by rw [hw]; exact HP55.2); have hp_ : Kd.R (Kd.int .i64) 3 w56 w.heap.size (fun k_ => some k_ ≠ (u10 : Value).ownBlock) (.slice (some ⟨go8, 0, none⟩) x9_3.length co8) y158 := (by rw [hw, Ny158.out]; exact HP55.1); clear HP55; replace HO_10 := Aside0.mk (Kd.Q_after (v := (.slice (some ⟨go8, 0, none⟩) x9_3.length co8)) (v1 := (.slice (some ⟨go8, 0, none⟩) x9_3.length co8)) (ok := (fun _ => True)) (by (with_reducible repeat (first | apply Kd.Q_alloc | apply Kd.Q_drewN | apply Kd.Q_drew)); exact Kd.Q_mono HO_10.out (fun _ hk => ⟨trivial, hk⟩)) hg (.inl rfl)); replace BK137 := Aside0.mk (blk_grown (g := gb137) (o := .cells #[.slice A0_0 l0_0.length c0_0, .slice (some ad153) l0_1.length c0_1] 25 (0, 0)) (by (with_reducible repeat (first | refine blk_drewN ?_ _ | refine blk_drew ?_ | refine blk_alloc ?_ _)); exact BK137.out) hg (Kd.R_ne HO_9.out BK137.out (by decide))); replace BK154 := Aside0.mk (blk_grown (g := gb154) (o := .cells #[.int .i64 ((rd_T27 l0_1 x48_3).f0), .int .i64 ((rd_T27 l0_1 x48_3).f1)] 27 (0, 0)) (by (with_reducible repeat (first | refine blk_drewN ?_ _ | refine blk_drew ?_ | refine blk_alloc ?_ _)); exact BK154.out) hg (Kd.R_ne HO_9.out BK154.out (by decide))); replace HO_9 := Aside0.mk (hp_); replace HB := Aside0.mk ((by rw [hw]; exact below_set (HB.out) GB8.out : Below w.heap.size w w56)); clear hg hw hp_) | ((with_reducible refine gate_builtin (b := .append) (xs := #[.tmp 85, .tmp 87]) rfl ?_); at_builtin; refine Kd.Q_append (Kd.int .i64) (w0 := w) w.heap.size rfl (.tmp 85) (.tmp 87) 26 3 (.int .i64 0) 8 rfl Try.underlying26 info3 rfl (by decide) (by omega) u10 x10_3 ((rd_T27 l0_1 x48_3).f0) [.int .i64 ((rd_T27 l0_1 x48_3).f0)] (fun k_ => some k_ ≠ (.slice (some ⟨go8, 0, none⟩) x9_3.length co8 : Value).ownBlock) (fun _ => False) rfl rfl ?aP (fun _ hk => hk.elim) ?aF ?aO ?aB ?aS ?aL ?_; (case aP => exact rfl); (case aB => exact (by repeat (first | (with_reducible first | exact HB.out | apply below_alloc | apply pw_below_drewN | apply below_drew1 | refine below_set ?_ GE137.out | refine below_set ?_ GE154.out) | exact HB.out))); (case aF => exact (fun k_ hk => Kd.fresh' (Kd.R_lt (by (with_reducible repeat (first | apply Kd.R_alloc | apply Kd.R_drewN | apply Kd.R_drew)); exact HO_9.out)) k_ hk)); (case aO => exact (by (with_reducible repeat (first | apply Kd.Q_alloc | apply Kd.Q_drewN | apply Kd.Q_drew)); exact Kd.Q_mono HO_10.out (fun _ hk => hk.2))); (case aS => exact (below_size (by repeat (first | (with_reducible first | exact HB.out | apply below_alloc | apply pw_below_drewN | apply below_drew1 | refine below_set ?_ GE137.out | refine below_set ?_ GE154.out) | exact HB.out)))); (case aL => have := LMc49.out; omega); intro v160 w57 ho hb hg hat; rw [← Ny159.out] at ho; replace HO_9 := Aside0.mk (Kd.R_after (ok := (fun _ => True)) (by (with_reducible repeat (first | apply Kd.R_alloc | apply Kd.R_drewN | apply Kd.R_drew)); exact Kd.R_mono HO_9.out (fun _ hk => ⟨trivial, hk⟩)) hg hat); replace BK137 := Aside0.mk (blk_grown (g := gb137) (o := .cells #[.slice A0_0 l0_0.length c0_0, .slice (some ad153) l0_1.length c0_1] 25 (0, 0)) (by (with_reducible repeat (first | refine blk_drewN ?_ _ | refine blk_drew ?_ | refine blk_alloc ?_ _)); exact BK137.out) hg (Kd.Q_ne HO_10.out BK137.out (by decide))); replace BK154 := Aside0.mk (blk_grown (g := gb154) (o := .cells #[.int .i64 ((rd_T27 l0_1 x48_3).f0), .int .i64 ((rd_T27 l0_1 x48_3).f1)] 27 (0, 0)) (by (with_reducible repeat (first | refine blk_drewN ?_ _ | refine blk_drew ?_ | refine blk_alloc ?_ _)); exact BK154.out) hg (Kd.Q_ne HO_10.out BK154.out (by decide))); replace HB := Aside0.mk (hb); have HO161 := Aside0.mk (ho); clear HO_10; clear ho hb hg hat))
       (try simp only [← hl9_3])
       go_roundg k3
       case measure => have := HK1.out; have := HJ20.out; have := HK3.out; omega
       case rel => exact ⟨(y158), (y159), (ji34), (by first | rfl | (simp; done) | (simp only [← hji34] <;> (first | rfl | simp)) | (simp [*]; done)), H', ⟨by have := HK1.out; have := HJ20.out; have := HK3.out; omega⟩, ⟨by (try simp only [hl9_1]); (try simp only [hl9_3]); (with_reducible repeat (first | apply Kd.R_alloc | apply Kd.R_drewN | apply Kd.R_drew)); exact Kd.R_mono HO_9.out (fun _ hk => hk.2)⟩, ⟨by (try simp only [hl9_1]); (try simp only [hl9_3]); (with_reducible repeat (first | apply Kd.Q_alloc | apply Kd.Q_drewN | apply Kd.Q_drew)); exact HO161.out⟩, ⟨by (try simp only [hl9_1]); (try simp only [hl9_3]); (with_reducible repeat (first | refine blk_drewN ?_ _ | refine blk_drew ?_ | refine blk_alloc ?_ _)); exact BK137.out⟩, ⟨by repeat (first | (with_reducible first | exact HB.out | apply below_alloc | apply pw_below_drewN | apply below_drew1 | refine below_set ?_ GE137.out | refine below_set ?_ GE154.out) | exact HB.out)⟩⟩
end Go.Proofs.Ytkfoicfbmhalbaa.PReachBoth
