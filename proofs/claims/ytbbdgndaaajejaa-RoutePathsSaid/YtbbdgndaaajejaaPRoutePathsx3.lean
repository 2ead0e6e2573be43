-- Written by a program of this session (wip/oprint): after the pattern of the kit's print, which does not take this law. -- trimmed
import Derived.Test.YtbbdgndaaajejaaPRoutePathsx0
import Derived.Test.YtbbdgndaaajejaaPRoutePathsx2
namespace Go.Proofs.Ytbbdgndaaajejaa.PRoutePaths
open Go.RowKit Go.Proofs.YtbbdgndaaajejaaW.PrintWords Go.Proofs.YtbbdgndaaajejaaW.PrintLast Go.Proofs.YtbbdgndaaajejaaW.PrintMore
attribute [local go_sem] max2_int min2_int max_two min_two max_three min_three max_four min_four   -- for this text's walks alone
set_option linter.unusedVariables false
set_option linter.unusedSimpArgs false

/-! ### reach_lengths_1: function 36 -/
mutual
def reach_lengths_1.l0 : Nat → List Bool → Int → List Int → List Int → List (S47) → List (S38) → Option (List Int)
 | 0, _, _, _, _, _, _ => none
 | k + 1, x1, x2, x9, x10, x132000, x132001 => if (x10.length : Int) > 0 then (if 0 < (x10.length : Int) then (if (rd x10 0) = x2 then (reach_lengths_1.j1 k x1 x2 x9 x10 (rd x10 0) false x132000 x132001) else (if 0 ≤ (rd x10 0) then (if (rd x10 0) < (x132000.length : Int) then (reach_lengths_1.j1 k x1 x2 x9 x10 (rd x10 0) (((rd_T47 x132000 (rd x10 0)).f1) != 1) x132000 x132001) else (none)) else (none))) else (none)) else (some x9)
def reach_lengths_1.j1 : Nat → List Bool → Int → List Int → List Int → Int → Bool → List (S47) → List (S38) → Option (List Int)
 | 0, _, _, _, _, _, _, _, _ => none
 | k + 1, x1, x2, x9, x10, x11, x44, x132000, x132001 => if x44 = true then (if 1 ≤ (x10.length : Int) then (reach_lengths_1.l0 k x1 x2 x9 (x10.drop (1 : Int).toNat) x132000 x132001) else (none)) else (reach_lengths_1.l1 k x1 x2 x9 x10 x11 x132001 (x132001.length : Int) 0 x132000 x132001)
def reach_lengths_1.l1 : Nat → List Bool → Int → List Int → List Int → Int → List (S38) → Int → Int → List (S47) → List (S38) → Option (List Int)
 | 0, _, _, _, _, _, _, _, _, _, _ => none
 | k + 1, x1, x2, x9, x10, x11, x46, x47, x48, x132000, x132001 => if x48 < x47 then (if 0 ≤ x48 then (if x48 < (x46.length : Int) then (if 0 ≤ (wrap64 (x48 + 1)) then (if (wrap64 (x48 + 1)) < (x1.length : Int) then (if (rdOf false x1 (wrap64 (x48 + 1)) = true) then (reach_lengths_1.l1 k x1 x2 x9 x10 x11 x46 x47 (wrap64 (x48 + 1)) x132000 x132001) else (if ((rd_T38 x46 x48).f1) = x11 then (if 0 ≤ ((rd_T38 x46 x48).f0) then (if ((rd_T38 x46 x48).f0) < (x9.length : Int) then (if (rd x9 ((rd_T38 x46 x48).f0)) < 0 then (if 0 ≤ x11 then (if x11 < (x9.length : Int) then (if x10.length < 17592186044416 then (reach_lengths_1.l1 k x1 x2 (x9.set (((rd_T38 x46 x48).f0) : Int).toNat (wrap64 ((rd x9 x11) + 1))) (x10 ++ [(rd_T38 x46 x48).f0]) x11 x46 x47 (wrap64 (x48 + 1)) x132000 x132001) else (none)) else (none)) else (none)) else (reach_lengths_1.l1 k x1 x2 x9 x10 x11 x46 x47 (wrap64 (x48 + 1)) x132000 x132001)) else (none)) else (none)) else (reach_lengths_1.l1 k x1 x2 x9 x10 x11 x46 x47 (wrap64 (x48 + 1)) x132000 x132001))) else (none)) else (none)) else (none)) else (none)) else (if 1 ≤ (x10.length : Int) then (reach_lengths_1.l0 k x1 x2 x9 (x10.drop (1 : Int).toNat) x132000 x132001) else (none))
end
def reach_lengths_1.f (k : Nat) (l0_0 : List (S47)) (l0_1 : List (S38)) (l1 : List Bool) (a2 : Int) (a3 : Int) : Option (List Int) := (slices_Repeat_int_int.f (([(-1)] : List Int)) (l0_0.length : Int)).bind fun t135 => (if 0 ≤ a2 then (if a2 < (t135.length : Int) then (reach_lengths_1.l0 k l1 a2 (t135.set (a2 : Int).toNat 0) (([a2] : List Int)) l0_0 l0_1) else (none)) else (none))
theorem reach_lengths_1.mono_l : ∀ k, (∀ y0 y1 y2 y3 y4 y5, LeO (reach_lengths_1.l0 k y0 y1 y2 y3 y4 y5) (reach_lengths_1.l0 (k + 1) y0 y1 y2 y3 y4 y5)) ∧ (∀ y0 y1 y2 y3 y4 y5 y6 y7, LeO (reach_lengths_1.j1 k y0 y1 y2 y3 y4 y5 y6 y7) (reach_lengths_1.j1 (k + 1) y0 y1 y2 y3 y4 y5 y6 y7)) ∧ (∀ y0 y1 y2 y3 y4 y5 y6 y7 y8 y9, LeO (reach_lengths_1.l1 k y0 y1 y2 y3 y4 y5 y6 y7 y8 y9) (reach_lengths_1.l1 (k + 1) y0 y1 y2 y3 y4 y5 y6 y7 y8 y9))
 | 0 => ⟨fun _ _ _ _ _ _ r h => by simp [reach_lengths_1.l0] at h, fun _ _ _ _ _ _ _ _ r h => by simp [reach_lengths_1.j1] at h, fun _ _ _ _ _ _ _ _ _ _ r h => by simp [reach_lengths_1.l1] at h⟩
 | k + 1 => by
  obtain ⟨ih0, ih1, ih2⟩ := reach_lengths_1.mono_l k
  refine ⟨?_, ?_, ?_⟩
  ·intro y0 y1 y2 y3 y4 y5
   unfold reach_lengths_1.l0
   repeat' first
   | (with_reducible exact ih0 _ _ _ _ _ _)
   | (with_reducible exact ih1 _ _ _ _ _ _ _ _)
   | (with_reducible exact ih2 _ _ _ _ _ _ _ _ _ _)
   | (with_reducible exact LeO.refl _)
   | (with_reducible exact LeO.none _)
   | (with_reducible refine LeO.ite ?_ ?_)
   | (with_reducible refine LeO.bind ?_ (fun _ => ?_))
   | exact ih0 _ _ _ _ _ _
   | exact ih1 _ _ _ _ _ _ _ _
   | exact ih2 _ _ _ _ _ _ _ _ _ _
   | exact LeO.none _
   | refine LeO.ite ?_ ?_
   | refine LeO.bind ?_ (fun _ => ?_)
  ·intro y0 y1 y2 y3 y4 y5 y6 y7
   unfold reach_lengths_1.j1
   repeat' first
   | (with_reducible exact ih0 _ _ _ _ _ _)
   | (with_reducible exact ih1 _ _ _ _ _ _ _ _)
   | (with_reducible exact ih2 _ _ _ _ _ _ _ _ _ _)
   | (with_reducible exact LeO.refl _)
   | (with_reducible exact LeO.none _)
   | (with_reducible refine LeO.ite ?_ ?_)
   | (with_reducible refine LeO.bind ?_ (fun _ => ?_))
   | exact ih0 _ _ _ _ _ _
   | exact ih1 _ _ _ _ _ _ _ _
   | exact ih2 _ _ _ _ _ _ _ _ _ _
   | exact LeO.none _
   | refine LeO.ite ?_ ?_
   | refine LeO.bind ?_ (fun _ => ?_)
  ·intro y0 y1 y2 y3 y4 y5 y6 y7 y8 y9
   unfold reach_lengths_1.l1
   repeat' first
   | (with_reducible exact ih0 _ _ _ _ _ _)
   | (with_reducible exact ih1 _ _ _ _ _ _ _ _)
   | (with_reducible exact ih2 _ _ _ _ _ _ _ _ _ _)
   | (with_reducible exact LeO.refl _)
   | (with_reducible exact LeO.none _)
   | (with_reducible refine LeO.ite ?_ ?_)
   | (with_reducible refine LeO.bind ?_ (fun _ => ?_))
   | exact ih0 _ _ _ _ _ _
   | exact ih1 _ _ _ _ _ _ _ _
   | exact ih2 _ _ _ _ _ _ _ _ _ _
   | exact LeO.none _
   | refine LeO.ite ?_ ?_
   | refine LeO.bind ?_ (fun _ => ?_)
theorem reach_lengths_1.mono : ∀ a0 a1 a2 a3 a4 k, LeO (reach_lengths_1.f k a0 a1 a2 a3 a4) (reach_lengths_1.f (k + 1) a0 a1 a2 a3 a4) := by
 intro a0 a1 a2 a3 a4 k
 obtain ⟨ih0, ih1, ih2⟩ := reach_lengths_1.mono_l k
 unfold reach_lengths_1.f
 repeat' first
   | (with_reducible exact ih0 _ _ _ _ _ _)
   | (with_reducible exact ih1 _ _ _ _ _ _ _ _)
   | (with_reducible exact ih2 _ _ _ _ _ _ _ _ _ _)
   | (with_reducible exact LeO.refl _)
   | (with_reducible exact LeO.none _)
   | (with_reducible refine LeO.ite ?_ ?_)
   | (with_reducible refine LeO.bind ?_ (fun _ => ?_))
   | exact ih0 _ _ _ _ _ _
   | exact ih1 _ _ _ _ _ _ _ _
   | exact ih2 _ _ _ _ _ _ _ _ _ _
   | exact LeO.none _
   | refine LeO.ite ?_ ?_
   | refine LeO.bind ?_ (fun _ => ?_)
set_option maxHeartbeats 8000000 in
set_option maxRecDepth 100000 in
theorem reach_lengths_1.calls (k : Nat) (A0_0 : Option Addr) (c0_0 : Nat) (l0_0 : List (S47)) (A0_1 : Option Addr) (c0_1 : Nat) (l0_1 : List (S38)) (A1 : Option Addr) (c1 : Nat) (l1 : List Bool) (a2 : Int) (a3 : Int) (r : List Int) (w : World) (hr0_0 : Kd.C k47 w A0_0 l0_0.length l0_0) (hc0_0 : l0_0.length ≤ c0_0) (hr0_1 : Kd.C k38 w A0_1 l0_1.length l0_1) (hc0_1 : l0_1.length ≤ c0_1) (hr1 : Kd.C Kd.bool w A1 l1.length l1) (hc1 : l1.length ≤ c1) (h : reach_lengths_1.f k l0_0 l0_1 l1 a2 a3 = some r) :
  Calls Try.prog 36 #[.agg #[.slice A0_0 l0_0.length c0_0, .slice A0_1 l0_1.length c0_1], .slice A1 l1.length c1, .int .i64 a2, .int .i64 1] w fun e w' => ∃ v0_ : Value, e = .returned (v0_) ∧ Kd.R (Kd.int .i64) 3 w' w.heap.size (fun _ => True) v0_ r ∧ Below w.heap.size w w' := by
 have hu25 := Try.underlying25
 have hu38 := Try.underlying38
 have HR0_0 := Aside0.mk hr0_0
 have HC0_0 := Aside0.mk hc0_0
 clear hr0_0 hc0_0
 have HR0_1 := Aside0.mk hr0_1
 have HC0_1 := Aside0.mk hc0_1
 clear hr0_1 hc0_1
 have HR1 := Aside0.mk hr1
 have HC1 := Aside0.mk hc1
 clear hr1 hc1
 have HB := Aside0.mk (Below.refl w.heap.size w)
 have H : ((slices_Repeat_int_int.f (([(-1)] : List Int)) (l0_0.length : Int)).bind fun t135 => (if 0 ≤ a2 then (if a2 < (t135.length : Int) then (reach_lengths_1.l0 k l1 a2 (t135.set (a2 : Int).toNat 0) (([a2] : List Int)) l0_0 l0_1) else (none)) else (none))) = some r := h
 clear h
 obtain ⟨y132, hy132⟩ : ∃ y_ : List Int, y_ = (([(-1)] : List Int)) := ⟨_, rfl⟩
 replace H : ((slices_Repeat_int_int.f y132 (l0_0.length : Int)).bind fun t135 => (if 0 ≤ a2 then (if a2 < (t135.length : Int) then (reach_lengths_1.l0 k l1 a2 (t135.set (a2 : Int).toNat 0) (([a2] : List Int)) l0_0 l0_1) else (none)) else (none))) = some r := by first | (rw [hy132]; with_reducible exact H) | (have H2_ := (Option.bind_some _ _).symm.trans H; rw [hy132]; with_reducible exact H2_) | (have H2_ := (Option.bind_some _ _).symm.trans H; with_reducible exact H2_) | with_reducible exact H | (rw [hy132]; exact H) | exact H
 have Ny132 := Aside0.mk hy132
 clear hy132
 replace H := Option.bind_eq_some_iff.mp H; obtain ⟨t135, A50, H⟩ := H
 replace H : (if 0 ≤ a2 then (if a2 < (t135.length : Int) then (reach_lengths_1.l0 k l1 a2 (t135.set (a2 : Int).toNat 0) (([a2] : List Int)) l0_0 l0_1) else (none)) else (none)) = some r := H
 have A5 := Aside0.mk A50
 clear A50
 by_cases c6 : 0 ≤ a2
 rotate_left; ·rw [if_neg c6] at H; exact absurd H (by simp)

 rw [if_pos c6] at H
 have c6b0 : decide (0 ≤ a2) = true := decide_eq_true c6
 clear c6
 by_cases c7 : a2 < (t135.length : Int)
 rotate_left; ·rw [if_neg c7] at H; exact absurd H (by simp)
 rw [if_pos c7] at H
 have c7b0 : decide (a2 < (t135.length : Int)) = true := decide_eq_true c7
 clear c7
 obtain ⟨y138, hy138⟩ : ∃ y_ : List Int, y_ = (t135.set (a2 : Int).toNat 0) := ⟨_, rfl⟩
 replace H : (reach_lengths_1.l0 k l1 a2 y138 (([a2] : List Int)) l0_0 l0_1) = some r := by first | (rw [hy138]; with_reducible exact H) | (have H2_ := (Option.bind_some _ _).symm.trans H; rw [hy138]; with_reducible exact H2_) | (have H2_ := (Option.bind_some _ _).symm.trans H; with_reducible exact H2_) | with_reducible exact H | (rw [hy138]; exact H) | exact H
 have Ny138 := Aside0.mk hy138
 clear hy138
 obtain ⟨y139, hy139⟩ : ∃ y_ : List Int, y_ = (([a2] : List Int)) := ⟨_, rfl⟩
 replace H : (reach_lengths_1.l0 k l1 a2 y138 y139 l0_0 l0_1) = some r := by first | (rw [hy139]; with_reducible exact H) | (have H2_ := (Option.bind_some _ _).symm.trans H; rw [hy139]; with_reducible exact H2_) | (have H2_ := (Option.bind_some _ _).symm.trans H; with_reducible exact H2_) | with_reducible exact H | (rw [hy139]; exact H) | exact H
 have Ny139 := Aside0.mk hy139
 clear hy139
 have H' := Aside0.mk H; clear H
 go_enter Try.func36, Try.ntmps36
 go_wp2_with (first | ((with_reducible refine gate_dst (N := 4) rfl ?_); refine box_event ?hg (N := 4) ?hd (cs := #[.slice A0_0 l0_0.length c0_0, .slice A0_1 l0_1.length c0_1]) (t := 25) ?hr ?_; (case hd => rfl); (case hg => rfl); (case hr => first | (go_simp; done) | (go_simp; rfl)); intro gb131 hg w9 hbox hb; have BK131 := Aside0.mk (hbox); have GW131 := Aside0.mk ((by rw [hg]; exact (below_size (zb0 HB.out)) : w.heap.size ≤ gb131)); have GE131 := Aside0.mk ((by rw [hg]; exact (below_size (zb0 HB.out)) : w.heap.size ≤ gb131)); replace HB := Aside0.mk (below_step (zb0 HB.out) hb); clear hb hbox hg) | ((with_reducible refine gate_dst (N := 15) rfl ?_); refine Kd.R_lit (Kd.int .i64) _ 3 ?hg (N := 15) ?hd (xs := ([(-1)] : List Int)) (inner := [.int .i64 (-1)]) (ok := fun _ => True) (okp := fun _ => True) ?hr ?hp (fun _ hk => hk) trivial (Below.refl _ _) (Nat.le_refl _) (by simp) ?_; (case hd => rfl); (case hg => rfl); (case hr => first | (go_simp; done) | (go_simp; rfl)); (case hp => exact (Reps.one (show Kd.M (Kd.int .i64) _ _ _ (-1) [.int .i64 (-1)] from rfl) (Reps.none _ _))); intro v133 w10 ho11 hb hg_ hnew_; clear hg_ hnew_; (first | rw [← Ny132.out] at ho11 | (simp only [Int.reduceToNat] at ho11; rw [← Ny132.out] at ho11)); have HO134 := Aside0.mk (Kd.R_lower ho11 (below_size (zb1 HB.out GE131.out))); replace BK131 := Aside0.mk (blk_below (g := gb131) (o := .cells #[.slice A0_0 l0_0.length c0_0, .slice A0_1 l0_1.length c0_1] 25 (0, 0)) (zk BK131.out) hb); replace HB := Aside0.mk (below_step (zb1 HB.out GE131.out) hb); clear hb ho11; have hcz12_0 : w10.cell? ⟨gb131, 0, none⟩ = some (.slice A0_0 l0_0.length c0_0) := (blk_cell BK131.out 0).trans rfl; have hcz12_1 : w10.cell? ⟨gb131, 1, none⟩ = some (.slice A0_1 l0_1.length c0_1) := (blk_cell BK131.out 1).trans rfl; have hfz12_0 := blk_frozen BK131.out 0; have hfz12_1 := blk_frozen BK131.out 1; obtain ⟨Ao13, co13, eo13⟩ := Kd.R_slice HO134.out; subst eo13) | ((with_reducible refine gate_callee (f := 47) rfl ?_); refine goesL_ (some 19) rfl rfl Try.func47 (by kernel_rfl) rfl #[.slice Ao13 y132.length co13, .int .i64 (l0_0.length : Int)] rfl am ?_; (with_reducible refine (slices_Repeat_int_int.calls _ _ y132 (l0_0.length : Int) t135 _ ?side1 ?side2 A5.out).mono ?_); (case side1 => exact zd (Kd.R_reads' HO134.out).2.2); (case side2 => exact (Kd.R_reads' HO134.out).2.1); rintro e w14 ⟨v136, rfl, ho0, hb⟩; refine ⟨_, rfl, ?_⟩; have HO137 := Aside0.mk (Kd.R_lower (Kd.R_new' ho0 (Kd.R_lt (zr HO134.out))) (below_size (zb1 HB.out GE131.out))); replace HO134 := Aside0.mk (Kd.R_elder' (zr HO134.out) (Kd.R_base ho0) hb); replace BK131 := Aside0.mk (blk_below (g := gb131) (o := .cells #[.slice A0_0 l0_0.length c0_0, .slice A0_1 l0_1.length c0_1] 25 (0, 0)) (zk BK131.out) hb); replace HB := Aside0.mk (below_step (zb1 HB.out GE131.out) hb); (try clear hb); (try clear ho0); have p8 : 0 ≤ (a2 : Int) := oda; have q8 : (a2 : Int) < ((t135.length : Int) : Int) := oda; obtain ⟨go8, co8, eo8, gb8, gl8, cl8, HG8⟩ := Kd.R_form HO137.out (by omega); (first | cases eo8 | (injection eo8 with ea_ en_ ec_; (first | subst ea_ | (injection ea_ with ea_; subst ea_)); subst ec_; clear en_)); have GB8 := Aside0.mk gb8; have GG8 := Aside0.mk HG8; clear gb8 gl8 HG8; obtain ⟨hx8_0, hf8_0⟩ := Kd.R_celln 0 HO137.out (a2 : Int) p8 q8; replace p8 := eq_true p8; replace q8 := eq_true q8; have n_ := Aside0.mk (Kd.R_mono (ok' := (fun k_ => some k_ ≠ (.slice Ao13 y132.length co13 : Value).ownBlock)) HO137.out (fun k_ hk => hk.2)); clear HO137; have HO137 := n_; clear n_; obtain ⟨hy15_, hz15_⟩ := Kd.R_celln 0 HO137.out (a2 : Int) (oda) (oda); have HP15 := Kd.R_putg HO137.out (a2 : Int) 0) | ((with_reducible refine gate_store (t := 3) (p := 22) rfl ?_); refine store_event (t := 3) (p := 22) (v := ?vo_w16) (w1 := (w14.setCell ⟨go8, (a2 : Int).toNat, none⟩ (.int .i64 0))) ?hg ?ho ?hn ?hr ?_; (case ho => rfl); (case hg => rfl); (case hn => rfl); (case hr => first | (go_simp; done) | (go_simp; rfl)); intro w16 hw; have hg : w14.grownBy w16 (some go8) := (by rw [hw]; exact HP15.2); have hp_ : Kd.R (Kd.int .i64) 3 w16 w.heap.size (fun k_ => some k_ ≠ (.slice Ao13 y132.length co13 : Value).ownBlock) (.slice (some ⟨go8, 0, none⟩) t135.length co8) y138 := (by rw [hw, Ny138.out]; exact HP15.1); clear HP15; replace BK131 := Aside0.mk (blk_grown (g := gb131) (o := .cells #[.slice A0_0 l0_0.length c0_0, .slice A0_1 l0_1.length c0_1] 25 (0, 0)) (zk BK131.out) hg (Kd.R_ne HO137.out BK131.out (by decide))); replace HO134 := Aside0.mk (Kd.R_after (v := (.slice (some ⟨go8, 0, none⟩) t135.length co8)) (v1 := (.slice (some ⟨go8, 0, none⟩) t135.length co8)) (ok := (fun _ => True)) (zr HO134.out) hg (.inl rfl)); replace HO137 := Aside0.mk (hp_); replace HB := Aside0.mk ((by rw [hw]; exact below_set (HB.out) GB8.out : Below w.heap.size w w16)); clear hg hw hp_) | ((with_reducible refine gate_dst (N := 24) rfl ?_); refine Kd.R_lit (Kd.int .i64) _ 3 ?hg (N := 24) ?hd (xs := ([a2] : List Int)) (inner := [.int .i64 a2]) (ok := fun _ => True) (okp := fun _ => True) ?hr ?hp (fun _ hk => hk) trivial (Below.refl _ _) (Nat.le_refl _) (by simp) ?_; (case hd => rfl); (case hg => rfl); (case hr => first | (go_simp; done) | (go_simp; rfl)); (case hp => exact (Reps.one (show Kd.M (Kd.int .i64) _ _ _ a2 [.int .i64 a2] from rfl) (Reps.none _ _))); intro v140 w17 ho18 hb hg_ hnew_; clear hg_ hnew_; (first | rw [← Ny139.out] at ho18 | (simp only [Int.reduceToNat] at ho18; rw [← Ny139.out] at ho18)); have HO141 := Aside0.mk (Kd.R_lower (Kd.R_new' (Kd.R_new' ho18 (Kd.R_lt (zr HO134.out))) (Kd.R_lt (zr HO137.out))) (below_size (zb1 HB.out GE131.out))); replace HO134 := Aside0.mk (Kd.R_elder' (zr HO134.out) (Kd.R_base ho18) hb); replace HO137 := Aside0.mk (Kd.R_elder' (zr HO137.out) (Kd.R_base ho18) hb); replace BK131 := Aside0.mk (blk_below (g := gb131) (o := .cells #[.slice A0_0 l0_0.length c0_0, .slice A0_1 l0_1.length c0_1] 25 (0, 0)) (zk BK131.out) hb); replace HB := Aside0.mk (below_step (zb1 HB.out GE131.out) hb); clear hb ho18))
 go_loopg [10] k (fun kq v10 w' => ∃ (x9_1 : List Int) (x10_1 : List Int), Aside0 (reach_lengths_1.l0 kq l1 a2 x9_1 x10_1 l0_0 l0_1 = some r) ∧ Aside0 (kq ≤ k) ∧ Aside0 (Kd.R (Kd.int .i64) 3 w' w.heap.size (fun k_ => some k_ ≠ (v10 : Value).ownBlock) (.slice (some ⟨go8, 0, none⟩) t135.length co8) x9_1) ∧ Aside0 (Kd.Q (Kd.int .i64) 3 w' w.heap.size (fun k_ => some k_ ≠ ((.slice (some ⟨go8, 0, none⟩) t135.length co8) : Value).ownBlock) v10 x10_1) ∧ Aside0 (w'.heap[gb131]? = some (.cells #[(.slice A0_0 l0_0.length c0_0), (.slice A0_1 l0_1.length c0_1)] 25 (0, 0))) ∧ Aside0 (Below w.heap.size w w'))
 case atStart => exact ⟨(y138), (y139), H', ⟨Nat.le_refl _⟩, ⟨by (with_reducible repeat (first | apply Kd.R_alloc | apply Kd.R_drewN | apply Kd.R_drew)); exact Kd.R_mono HO137.out (fun _ hk => hk.2)⟩, ⟨Kd.Q_of_R (by (with_reducible repeat (first | apply Kd.R_alloc | apply Kd.R_drewN | apply Kd.R_drew)); exact Kd.R_mono HO141.out (fun _ hk => hk.2))⟩, ⟨zk BK131.out⟩, ⟨zb1 HB.out GE131.out⟩⟩
 case round =>
  clear H'
  obtain ⟨x9_1, x10_1, HA, HK1, HO_9, HO_10, BK131, HB⟩ := hrel
  have hl9_1 := (Kd.R_reads' HO_9.out).1
  rw [hl9_1] at HO_9
  (try simp only [hl9_1])
  (try simp only [hl9_1] at BK131)
  (try simp only [hl9_1] at HO_10)
  cases gk with
  | zero => exact absurd HA.out (by simp [reach_lengths_1.l0])
  | succ k1 =>
   have H := HA.out
   clear HA
   simp only [reach_lengths_1.l0] at H
   by_cases c19 : (x10_1.length : Int) > 0
   rotate_left
   ·rw [if_neg c19] at H
    have c19b0 : decide (0 < (x10_1.length : Int)) = false := decide_eq_false c19
    have c19b1 : decide (0 < x10_1.length) = false := decide_eq_false (by omega)
    (try (have c19z0 := c19b0; simp only [hl9_1] at c19z0))
    (try (have c19z1 := c19b1; simp only [hl9_1] at c19z1))
    clear c19
    obtain rfl := Option.some.inj H
    obtain ⟨Ao67, co67, eo67, _⟩ := Kd.Q_slice HO_10.out
    subst eo67
    go_wp2
    go_ret
    exact ⟨_, by first | rfl | (simp [errW_none, errW_some] <;> rfl) | (simp [*, errW_none, errW_some] <;> rfl), by (with_reducible repeat (first | apply Kd.R_alloc | apply Kd.R_drewN | apply Kd.R_drew)); exact Kd.R_mono HO_9.out (fun _ hk => trivial), zb1 HB.out GE131.out⟩
   rw [if_pos c19] at H
   have c19b0 : decide (0 < (x10_1.length : Int)) = true := decide_eq_true c19
   have c19b1 : decide (0 < x10_1.length) = true := decide_eq_true (by omega)
   (try (have c19z0 := c19b0; simp only [hl9_1] at c19z0))
   (try (have c19z1 := c19b1; simp only [hl9_1] at c19z1))
   clear c19
   by_cases c20 : 0 < (x10_1.length : Int)
   rotate_left; ·rw [if_neg c20] at H; exact absurd H (by simp)
   rw [if_pos c20] at H
   have c20b0 : decide (0 < (x10_1.length : Int)) = true := decide_eq_true c20
   have c20b1 : decide (0 < x10_1.length) = true := decide_eq_true (by omega)
   (try (have c20z0 := c20b0; simp only [hl9_1] at c20z0))
   (try (have c20z1 := c20b1; simp only [hl9_1] at c20z1))
   clear c20
   have HC21 := Aside0.mk H
   clear H
   obtain ⟨Ao22, co22, eo22, _⟩ := Kd.Q_slice HO_10.out
   subst eo22
   have p142 : 0 ≤ (0 : Int) := (by omega)
   have q142 : 0 < (x10_1.length : Int) := oda
   obtain ⟨ad142, e142, hx142_0⟩ := Kd.at_int (Kd.Q_reads' HO_10.out).2.2 0 p142 q142
   cases e142
   have qi142 : (0 < x10_1.length) = True := eq_true (by omega)
   (try rw [show ((0 : Int)).toNat = 0 from rfl] at hx142_0)
   (try rw [Addr.add_zero'] at hx142_0)
   replace p142 := eq_true p142
   replace q142 := eq_true q142
   go_upto_region 7 with (fail)
   go_cut [44] (fun v44 wc => ∃ (kq : Nat) (x44_20 : Bool), v44 = .bool x44_20 ∧ Aside0 (reach_lengths_1.j1 kq l1 a2 x9_1 x10_1 (rd x10_1 0) x44_20 l0_0 l0_1 = some r) ∧ Aside0 (kq ≤ k1) ∧ Aside0 (Kd.R (Kd.int .i64) 3 wc w.heap.size (fun k_ => some k_ ≠ ((.slice (some ad142) x10_1.length co22) : Value).ownBlock) (.slice (some ⟨go8, 0, none⟩) x9_1.length co8) x9_1) ∧ Aside0 (Kd.Q (Kd.int .i64) 3 wc w.heap.size (fun k_ => some k_ ≠ ((.slice (some ⟨go8, 0, none⟩) x9_1.length co8) : Value).ownBlock) (.slice (some ad142) x10_1.length co22) x10_1) ∧ Aside0 (wc.heap[gb131]? = some (.cells #[(.slice A0_0 l0_0.length c0_0), (.slice A0_1 l0_1.length c0_1)] 25 (0, 0))) ∧ Aside0 (Below w.heap.size w wc))
   case first =>
    have H := HC21.out
    clear HC21
    by_cases c23 : (rd x10_1 0) = a2
    ·rw [if_pos c23] at H
     have c23b0 : ((rd x10_1 0) == a2) = true := beq_iff_eq.mpr c23
     have c23b1 : ((rd x10_1 0) != a2) = false := bne_eq_false_iff_eq.mpr c23
     clear c23
     (first | rw [c23b0] | (simp only [i64_w, i32_w]; rw [c23b0]) | skip)
     have H' := Aside0.mk H; clear H
     go_wp2
     go_meet
     case rel => exact ⟨_, (false), rs, H', ⟨by have := HK1.out; first | omega | exact Nat.le_refl _⟩, ⟨by (try simp only [hl9_1]); (with_reducible repeat (first | apply Kd.R_alloc | apply Kd.R_drewN | apply Kd.R_drew)); exact HO_9.out⟩, ⟨by (try simp only [hl9_1]); (with_reducible repeat (first | apply Kd.Q_alloc | apply Kd.Q_drewN | apply Kd.Q_drew)); exact HO_10.out⟩, ⟨by (try simp only [hl9_1]); (with_reducible repeat (first | refine blk_drewN ?_ _ | refine blk_drew ?_ | refine blk_alloc ?_ _)); exact BK131.out⟩, ⟨zb1 HB.out GE131.out⟩⟩
    rw [if_neg c23] at H
    have c23b0 : ((rd x10_1 0) == a2) = false := beq_eq_false_iff_ne.mpr c23
    have c23b1 : ((rd x10_1 0) != a2) = true := bne_iff_ne.mpr c23
    (first | rw [c23b0] | (simp only [i64_w, i32_w]; rw [c23b0]) | skip)
    by_cases c24 : 0 ≤ (rd x10_1 0)
    rotate_left; ·rw [if_neg c24] at H; exact absurd H (by simp)
    rw [if_pos c24] at H
    have c24b0 : decide (0 ≤ (rd x10_1 0)) = true := decide_eq_true c24
    clear c24
    by_cases c25 : (rd x10_1 0) < (l0_0.length : Int)
    rotate_left; ·rw [if_neg c25] at H; exact absurd H (by simp)
    rw [if_pos c25] at H
    have c25b0 : decide ((rd x10_1 0) < (l0_0.length : Int)) = true := decide_eq_true c25
    (try (have c25z0 := c25b0; simp only [hl9_1] at c25z0))
    clear c25
    have H' := Aside0.mk H; clear H
    have hcz26_0 : wr.cell? ⟨gb131, 0, none⟩ = some (.slice A0_0 l0_0.length c0_0) := (blk_cell BK131.out 0).trans rfl
    have hcz26_1 : wr.cell? ⟨gb131, 1, none⟩ = some (.slice A0_1 l0_1.length c0_1) := (blk_cell BK131.out 1).trans rfl
    have hfz26_0 := blk_frozen BK131.out 0
    have hfz26_1 := blk_frozen BK131.out 1
    have p143 : 0 ≤ ((rd x10_1 0) : Int) := oda
    have q143 : (rd x10_1 0) < (l0_0.length : Int) := oda
    obtain ⟨ad143, e143, hx143_0, hx143_1, hx143_2⟩ := at_T47 HR0_0.out (rd x10_1 0) p143 q143
    cases e143
    replace hx143_0 := zx HB.out hx143_0
    replace hx143_1 := zx HB.out hx143_1
    replace hx143_2 := zx HB.out hx143_2
    replace p143 := eq_true p143
    replace q143 := eq_true q143
    go_wp2
    go_meet
    case rel => exact ⟨_, ((((rd_T47 l0_0 (rd x10_1 0)).f1) != 1)), rs, H', ⟨by have := HK1.out; first | omega | exact Nat.le_refl _⟩, ⟨by (try simp only [hl9_1]); (with_reducible repeat (first | apply Kd.R_alloc | apply Kd.R_drewN | apply Kd.R_drew)); exact HO_9.out⟩, ⟨by (try simp only [hl9_1]); (with_reducible repeat (first | apply Kd.Q_alloc | apply Kd.Q_drewN | apply Kd.Q_drew)); exact HO_10.out⟩, ⟨by (try simp only [hl9_1]); (with_reducible repeat (first | refine blk_drewN ?_ _ | refine blk_drew ?_ | refine blk_alloc ?_ _)); exact BK131.out⟩, ⟨zb1 HB.out GE131.out⟩⟩
   case rest =>
    clear HC21
    obtain ⟨kq, x44_20, rfl, HA, HJ20, HO_9, HO_10, BK131, HB⟩ := hcut
    cases kq with
    | zero => exact absurd HA.out (by simp [reach_lengths_1.j1])
    | succ kj20 =>
     have H := HA.out
     clear HA
     simp only [reach_lengths_1.j1] at H
     by_cases c27 : x44_20 = true
     ·subst c27
      have H1 : (if 1 ≤ (x10_1.length : Int) then (reach_lengths_1.l0 kj20 l1 a2 x9_1 (x10_1.drop (1 : Int).toNat) l0_0 l0_1) else (none)) = some r := by rw [if_pos rfl] at H; exact H
      clear H; have H := H1; clear H1
      by_cases c28 : 1 ≤ (x10_1.length : Int)
      rotate_left; ·rw [if_neg c28] at H; exact absurd H (by simp)
      rw [if_pos c28] at H
      have c28b0 := eq_true c28
      have c28b1 : decide (1 ≤ (x10_1.length : Int)) = true := decide_eq_true c28
      clear c28
      obtain ⟨y144, hy144⟩ : ∃ y_ : List Int, y_ = (x10_1.drop (1 : Int).toNat) := ⟨_, rfl⟩
      replace H : (reach_lengths_1.l0 kj20 l1 a2 x9_1 y144 l0_0 l0_1) = some r := by first | (rw [hy144]; with_reducible exact H) | (have H2_ := (Option.bind_some _ _).symm.trans H; rw [hy144]; with_reducible exact H2_) | (have H2_ := (Option.bind_some _ _).symm.trans H; with_reducible exact H2_) | with_reducible exact H | (rw [hy144]; exact H) | exact H
      have Ny144 := Aside0.mk hy144
      clear hy144
      have H' := Aside0.mk H; clear H
      have q29 : (1 : Int) ≤ ((x10_1.length : Int) : Int) := oda
      obtain ⟨i029, hi029, _, hsz29, _⟩ := info_parts info3
      have hcut29 := cut_from (P := Try.prog) 26 3 .i64 Try.underlying26 hi029 1 hsz29 (some ad142) x10_1.length co22 1 (by omega) q29
      have hr29 := Kd.Q_drop (k := (1 : Int).toNat) HO_10.out (by omega)
      obtain ⟨A29, hA29⟩ : ∃ A1, A1 = (if co22 = (1 : Int).toNat then (some ad142) else ((some ad142) : Option Addr).map (·.add ((1 : Int).toNat * 1))) := ⟨_, rfl⟩
      obtain ⟨c29, hc29⟩ : ∃ c1, c1 = co22 - (1 : Int).toNat := ⟨_, rfl⟩
      have hy29 : y144.length = x10_1.length - (1 : Int).toNat := (by rw [Ny144.out, List.length_drop])
      rw [← Ny144.out] at hr29
      rw [← hy29, ← hA29, ← hc29] at hcut29
      replace hr29 : Kd.Q (Kd.int .i64) 3 wc w.heap.size (fun k_ => some k_ ≠ (.slice (some ⟨go8, 0, none⟩) x9_1.length co8 : Value).ownBlock) (.slice A29 y144.length c29) y144 := (by rw [hA29, hc29, hy29]; exact hr29)
      have HE29 : Aside0 ((Value.slice A29 y144.length c29).ownBlock = (.slice (some ad142) x10_1.length co22 : Value).ownBlock) := ⟨by rw [hA29]; split <;> (cases ((some ad142) : Option Addr) <;> rfl)⟩
      clear hy29 hi029 hsz29 HO_10 hA29 hc29
      have HO146 := Aside0.mk hr29
      clear hr29
      replace q29 := eq_true q29
      have n_ := Aside0.mk (Kd.R_mono (ok' := fun k_ => some k_ ≠ (.slice A29 y144.length c29 : Value).ownBlock) HO_9.out (fun k_ hk => (by rw [HE29.out]; exact hk)))
      clear HO_9
      have HO_9 := n_
      clear n_
      go_wp2
      (try simp only [← hl9_1])
      go_roundg kj20
      case measure => have := HK1.out; have := HJ20.out; omega
      case rel => exact ⟨(x9_1), (y144), H', ⟨by have := HK1.out; have := HJ20.out; omega⟩, ⟨by (try simp only [hl9_1]); (with_reducible repeat (first | apply Kd.R_alloc | apply Kd.R_drewN | apply Kd.R_drew)); exact HO_9.out⟩, ⟨by (try simp only [hl9_1]); (with_reducible repeat (first | apply Kd.Q_alloc | apply Kd.Q_drewN | apply Kd.Q_drew)); exact HO146.out⟩, ⟨by (try simp only [hl9_1]); (with_reducible repeat (first | refine blk_drewN ?_ _ | refine blk_drew ?_ | refine blk_alloc ?_ _)); exact BK131.out⟩, ⟨zb1 HB.out GE131.out⟩⟩
     replace c27 := Bool.eq_false_iff.mpr c27
     subst c27
     have H1 : (reach_lengths_1.l1 kj20 l1 a2 x9_1 x10_1 (rd x10_1 0) l0_1 (l0_1.length : Int) 0 l0_0 l0_1) = some r := by rw [if_neg (show ¬ (false = true) by decide)] at H; exact H
     clear H; have H := H1; clear H1
     have H' := Aside0.mk H; clear H
     have hcz30_0 : wc.cell? ⟨gb131, 0, none⟩ = some (.slice A0_0 l0_0.length c0_0) := (blk_cell BK131.out 0).trans rfl
     have hcz30_1 : wc.cell? ⟨gb131, 1, none⟩ = some (.slice A0_1 l0_1.length c0_1) := (blk_cell BK131.out 1).trans rfl
     have hfz30_0 := blk_frozen BK131.out 0
     have hfz30_1 := blk_frozen BK131.out 1
     go_wp2
     go_loopg [10, 48] kj20 (fun kq v10 v48 w' => ∃ (x9_3 : List Int) (x10_3 : List Int) (x48_3 : Int), v48 = .int .i64 x48_3 ∧ Aside0 (reach_lengths_1.l1 kq l1 a2 x9_3 x10_3 (rd x10_1 0) l0_1 (l0_1.length : Int) x48_3 l0_0 l0_1 = some r) ∧ Aside0 (kq ≤ kj20) ∧ Aside0 (Kd.R (Kd.int .i64) 3 w' w.heap.size (fun k_ => some k_ ≠ (v10 : Value).ownBlock) (.slice (some ⟨go8, 0, none⟩) x9_1.length co8) x9_3) ∧ Aside0 (Kd.Q (Kd.int .i64) 3 w' w.heap.size (fun k_ => some k_ ≠ ((.slice (some ⟨go8, 0, none⟩) x9_1.length co8) : Value).ownBlock) v10 x10_3) ∧ Aside0 (w'.heap[gb131]? = some (.cells #[(.slice A0_0 l0_0.length c0_0), (.slice A0_1 l0_1.length c0_1)] 25 (0, 0))) ∧ Aside0 (Below w.heap.size w w'))
     case atStart => exact ⟨(x9_1), (x10_1), (0), rs, H', ⟨Nat.le_refl _⟩, ⟨by (try simp only [hl9_1]); (with_reducible repeat (first | apply Kd.R_alloc | apply Kd.R_drewN | apply Kd.R_drew)); exact HO_9.out⟩, ⟨by (try simp only [hl9_1]); (with_reducible repeat (first | apply Kd.Q_alloc | apply Kd.Q_drewN | apply Kd.Q_drew)); exact HO_10.out⟩, ⟨by (try simp only [hl9_1]); (with_reducible repeat (first | refine blk_drewN ?_ _ | refine blk_drew ?_ | refine blk_alloc ?_ _)); exact BK131.out⟩, ⟨zb1 HB.out GE131.out⟩⟩
     case round =>
      clear H'
      obtain ⟨x9_3, x10_3, x48_3, rfl, HA, HK3, HO_9, HO_10, BK131, HB⟩ := hrel
      have hl9_3 := (Kd.R_reads' HO_9.out).1
      rw [hl9_3] at HO_9
      (try simp only [hl9_3])
      (try simp only [hl9_3] at BK131)
      (try simp only [hl9_3] at HO_10)
      cases gk with
      | zero => exact absurd HA.out (by simp [reach_lengths_1.l1])
      | succ k3 =>
       have H := HA.out
       clear HA
       simp only [reach_lengths_1.l1] at H
       by_cases c31 : x48_3 < (l0_1.length : Int)
       rotate_left
       ·rw [if_neg c31] at H
        have c31b0 : decide (x48_3 < (l0_1.length : Int)) = false := decide_eq_false c31
        (try (have c31z0 := c31b0; simp only [hl9_1, hl9_3] at c31z0))
        clear c31
        by_cases c64 : 1 ≤ (x10_3.length : Int)
        rotate_left; ·rw [if_neg c64] at H; exact absurd H (by simp)
        rw [if_pos c64] at H
        have c64b0 := eq_true c64
        have c64b1 : decide (1 ≤ (x10_3.length : Int)) = true := decide_eq_true c64
        clear c64
        obtain ⟨y156, hy156⟩ : ∃ y_ : List Int, y_ = (x10_3.drop (1 : Int).toNat) := ⟨_, rfl⟩
        replace H : (reach_lengths_1.l0 k3 l1 a2 x9_3 y156 l0_0 l0_1) = some r := by first | (rw [hy156]; with_reducible exact H) | (have H2_ := (Option.bind_some _ _).symm.trans H; rw [hy156]; with_reducible exact H2_) | (have H2_ := (Option.bind_some _ _).symm.trans H; with_reducible exact H2_) | with_reducible exact H | (rw [hy156]; exact H) | exact H
        have Ny156 := Aside0.mk hy156
        clear hy156
        have H' := Aside0.mk H; clear H
        obtain ⟨Ao65, co65, eo65, _⟩ := Kd.Q_slice HO_10.out
        subst eo65
        have q66 : (1 : Int) ≤ ((x10_3.length : Int) : Int) := oda
        obtain ⟨i066, hi066, _, hsz66, _⟩ := info_parts info3
        have hcut66 := cut_from (P := Try.prog) 26 3 .i64 Try.underlying26 hi066 1 hsz66 Ao65 x10_3.length co65 1 (by omega) q66
        have hr66 := Kd.Q_drop (k := (1 : Int).toNat) HO_10.out (by omega)
        obtain ⟨A66, hA66⟩ : ∃ A1, A1 = (if co65 = (1 : Int).toNat then Ao65 else (Ao65 : Option Addr).map (·.add ((1 : Int).toNat * 1))) := ⟨_, rfl⟩
        obtain ⟨c66, hc66⟩ : ∃ c1, c1 = co65 - (1 : Int).toNat := ⟨_, rfl⟩
        have hy66 : y156.length = x10_3.length - (1 : Int).toNat := (by rw [Ny156.out, List.length_drop])
        rw [← Ny156.out] at hr66
        rw [← hy66, ← hA66, ← hc66] at hcut66
        replace hr66 : Kd.Q (Kd.int .i64) 3 wr w.heap.size (fun k_ => some k_ ≠ (.slice (some ⟨go8, 0, none⟩) x9_3.length co8 : Value).ownBlock) (.slice A66 y156.length c66) y156 := (by rw [hA66, hc66, hy66]; exact hr66)
        have HE66 : Aside0 ((Value.slice A66 y156.length c66).ownBlock = (.slice Ao65 x10_3.length co65 : Value).ownBlock) := ⟨by rw [hA66]; split <;> (cases (Ao65 : Option Addr) <;> rfl)⟩
        clear hy66 hi066 hsz66 HO_10 hA66 hc66
        have HO158 := Aside0.mk hr66
        clear hr66
        replace q66 := eq_true q66
        have n_ := Aside0.mk (Kd.R_mono (ok' := fun k_ => some k_ ≠ (.slice A66 y156.length c66 : Value).ownBlock) HO_9.out (fun k_ hk => (by rw [HE66.out]; exact hk)))
        clear HO_9
        have HO_9 := n_
        clear n_
        go_wp2
        (try simp only [← hl9_1, ← hl9_3])
        go_roundg k3
        case measure => have := HK1.out; have := HJ20.out; have := HK3.out; omega
        case rel => exact ⟨(x9_3), (y156), H', ⟨by have := HK1.out; have := HJ20.out; have := HK3.out; omega⟩, ⟨by (try simp only [hl9_1]); (try simp only [hl9_3]); (with_reducible repeat (first | apply Kd.R_alloc | apply Kd.R_drewN | apply Kd.R_drew)); exact HO_9.out⟩, ⟨by (try simp only [hl9_1]); (try simp only [hl9_3]); (with_reducible repeat (first | apply Kd.Q_alloc | apply Kd.Q_drewN | apply Kd.Q_drew)); exact HO158.out⟩, ⟨by (try simp only [hl9_1]); (try simp only [hl9_3]); (with_reducible repeat (first | refine blk_drewN ?_ _ | refine blk_drew ?_ | refine blk_alloc ?_ _)); exact BK131.out⟩, ⟨zb1 HB.out GE131.out⟩⟩
       rw [if_pos c31] at H
       have c31b0 : decide (x48_3 < (l0_1.length : Int)) = true := decide_eq_true c31
       (try (have c31z0 := c31b0; simp only [hl9_1, hl9_3] at c31z0))
       clear c31
       by_cases c32 : 0 ≤ x48_3
       rotate_left; ·rw [if_neg c32] at H; exact absurd H (by simp)
       rw [if_pos c32] at H
       have c32b0 : decide (0 ≤ x48_3) = true := decide_eq_true c32
       clear c32
       by_cases c33 : x48_3 < (l0_1.length : Int)
       rotate_left; ·rw [if_neg c33] at H; exact absurd H (by simp)
       rw [if_pos c33] at H
       have c33b0 : decide (x48_3 < (l0_1.length : Int)) = true := decide_eq_true c33
       (try (have c33z0 := c33b0; simp only [hl9_1, hl9_3] at c33z0))
       clear c33
       obtain ⟨ji34, hji34⟩ : ∃ j_ : Int, (wrap64 (x48_3 + 1)) = j_ := ⟨_, rfl⟩
       replace H : (if 0 ≤ (ji34) then (if (ji34) < (l1.length : Int) then (if (rdOf false l1 (ji34) = true) then (reach_lengths_1.l1 k3 l1 a2 x9_3 x10_3 (rd x10_1 0) l0_1 (l0_1.length : Int) ji34 l0_0 l0_1) else (if ((rd_T38 l0_1 x48_3).f1) = (rd x10_1 0) then (if 0 ≤ ((rd_T38 l0_1 x48_3).f0) then (if ((rd_T38 l0_1 x48_3).f0) < (x9_3.length : Int) then (if (rd x9_3 ((rd_T38 l0_1 x48_3).f0)) < 0 then (if 0 ≤ (rd x10_1 0) then (if (rd x10_1 0) < (x9_3.length : Int) then (if x10_3.length < 17592186044416 then (reach_lengths_1.l1 k3 l1 a2 (x9_3.set (((rd_T38 l0_1 x48_3).f0) : Int).toNat (wrap64 ((rd x9_3 (rd x10_1 0)) + 1))) (x10_3 ++ [(rd_T38 l0_1 x48_3).f0]) (rd x10_1 0) l0_1 (l0_1.length : Int) ji34 l0_0 l0_1) else (none)) else (none)) else (none)) else (reach_lengths_1.l1 k3 l1 a2 x9_3 x10_3 (rd x10_1 0) l0_1 (l0_1.length : Int) ji34 l0_0 l0_1)) else (none)) else (none)) else (reach_lengths_1.l1 k3 l1 a2 x9_3 x10_3 (rd x10_1 0) l0_1 (l0_1.length : Int) ji34 l0_0 l0_1))) else (none)) else (none)) = some r := by first | (rw [hji34] at H; exact H) | (simp only [hji34] at H ⊢; exact H)
       have hji34w : (IntKind.i64.wrap (x48_3 + 1)) = ji34 := (i64_w _).trans hji34
       by_cases c35 : 0 ≤ (ji34)
       rotate_left; ·rw [if_neg c35] at H; exact absurd H (by simp)
       rw [if_pos c35] at H
       have c35b0 : decide (0 ≤ (ji34)) = true := decide_eq_true c35
       clear c35
       by_cases c36 : (ji34) < (l1.length : Int)
       rotate_left; ·rw [if_neg c36] at H; exact absurd H (by simp)
       rw [if_pos c36] at H
       have c36b0 : decide ((ji34) < (l1.length : Int)) = true := decide_eq_true c36
       (try (have c36z0 := c36b0; simp only [hl9_1, hl9_3] at c36z0))
       clear c36
       obtain ⟨bq37, hbq37⟩ : ∃ b_ : Bool, b_ = (rdOf false l1 (ji34)) := ⟨_, rfl⟩
       replace H : (if (bq37 = true) then (reach_lengths_1.l1 k3 l1 a2 x9_3 x10_3 (rd x10_1 0) l0_1 (l0_1.length : Int) ji34 l0_0 l0_1) else (if ((rd_T38 l0_1 x48_3).f1) = (rd x10_1 0) then (if 0 ≤ ((rd_T38 l0_1 x48_3).f0) then (if ((rd_T38 l0_1 x48_3).f0) < (x9_3.length : Int) then (if (rd x9_3 ((rd_T38 l0_1 x48_3).f0)) < 0 then (if 0 ≤ (rd x10_1 0) then (if (rd x10_1 0) < (x9_3.length : Int) then (if x10_3.length < 17592186044416 then (reach_lengths_1.l1 k3 l1 a2 (x9_3.set (((rd_T38 l0_1 x48_3).f0) : Int).toNat (wrap64 ((rd x9_3 (rd x10_1 0)) + 1))) (x10_3 ++ [(rd_T38 l0_1 x48_3).f0]) (rd x10_1 0) l0_1 (l0_1.length : Int) ji34 l0_0 l0_1) else (none)) else (none)) else (none)) else (reach_lengths_1.l1 k3 l1 a2 x9_3 x10_3 (rd x10_1 0) l0_1 (l0_1.length : Int) ji34 l0_0 l0_1)) else (none)) else (none)) else (reach_lengths_1.l1 k3 l1 a2 x9_3 x10_3 (rd x10_1 0) l0_1 (l0_1.length : Int) ji34 l0_0 l0_1))) = some r := by rw [← hbq37] at H; exact H
       have Nbq37 := Aside0.mk hbq37
       clear hbq37
       by_cases c38 : (bq37 = true)
       ·subst c38
        have H1 : (reach_lengths_1.l1 k3 l1 a2 x9_3 x10_3 (rd x10_1 0) l0_1 (l0_1.length : Int) ji34 l0_0 l0_1) = some r := by rw [if_pos rfl] at H; exact H
        clear H; have H := H1; clear H1
        have H' := Aside0.mk H; clear H
        have p147 : 0 ≤ (x48_3 : Int) := oda
        have q147 : x48_3 < (l0_1.length : Int) := oda
        obtain ⟨ad147, e147, hx147_0, hx147_1⟩ := at_T38 HR0_1.out x48_3 p147 q147
        cases e147
        replace hx147_0 := zx HB.out hx147_0
        replace hx147_1 := zx HB.out hx147_1
        replace p147 := eq_true p147
        replace q147 := eq_true q147
        go_wp2_with (first | ((with_reducible refine gate_dst (N := 13) rfl ?_); refine box_event ?hg (N := 13) ?hd (cs := #[.int .i64 0, .int .i64 0]) (t := 38) ?hr ?_; (case hd => rfl); (case hg => rfl); (case hr => first | (go_simp; done) | (go_simp; rfl)); intro gb148 hg w39 hbox hb; replace HO_9 := Aside0.mk (Kd.R_below (zr HO_9.out) hb); replace HO_10 := Aside0.mk (Kd.Q_below (by (with_reducible repeat (first | apply Kd.Q_alloc | apply Kd.Q_drewN | apply Kd.Q_drew)); exact HO_10.out) hb); have BK148 := Aside0.mk (hbox); have GW148 := Aside0.mk ((by rw [hg]; exact (below_size (zb1 HB.out GE131.out)) : w.heap.size ≤ gb148)); have GE148 := Aside0.mk ((by rw [hg]; exact (below_size (zb1 HB.out GE131.out)) : w.heap.size ≤ gb148)); replace HB := Aside0.mk (below_step (zb1 HB.out GE131.out) hb); have NB131_148 := Aside0.mk ((by rw [hg]; exact Nat.ne_of_lt (blk_lt (g := gb131) (o := .cells #[.slice A0_0 l0_0.length c0_0, .slice (some ad147) l0_1.length c0_1] 25 (0, 0)) (zk BK131.out)) : gb131 ≠ gb148)); have NB148_131 := Aside0.mk ((by rw [hg]; exact Nat.ne_of_gt (blk_lt (g := gb131) (o := .cells #[.slice A0_0 l0_0.length c0_0, .slice (some ad147) l0_1.length c0_1] 25 (0, 0)) (zk BK131.out)) : gb148 ≠ gb131)); replace BK131 := Aside0.mk (blk_below (g := gb131) (o := .cells #[.slice A0_0 l0_0.length c0_0, .slice (some ad147) l0_1.length c0_1] 25 (0, 0)) (zk BK131.out) hb); clear hb hbox hg; have hnb40 := NB148_131.out; have hnc40 := NB131_148.out; have hcz41_0 : w39.cell? ⟨gb148, 0, none⟩ = some (.int .i64 0) := (blk_cell BK148.out 0).trans rfl; have hcz41_1 : w39.cell? ⟨gb148, 1, none⟩ = some (.int .i64 0) := (blk_cell BK148.out 1).trans rfl; have hfz41_0 := blk_frozen BK148.out 0; have hfz41_1 := blk_frozen BK148.out 1; have p149 : 0 ≤ ((ji34) : Int) := oda; have q149 : (ji34) < (l1.length : Int) := oda; obtain ⟨ad149, e149, hx149_0⟩ := Kd.at_bool HR1.out (ji34) p149 q149; (try rw [← Nbq37.out] at hx149_0); cases e149; have hn149_0 : (ad149 : Addr).block ≠ gb148 := Nat.ne_of_lt (Nat.lt_of_lt_of_le (by have := World.block_lt_of_cell? _ _ hx149_0; first | rwa [add_block] at this | exact this) GW148.out); have hn149_1 : (ad149 : Addr).block ≠ gb148 := Nat.ne_of_lt (Nat.lt_of_lt_of_le (by have := World.block_lt_of_cell? _ _ hx149_0; first | rwa [add_block] at this | exact this) GW148.out); replace hx149_0 := zx HB.out hx149_0; replace hx149_0 := (cell_far (p := ⟨gb148, 0, none⟩) (by first | (rw [add_block]; exact hn149_0) | (show (Addr.add _ _).block ≠ _; rw [add_block]; exact hn149_0) | exact hn149_0) (.int .i64 ((rd_T38 l0_1 x48_3).f0))).trans hx149_0; replace hx149_0 := (cell_far (p := ⟨gb148, 1, none⟩) (by first | (rw [add_block]; exact hn149_1) | (show (Addr.add _ _).block ≠ _; rw [add_block]; exact hn149_1) | exact hn149_1) (.int .i64 ((rd_T38 l0_1 x48_3).f1))).trans hx149_0; clear hn149_0; clear hn149_1; replace p149 := eq_true p149; replace q149 := eq_true q149))
        (try simp only [← hl9_3])
        go_roundg k3
        case measure => have := HK1.out; have := HJ20.out; have := HK3.out; omega
        case rel => exact ⟨(x9_3), (x10_3), (ji34), (by first | rfl | (simp; done) | (simp only [← hji34] <;> (first | rfl | (simp; done))) | (simp [*]; done)), H', ⟨by have := HK1.out; have := HJ20.out; have := HK3.out; omega⟩, ⟨by (try simp only [hl9_1]); (try simp only [hl9_3]); (with_reducible repeat (first | apply Kd.R_alloc | apply Kd.R_drewN | apply Kd.R_drew)); exact Kd.R_mono (Kd.R_far (p := ⟨gb148, 1, none⟩) (Kd.R_far (p := ⟨gb148, 0, none⟩) (Kd.R_types HO_9.out BK148.out (by decide)) (fun _ hk => hk.2) (.int .i64 ((rd_T38 l0_1 x48_3).f0))) (fun _ hk => hk.2) (.int .i64 ((rd_T38 l0_1 x48_3).f1))) (fun _ hk => hk.1)⟩, ⟨by (try simp only [hl9_1]); (try simp only [hl9_3]); (with_reducible repeat (first | apply Kd.Q_alloc | apply Kd.Q_drewN | apply Kd.Q_drew)); exact Kd.Q_mono (Kd.Q_far (p := ⟨gb148, 1, none⟩) (Kd.Q_far (p := ⟨gb148, 0, none⟩) (Kd.Q_types HO_10.out BK148.out (by decide)) (fun _ hk => hk.2) (.int .i64 ((rd_T38 l0_1 x48_3).f0))) (fun _ hk => hk.2) (.int .i64 ((rd_T38 l0_1 x48_3).f1))) (fun _ hk => hk.1)⟩, ⟨by (try simp only [hl9_1]); (try simp only [hl9_3]); (with_reducible repeat (first | refine blk_drewN ?_ _ | refine blk_drew ?_ | refine blk_alloc ?_ _)); refine blk_far ?_ NB131_148.out _; (with_reducible repeat (first | refine blk_drewN ?_ _ | refine blk_drew ?_ | refine blk_alloc ?_ _)); refine blk_far ?_ NB131_148.out _; (with_reducible repeat (first | refine blk_drewN ?_ _ | refine blk_drew ?_ | refine blk_alloc ?_ _)); exact BK131.out⟩, ⟨zb2 HB.out GE131.out GE148.out⟩⟩
       replace c38 := Bool.eq_false_iff.mpr c38
       subst c38
       have H1 : (if ((rd_T38 l0_1 x48_3).f1) = (rd x10_1 0) then (if 0 ≤ ((rd_T38 l0_1 x48_3).f0) then (if ((rd_T38 l0_1 x48_3).f0) < (x9_3.length : Int) then (if (rd x9_3 ((rd_T38 l0_1 x48_3).f0)) < 0 then (if 0 ≤ (rd x10_1 0) then (if (rd x10_1 0) < (x9_3.length : Int) then (if x10_3.length < 17592186044416 then (reach_lengths_1.l1 k3 l1 a2 (x9_3.set (((rd_T38 l0_1 x48_3).f0) : Int).toNat (wrap64 ((rd x9_3 (rd x10_1 0)) + 1))) (x10_3 ++ [(rd_T38 l0_1 x48_3).f0]) (rd x10_1 0) l0_1 (l0_1.length : Int) ji34 l0_0 l0_1) else (none)) else (none)) else (none)) else (reach_lengths_1.l1 k3 l1 a2 x9_3 x10_3 (rd x10_1 0) l0_1 (l0_1.length : Int) ji34 l0_0 l0_1)) else (none)) else (none)) else (reach_lengths_1.l1 k3 l1 a2 x9_3 x10_3 (rd x10_1 0) l0_1 (l0_1.length : Int) ji34 l0_0 l0_1)) = some r := by rw [if_neg (show ¬ (false = true) by decide)] at H; exact H
       clear H; have H := H1; clear H1
       by_cases c42 : ((rd_T38 l0_1 x48_3).f1) = (rd x10_1 0)
       rotate_left
       ·rw [if_neg c42] at H
        have c42b0 : (((rd_T38 l0_1 x48_3).f1) == (rd x10_1 0)) = false := beq_eq_false_iff_ne.mpr c42
        have c42b1 : (((rd_T38 l0_1 x48_3).f1) != (rd x10_1 0)) = true := bne_iff_ne.mpr c42
        have H' := Aside0.mk H; clear H
        have p147 : 0 ≤ (x48_3 : Int) := oda
        have q147 : x48_3 < (l0_1.length : Int) := oda
        obtain ⟨ad147, e147, hx147_0, hx147_1⟩ := at_T38 HR0_1.out x48_3 p147 q147
        cases e147
        replace hx147_0 := zx HB.out hx147_0
        replace hx147_1 := zx HB.out hx147_1
        replace p147 := eq_true p147
        replace q147 := eq_true q147
        go_wp2_with (first | ((with_reducible refine gate_dst (N := 13) rfl ?_); refine box_event ?hg (N := 13) ?hd (cs := #[.int .i64 0, .int .i64 0]) (t := 38) ?hr ?_; (case hd => rfl); (case hg => rfl); (case hr => first | (go_simp; done) | (go_simp; rfl)); intro gb148 hg w61 hbox hb; replace HO_9 := Aside0.mk (Kd.R_below (zr HO_9.out) hb); replace HO_10 := Aside0.mk (Kd.Q_below (by (with_reducible repeat (first | apply Kd.Q_alloc | apply Kd.Q_drewN | apply Kd.Q_drew)); exact HO_10.out) hb); have BK148 := Aside0.mk (hbox); have GW148 := Aside0.mk ((by rw [hg]; exact (below_size (zb1 HB.out GE131.out)) : w.heap.size ≤ gb148)); have GE148 := Aside0.mk ((by rw [hg]; exact (below_size (zb1 HB.out GE131.out)) : w.heap.size ≤ gb148)); replace HB := Aside0.mk (below_step (zb1 HB.out GE131.out) hb); have NB131_148 := Aside0.mk ((by rw [hg]; exact Nat.ne_of_lt (blk_lt (g := gb131) (o := .cells #[.slice A0_0 l0_0.length c0_0, .slice (some ad147) l0_1.length c0_1] 25 (0, 0)) (zk BK131.out)) : gb131 ≠ gb148)); have NB148_131 := Aside0.mk ((by rw [hg]; exact Nat.ne_of_gt (blk_lt (g := gb131) (o := .cells #[.slice A0_0 l0_0.length c0_0, .slice (some ad147) l0_1.length c0_1] 25 (0, 0)) (zk BK131.out)) : gb148 ≠ gb131)); replace BK131 := Aside0.mk (blk_below (g := gb131) (o := .cells #[.slice A0_0 l0_0.length c0_0, .slice (some ad147) l0_1.length c0_1] 25 (0, 0)) (zk BK131.out) hb); clear hb hbox hg; have hnb62 := NB148_131.out; have hnc62 := NB131_148.out; have hcz63_0 : w61.cell? ⟨gb148, 0, none⟩ = some (.int .i64 0) := (blk_cell BK148.out 0).trans rfl; have hcz63_1 : w61.cell? ⟨gb148, 1, none⟩ = some (.int .i64 0) := (blk_cell BK148.out 1).trans rfl; have hfz63_0 := blk_frozen BK148.out 0; have hfz63_1 := blk_frozen BK148.out 1; have p149 : 0 ≤ ((ji34) : Int) := oda; have q149 : (ji34) < (l1.length : Int) := oda; obtain ⟨ad149, e149, hx149_0⟩ := Kd.at_bool HR1.out (ji34) p149 q149; (try rw [← Nbq37.out] at hx149_0); cases e149; have hn149_0 : (ad149 : Addr).block ≠ gb148 := Nat.ne_of_lt (Nat.lt_of_lt_of_le (by have := World.block_lt_of_cell? _ _ hx149_0; first | rwa [add_block] at this | exact this) GW148.out); have hn149_1 : (ad149 : Addr).block ≠ gb148 := Nat.ne_of_lt (Nat.lt_of_lt_of_le (by have := World.block_lt_of_cell? _ _ hx149_0; first | rwa [add_block] at this | exact this) GW148.out); replace hx149_0 := zx HB.out hx149_0; replace hx149_0 := (cell_far (p := ⟨gb148, 0, none⟩) (by first | (rw [add_block]; exact hn149_0) | (show (Addr.add _ _).block ≠ _; rw [add_block]; exact hn149_0) | exact hn149_0) (.int .i64 ((rd_T38 l0_1 x48_3).f0))).trans hx149_0; replace hx149_0 := (cell_far (p := ⟨gb148, 1, none⟩) (by first | (rw [add_block]; exact hn149_1) | (show (Addr.add _ _).block ≠ _; rw [add_block]; exact hn149_1) | exact hn149_1) (.int .i64 ((rd_T38 l0_1 x48_3).f1))).trans hx149_0; clear hn149_0; clear hn149_1; replace p149 := eq_true p149; replace q149 := eq_true q149))
        (try simp only [← hl9_3])
        go_roundg k3
        case measure => have := HK1.out; have := HJ20.out; have := HK3.out; omega
        case rel => exact ⟨(x9_3), (x10_3), (ji34), (by first | rfl | (simp; done) | (simp only [← hji34] <;> (first | rfl | (simp; done))) | (simp [*]; done)), H', ⟨by have := HK1.out; have := HJ20.out; have := HK3.out; omega⟩, ⟨by (try simp only [hl9_1]); (try simp only [hl9_3]); (with_reducible repeat (first | apply Kd.R_alloc | apply Kd.R_drewN | apply Kd.R_drew)); exact Kd.R_mono (Kd.R_far (p := ⟨gb148, 1, none⟩) (Kd.R_far (p := ⟨gb148, 0, none⟩) (Kd.R_types HO_9.out BK148.out (by decide)) (fun _ hk => hk.2) (.int .i64 ((rd_T38 l0_1 x48_3).f0))) (fun _ hk => hk.2) (.int .i64 ((rd_T38 l0_1 x48_3).f1))) (fun _ hk => hk.1)⟩, ⟨by (try simp only [hl9_1]); (try simp only [hl9_3]); (with_reducible repeat (first | apply Kd.Q_alloc | apply Kd.Q_drewN | apply Kd.Q_drew)); exact Kd.Q_mono (Kd.Q_far (p := ⟨gb148, 1, none⟩) (Kd.Q_far (p := ⟨gb148, 0, none⟩) (Kd.Q_types HO_10.out BK148.out (by decide)) (fun _ hk => hk.2) (.int .i64 ((rd_T38 l0_1 x48_3).f0))) (fun _ hk => hk.2) (.int .i64 ((rd_T38 l0_1 x48_3).f1))) (fun _ hk => hk.1)⟩, ⟨by (try simp only [hl9_1]); (try simp only [hl9_3]); (with_reducible repeat (first | refine blk_drewN ?_ _ | refine blk_drew ?_ | refine blk_alloc ?_ _)); refine blk_far ?_ NB131_148.out _; (with_reducible repeat (first | refine blk_drewN ?_ _ | refine blk_drew ?_ | refine blk_alloc ?_ _)); refine blk_far ?_ NB131_148.out _; (with_reducible repeat (first | refine blk_drewN ?_ _ | refine blk_drew ?_ | refine blk_alloc ?_ _)); exact BK131.out⟩, ⟨zb2 HB.out GE131.out GE148.out⟩⟩
       rw [if_pos c42] at H
       have c42b0 : (((rd_T38 l0_1 x48_3).f1) == (rd x10_1 0)) = true := beq_iff_eq.mpr c42
       have c42b1 : (((rd_T38 l0_1 x48_3).f1) != (rd x10_1 0)) = false := bne_eq_false_iff_eq.mpr c42
       clear c42
       by_cases c43 : 0 ≤ ((rd_T38 l0_1 x48_3).f0)
       rotate_left; ·rw [if_neg c43] at H; exact absurd H (by simp)
       rw [if_pos c43] at H
       have c43b0 : decide (0 ≤ ((rd_T38 l0_1 x48_3).f0)) = true := decide_eq_true c43
       clear c43
       by_cases c44 : ((rd_T38 l0_1 x48_3).f0) < (x9_3.length : Int)
       rotate_left; ·rw [if_neg c44] at H; exact absurd H (by simp)
       rw [if_pos c44] at H
       have c44b0 : decide (((rd_T38 l0_1 x48_3).f0) < (x9_3.length : Int)) = true := decide_eq_true c44
       (try (have c44z0 := c44b0; simp only [hl9_1, hl9_3] at c44z0))
       clear c44
       by_cases c45 : (rd x9_3 ((rd_T38 l0_1 x48_3).f0)) < 0
       rotate_left
       ·rw [if_neg c45] at H
        have c45b0 : decide ((rd x9_3 ((rd_T38 l0_1 x48_3).f0)) < 0) = false := decide_eq_false c45
        clear c45
        have H' := Aside0.mk H; clear H
        have p147 : 0 ≤ (x48_3 : Int) := oda
        have q147 : x48_3 < (l0_1.length : Int) := oda
        obtain ⟨ad147, e147, hx147_0, hx147_1⟩ := at_T38 HR0_1.out x48_3 p147 q147
        cases e147
        replace hx147_0 := zx HB.out hx147_0
        replace hx147_1 := zx HB.out hx147_1
        replace p147 := eq_true p147
        replace q147 := eq_true q147
        go_wp2_with (first | ((with_reducible refine gate_dst (N := 13) rfl ?_); refine box_event ?hg (N := 13) ?hd (cs := #[.int .i64 0, .int .i64 0]) (t := 38) ?hr ?_; (case hd => rfl); (case hg => rfl); (case hr => first | (go_simp; done) | (go_simp; rfl)); intro gb148 hg w58 hbox hb; replace HO_9 := Aside0.mk (Kd.R_below (zr HO_9.out) hb); replace HO_10 := Aside0.mk (Kd.Q_below (by (with_reducible repeat (first | apply Kd.Q_alloc | apply Kd.Q_drewN | apply Kd.Q_drew)); exact HO_10.out) hb); have BK148 := Aside0.mk (hbox); have GW148 := Aside0.mk ((by rw [hg]; exact (below_size (zb1 HB.out GE131.out)) : w.heap.size ≤ gb148)); have GE148 := Aside0.mk ((by rw [hg]; exact (below_size (zb1 HB.out GE131.out)) : w.heap.size ≤ gb148)); replace HB := Aside0.mk (below_step (zb1 HB.out GE131.out) hb); have NB131_148 := Aside0.mk ((by rw [hg]; exact Nat.ne_of_lt (blk_lt (g := gb131) (o := .cells #[.slice A0_0 l0_0.length c0_0, .slice (some ad147) l0_1.length c0_1] 25 (0, 0)) (zk BK131.out)) : gb131 ≠ gb148)); have NB148_131 := Aside0.mk ((by rw [hg]; exact Nat.ne_of_gt (blk_lt (g := gb131) (o := .cells #[.slice A0_0 l0_0.length c0_0, .slice (some ad147) l0_1.length c0_1] 25 (0, 0)) (zk BK131.out)) : gb148 ≠ gb131)); replace BK131 := Aside0.mk (blk_below (g := gb131) (o := .cells #[.slice A0_0 l0_0.length c0_0, .slice (some ad147) l0_1.length c0_1] 25 (0, 0)) (zk BK131.out) hb); clear hb hbox hg; have hnb59 := NB148_131.out; have hnc59 := NB131_148.out; have hcz60_0 : w58.cell? ⟨gb148, 0, none⟩ = some (.int .i64 0) := (blk_cell BK148.out 0).trans rfl; have hcz60_1 : w58.cell? ⟨gb148, 1, none⟩ = some (.int .i64 0) := (blk_cell BK148.out 1).trans rfl; have hfz60_0 := blk_frozen BK148.out 0; have hfz60_1 := blk_frozen BK148.out 1; have p149 : 0 ≤ ((ji34) : Int) := oda; have q149 : (ji34) < (l1.length : Int) := oda; obtain ⟨ad149, e149, hx149_0⟩ := Kd.at_bool HR1.out (ji34) p149 q149; (try rw [← Nbq37.out] at hx149_0); cases e149; have hn149_0 : (ad149 : Addr).block ≠ gb148 := Nat.ne_of_lt (Nat.lt_of_lt_of_le (by have := World.block_lt_of_cell? _ _ hx149_0; first | rwa [add_block] at this | exact this) GW148.out); have hn149_1 : (ad149 : Addr).block ≠ gb148 := Nat.ne_of_lt (Nat.lt_of_lt_of_le (by have := World.block_lt_of_cell? _ _ hx149_0; first | rwa [add_block] at this | exact this) GW148.out); replace hx149_0 := zx HB.out hx149_0; replace hx149_0 := (cell_far (p := ⟨gb148, 0, none⟩) (by first | (rw [add_block]; exact hn149_0) | (show (Addr.add _ _).block ≠ _; rw [add_block]; exact hn149_0) | exact hn149_0) (.int .i64 ((rd_T38 l0_1 x48_3).f0))).trans hx149_0; replace hx149_0 := (cell_far (p := ⟨gb148, 1, none⟩) (by first | (rw [add_block]; exact hn149_1) | (show (Addr.add _ _).block ≠ _; rw [add_block]; exact hn149_1) | exact hn149_1) (.int .i64 ((rd_T38 l0_1 x48_3).f1))).trans hx149_0; clear hn149_0; clear hn149_1; replace p149 := eq_true p149; replace q149 := eq_true q149; have p150 : 0 ≤ (((rd_T38 l0_1 x48_3).f0) : Int) := oda; have q150 : ((rd_T38 l0_1 x48_3).f0) < (x9_3.length : Int) := oda; obtain ⟨ad150, e150, hx150_0⟩ := Kd.at_int (Kd.R_reads' HO_9.out).2.2 ((rd_T38 l0_1 x48_3).f0) p150 q150; obtain rfl : (⟨go8, 0, none⟩ : Addr) = ad150 := (by injection e150); (first | simp only [add_plain] at hx150_0 | simp only [add_at] at hx150_0 | simp only [Addr.add, Nat.zero_add] at hx150_0 | skip); have hn150_0 : (⟨go8, 0, none⟩ : Addr).block ≠ gb148 := Kd.own_blk (Kd.R_ne HO_9.out BK148.out (by decide)); have hn150_1 : (⟨go8, 0, none⟩ : Addr).block ≠ gb148 := Kd.own_blk (Kd.R_ne HO_9.out BK148.out (by decide)); replace hx150_0 := (cell_far (p := ⟨gb148, 0, none⟩) (by first | (rw [add_block]; exact hn150_0) | (show (Addr.add _ _).block ≠ _; rw [add_block]; exact hn150_0) | exact hn150_0) (.int .i64 ((rd_T38 l0_1 x48_3).f0))).trans hx150_0; replace hx150_0 := (cell_far (p := ⟨gb148, 1, none⟩) (by first | (rw [add_block]; exact hn150_1) | (show (Addr.add _ _).block ≠ _; rw [add_block]; exact hn150_1) | exact hn150_1) (.int .i64 ((rd_T38 l0_1 x48_3).f1))).trans hx150_0; clear hn150_0; clear hn150_1; replace p150 := eq_true p150; replace q150 := eq_true q150))
        (try simp only [← hl9_3])
        go_roundg k3
        case measure => have := HK1.out; have := HJ20.out; have := HK3.out; omega
        case rel => exact ⟨(x9_3), (x10_3), (ji34), (by first | rfl | (simp; done) | (simp only [← hji34] <;> (first | rfl | (simp; done))) | (simp [*]; done)), H', ⟨by have := HK1.out; have := HJ20.out; have := HK3.out; omega⟩, ⟨by (try simp only [hl9_1]); (try simp only [hl9_3]); (with_reducible repeat (first | apply Kd.R_alloc | apply Kd.R_drewN | apply Kd.R_drew)); exact Kd.R_mono (Kd.R_far (p := ⟨gb148, 1, none⟩) (Kd.R_far (p := ⟨gb148, 0, none⟩) (Kd.R_types HO_9.out BK148.out (by decide)) (fun _ hk => hk.2) (.int .i64 ((rd_T38 l0_1 x48_3).f0))) (fun _ hk => hk.2) (.int .i64 ((rd_T38 l0_1 x48_3).f1))) (fun _ hk => hk.1)⟩, ⟨by (try simp only [hl9_1]); (try simp only [hl9_3]); (with_reducible repeat (first | apply Kd.Q_alloc | apply Kd.Q_drewN | apply Kd.Q_drew)); exact Kd.Q_mono (Kd.Q_far (p := ⟨gb148, 1, none⟩) (Kd.Q_far (p := ⟨gb148, 0, none⟩) (Kd.Q_types HO_10.out BK148.out (by decide)) (fun _ hk => hk.2) (.int .i64 ((rd_T38 l0_1 x48_3).f0))) (fun _ hk => hk.2) (.int .i64 ((rd_T38 l0_1 x48_3).f1))) (fun _ hk => hk.1)⟩, ⟨by (try simp only [hl9_1]); (try simp only [hl9_3]); (with_reducible repeat (first | refine blk_drewN ?_ _ | refine blk_drew ?_ | refine blk_alloc ?_ _)); refine blk_far ?_ NB131_148.out _; (with_reducible repeat (first | refine blk_drewN ?_ _ | refine blk_drew ?_ | refine blk_alloc ?_ _)); refine blk_far ?_ NB131_148.out _; (with_reducible repeat (first | refine blk_drewN ?_ _ | refine blk_drew ?_ | refine blk_alloc ?_ _)); exact BK131.out⟩, ⟨zb2 HB.out GE131.out GE148.out⟩⟩
       rw [if_pos c45] at H
       have c45b0 : decide ((rd x9_3 ((rd_T38 l0_1 x48_3).f0)) < 0) = true := decide_eq_true c45
       clear c45
       by_cases c46 : 0 ≤ (rd x10_1 0)
       rotate_left; ·rw [if_neg c46] at H; exact absurd H (by simp)
       rw [if_pos c46] at H
       have c46b0 : decide (0 ≤ (rd x10_1 0)) = true := decide_eq_true c46
       clear c46
       by_cases c47 : (rd x10_1 0) < (x9_3.length : Int)
       rotate_left; ·rw [if_neg c47] at H; exact absurd H (by simp)
       rw [if_pos c47] at H
       have c47b0 : decide ((rd x10_1 0) < (x9_3.length : Int)) = true := decide_eq_true c47
       (try (have c47z0 := c47b0; simp only [hl9_1, hl9_3] at c47z0))
       clear c47
       obtain ⟨y152, hy152⟩ : ∃ y_ : List Int, y_ = (x9_3.set (((rd_T38 l0_1 x48_3).f0) : Int).toNat (wrap64 ((rd x9_3 (rd x10_1 0)) + 1))) := ⟨_, rfl⟩
       replace H : (if x10_3.length < 17592186044416 then (reach_lengths_1.l1 k3 l1 a2 y152 (x10_3 ++ [(rd_T38 l0_1 x48_3).f0]) (rd x10_1 0) l0_1 (l0_1.length : Int) ji34 l0_0 l0_1) else (none)) = some r := by first | (rw [hy152]; with_reducible exact H) | (have H2_ := (Option.bind_some _ _).symm.trans H; rw [hy152]; with_reducible exact H2_) | (have H2_ := (Option.bind_some _ _).symm.trans H; with_reducible exact H2_) | with_reducible exact H | (rw [hy152]; exact H) | exact H
       have Ny152 := Aside0.mk hy152
       clear hy152
       by_cases c49 : x10_3.length < 17592186044416
       rotate_left; ·rw [if_neg c49] at H; exact absurd H (by simp)
       rw [if_pos c49] at H
       have LMc49 := Aside0.mk c49
       clear c49
       obtain ⟨y153, hy153⟩ : ∃ y_ : List Int, y_ = (x10_3 ++ [(rd_T38 l0_1 x48_3).f0]) := ⟨_, rfl⟩
       replace H : (reach_lengths_1.l1 k3 l1 a2 y152 y153 (rd x10_1 0) l0_1 (l0_1.length : Int) ji34 l0_0 l0_1) = some r := by first | (rw [hy153]; with_reducible exact H) | (have H2_ := (Option.bind_some _ _).symm.trans H; rw [hy153]; with_reducible exact H2_) | (have H2_ := (Option.bind_some _ _).symm.trans H; with_reducible exact H2_) | with_reducible exact H | (rw [hy153]; exact H) | exact H
       have Ny153 := Aside0.mk hy153
       clear hy153
       have H' := Aside0.mk H; clear H
       have p147 : 0 ≤ (x48_3 : Int) := oda
       have q147 : x48_3 < (l0_1.length : Int) := oda
       obtain ⟨ad147, e147, hx147_0, hx147_1⟩ := at_T38 HR0_1.out x48_3 p147 q147
       cases e147
       replace hx147_0 := zx HB.out hx147_0
       replace hx147_1 := zx HB.out hx147_1
       replace p147 := eq_true p147
       replace q147 := eq_true q147
       go_wp2_with (first | ((with_reducible refine gate_dst (N := 13) rfl ?_); refine box_event ?hg (N := 13) ?hd (cs := #[.int .i64 0, .int .i64 0]) (t := 38) ?hr ?_; (case hd => rfl); (case hg => rfl); (case hr => first | (go_simp; done) | (go_simp; rfl)); intro gb148 hg w50 hbox hb; replace HO_9 := Aside0.mk (Kd.R_below (zr HO_9.out) hb); replace HO_10 := Aside0.mk (Kd.Q_below (by (with_reducible repeat (first | apply Kd.Q_alloc | apply Kd.Q_drewN | apply Kd.Q_drew)); exact HO_10.out) hb); have BK148 := Aside0.mk (hbox); have GW148 := Aside0.mk ((by rw [hg]; exact (below_size (zb1 HB.out GE131.out)) : w.heap.size ≤ gb148)); have GE148 := Aside0.mk ((by rw [hg]; exact (below_size (zb1 HB.out GE131.out)) : w.heap.size ≤ gb148)); replace HB := Aside0.mk (below_step (zb1 HB.out GE131.out) hb); have NB131_148 := Aside0.mk ((by rw [hg]; exact Nat.ne_of_lt (blk_lt (g := gb131) (o := .cells #[.slice A0_0 l0_0.length c0_0, .slice (some ad147) l0_1.length c0_1] 25 (0, 0)) (zk BK131.out)) : gb131 ≠ gb148)); have NB148_131 := Aside0.mk ((by rw [hg]; exact Nat.ne_of_gt (blk_lt (g := gb131) (o := .cells #[.slice A0_0 l0_0.length c0_0, .slice (some ad147) l0_1.length c0_1] 25 (0, 0)) (zk BK131.out)) : gb148 ≠ gb131)); replace BK131 := Aside0.mk (blk_below (g := gb131) (o := .cells #[.slice A0_0 l0_0.length c0_0, .slice (some ad147) l0_1.length c0_1] 25 (0, 0)) (zk BK131.out) hb); clear hb hbox hg; have hnb51 := NB148_131.out; have hnc51 := NB131_148.out; have hcz52_0 : w50.cell? ⟨gb148, 0, none⟩ = some (.int .i64 0) := (blk_cell BK148.out 0).trans rfl; have hcz52_1 : w50.cell? ⟨gb148, 1, none⟩ = some (.int .i64 0) := (blk_cell BK148.out 1).trans rfl; have hfz52_0 := blk_frozen BK148.out 0; have hfz52_1 := blk_frozen BK148.out 1) | ((with_reducible refine gate_store (t := 38) (p := 13) rfl ?_); refine store_event (t := 38) (p := 13) (v := ?vo_w53) (w1 := ((w50.setCell ⟨gb148, 0, none⟩ (.int .i64 ((rd_T38 l0_1 x48_3).f0))).setCell ⟨gb148, 1, none⟩ (.int .i64 ((rd_T38 l0_1 x48_3).f1)))) ?hg ?ho ?hn ?hr ?_; (case ho => rfl); (case hg => rfl); (case hn => rfl); (case hr => first | (go_simp; done) | (go_simp; rfl)); intro w53 hw; have n0_ : Aside0 (Kd.R (Kd.int .i64) 3 w53 w.heap.size (fun k_ => some k_ ≠ (u10 : Value).ownBlock) (.slice (some ⟨go8, 0, none⟩) x9_3.length co8) x9_3) := ⟨(by rw [hw]; exact (by (with_reducible repeat (first | apply Kd.R_alloc | apply Kd.R_drewN | apply Kd.R_drew)); exact Kd.R_mono (Kd.R_far (p := ⟨gb148, 1, none⟩) (Kd.R_far (p := ⟨gb148, 0, none⟩) (Kd.R_types HO_9.out BK148.out (by decide)) (fun _ hk => hk.2) (.int .i64 ((rd_T38 l0_1 x48_3).f0))) (fun _ hk => hk.2) (.int .i64 ((rd_T38 l0_1 x48_3).f1))) (fun _ hk => hk.1)))⟩; have n1_ : Aside0 (Kd.Q (Kd.int .i64) 3 w53 w.heap.size (fun k_ => some k_ ≠ (.slice (some ⟨go8, 0, none⟩) x9_3.length co8 : Value).ownBlock) u10 x10_3) := ⟨(by rw [hw]; exact (by (with_reducible repeat (first | apply Kd.Q_alloc | apply Kd.Q_drewN | apply Kd.Q_drew)); exact Kd.Q_mono (Kd.Q_far (p := ⟨gb148, 1, none⟩) (Kd.Q_far (p := ⟨gb148, 0, none⟩) (Kd.Q_types HO_10.out BK148.out (by decide)) (fun _ hk => hk.2) (.int .i64 ((rd_T38 l0_1 x48_3).f0))) (fun _ hk => hk.2) (.int .i64 ((rd_T38 l0_1 x48_3).f1))) (fun _ hk => hk.1)))⟩; have n2_ : Aside0 (w53.heap[gb131]? = some (.cells #[.slice A0_0 l0_0.length c0_0, .slice (some ad147) l0_1.length c0_1] 25 (0, 0))) := ⟨(by rw [hw]; exact (by (with_reducible repeat (first | refine blk_drewN ?_ _ | refine blk_drew ?_ | refine blk_alloc ?_ _)); refine blk_far ?_ NB131_148.out _; (with_reducible repeat (first | refine blk_drewN ?_ _ | refine blk_drew ?_ | refine blk_alloc ?_ _)); refine blk_far ?_ NB131_148.out _; (with_reducible repeat (first | refine blk_drewN ?_ _ | refine blk_drew ?_ | refine blk_alloc ?_ _)); exact BK131.out))⟩; have n3_ : Aside0 (w53.heap[gb148]? = some (.cells #[.int .i64 ((rd_T38 l0_1 x48_3).f0), .int .i64 ((rd_T38 l0_1 x48_3).f1)] 38 (0, 0))) := ⟨(by rw [hw]; exact (by (with_reducible repeat (first | refine blk_drewN ?_ _ | refine blk_drew ?_ | refine blk_alloc ?_ _)); refine blk_put (cs := #[.int .i64 ((rd_T38 l0_1 x48_3).f0), .int .i64 0]) ?_ 1 _ rfl; (with_reducible repeat (first | refine blk_drewN ?_ _ | refine blk_drew ?_ | refine blk_alloc ?_ _)); refine blk_put (cs := #[.int .i64 0, .int .i64 0]) ?_ 0 _ rfl; (with_reducible repeat (first | refine blk_drewN ?_ _ | refine blk_drew ?_ | refine blk_alloc ?_ _)); exact BK148.out))⟩; have n4_ : Aside0 (Below w.heap.size w w53) := ⟨(by rw [hw]; exact (zb2 HB.out GE131.out GE148.out))⟩; clear hw; clear HO_9; clear HO_10; clear BK131; clear BK148; clear HB; have HO_9 := n0_; have HO_10 := n1_; have BK131 := n2_; have BK148 := n3_; have HB := n4_; clear n0_ n1_ n2_ n3_ n4_; have hcz54_0 : w53.cell? ⟨gb148, 0, none⟩ = some (.int .i64 ((rd_T38 l0_1 x48_3).f0)) := (blk_cell BK148.out 0).trans rfl; have hcz54_1 : w53.cell? ⟨gb148, 1, none⟩ = some (.int .i64 ((rd_T38 l0_1 x48_3).f1)) := (blk_cell BK148.out 1).trans rfl; have hfz54_0 := blk_frozen BK148.out 0; have hfz54_1 := blk_frozen BK148.out 1; have p149 : 0 ≤ ((ji34) : Int) := oda; have q149 : (ji34) < (l1.length : Int) := oda; obtain ⟨ad149, e149, hx149_0⟩ := Kd.at_bool HR1.out (ji34) p149 q149; (try rw [← Nbq37.out] at hx149_0); cases e149; replace hx149_0 := zx HB.out hx149_0; replace p149 := eq_true p149; replace q149 := eq_true q149; have p150 : 0 ≤ (((rd_T38 l0_1 x48_3).f0) : Int) := oda; have q150 : ((rd_T38 l0_1 x48_3).f0) < (x9_3.length : Int) := oda; obtain ⟨ad150, e150, hx150_0⟩ := Kd.at_int (Kd.R_reads' HO_9.out).2.2 ((rd_T38 l0_1 x48_3).f0) p150 q150; obtain rfl : (⟨go8, 0, none⟩ : Addr) = ad150 := (by injection e150); (first | simp only [add_plain] at hx150_0 | simp only [add_at] at hx150_0 | simp only [Addr.add, Nat.zero_add] at hx150_0 | skip); replace p150 := eq_true p150; replace q150 := eq_true q150; have p151 : 0 ≤ ((rd x10_1 0) : Int) := oda; have q151 : (rd x10_1 0) < (x9_3.length : Int) := oda; obtain ⟨ad151, e151, hx151_0⟩ := Kd.at_int (Kd.R_reads' HO_9.out).2.2 (rd x10_1 0) p151 q151; obtain rfl : (⟨go8, 0, none⟩ : Addr) = ad151 := (by injection e151); (first | simp only [add_plain] at hx151_0 | simp only [add_at] at hx151_0 | simp only [Addr.add, Nat.zero_add] at hx151_0 | skip); replace p151 := eq_true p151; replace q151 := eq_true q151; have p48 : 0 ≤ (((rd_T38 l0_1 x48_3).f0) : Int) := oda; have q48 : (((rd_T38 l0_1 x48_3).f0) : Int) < ((x9_3.length : Int) : Int) := oda; obtain ⟨hx48_0, hf48_0⟩ := Kd.R_celln 0 HO_9.out (((rd_T38 l0_1 x48_3).f0) : Int) p48 q48; replace p48 := eq_true p48; replace q48 := eq_true q48; obtain ⟨hy55_, hz55_⟩ := Kd.R_celln 0 HO_9.out (((rd_T38 l0_1 x48_3).f0) : Int) (oda) (oda); have HP55 := Kd.R_putg HO_9.out (((rd_T38 l0_1 x48_3).f0) : Int) (wrap64 ((rd x9_3 (rd x10_1 0)) + 1))) | ((with_reducible refine gate_store (t := 3) (p := 84) rfl ?_); refine store_event (t := 3) (p := 84) (v := ?vo_w56) (w1 := (w53.setCell ⟨go8, (((rd_T38 l0_1 x48_3).f0) : Int).toNat, none⟩ (.int .i64 (wrap64 ((rd x9_3 (rd x10_1 0)) + 1))))) ?hg ?ho ?hn ?hr ?_; (case ho => rfl); (case hg => rfl); (case hn => rfl); (case hr => first | (go_simp; done) | (go_simp; rfl)); intro w56 hw; have hg : w53.grownBy w56 (some go8) := (by rw [hw]; exact HP55.2); have hp_ : Kd.R (Kd.int .i64) 3 w56 w.heap.size (fun k_ => some k_ ≠ (u10 : Value).ownBlock) (.slice (some ⟨go8, 0, none⟩) x9_3.length co8) y152 := (by rw [hw, Ny152.out]; exact HP55.1); clear HP55; replace HO_10 := Aside0.mk (Kd.Q_after (v := (.slice (some ⟨go8, 0, none⟩) x9_3.length co8)) (v1 := (.slice (some ⟨go8, 0, none⟩) x9_3.length co8)) (ok := (fun _ => True)) (by (with_reducible repeat (first | apply Kd.Q_alloc | apply Kd.Q_drewN | apply Kd.Q_drew)); exact Kd.Q_mono HO_10.out (fun _ hk => ⟨trivial, hk⟩)) hg (.inl rfl)); replace BK131 := Aside0.mk (blk_grown (g := gb131) (o := .cells #[.slice A0_0 l0_0.length c0_0, .slice (some ad147) l0_1.length c0_1] 25 (0, 0)) (zk BK131.out) hg (Kd.R_ne HO_9.out BK131.out (by decide))); replace BK148 := Aside0.mk (blk_grown (g := gb148) (o := .cells #[.int .i64 ((rd_T38 l0_1 x48_3).f0), .int .i64 ((rd_T38 l0_1 x48_3).f1)] 38 (0, 0)) (zk BK148.out) hg (Kd.R_ne HO_9.out BK148.out (by decide))); replace HO_9 := Aside0.mk (hp_); replace HB := Aside0.mk ((by rw [hw]; exact below_set (HB.out) GB8.out : Below w.heap.size w w56)); clear hg hw hp_) | ((with_reducible refine gate_builtin (b := .append) (xs := #[.tmp 85, .tmp 87]) rfl ?_); at_builtin; refine Kd.Q_append (Kd.int .i64) (w0 := w) w.heap.size rfl (.tmp 85) (.tmp 87) 26 3 (.int .i64 0) 8 rfl Try.underlying26 info3 rfl (by decide) (by omega) u10 x10_3 ((rd_T38 l0_1 x48_3).f0) [.int .i64 ((rd_T38 l0_1 x48_3).f0)] (fun k_ => some k_ ≠ (.slice (some ⟨go8, 0, none⟩) x9_3.length co8 : Value).ownBlock) (fun _ => False) rfl rfl ?aP (fun _ hk => hk.elim) ?aF ?aO ?aB ?aS ?aL ?_; (case aP => exact rfl); (case aB => exact (zb2 HB.out GE131.out GE148.out)); (case aF => exact (fun k_ hk => Kd.fresh' (Kd.R_lt (zr HO_9.out)) k_ hk)); (case aO => exact (by (with_reducible repeat (first | apply Kd.Q_alloc | apply Kd.Q_drewN | apply Kd.Q_drew)); exact Kd.Q_mono HO_10.out (fun _ hk => hk.2))); (case aS => exact (below_size (zb2 HB.out GE131.out GE148.out))); (case aL => have := LMc49.out; omega); intro v154 w57 ho hb hg hat; rw [← Ny153.out] at ho; replace HO_9 := Aside0.mk (Kd.R_after (ok := (fun _ => True)) (by (with_reducible repeat (first | apply Kd.R_alloc | apply Kd.R_drewN | apply Kd.R_drew)); exact Kd.R_mono HO_9.out (fun _ hk => ⟨trivial, hk⟩)) hg hat); replace BK131 := Aside0.mk (blk_grown (g := gb131) (o := .cells #[.slice A0_0 l0_0.length c0_0, .slice (some ad147) l0_1.length c0_1] 25 (0, 0)) (zk BK131.out) hg (Kd.Q_ne HO_10.out BK131.out (by decide))); replace BK148 := Aside0.mk (blk_grown (g := gb148) (o := .cells #[.int .i64 ((rd_T38 l0_1 x48_3).f0), .int .i64 ((rd_T38 l0_1 x48_3).f1)] 38 (0, 0)) (zk BK148.out) hg (Kd.Q_ne HO_10.out BK148.out (by decide))); replace HB := Aside0.mk (hb); have HO155 := Aside0.mk (ho); clear HO_10; clear ho hb hg hat))
       (try simp only [← hl9_3])
       go_roundg k3
       case measure => have := HK1.out; have := HJ20.out; have := HK3.out; omega
       case rel => exact ⟨(y152), (y153), (ji34), (by first | rfl | (simp; done) | (simp only [← hji34] <;> (first | rfl | (simp; done))) | (simp [*]; done)), H', ⟨by have := HK1.out; have := HJ20.out; have := HK3.out; omega⟩, ⟨by (try simp only [hl9_1]); (try simp only [hl9_3]); (with_reducible repeat (first | apply Kd.R_alloc | apply Kd.R_drewN | apply Kd.R_drew)); exact Kd.R_mono HO_9.out (fun _ hk => hk.2)⟩, ⟨by (try simp only [hl9_1]); (try simp only [hl9_3]); (with_reducible repeat (first | apply Kd.Q_alloc | apply Kd.Q_drewN | apply Kd.Q_drew)); exact HO155.out⟩, ⟨by (try simp only [hl9_1]); (try simp only [hl9_3]); (with_reducible repeat (first | refine blk_drewN ?_ _ | refine blk_drew ?_ | refine blk_alloc ?_ _)); exact BK131.out⟩, ⟨zb2 HB.out GE131.out GE148.out⟩⟩
/-! ### reach_shut: function 37 -/
def reach_shut.l0 : Nat → List Bool → List Int → Int → Int → Option (List Bool)
 | 0, _, _, _, _ => none
 | k + 1, x5, x13, x14, x15 => if x15 < x14 then (if 0 ≤ x15 then (if x15 < (x13.length : Int) then (if (rd x13 x15) ≥ 1 then (if (rd x13 x15) < (x5.length : Int) then (if 0 ≤ (rd x13 x15) then (reach_shut.l0 k (x5.set ((rd x13 x15) : Int).toNat true) x13 x14 (wrap64 (x15 + 1))) else (none)) else (reach_shut.l0 k x5 x13 x14 (wrap64 (x15 + 1)))) else (reach_shut.l0 k x5 x13 x14 (wrap64 (x15 + 1)))) else (none)) else (none)) else (some x5)
def reach_shut.f (k : Nat) (l0_0 : List (S47)) (l0_1 : List (S38)) (l1 : List Int) : Option (List Bool) := if 0 ≤ (wrap64 ((l0_1.length : Int) + 1)) then (if (wrap64 ((l0_1.length : Int) + 1) : Int).toNat ≤ 281474976710656 then (reach_shut.l0 k (List.replicate (wrap64 ((l0_1.length : Int) + 1) : Int).toNat false) l1 (l1.length : Int) 0) else (none)) else (none)
theorem reach_shut.mono_l : ∀ k, (∀ y0 y1 y2 y3, LeO (reach_shut.l0 k y0 y1 y2 y3) (reach_shut.l0 (k + 1) y0 y1 y2 y3))
 | 0 => fun _ _ _ _ r h => by simp [reach_shut.l0] at h
 | k + 1 => by
  have ih0 := reach_shut.mono_l k
  ·intro y0 y1 y2 y3
   unfold reach_shut.l0
   repeat' first
   | (with_reducible exact ih0 _ _ _ _)
   | (with_reducible exact LeO.refl _)
   | (with_reducible exact LeO.none _)
   | (with_reducible refine LeO.ite ?_ ?_)
   | (with_reducible refine LeO.bind ?_ (fun _ => ?_))
   | exact ih0 _ _ _ _
   | exact LeO.none _
   | refine LeO.ite ?_ ?_
   | refine LeO.bind ?_ (fun _ => ?_)
theorem reach_shut.mono : ∀ a0 a1 a2 k, LeO (reach_shut.f k a0 a1 a2) (reach_shut.f (k + 1) a0 a1 a2) := by
 intro a0 a1 a2 k
 have ih0 := reach_shut.mono_l k
 unfold reach_shut.f
 repeat' first
   | (with_reducible exact ih0 _ _ _ _)
   | (with_reducible exact LeO.refl _)
   | (with_reducible exact LeO.none _)
   | (with_reducible refine LeO.ite ?_ ?_)
   | (with_reducible refine LeO.bind ?_ (fun _ => ?_))
   | exact ih0 _ _ _ _
   | exact LeO.none _
   | refine LeO.ite ?_ ?_
   | refine LeO.bind ?_ (fun _ => ?_)
set_option maxHeartbeats 8000000 in
set_option maxRecDepth 100000 in
theorem reach_shut.calls (k : Nat) (A0_0 : Option Addr) (c0_0 : Nat) (l0_0 : List (S47)) (A0_1 : Option Addr) (c0_1 : Nat) (l0_1 : List (S38)) (A1 : Option Addr) (c1 : Nat) (l1 : List Int) (r : List Bool) (w : World) (hr0_0 : Kd.C k47 w A0_0 l0_0.length l0_0) (hc0_0 : l0_0.length ≤ c0_0) (hr0_1 : Kd.C k38 w A0_1 l0_1.length l0_1) (hc0_1 : l0_1.length ≤ c0_1) (hr1 : Kd.C (Kd.int .i64) w A1 l1.length l1) (hc1 : l1.length ≤ c1) (h : reach_shut.f k l0_0 l0_1 l1 = some r) :
  Calls Try.prog 37 #[.agg #[.slice A0_0 l0_0.length c0_0, .slice A0_1 l0_1.length c0_1], .slice A1 l1.length c1] w fun e w' => ∃ v0_ : Value, e = .returned (v0_) ∧ Kd.R Kd.bool 4 w' w.heap.size (fun _ => True) v0_ r ∧ Below w.heap.size w w' := by
 have hu25 := Try.underlying25
 have HR0_0 := Aside0.mk hr0_0
 have HC0_0 := Aside0.mk hc0_0
 clear hr0_0 hc0_0
 have HR0_1 := Aside0.mk hr0_1
 have HC0_1 := Aside0.mk hc0_1
 clear hr0_1 hc0_1
 have HR1 := Aside0.mk hr1
 have HC1 := Aside0.mk hc1
 clear hr1 hc1
 have HB := Aside0.mk (Below.refl w.heap.size w)
 have H : (if 0 ≤ (wrap64 ((l0_1.length : Int) + 1)) then (if (wrap64 ((l0_1.length : Int) + 1) : Int).toNat ≤ 281474976710656 then (reach_shut.l0 k (List.replicate (wrap64 ((l0_1.length : Int) + 1) : Int).toNat false) l1 (l1.length : Int) 0) else (none)) else (none)) = some r := h
 clear h
 obtain ⟨ji3, hji3⟩ : ∃ j_ : Int, (wrap64 ((l0_1.length : Int) + 1)) = j_ := ⟨_, rfl⟩
 replace H : (if 0 ≤ (ji3) then (if (ji3 : Int).toNat ≤ 281474976710656 then (reach_shut.l0 k (List.replicate (ji3 : Int).toNat false) l1 (l1.length : Int) 0) else (none)) else (none)) = some r := by first | (rw [hji3] at H; exact H) | (simp only [hji3] at H ⊢; exact H)
 have hji3w : (IntKind.i64.wrap ((l0_1.length : Int) + 1)) = ji3 := (i64_w _).trans hji3
 by_cases c4 : 0 ≤ (ji3)
 rotate_left; ·rw [if_neg c4] at H; exact absurd H (by simp)

 rw [if_pos c4] at H
 have c4b0 := eq_true c4
 have c4b1 : decide (0 ≤ (ji3)) = true := decide_eq_true c4
 clear c4
 by_cases c5 : (ji3 : Int).toNat ≤ 281474976710656
 rotate_left; ·rw [if_neg c5] at H; exact absurd H (by simp)
 rw [if_pos c5] at H
 have c5b0 := eq_true c5
 have c5b1 : decide ((ji3 : Int).toNat ≤ 281474976710656) = true := decide_eq_true c5
 clear c5
 obtain ⟨y160, hy160⟩ : ∃ y_ : List Bool, y_ = (List.replicate (ji3 : Int).toNat false) := ⟨_, rfl⟩
 replace H : (reach_shut.l0 k y160 l1 (l1.length : Int) 0) = some r := by first | (rw [hy160]; with_reducible exact H) | (have H2_ := (Option.bind_some _ _).symm.trans H; rw [hy160]; with_reducible exact H2_) | (have H2_ := (Option.bind_some _ _).symm.trans H; with_reducible exact H2_) | with_reducible exact H | (rw [hy160]; exact H) | exact H
 have Ny160 := Aside0.mk hy160
 clear hy160
 have H' := Aside0.mk H; clear H
 go_enter Try.func37, Try.ntmps37
 go_wp2_with (first | ((with_reducible refine gate_dst (N := 2) rfl ?_); (try (refine gate_guard (by rfl) ?_; dsimp only)); refine box_event ?hg (N := 2) ?hd (cs := #[.slice A0_0 l0_0.length c0_0, .slice A0_1 l0_1.length c0_1]) (t := 25) ?hr ?_; (case hd => rfl); (case hg => rfl); (case hr => first | (go_simp; done) | (go_simp; rfl)); intro gb159 hg w6 hbox hb; have BK159 := Aside0.mk (hbox); have GW159 := Aside0.mk ((by rw [hg]; exact (below_size (zb0 HB.out)) : w.heap.size ≤ gb159)); have GE159 := Aside0.mk ((by rw [hg]; exact (below_size (zb0 HB.out)) : w.heap.size ≤ gb159)); replace HB := Aside0.mk (below_step (zb0 HB.out) hb); clear hb hbox hg; have hcz7_0 : w6.cell? ⟨gb159, 0, none⟩ = some (.slice A0_0 l0_0.length c0_0) := (blk_cell BK159.out 0).trans rfl; have hcz7_1 : w6.cell? ⟨gb159, 1, none⟩ = some (.slice A0_1 l0_1.length c0_1) := (blk_cell BK159.out 1).trans rfl; have hfz7_0 := blk_frozen BK159.out 0; have hfz7_1 := blk_frozen BK159.out 1) | ((with_reducible refine gate_dst (N := 12) rfl ?_); (try (refine gate_guard (by rfl) ?_; dsimp only)); refine Kd.R_make Kd.bool _ 4 rfl (N := 12) rfl 63 _ _ rfl ji3 rfl rfl Try.underlying63 (.bool false) 1 info4 rfl (by decide) (by omega) false (ok := fun _ => True) (okp := fun _ => True) rfl (fun _ hk => hk) trivial (oda) (Nat.le_trans (Nat.mul_le_mul_right _ (oda : ji3.toNat ≤ 281474976710656)) (by omega)) (Below.refl _ _) (Nat.le_refl _) ?_; intro v161 w8 ho9 hb hg_ hnew_; clear hg_ hnew_; (first | rw [← Ny160.out] at ho9 | (simp only [Int.reduceToNat] at ho9; rw [← Ny160.out] at ho9)); have HO162 := Aside0.mk (Kd.R_lower ho9 (below_size (zb1 HB.out GE159.out))); replace BK159 := Aside0.mk (blk_below (g := gb159) (o := .cells #[.slice A0_0 l0_0.length c0_0, .slice A0_1 l0_1.length c0_1] 25 (0, 0)) (zk BK159.out) hb); replace HB := Aside0.mk (below_step (zb1 HB.out GE159.out) hb); clear hb ho9))
 go_loopg [15] k (fun kq v15 w' => ∃ (x5_1 : List Bool) (x15_1 : Int), v15 = .int .i64 x15_1 ∧ Aside0 (reach_shut.l0 kq x5_1 l1 (l1.length : Int) x15_1 = some r) ∧ Aside0 (kq ≤ k) ∧ Aside0 (Kd.R Kd.bool 4 w' w.heap.size (fun _ => True) v161 x5_1) ∧ Aside0 (w'.heap[gb159]? = some (.cells #[(.slice A0_0 l0_0.length c0_0), (.slice A0_1 l0_1.length c0_1)] 25 (0, 0))) ∧ Aside0 (Below w.heap.size w w'))
 case atStart => exact ⟨(y160), (0), rs, H', ⟨Nat.le_refl _⟩, ⟨zr HO162.out⟩, ⟨zk BK159.out⟩, ⟨zb1 HB.out GE159.out⟩⟩
 case round =>
  clear H'
  obtain ⟨x5_1, x15_1, rfl, HA, HK1, HO_5, BK159, HB⟩ := hrel
  cases gk with
  | zero => exact absurd HA.out (by simp [reach_shut.l0])
  | succ k1 =>
   have H := HA.out
   clear HA
   simp only [reach_shut.l0] at H
   by_cases c10 : x15_1 < (l1.length : Int)
   rotate_left
   ·rw [if_neg c10] at H
    have c10b0 : decide (x15_1 < (l1.length : Int)) = false := decide_eq_false c10
    clear c10
    obtain rfl := Option.some.inj H
    go_wp2
    go_ret
    exact ⟨_, by first | rfl | (simp [errW_none, errW_some] <;> rfl) | (simp only [← hji3]; first | rfl | (simp [errW_none, errW_some] <;> rfl)) | (simp [*, errW_none, errW_some] <;> rfl), by (with_reducible repeat (first | apply Kd.R_alloc | apply Kd.R_drewN | apply Kd.R_drew)); exact HO_5.out, zb1 HB.out GE159.out⟩
   rw [if_pos c10] at H
   have c10b0 : decide (x15_1 < (l1.length : Int)) = true := decide_eq_true c10
   clear c10
   by_cases c11 : 0 ≤ x15_1
   rotate_left; ·rw [if_neg c11] at H; exact absurd H (by simp)
   rw [if_pos c11] at H
   have c11b0 : decide (0 ≤ x15_1) = true := decide_eq_true c11
   clear c11
   by_cases c12 : x15_1 < (l1.length : Int)
   rotate_left; ·rw [if_neg c12] at H; exact absurd H (by simp)
   rw [if_pos c12] at H
   have c12b0 : decide (x15_1 < (l1.length : Int)) = true := decide_eq_true c12
   clear c12
   by_cases c13 : (rd l1 x15_1) ≥ 1
   rotate_left
   ·rw [if_neg c13] at H
    have c13b0 : decide (1 ≤ (rd l1 x15_1)) = false := decide_eq_false c13
    clear c13
    have H' := Aside0.mk H; clear H
    have p163 : 0 ≤ (x15_1 : Int) := oda
    have q163 : x15_1 < (l1.length : Int) := oda
    obtain ⟨ad163, e163, hx163_0⟩ := Kd.at_int HR1.out x15_1 p163 q163
    cases e163
    replace hx163_0 := zx HB.out hx163_0
    replace p163 := eq_true p163
    replace q163 := eq_true q163
    go_wp2
    go_roundg k1
    case measure => have := HK1.out; omega
    case rel => exact ⟨(x5_1), (wrap64 (x15_1 + 1)), rs, H', ⟨by have := HK1.out; omega⟩, ⟨zr HO_5.out⟩, ⟨zk BK159.out⟩, ⟨zb1 HB.out GE159.out⟩⟩
   rw [if_pos c13] at H
   have c13b0 : decide (1 ≤ (rd l1 x15_1)) = true := decide_eq_true c13
   clear c13
   by_cases c14 : (rd l1 x15_1) < (x5_1.length : Int)
   rotate_left
   ·rw [if_neg c14] at H
    have c14b0 : decide ((rd l1 x15_1) < (x5_1.length : Int)) = false := decide_eq_false c14
    clear c14
    have H' := Aside0.mk H; clear H
    have p163 : 0 ≤ (x15_1 : Int) := oda
    have q163 : x15_1 < (l1.length : Int) := oda
    obtain ⟨ad163, e163, hx163_0⟩ := Kd.at_int HR1.out x15_1 p163 q163
    cases e163
    replace hx163_0 := zx HB.out hx163_0
    replace p163 := eq_true p163
    replace q163 := eq_true q163
    obtain ⟨Ao20, co20, eo20⟩ := Kd.R_slice HO_5.out
    subst eo20
    go_wp2
    go_roundg k1
    case measure => have := HK1.out; omega
    case rel => exact ⟨(x5_1), (wrap64 (x15_1 + 1)), rs, H', ⟨by have := HK1.out; omega⟩, ⟨zr HO_5.out⟩, ⟨zk BK159.out⟩, ⟨zb1 HB.out GE159.out⟩⟩
   rw [if_pos c14] at H
   have c14b0 : decide ((rd l1 x15_1) < (x5_1.length : Int)) = true := decide_eq_true c14
   clear c14
   by_cases c15 : 0 ≤ (rd l1 x15_1)
   rotate_left; ·rw [if_neg c15] at H; exact absurd H (by simp)
   rw [if_pos c15] at H
   have c15b0 : decide (0 ≤ (rd l1 x15_1)) = true := decide_eq_true c15
   clear c15
   obtain ⟨y164, hy164⟩ : ∃ y_ : List Bool, y_ = (x5_1.set ((rd l1 x15_1) : Int).toNat true) := ⟨_, rfl⟩
   replace H : (reach_shut.l0 k1 y164 l1 (l1.length : Int) (wrap64 (x15_1 + 1))) = some r := by first | (rw [hy164]; with_reducible exact H) | (have H2_ := (Option.bind_some _ _).symm.trans H; rw [hy164]; with_reducible exact H2_) | (have H2_ := (Option.bind_some _ _).symm.trans H; with_reducible exact H2_) | with_reducible exact H | (rw [hy164]; exact H) | exact H
   have Ny164 := Aside0.mk hy164
   clear hy164
   have H' := Aside0.mk H; clear H
   have p163 : 0 ≤ (x15_1 : Int) := oda
   have q163 : x15_1 < (l1.length : Int) := oda
   obtain ⟨ad163, e163, hx163_0⟩ := Kd.at_int HR1.out x15_1 p163 q163
   cases e163
   replace hx163_0 := zx HB.out hx163_0
   replace p163 := eq_true p163
   replace q163 := eq_true q163
   obtain ⟨Ao17, co17, eo17⟩ := Kd.R_slice HO_5.out
   subst eo17
   have p16 : 0 ≤ ((rd l1 x15_1) : Int) := oda
   have q16 : ((rd l1 x15_1) : Int) < ((x5_1.length : Int) : Int) := oda
   obtain ⟨go16, co16, eo16, gb16, gl16, cl16, HG16⟩ := Kd.R_form HO_5.out (by omega)
   (first | cases eo16 | (injection eo16 with ea_ en_ ec_; (first | subst ea_ | (injection ea_ with ea_; subst ea_)); subst ec_; clear en_))
   have GB16 := Aside0.mk gb16
   have GG16 := Aside0.mk HG16
   clear gb16 gl16 HG16
   obtain ⟨hx16_0, hf16_0⟩ := Kd.R_celln false HO_5.out ((rd l1 x15_1) : Int) p16 q16
   replace p16 := eq_true p16
   replace q16 := eq_true q16
   have HP18 := Kd.R_putg HO_5.out ((rd l1 x15_1) : Int) true
   go_wp2_with (first | ((with_reducible refine gate_store (t := 4) (p := 29) rfl ?_); refine store_event (t := 4) (p := 29) (v := ?vo_w19) (w1 := (wr.setCell ⟨go16, ((rd l1 x15_1) : Int).toNat, none⟩ (.bool true))) ?hg ?ho ?hn ?hr ?_; (case ho => rfl); (case hg => rfl); (case hn => rfl); (case hr => first | (go_simp; done) | (go_simp; rfl)); intro w19 hw; have hg : wr.grownBy w19 (some go16) := (by rw [hw]; exact HP18.2); have hp_ : Kd.R Kd.bool 4 w19 w.heap.size (fun _ => True) (.slice (some ⟨go16, 0, none⟩) x5_1.length co17) y164 := (by rw [hw, Ny164.out]; exact HP18.1); clear HP18; replace BK159 := Aside0.mk (blk_grown (g := gb159) (o := .cells #[.slice A0_0 l0_0.length c0_0, .slice A0_1 l0_1.length c0_1] 25 (0, 0)) (zk BK159.out) hg (Kd.R_ne HO_5.out BK159.out (by decide))); replace HO_5 := Aside0.mk (hp_); replace HB := Aside0.mk ((by rw [hw]; exact below_set (HB.out) GB16.out : Below w.heap.size w w19)); clear hg hw hp_))
   go_roundg k1
   case measure => have := HK1.out; omega
   case rel => exact ⟨(y164), (wrap64 (x15_1 + 1)), rs, H', ⟨by have := HK1.out; omega⟩, ⟨zr HO_5.out⟩, ⟨zk BK159.out⟩, ⟨zb1 HB.out GE159.out⟩⟩
end Go.Proofs.Ytbbdgndaaajejaa.PRoutePaths
