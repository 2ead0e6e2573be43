-- Written by a program of this session (wip/oprint): after the pattern of the kit's print, which does not take this law. -- trimmed
import Derived.Test.YtkdfohmceokchaaPZoneJoinedx0
import Derived.Test.YtkdfohmceokchaaPZoneJoinedx8
namespace Go.Proofs.Ytkdfohmceokchaa.PZoneJoined
open Go.RowKit Go.Proofs.YtkdfohmceokchaaW.PrintWords Go.Proofs.YtkdfohmceokchaaW.PrintLast Go.Proofs.YtkdfohmceokchaaW.PrintMore
attribute [local go_sem] max2_int min2_int max_two min_two max_three min_three max_four min_four   -- for this text's walks alone
set_option linter.unusedVariables false
set_option linter.unusedSimpArgs false

/-! ### reach_lengths_1: function 53 -/
mutual
def reach_lengths_1.l0 : Nat → List Bool → Int → List Int → List Int → List (S46) → List (S43) → Option (List Int)
 | 0, _, _, _, _, _, _ => none
 | k + 1, x1, x2, x9, x10, x202000, x202001 => if (x10.length : Int) > 0 then (if 0 < (x10.length : Int) then (if (rd x10 0) = x2 then (reach_lengths_1.j1 k x1 x2 x9 x10 (rd x10 0) false x202000 x202001) else (if 0 ≤ (rd x10 0) then (if (rd x10 0) < (x202000.length : Int) then (reach_lengths_1.j1 k x1 x2 x9 x10 (rd x10 0) (((rd_T46 x202000 (rd x10 0)).f1) != 1) x202000 x202001) else (none)) else (none))) else (none)) else (some x9)
def reach_lengths_1.j1 : Nat → List Bool → Int → List Int → List Int → Int → Bool → List (S46) → List (S43) → Option (List Int)
 | 0, _, _, _, _, _, _, _, _ => none
 | k + 1, x1, x2, x9, x10, x11, x44, x202000, x202001 => if x44 = true then (if 1 ≤ (x10.length : Int) then (reach_lengths_1.l0 k x1 x2 x9 (x10.drop (1 : Int).toNat) x202000 x202001) else (none)) else (reach_lengths_1.l1 k x1 x2 x9 x10 x11 x202001 (x202001.length : Int) 0 x202000 x202001)
def reach_lengths_1.l1 : Nat → List Bool → Int → List Int → List Int → Int → List (S43) → Int → Int → List (S46) → List (S43) → Option (List Int)
 | 0, _, _, _, _, _, _, _, _, _, _ => none
 | k + 1, x1, x2, x9, x10, x11, x46, x47, x48, x202000, x202001 => if x48 < x47 then (if 0 ≤ x48 then (if x48 < (x46.length : Int) then (if 0 ≤ (wrap64 (x48 + 1)) then (if (wrap64 (x48 + 1)) < (x1.length : Int) then (if (rdOf false x1 (wrap64 (x48 + 1)) = true) then (reach_lengths_1.l1 k x1 x2 x9 x10 x11 x46 x47 (wrap64 (x48 + 1)) x202000 x202001) else (if ((rd_T43 x46 x48).f1) = x11 then (if 0 ≤ ((rd_T43 x46 x48).f0) then (if ((rd_T43 x46 x48).f0) < (x9.length : Int) then (if (rd x9 ((rd_T43 x46 x48).f0)) < 0 then (if 0 ≤ x11 then (if x11 < (x9.length : Int) then (if x10.length < 17592186044416 then (reach_lengths_1.l1 k x1 x2 (x9.set (((rd_T43 x46 x48).f0) : Int).toNat (wrap64 ((rd x9 x11) + 1))) (x10 ++ [(rd_T43 x46 x48).f0]) x11 x46 x47 (wrap64 (x48 + 1)) x202000 x202001) else (none)) else (none)) else (none)) else (reach_lengths_1.l1 k x1 x2 x9 x10 x11 x46 x47 (wrap64 (x48 + 1)) x202000 x202001)) else (none)) else (none)) else (reach_lengths_1.l1 k x1 x2 x9 x10 x11 x46 x47 (wrap64 (x48 + 1)) x202000 x202001))) else (none)) else (none)) else (none)) else (none)) else (if 1 ≤ (x10.length : Int) then (reach_lengths_1.l0 k x1 x2 x9 (x10.drop (1 : Int).toNat) x202000 x202001) else (none))
end
def reach_lengths_1.f (k : Nat) (l0_0 : List (S46)) (l0_1 : List (S43)) (l1 : List Bool) (a2 : Int) (a3 : Int) : Option (List Int) := (slices_Repeat_int_int.f (([(-1)] : List Int)) (l0_0.length : Int)).bind fun t205 => (if 0 ≤ a2 then (if a2 < (t205.length : Int) then (reach_lengths_1.l0 k l1 a2 (t205.set (a2 : Int).toNat 0) (([a2] : List Int)) l0_0 l0_1) else (none)) else (none))
theorem reach_lengths_1.mono_l : ∀ k, (∀ y0 y1 y2 y3 y4 y5, LeO (reach_lengths_1.l0 k y0 y1 y2 y3 y4 y5) (reach_lengths_1.l0 (k + 1) y0 y1 y2 y3 y4 y5)) ∧ (∀ y0 y1 y2 y3 y4 y5 y6 y7, LeO (reach_lengths_1.j1 k y0 y1 y2 y3 y4 y5 y6 y7) (reach_lengths_1.j1 (k + 1) y0 y1 y2 y3 y4 y5 y6 y7)) ∧ (∀ y0 y1 y2 y3 y4 y5 y6 y7 y8 y9, LeO (reach_lengths_1.l1 k y0 y1 y2 y3 y4 y5 y6 y7 y8 y9) (reach_lengths_1.l1 (k + 1) y0 y1 y2 y3 y4 y5 y6 y7 y8 y9))
 | 0 => ⟨fun _ _ _ _ _ _ r h => by simp [reach_lengths_1.l0] at h, fun _ _ _ _ _ _ _ _ r h => by simp [reach_lengths_1.j1] at h, fun _ _ _ _ _ _ _ _ _ _ r h => by simp [reach_lengths_1.l1] at h⟩
 | k + 1 => by
  obtain ⟨ih0, ih1, ih2⟩ := reach_lengths_1.mono_l k
  refine ⟨?_, ?_, ?_⟩
  ·intro y0 y1 y2 y3 y4 y5
   unfold reach_lengths_1.l0
   repeat' first
   | (with_reducible exact ih0 _ _ _ _ _ _)
   | (with_reducible exact ih1 _ _ _ _ _ _ _ _)
   | (with_reducible exact ih2 _ _ _ _ _ _ _ _ _ _)
   | (with_reducible exact LeO.refl _)
   | (with_reducible exact LeO.none _)
   | (with_reducible refine LeO.ite ?_ ?_)
   | (with_reducible refine LeO.bind ?_ (fun _ => ?_))
   | exact ih0 _ _ _ _ _ _
   | exact ih1 _ _ _ _ _ _ _ _
   | exact ih2 _ _ _ _ _ _ _ _ _ _
   | exact LeO.none _
   | refine LeO.ite ?_ ?_
   | refine LeO.bind ?_ (fun _ => ?_)
  ·intro y0 y1 y2 y3 y4 y5 y6 y7
   unfold reach_lengths_1.j1
   repeat' first
   | (with_reducible exact ih0 _ _ _ _ _ _)
   | (with_reducible exact ih1 _ _ _ _ _ _ _ _)
   | (with_reducible exact ih2 _ _ _ _ _ _ _ _ _ _)
   | (with_reducible exact LeO.refl _)
   | (with_reducible exact LeO.none _)
   | (with_reducible refine LeO.ite ?_ ?_)
   | (with_reducible refine LeO.bind ?_ (fun _ => ?_))
   | exact ih0 _ _ _ _ _ _
   | exact ih1 _ _ _ _ _ _ _ _
   | exact ih2 _ _ _ _ _ _ _ _ _ _
   | exact LeO.none _
   | refine LeO.ite ?_ ?_
   | refine LeO.bind ?_ (fun _ => ?_)
  ·intro y0 y1 y2 y3 y4 y5 y6 y7 y8 y9
   unfold reach_lengths_1.l1
   repeat' first
   | (with_reducible exact ih0 _ _ _ _ _ _)
   | (with_reducible exact ih1 _ _ _ _ _ _ _ _)
   | (with_reducible exact ih2 _ _ _ _ _ _ _ _ _ _)
   | (with_reducible exact LeO.refl _)
   | (with_reducible exact LeO.none _)
   | (with_reducible refine LeO.ite ?_ ?_)
   | (with_reducible refine LeO.bind ?_ (fun _ => ?_))
   | exact ih0 _ _ _ _ _ _
   | exact ih1 _ _ _ _ _ _ _ _
   | exact ih2 _ _ _ _ _ _ _ _ _ _
   | exact LeO.none _
   | refine LeO.ite ?_ ?_
   | refine LeO.bind ?_ (fun _ => ?_)
theorem reach_lengths_1.mono : ∀ a0 a1 a2 a3 a4 k, LeO (reach_lengths_1.f k a0 a1 a2 a3 a4) (reach_lengths_1.f (k + 1) a0 a1 a2 a3 a4) := by
 intro a0 a1 a2 a3 a4 k
 obtain ⟨ih0, ih1, ih2⟩ := reach_lengths_1.mono_l k
 unfold reach_lengths_1.f
 repeat' first
   | (with_reducible exact ih0 _ _ _ _ _ _)
   | (with_reducible exact ih1 _ _ _ _ _ _ _ _)
   | (with_reducible exact ih2 _ _ _ _ _ _ _ _ _ _)
   | (with_reducible exact LeO.refl _)
   | (with_reducible exact LeO.none _)
   | (with_reducible refine LeO.ite ?_ ?_)
   | (with_reducible refine LeO.bind ?_ (fun _ => ?_))
   | exact ih0 _ _ _ _ _ _
   | exact ih1 _ _ _ _ _ _ _ _
   | exact ih2 _ _ _ _ _ _ _ _ _ _
   | exact LeO.none _
   | refine LeO.ite ?_ ?_
   | refine LeO.bind ?_ (fun _ => ?_)
set_option maxHeartbeats 8000000 in
set_option maxRecDepth 100000 in
theorem reach_lengths_1.calls (k : Nat) (A0_0 : Option Addr) (c0_0 : Nat) (l0_0 : List (S46)) (A0_1 : Option Addr) (c0_1 : Nat) (l0_1 : List (S43)) (A1 : Option Addr) (c1 : Nat) (l1 : List Bool) (a2 : Int) (a3 : Int) (r : List Int) (w : World) (hr0_0 : Kd.C k46 w A0_0 l0_0.length l0_0) (hc0_0 : l0_0.length ≤ c0_0) (hr0_1 : Kd.C k43 w A0_1 l0_1.length l0_1) (hc0_1 : l0_1.length ≤ c0_1) (hr1 : Kd.C Kd.bool w A1 l1.length l1) (hc1 : l1.length ≤ c1) (h : reach_lengths_1.f k l0_0 l0_1 l1 a2 a3 = some r) :
  Calls Try.prog 53 #[.agg #[.slice A0_0 l0_0.length c0_0, .slice A0_1 l0_1.length c0_1], .slice A1 l1.length c1, .int .i64 a2, .int .i64 1] w fun e w' => ∃ v0_ : Value, e = .returned (v0_) ∧ Kd.R (Kd.int .i64) 3 w' w.heap.size (fun _ => True) v0_ r ∧ Below w.heap.size w w' := by
 have hu25 := Try.underlying25
 have hu43 := Try.underlying43
 have HR0_0 := Aside0.mk hr0_0
 have HC0_0 := Aside0.mk hc0_0
 clear hr0_0 hc0_0
 have HR0_1 := Aside0.mk hr0_1
 have HC0_1 := Aside0.mk hc0_1
 clear hr0_1 hc0_1
 have HR1 := Aside0.mk hr1
 have HC1 := Aside0.mk hc1
 clear hr1 hc1
 have HB := Aside0.mk (Below.refl w.heap.size w)
 have H : ((slices_Repeat_int_int.f (([(-1)] : List Int)) (l0_0.length : Int)).bind fun t205 => (if 0 ≤ a2 then (if a2 < (t205.length : Int) then (reach_lengths_1.l0 k l1 a2 (t205.set (a2 : Int).toNat 0) (([a2] : List Int)) l0_0 l0_1) else (none)) else (none))) = some r := h
 clear h
 obtain ⟨y202, hy202⟩ : ∃ y_ : List Int, y_ = (([(-1)] : List Int)) := ⟨_, rfl⟩
 replace H : ((slices_Repeat_int_int.f y202 (l0_0.length : Int)).bind fun t205 => (if 0 ≤ a2 then (if a2 < (t205.length : Int) then (reach_lengths_1.l0 k l1 a2 (t205.set (a2 : Int).toNat 0) (([a2] : List Int)) l0_0 l0_1) else (none)) else (none))) = some r := by first | (rw [hy202]; with_reducible exact H) | (have H2_ := (Option.bind_some _ _).symm.trans H; rw [hy202]; with_reducible exact H2_) | (have H2_ := (Option.bind_some _ _).symm.trans H; with_reducible exact H2_) | with_reducible exact H | (rw [hy202]; exact H) | exact H
 have Ny202 := Aside0.mk hy202
 clear hy202
 replace H := Option.bind_eq_some_iff.mp H
 obtain ⟨t205, A50, H⟩ := H
 replace H : (if 0 ≤ a2 then (if a2 < (t205.length : Int) then (reach_lengths_1.l0 k l1 a2 (t205.set (a2 : Int).toNat 0) (([a2] : List Int)) l0_0 l0_1) else (none)) else (none)) = some r := H
 have A5 := Aside0.mk A50
 clear A50
 by_cases c6 : 0 ≤ a2
 ·rw [if_pos c6] at H
  have c6b0 : decide (0 ≤ a2) = true := decide_eq_true c6
  clear c6
  by_cases c7 : a2 < (t205.length : Int)
  ·rw [if_pos c7] at H
   have c7b0 : decide (a2 < (t205.length : Int)) = true := decide_eq_true c7
   clear c7
   obtain ⟨y208, hy208⟩ : ∃ y_ : List Int, y_ = (t205.set (a2 : Int).toNat 0) := ⟨_, rfl⟩
   replace H : (reach_lengths_1.l0 k l1 a2 y208 (([a2] : List Int)) l0_0 l0_1) = some r := by first | (rw [hy208]; with_reducible exact H) | (have H2_ := (Option.bind_some _ _).symm.trans H; rw [hy208]; with_reducible exact H2_) | (have H2_ := (Option.bind_some _ _).symm.trans H; with_reducible exact H2_) | with_reducible exact H | (rw [hy208]; exact H) | exact H
   have Ny208 := Aside0.mk hy208
   clear hy208
   obtain ⟨y209, hy209⟩ : ∃ y_ : List Int, y_ = (([a2] : List Int)) := ⟨_, rfl⟩
   replace H : (reach_lengths_1.l0 k l1 a2 y208 y209 l0_0 l0_1) = some r := by first | (rw [hy209]; with_reducible exact H) | (have H2_ := (Option.bind_some _ _).symm.trans H; rw [hy209]; with_reducible exact H2_) | (have H2_ := (Option.bind_some _ _).symm.trans H; with_reducible exact H2_) | with_reducible exact H | (rw [hy209]; exact H) | exact H
   have Ny209 := Aside0.mk hy209
   clear hy209
   have H' := Aside0.mk H
   clear H
   go_enter Try.func53, Try.ntmps53
   go_wp2_with (first | ((with_reducible refine gate_dst (N := 4) rfl ?_); refine box_event ?hg (N := 4) ?hd (cs := #[.slice A0_0 l0_0.length c0_0, .slice A0_1 l0_1.length c0_1]) (t := 25) ?hr ?_; (case hd => rfl); (case hg => rfl); (case hr => first | (go_simp; done) | (go_simp; rfl)); intro gb201 hg w9 hbox hb; have n0_ := Aside0.mk (below_step (zb0 HB.out) hb); have n1_ := Aside0.mk (hbox); have n2_ := Aside0.mk ((by rw [hg]; exact (below_size (zb0 HB.out)) : w.heap.size ≤ gb201)); have n3_ := Aside0.mk ((by rw [hg]; exact (below_size (zb0 HB.out)) : w.heap.size ≤ gb201)); clear HB; have HB := n0_; have BK201 := n1_; have GW201 := n2_; have GE201 := n3_; clear n0_ n1_ n2_ n3_; clear hb hbox hg) | ((with_reducible refine gate_dst (N := 15) rfl ?_); refine Kd.R_lit (Kd.int .i64) _ 3 ?hg (N := 15) ?hd (xs := ([(-1)] : List Int)) (inner := [.int .i64 (-1)]) (ok := fun _ => True) (okp := fun _ => True) ?hr ?hp (fun _ hk => hk) trivial (Below.refl _ _) (Nat.le_refl _) (by simp) ?_; (case hd => rfl); (case hg => rfl); (case hr => first | (go_simp; done) | (go_simp; rfl)); (case hp => exact (Reps.one (show Kd.M (Kd.int .i64) _ _ _ (-1) [.int .i64 (-1)] from rfl) (Reps.none _ _))); intro v203 w10 ho11 hb hg_ hnew_; clear hg_ hnew_; (first | rw [← Ny202.out] at ho11 | (simp only [Int.reduceToNat] at ho11; rw [← Ny202.out] at ho11)); have n0_ := Aside0.mk (Kd.R_lower ho11 (below_size (zb1 HB.out GE201.out))); have n1_ := Aside0.mk (blk_below (g := gb201) (o := .cells #[.slice A0_0 l0_0.length c0_0, .slice A0_1 l0_1.length c0_1] 25 (0, 0)) (zk BK201.out) hb); have n2_ := Aside0.mk (below_step (zb1 HB.out GE201.out) hb); clear BK201; clear HB; have HO204 := n0_; have BK201 := n1_; have HB := n2_; clear n0_ n1_ n2_; clear hb ho11; have hcz12_0 : w10.cell? ⟨gb201, 0, none⟩ = some (.slice A0_0 l0_0.length c0_0) := (blk_cell BK201.out 0).trans rfl; have hcz12_1 : w10.cell? ⟨gb201, 1, none⟩ = some (.slice A0_1 l0_1.length c0_1) := (blk_cell BK201.out 1).trans rfl; have hfz12_0 := blk_frozen BK201.out 0; have hfz12_1 := blk_frozen BK201.out 1; obtain ⟨Ao13, co13, eo13⟩ := Kd.R_slice HO204.out; subst eo13) | ((with_reducible refine gate_callee (f := 67) rfl ?_); refine goesL_ (some 19) rfl rfl Try.func67 (by kernel_rfl) rfl #[.slice Ao13 y202.length co13, .int .i64 (l0_0.length : Int)] rfl am ?_; (with_reducible refine (slices_Repeat_int_int.calls _ _ y202 (l0_0.length : Int) t205 _ ?side1 ?side2 A5.out).mono ?_); (case side1 => exact zd (Kd.R_reads' HO204.out).2.2); (case side2 => exact (Kd.R_reads' HO204.out).2.1); rintro e w14 ⟨v206, rfl, ho0, hb⟩; refine ⟨_, rfl, ?_⟩; have n0_ := Aside0.mk (Kd.R_elder' (zr HO204.out) (Kd.R_base ho0) hb); have n1_ := Aside0.mk (Kd.R_lower (Kd.R_new' ho0 (Kd.R_lt (zr HO204.out))) (below_size (zb1 HB.out GE201.out))); have n2_ := Aside0.mk (blk_below (g := gb201) (o := .cells #[.slice A0_0 l0_0.length c0_0, .slice A0_1 l0_1.length c0_1] 25 (0, 0)) (zk BK201.out) hb); have n3_ := Aside0.mk (below_step (zb1 HB.out GE201.out) hb); clear HO204; clear BK201; clear HB; have HO204 := n0_; have HO207 := n1_; have BK201 := n2_; have HB := n3_; clear n0_ n1_ n2_ n3_; (try clear hb); (try clear hb2); (try clear hk); (try clear hi); (try clear ho0); have p8 : 0 ≤ (a2 : Int) := oda; have q8 : (a2 : Int) < ((t205.length : Int) : Int) := oda; obtain ⟨go8, co8, eo8, gb8, gl8, cl8, HG8⟩ := Kd.R_form HO207.out (by omega); (first | cases eo8 | (injection eo8 with ea_ en_ ec_; (first | subst ea_ | (injection ea_ with ea_; subst ea_)); subst ec_; clear en_)); have GB8 := Aside0.mk gb8; have GG8 := Aside0.mk HG8; clear gb8 gl8 HG8; obtain ⟨hx8_0, hf8_0⟩ := Kd.R_celln 0 HO207.out (a2 : Int) p8 q8; replace p8 := eq_true p8; replace q8 := eq_true q8; have n_ := Aside0.mk (Kd.R_mono (ok' := (fun k_ => some k_ ≠ (.slice Ao13 y202.length co13 : Value).ownBlock)) HO207.out (fun k_ hk => hk.2)); clear HO207; have HO207 := n_; clear n_; obtain ⟨hy15_, hz15_⟩ := Kd.R_celln 0 HO207.out (a2 : Int) (oda) (oda); have HP15 := Kd.R_putg HO207.out (a2 : Int) 0) | ((with_reducible refine gate_store (t := 3) (p := 22) rfl ?_); refine store_event (t := 3) (p := 22) (v := ?vo_w16) (w1 := (w14.setCell ⟨go8, (a2 : Int).toNat, none⟩ (.int .i64 0))) ?hg ?ho ?hn ?hr ?_; (case ho => rfl); (case hg => rfl); (case hn => rfl); (case hr => first | (go_simp; done) | (go_simp; rfl)); intro w16 hw; have hg : w14.grownBy w16 (some go8) := (by rw [hw]; exact HP15.2); have hp_ : Kd.R (Kd.int .i64) 3 w16 w.heap.size (fun k_ => some k_ ≠ (.slice Ao13 y202.length co13 : Value).ownBlock) (.slice (some ⟨go8, 0, none⟩) t205.length co8) y208 := (by rw [hw, Ny208.out]; exact HP15.1); clear HP15; have n0_ := Aside0.mk (blk_grown (g := gb201) (o := .cells #[.slice A0_0 l0_0.length c0_0, .slice A0_1 l0_1.length c0_1] 25 (0, 0)) (zk BK201.out) hg (Kd.R_ne HO207.out BK201.out (by decide))); have n1_ := Aside0.mk (Kd.R_after (v := (.slice (some ⟨go8, 0, none⟩) t205.length co8)) (v1 := (.slice (some ⟨go8, 0, none⟩) t205.length co8)) (ok := (fun _ => True)) (zr HO204.out) hg (.inl rfl)); have n2_ := Aside0.mk (hp_); have n3_ := Aside0.mk ((by rw [hw]; exact below_set (HB.out) GB8.out : Below w.heap.size w w16)); clear BK201; clear HO204; clear HO207; clear HB; have BK201 := n0_; have HO204 := n1_; have HO207 := n2_; have HB := n3_; clear n0_ n1_ n2_ n3_; clear hg hw hp_) | ((with_reducible refine gate_dst (N := 24) rfl ?_); refine Kd.R_lit (Kd.int .i64) _ 3 ?hg (N := 24) ?hd (xs := ([a2] : List Int)) (inner := [.int .i64 a2]) (ok := fun _ => True) (okp := fun _ => True) ?hr ?hp (fun _ hk => hk) trivial (Below.refl _ _) (Nat.le_refl _) (by simp) ?_; (case hd => rfl); (case hg => rfl); (case hr => first | (go_simp; done) | (go_simp; rfl)); (case hp => exact (Reps.one (show Kd.M (Kd.int .i64) _ _ _ a2 [.int .i64 a2] from rfl) (Reps.none _ _))); intro v210 w17 ho18 hb hg_ hnew_; clear hg_ hnew_; (first | rw [← Ny209.out] at ho18 | (simp only [Int.reduceToNat] at ho18; rw [← Ny209.out] at ho18)); have n0_ := Aside0.mk (Kd.R_elder' (zr HO204.out) (Kd.R_base ho18) hb); have n1_ := Aside0.mk (Kd.R_elder' (zr HO207.out) (Kd.R_base ho18) hb); have n2_ := Aside0.mk (Kd.R_lower (Kd.R_new' (Kd.R_new' ho18 (Kd.R_lt (zr HO204.out))) (Kd.R_lt (zr HO207.out))) (below_size (zb1 HB.out GE201.out))); have n3_ := Aside0.mk (blk_below (g := gb201) (o := .cells #[.slice A0_0 l0_0.length c0_0, .slice A0_1 l0_1.length c0_1] 25 (0, 0)) (zk BK201.out) hb); have n4_ := Aside0.mk (below_step (zb1 HB.out GE201.out) hb); clear HO204; clear HO207; clear BK201; clear HB; have HO204 := n0_; have HO207 := n1_; have HO211 := n2_; have BK201 := n3_; have HB := n4_; clear n0_ n1_ n2_ n3_ n4_; clear hb ho18))
   go_loopg [10] k (fun kq v10 w' => ∃ (x9_1 : List Int) (x10_1 : List Int), Aside0 (reach_lengths_1.l0 kq l1 a2 x9_1 x10_1 l0_0 l0_1 = some r) ∧ Aside0 (kq ≤ k) ∧ Aside0 (Kd.R (Kd.int .i64) 3 w' w.heap.size (fun k_ => some k_ ≠ (v10 : Value).ownBlock) (.slice (some ⟨go8, 0, none⟩) t205.length co8) x9_1) ∧ Aside0 (Kd.Q (Kd.int .i64) 3 w' w.heap.size (fun k_ => some k_ ≠ ((.slice (some ⟨go8, 0, none⟩) t205.length co8) : Value).ownBlock) v10 x10_1) ∧ Aside0 (w'.heap[gb201]? = some (.cells #[(.slice A0_0 l0_0.length c0_0), (.slice A0_1 l0_1.length c0_1)] 25 (0, 0))) ∧ Aside0 (Below w.heap.size w w'))
   case atStart => exact ⟨(y208), (y209), H', ⟨Nat.le_refl _⟩, ⟨by (with_reducible repeat (first | apply Kd.R_alloc | apply Kd.R_drewN | apply Kd.R_drew)); exact Kd.R_mono HO207.out (fun _ hk => hk.2)⟩, ⟨Kd.Q_of_R (by (with_reducible repeat (first | apply Kd.R_alloc | apply Kd.R_drewN | apply Kd.R_drew)); exact Kd.R_mono HO211.out (fun _ hk => hk.2))⟩, ⟨zk BK201.out⟩, ⟨zb1 HB.out GE201.out⟩⟩
   case round =>
    clear H'
    try clear c1
    try clear p2
    try clear c5
    try clear c6
    try clear c6b0
    try clear c7
    try clear c7b0
    try clear p8
    try clear q8
    try clear hx8
    try clear hf8
    try clear hcz12_0
    try clear hcz12_1
    try clear hfz12_0
    try clear hfz12_1
    try clear hx8_0
    try clear p8
    try clear q8
    obtain ⟨x9_1, x10_1, HA, HK1, HO_9, HO_10, BK201, HB⟩ := hrel
    have hl9_1 := (Kd.R_reads' HO_9.out).1
    rw [hl9_1] at HO_9
    (try simp only [hl9_1])
    (try simp only [hl9_1] at BK201)
    (try simp only [hl9_1] at HO_10)
    cases gk with
    | zero => exact absurd HA.out (by simp [reach_lengths_1.l0])
    | succ k1 =>
     have H := HA.out
     clear HA
     simp only [reach_lengths_1.l0] at H
     by_cases c19 : (x10_1.length : Int) > 0
     ·rw [if_pos c19] at H
      have c19b0 : decide (0 < (x10_1.length : Int)) = true := decide_eq_true c19
      have c19b1 : decide (0 < x10_1.length) = true := decide_eq_true (by omega)
      (try (have c19z0 := c19b0; simp only [hl9_1] at c19z0))
      (try (have c19z1 := c19b1; simp only [hl9_1] at c19z1))
      clear c19
      by_cases c20 : 0 < (x10_1.length : Int)
      ·rw [if_pos c20] at H
       have c20b0 : decide (0 < (x10_1.length : Int)) = true := decide_eq_true c20
       have c20b1 : decide (0 < x10_1.length) = true := decide_eq_true (by omega)
       (try (have c20z0 := c20b0; simp only [hl9_1] at c20z0))
       (try (have c20z1 := c20b1; simp only [hl9_1] at c20z1))
       clear c20
       have HC21 := Aside0.mk H
       clear H
       obtain ⟨Ao22, co22, eo22, _⟩ := Kd.Q_slice HO_10.out
       subst eo22
       have p212 : 0 ≤ (0 : Int) := (by omega)
       have q212 : 0 < (x10_1.length : Int) := oda
       obtain ⟨ad212, e212, hx212_0⟩ := Kd.at_int (Kd.Q_reads' HO_10.out).2.2 0 p212 q212
       cases e212
       have qi212 : (0 < x10_1.length) = True := eq_true (by omega)
       (try rw [show ((0 : Int)).toNat = 0 from rfl] at hx212_0)
       (try rw [Addr.add_zero'] at hx212_0)
       replace p212 := eq_true p212
       replace q212 := eq_true q212
       go_upto_region 7 with (fail)
       go_cut [44] (fun v44 wc => ∃ (kq : Nat) (x44_20 : Bool), v44 = .bool x44_20 ∧ Aside0 (reach_lengths_1.j1 kq l1 a2 x9_1 x10_1 (rd x10_1 0) x44_20 l0_0 l0_1 = some r) ∧ Aside0 (kq ≤ k1) ∧ Aside0 (Kd.R (Kd.int .i64) 3 wc w.heap.size (fun k_ => some k_ ≠ ((.slice (some ad212) x10_1.length co22) : Value).ownBlock) (.slice (some ⟨go8, 0, none⟩) x9_1.length co8) x9_1) ∧ Aside0 (Kd.Q (Kd.int .i64) 3 wc w.heap.size (fun k_ => some k_ ≠ ((.slice (some ⟨go8, 0, none⟩) x9_1.length co8) : Value).ownBlock) (.slice (some ad212) x10_1.length co22) x10_1) ∧ Aside0 (wc.heap[gb201]? = some (.cells #[(.slice A0_0 l0_0.length c0_0), (.slice A0_1 l0_1.length c0_1)] 25 (0, 0))) ∧ Aside0 (Below w.heap.size w wc))
       case first =>
        have H := HC21.out
        clear HC21
        by_cases c23 : (rd x10_1 0) = a2
        ·rw [if_pos c23] at H
         have c23b0 : ((rd x10_1 0) == a2) = true := beq_iff_eq.mpr c23
         have c23b1 : ((rd x10_1 0) != a2) = false := bne_eq_false_iff_eq.mpr c23
         clear c23
         (first | rw [c23b0] | (simp only [i64_w, i32_w]; rw [c23b0]) | skip)
         have H' := Aside0.mk H
         clear H
         go_wp2
         go_meet
         case rel => exact ⟨_, (false), rs, H', ⟨by have := HK1.out; first | omega | exact Nat.le_refl _⟩, ⟨by (try simp only [hl9_1]); (with_reducible repeat (first | apply Kd.R_alloc | apply Kd.R_drewN | apply Kd.R_drew)); exact HO_9.out⟩, ⟨by (try simp only [hl9_1]); (with_reducible repeat (first | apply Kd.Q_alloc | apply Kd.Q_drewN | apply Kd.Q_drew)); exact HO_10.out⟩, ⟨by (try simp only [hl9_1]); (with_reducible repeat (first | refine blk_drewN ?_ _ | refine blk_drew ?_ | refine blk_alloc ?_ _)); exact BK201.out⟩, ⟨zb1 HB.out GE201.out⟩⟩
        ·rw [if_neg c23] at H
         have c23b0 : ((rd x10_1 0) == a2) = false := beq_eq_false_iff_ne.mpr c23
         have c23b1 : ((rd x10_1 0) != a2) = true := bne_iff_ne.mpr c23
         (first | rw [c23b0] | (simp only [i64_w, i32_w]; rw [c23b0]) | skip)
         by_cases c24 : 0 ≤ (rd x10_1 0)
         ·rw [if_pos c24] at H
          have c24b0 : decide (0 ≤ (rd x10_1 0)) = true := decide_eq_true c24
          clear c24
          by_cases c25 : (rd x10_1 0) < (l0_0.length : Int)
          ·rw [if_pos c25] at H
           have c25b0 : decide ((rd x10_1 0) < (l0_0.length : Int)) = true := decide_eq_true c25
           (try (have c25z0 := c25b0; simp only [hl9_1] at c25z0))
           clear c25
           have H' := Aside0.mk H
           clear H
           have hcz26_0 : wr.cell? ⟨gb201, 0, none⟩ = some (.slice A0_0 l0_0.length c0_0) := (blk_cell BK201.out 0).trans rfl
           have hcz26_1 : wr.cell? ⟨gb201, 1, none⟩ = some (.slice A0_1 l0_1.length c0_1) := (blk_cell BK201.out 1).trans rfl
           have hfz26_0 := blk_frozen BK201.out 0
           have hfz26_1 := blk_frozen BK201.out 1
           have p213 : 0 ≤ ((rd x10_1 0) : Int) := oda
           have q213 : (rd x10_1 0) < (l0_0.length : Int) := oda
           obtain ⟨ad213, e213, hx213_0, hx213_1, hx213_2⟩ := at_T46 HR0_0.out (rd x10_1 0) p213 q213
           cases e213
           replace hx213_0 := zx HB.out hx213_0
           replace hx213_1 := zx HB.out hx213_1
           replace hx213_2 := zx HB.out hx213_2
           replace p213 := eq_true p213
           replace q213 := eq_true q213
           go_wp2
           go_meet
           case rel => exact ⟨_, ((((rd_T46 l0_0 (rd x10_1 0)).f1) != 1)), rs, H', ⟨by have := HK1.out; first | omega | exact Nat.le_refl _⟩, ⟨by (try simp only [hl9_1]); (with_reducible repeat (first | apply Kd.R_alloc | apply Kd.R_drewN | apply Kd.R_drew)); exact HO_9.out⟩, ⟨by (try simp only [hl9_1]); (with_reducible repeat (first | apply Kd.Q_alloc | apply Kd.Q_drewN | apply Kd.Q_drew)); exact HO_10.out⟩, ⟨by (try simp only [hl9_1]); (with_reducible repeat (first | refine blk_drewN ?_ _ | refine blk_drew ?_ | refine blk_alloc ?_ _)); exact BK201.out⟩, ⟨zb1 HB.out GE201.out⟩⟩
          ·rw [if_neg c25] at H
           exact absurd H (by simp)
         ·rw [if_neg c24] at H
          exact absurd H (by simp)
       case rest =>
        clear HC21
        try clear c1
        try clear c2
        try clear p2
        try clear q2
        try clear hx2
        try clear qi2
        try clear c5
        try clear c6
        try clear c6b0
        try clear c7
        try clear c7b0
        try clear p8
        try clear q8
        try clear hx8
        try clear hf8
        try clear c19
        try clear c19b0
        try clear c19b1
        try clear c20
        try clear c20b0
        try clear c20b1
        try clear p21
        try clear q21
        try clear hx21
        try clear qi21
        try clear c23
        try clear c23b0
        try clear c23b1
        try clear c24
        try clear c24b0
        try clear c25
        try clear c25b0
        try clear hcz12_0
        try clear hcz12_1
        try clear hcz26_0
        try clear hcz26_1
        try clear hfz12_0
        try clear hfz12_1
        try clear hfz26_0
        try clear hfz26_1
        try clear hx212_0
        try clear hx213_0
        try clear hx213_1
        try clear hx213_2
        try clear hx8_0
        try clear p2
        try clear p212
        try clear p213
        try clear p8
        try clear q212
        try clear q213
        try clear q8
        obtain ⟨kq, x44_20, rfl, HA, HJ20, HO_9, HO_10, BK201, HB⟩ := hcut
        cases kq with
        | zero => exact absurd HA.out (by simp [reach_lengths_1.j1])
        | succ kj20 =>
         have H := HA.out
         clear HA
         simp only [reach_lengths_1.j1] at H
         by_cases c27 : x44_20 = true
         ·subst c27
          have H1 : (if 1 ≤ (x10_1.length : Int) then (reach_lengths_1.l0 kj20 l1 a2 x9_1 (x10_1.drop (1 : Int).toNat) l0_0 l0_1) else (none)) = some r := by rw [if_pos rfl] at H; exact H
          clear H
          have H := H1
          clear H1
          by_cases c28 : 1 ≤ (x10_1.length : Int)
          ·rw [if_pos c28] at H
           have c28b0 := eq_true c28
           have c28b1 : decide (1 ≤ (x10_1.length : Int)) = true := decide_eq_true c28
           clear c28
           obtain ⟨y214, hy214⟩ : ∃ y_ : List Int, y_ = (x10_1.drop (1 : Int).toNat) := ⟨_, rfl⟩
           replace H : (reach_lengths_1.l0 kj20 l1 a2 x9_1 y214 l0_0 l0_1) = some r := by first | (rw [hy214]; with_reducible exact H) | (have H2_ := (Option.bind_some _ _).symm.trans H; rw [hy214]; with_reducible exact H2_) | (have H2_ := (Option.bind_some _ _).symm.trans H; with_reducible exact H2_) | with_reducible exact H | (rw [hy214]; exact H) | exact H
           have Ny214 := Aside0.mk hy214
           clear hy214
           have H' := Aside0.mk H
           clear H
           have q29 : (1 : Int) ≤ ((x10_1.length : Int) : Int) := oda
           obtain ⟨i029, hi029, _, hsz29, _⟩ := info_parts info3
           have hcut29 := cut_from (P := Try.prog) 26 3 .i64 Try.underlying26 hi029 1 hsz29 (some ad212) x10_1.length co22 1 (by omega) q29
           have hr29 := Kd.Q_drop (k := (1 : Int).toNat) HO_10.out (by omega)
           obtain ⟨A29, hA29⟩ : ∃ A1, A1 = (if co22 = (1 : Int).toNat then (some ad212) else ((some ad212) : Option Addr).map (·.add ((1 : Int).toNat * 1))) := ⟨_, rfl⟩
           obtain ⟨c29, hc29⟩ : ∃ c1, c1 = co22 - (1 : Int).toNat := ⟨_, rfl⟩
           have hy29 : y214.length = x10_1.length - (1 : Int).toNat := (by rw [Ny214.out, List.length_drop])
           rw [← Ny214.out] at hr29
           rw [← hy29, ← hA29, ← hc29] at hcut29
           replace hr29 : Kd.Q (Kd.int .i64) 3 wc w.heap.size (fun k_ => some k_ ≠ (.slice (some ⟨go8, 0, none⟩) x9_1.length co8 : Value).ownBlock) (.slice A29 y214.length c29) y214 := (by rw [hA29, hc29, hy29]; exact hr29)
           have HE29 : Aside0 ((Value.slice A29 y214.length c29).ownBlock = (.slice (some ad212) x10_1.length co22 : Value).ownBlock) := ⟨by rw [hA29]; split <;> (cases ((some ad212) : Option Addr) <;> rfl)⟩
           clear hy29 hi029 hsz29 HO_10 hA29 hc29
           have HO216 := Aside0.mk hr29
           clear hr29
           replace q29 := eq_true q29
           have n_ := Aside0.mk (Kd.R_mono (ok' := fun k_ => some k_ ≠ (.slice A29 y214.length c29 : Value).ownBlock) HO_9.out (fun k_ hk => (by rw [HE29.out]; exact hk)))
           clear HO_9
           have HO_9 := n_
           clear n_
           go_wp2
           (try simp only [← hl9_1])
           go_roundg kj20
           case measure => have := HK1.out; have := HJ20.out; omega
           case rel => exact ⟨(x9_1), (y214), H', ⟨by have := HK1.out; have := HJ20.out; omega⟩, ⟨by (try simp only [hl9_1]); (with_reducible repeat (first | apply Kd.R_alloc | apply Kd.R_drewN | apply Kd.R_drew)); exact HO_9.out⟩, ⟨by (try simp only [hl9_1]); (with_reducible repeat (first | apply Kd.Q_alloc | apply Kd.Q_drewN | apply Kd.Q_drew)); exact HO216.out⟩, ⟨by (try simp only [hl9_1]); (with_reducible repeat (first | refine blk_drewN ?_ _ | refine blk_drew ?_ | refine blk_alloc ?_ _)); exact BK201.out⟩, ⟨zb1 HB.out GE201.out⟩⟩
          ·rw [if_neg c28] at H
           exact absurd H (by simp)
         ·replace c27 := Bool.eq_false_iff.mpr c27
          subst c27
          have H1 : (reach_lengths_1.l1 kj20 l1 a2 x9_1 x10_1 (rd x10_1 0) l0_1 (l0_1.length : Int) 0 l0_0 l0_1) = some r := by rw [if_neg (show ¬ (false = true) by decide)] at H; exact H
          clear H
          have H := H1
          clear H1
          have H' := Aside0.mk H
          clear H
          have hcz30_0 : wc.cell? ⟨gb201, 0, none⟩ = some (.slice A0_0 l0_0.length c0_0) := (blk_cell BK201.out 0).trans rfl
          have hcz30_1 : wc.cell? ⟨gb201, 1, none⟩ = some (.slice A0_1 l0_1.length c0_1) := (blk_cell BK201.out 1).trans rfl
          have hfz30_0 := blk_frozen BK201.out 0
          have hfz30_1 := blk_frozen BK201.out 1
          go_wp2
          go_loopg [10, 48] kj20 (fun kq v10 v48 w' => ∃ (x9_3 : List Int) (x10_3 : List Int) (x48_3 : Int), v48 = .int .i64 x48_3 ∧ Aside0 (reach_lengths_1.l1 kq l1 a2 x9_3 x10_3 (rd x10_1 0) l0_1 (l0_1.length : Int) x48_3 l0_0 l0_1 = some r) ∧ Aside0 (kq ≤ kj20) ∧ Aside0 (Kd.R (Kd.int .i64) 3 w' w.heap.size (fun k_ => some k_ ≠ (v10 : Value).ownBlock) (.slice (some ⟨go8, 0, none⟩) x9_1.length co8) x9_3) ∧ Aside0 (Kd.Q (Kd.int .i64) 3 w' w.heap.size (fun k_ => some k_ ≠ ((.slice (some ⟨go8, 0, none⟩) x9_1.length co8) : Value).ownBlock) v10 x10_3) ∧ Aside0 (w'.heap[gb201]? = some (.cells #[(.slice A0_0 l0_0.length c0_0), (.slice A0_1 l0_1.length c0_1)] 25 (0, 0))) ∧ Aside0 (Below w.heap.size w w'))
          case atStart => exact ⟨(x9_1), (x10_1), (0), rs, H', ⟨Nat.le_refl _⟩, ⟨by (try simp only [hl9_1]); (with_reducible repeat (first | apply Kd.R_alloc | apply Kd.R_drewN | apply Kd.R_drew)); exact HO_9.out⟩, ⟨by (try simp only [hl9_1]); (with_reducible repeat (first | apply Kd.Q_alloc | apply Kd.Q_drewN | apply Kd.Q_drew)); exact HO_10.out⟩, ⟨by (try simp only [hl9_1]); (with_reducible repeat (first | refine blk_drewN ?_ _ | refine blk_drew ?_ | refine blk_alloc ?_ _)); exact BK201.out⟩, ⟨zb1 HB.out GE201.out⟩⟩
          case round =>
           clear H'
           try clear c1
           try clear c2
           try clear p2
           try clear q2
           try clear hx2
           try clear qi2
           try clear c5
           try clear c6
           try clear c6b0
           try clear c7
           try clear c7b0
           try clear p8
           try clear q8
           try clear hx8
           try clear hf8
           try clear c19
           try clear c19b0
           try clear c19b1
           try clear c20
           try clear c20b0
           try clear c20b1
           try clear p21
           try clear q21
           try clear hx21
           try clear qi21
           try clear c23
           try clear c23b0
           try clear c23b1
           try clear c24
           try clear c24b0
           try clear c25
           try clear c25b0
           try clear c27
           try clear c28
           try clear c28b0
           try clear c28b1
           try clear c29
           try clear q29
           try clear hcz12_0
           try clear hcz12_1
           try clear hcz26_0
           try clear hcz26_1
           try clear hcz30_0
           try clear hcz30_1
           try clear hfz12_0
           try clear hfz12_1
           try clear hfz26_0
           try clear hfz26_1
           try clear hfz30_0
           try clear hfz30_1
           try clear hx212_0
           try clear hx213_0
           try clear hx213_1
           try clear hx213_2
           try clear hx8_0
           try clear p2
           try clear p21
           try clear p212
           try clear p213
           try clear p8
           try clear q2
           try clear q21
           try clear q212
           try clear q213
           try clear q29
           try clear q8
           obtain ⟨x9_3, x10_3, x48_3, rfl, HA, HK3, HO_9, HO_10, BK201, HB⟩ := hrel
           have hl9_3 := (Kd.R_reads' HO_9.out).1
           rw [hl9_3] at HO_9
           (try simp only [hl9_3])
           (try simp only [hl9_3] at BK201)
           (try simp only [hl9_3] at HO_10)
           cases gk with
           | zero => exact absurd HA.out (by simp [reach_lengths_1.l1])
           | succ k3 =>
            have H := HA.out
            clear HA
            simp only [reach_lengths_1.l1] at H
            by_cases c31 : x48_3 < (l0_1.length : Int)
            ·rw [if_pos c31] at H
             have c31b0 : decide (x48_3 < (l0_1.length : Int)) = true := decide_eq_true c31
             (try (have c31z0 := c31b0; simp only [hl9_1, hl9_3] at c31z0))
             clear c31
             by_cases c32 : 0 ≤ x48_3
             ·rw [if_pos c32] at H
              have c32b0 : decide (0 ≤ x48_3) = true := decide_eq_true c32
              clear c32
              by_cases c33 : x48_3 < (l0_1.length : Int)
              ·rw [if_pos c33] at H
               have c33b0 : decide (x48_3 < (l0_1.length : Int)) = true := decide_eq_true c33
               (try (have c33z0 := c33b0; simp only [hl9_1, hl9_3] at c33z0))
               clear c33
               obtain ⟨ji34, hji34⟩ : ∃ j_ : Int, (wrap64 (x48_3 + 1)) = j_ := ⟨_, rfl⟩
               replace H : (if 0 ≤ (ji34) then (if (ji34) < (l1.length : Int) then (if (rdOf false l1 (ji34) = true) then (reach_lengths_1.l1 k3 l1 a2 x9_3 x10_3 (rd x10_1 0) l0_1 (l0_1.length : Int) ji34 l0_0 l0_1) else (if ((rd_T43 l0_1 x48_3).f1) = (rd x10_1 0) then (if 0 ≤ ((rd_T43 l0_1 x48_3).f0) then (if ((rd_T43 l0_1 x48_3).f0) < (x9_3.length : Int) then (if (rd x9_3 ((rd_T43 l0_1 x48_3).f0)) < 0 then (if 0 ≤ (rd x10_1 0) then (if (rd x10_1 0) < (x9_3.length : Int) then (if x10_3.length < 17592186044416 then (reach_lengths_1.l1 k3 l1 a2 (x9_3.set (((rd_T43 l0_1 x48_3).f0) : Int).toNat (wrap64 ((rd x9_3 (rd x10_1 0)) + 1))) (x10_3 ++ [(rd_T43 l0_1 x48_3).f0]) (rd x10_1 0) l0_1 (l0_1.length : Int) ji34 l0_0 l0_1) else (none)) else (none)) else (none)) else (reach_lengths_1.l1 k3 l1 a2 x9_3 x10_3 (rd x10_1 0) l0_1 (l0_1.length : Int) ji34 l0_0 l0_1)) else (none)) else (none)) else (reach_lengths_1.l1 k3 l1 a2 x9_3 x10_3 (rd x10_1 0) l0_1 (l0_1.length : Int) ji34 l0_0 l0_1))) else (none)) else (none)) = some r := by first | (rw [hji34] at H; exact H) | (simp only [hji34] at H ⊢; exact H)
               have hji34w : (IntKind.i64.wrap (x48_3 + 1)) = ji34 := (i64_w _).trans hji34
               by_cases c35 : 0 ≤ (ji34)
               ·rw [if_pos c35] at H
                have c35b0 : decide (0 ≤ (ji34)) = true := decide_eq_true c35
                clear c35
                by_cases c36 : (ji34) < (l1.length : Int)
                ·rw [if_pos c36] at H
                 have c36b0 : decide ((ji34) < (l1.length : Int)) = true := decide_eq_true c36
                 (try (have c36z0 := c36b0; simp only [hl9_1, hl9_3] at c36z0))
                 clear c36
                 obtain ⟨bq37, hbq37⟩ : ∃ b_ : Bool, b_ = (rdOf false l1 (ji34)) := ⟨_, rfl⟩
                 replace H : (if (bq37 = true) then (reach_lengths_1.l1 k3 l1 a2 x9_3 x10_3 (rd x10_1 0) l0_1 (l0_1.length : Int) ji34 l0_0 l0_1) else (if ((rd_T43 l0_1 x48_3).f1) = (rd x10_1 0) then (if 0 ≤ ((rd_T43 l0_1 x48_3).f0) then (if ((rd_T43 l0_1 x48_3).f0) < (x9_3.length : Int) then (if (rd x9_3 ((rd_T43 l0_1 x48_3).f0)) < 0 then (if 0 ≤ (rd x10_1 0) then (if (rd x10_1 0) < (x9_3.length : Int) then (if x10_3.length < 17592186044416 then (reach_lengths_1.l1 k3 l1 a2 (x9_3.set (((rd_T43 l0_1 x48_3).f0) : Int).toNat (wrap64 ((rd x9_3 (rd x10_1 0)) + 1))) (x10_3 ++ [(rd_T43 l0_1 x48_3).f0]) (rd x10_1 0) l0_1 (l0_1.length : Int) ji34 l0_0 l0_1) else (none)) else (none)) else (none)) else (reach_lengths_1.l1 k3 l1 a2 x9_3 x10_3 (rd x10_1 0) l0_1 (l0_1.length : Int) ji34 l0_0 l0_1)) else (none)) else (none)) else (reach_lengths_1.l1 k3 l1 a2 x9_3 x10_3 (rd x10_1 0) l0_1 (l0_1.length : Int) ji34 l0_0 l0_1))) = some r := by rw [← hbq37] at H; exact H
                 have Nbq37 := Aside0.mk hbq37
                 clear hbq37
                 by_cases c38 : (bq37 = true)
                 ·subst c38
                  have H1 : (reach_lengths_1.l1 k3 l1 a2 x9_3 x10_3 (rd x10_1 0) l0_1 (l0_1.length : Int) ji34 l0_0 l0_1) = some r := by rw [if_pos rfl] at H; exact H
                  clear H
                  have H := H1
                  clear H1
                  have H' := Aside0.mk H
                  clear H
                  have p217 : 0 ≤ (x48_3 : Int) := oda
                  have q217 : x48_3 < (l0_1.length : Int) := oda
                  obtain ⟨ad217, e217, hx217_0, hx217_1⟩ := at_T43 HR0_1.out x48_3 p217 q217
                  cases e217
                  replace hx217_0 := zx HB.out hx217_0
                  replace hx217_1 := zx HB.out hx217_1
                  replace p217 := eq_true p217
                  replace q217 := eq_true q217
                  go_wp2_with (first | ((with_reducible refine gate_dst (N := 13) rfl ?_); refine box_event ?hg (N := 13) ?hd (cs := #[.int .i64 0, .int .i64 0]) (t := 43) ?hr ?_; (case hd => rfl); (case hg => rfl); (case hr => first | (go_simp; done) | (go_simp; rfl)); intro gb218 hg w39 hbox hb; have n0_ := Aside0.mk (Kd.R_below (zr HO_9.out) hb); have n1_ := Aside0.mk (Kd.Q_below (by (with_reducible repeat (first | apply Kd.Q_alloc | apply Kd.Q_drewN | apply Kd.Q_drew)); exact HO_10.out) hb); have n2_ := Aside0.mk (blk_below (g := gb201) (o := .cells #[.slice A0_0 l0_0.length c0_0, .slice (some ad217) l0_1.length c0_1] 25 (0, 0)) (zk BK201.out) hb); have n3_ := Aside0.mk (below_step (zb1 HB.out GE201.out) hb); have n4_ := Aside0.mk (hbox); have n5_ := Aside0.mk ((by rw [hg]; exact (below_size (zb1 HB.out GE201.out)) : w.heap.size ≤ gb218)); have n6_ := Aside0.mk ((by rw [hg]; exact (below_size (zb1 HB.out GE201.out)) : w.heap.size ≤ gb218)); have n7_ := Aside0.mk ((by rw [hg]; exact Nat.ne_of_lt (blk_lt (g := gb201) (o := .cells #[.slice A0_0 l0_0.length c0_0, .slice (some ad217) l0_1.length c0_1] 25 (0, 0)) (zk BK201.out)) : gb201 ≠ gb218)); have n8_ := Aside0.mk ((by rw [hg]; exact Nat.ne_of_gt (blk_lt (g := gb201) (o := .cells #[.slice A0_0 l0_0.length c0_0, .slice (some ad217) l0_1.length c0_1] 25 (0, 0)) (zk BK201.out)) : gb218 ≠ gb201)); clear HO_9; clear HO_10; clear BK201; clear HB; have HO_9 := n0_; have HO_10 := n1_; have BK201 := n2_; have HB := n3_; have BK218 := n4_; have GW218 := n5_; have GE218 := n6_; have NB201_218 := n7_; have NB218_201 := n8_; clear n0_ n1_ n2_ n3_ n4_ n5_ n6_ n7_ n8_; clear hb hbox hg; have hnb40 := NB218_201.out; have hnc40 := NB201_218.out; have hcz41_0 : w39.cell? ⟨gb218, 0, none⟩ = some (.int .i64 0) := (blk_cell BK218.out 0).trans rfl; have hcz41_1 : w39.cell? ⟨gb218, 1, none⟩ = some (.int .i64 0) := (blk_cell BK218.out 1).trans rfl; have hfz41_0 := blk_frozen BK218.out 0; have hfz41_1 := blk_frozen BK218.out 1; have p219 : 0 ≤ ((ji34) : Int) := oda; have q219 : (ji34) < (l1.length : Int) := oda; obtain ⟨ad219, e219, hx219_0⟩ := Kd.at_bool HR1.out (ji34) p219 q219; (try rw [← Nbq37.out] at hx219_0); cases e219; have hn219_0 : (ad219 : Addr).block ≠ gb218 := Nat.ne_of_lt (Nat.lt_of_lt_of_le (by have := World.block_lt_of_cell? _ _ hx219_0; first | rwa [add_block] at this | exact this) GW218.out); have hn219_1 : (ad219 : Addr).block ≠ gb218 := Nat.ne_of_lt (Nat.lt_of_lt_of_le (by have := World.block_lt_of_cell? _ _ hx219_0; first | rwa [add_block] at this | exact this) GW218.out); replace hx219_0 := zx HB.out hx219_0; replace hx219_0 := (cell_far (p := ⟨gb218, 0, none⟩) (by first | (rw [add_block]; exact hn219_0) | (show (Addr.add _ _).block ≠ _; rw [add_block]; exact hn219_0) | exact hn219_0) (.int .i64 ((rd_T43 l0_1 x48_3).f0))).trans hx219_0; replace hx219_0 := (cell_far (p := ⟨gb218, 1, none⟩) (by first | (rw [add_block]; exact hn219_1) | (show (Addr.add _ _).block ≠ _; rw [add_block]; exact hn219_1) | exact hn219_1) (.int .i64 ((rd_T43 l0_1 x48_3).f1))).trans hx219_0; clear hn219_0; clear hn219_1; replace p219 := eq_true p219; replace q219 := eq_true q219))
                  (try simp only [← hl9_3])
                  go_roundg k3
                  case measure => have := HK1.out; have := HJ20.out; have := HK3.out; omega
                  case rel => exact ⟨(x9_3), (x10_3), (ji34), (by first | rfl | (simp; done) | (simp only [← hji34] <;> (first | rfl | (simp; done))) | (simp [*]; done)), H', ⟨by have := HK1.out; have := HJ20.out; have := HK3.out; omega⟩, ⟨by (try simp only [hl9_1]); (try simp only [hl9_3]); (with_reducible repeat (first | apply Kd.R_alloc | apply Kd.R_drewN | apply Kd.R_drew)); exact Kd.R_mono (Kd.R_far (p := ⟨gb218, 1, none⟩) (Kd.R_far (p := ⟨gb218, 0, none⟩) (Kd.R_types HO_9.out BK218.out (by decide)) (fun _ hk => hk.2) (.int .i64 ((rd_T43 l0_1 x48_3).f0))) (fun _ hk => hk.2) (.int .i64 ((rd_T43 l0_1 x48_3).f1))) (fun _ hk => hk.1)⟩, ⟨by (try simp only [hl9_1]); (try simp only [hl9_3]); (with_reducible repeat (first | apply Kd.Q_alloc | apply Kd.Q_drewN | apply Kd.Q_drew)); exact Kd.Q_mono (Kd.Q_far (p := ⟨gb218, 1, none⟩) (Kd.Q_far (p := ⟨gb218, 0, none⟩) (Kd.Q_types HO_10.out BK218.out (by decide)) (fun _ hk => hk.2) (.int .i64 ((rd_T43 l0_1 x48_3).f0))) (fun _ hk => hk.2) (.int .i64 ((rd_T43 l0_1 x48_3).f1))) (fun _ hk => hk.1)⟩, ⟨by (try simp only [hl9_1]); (try simp only [hl9_3]); (with_reducible repeat (first | refine blk_drewN ?_ _ | refine blk_drew ?_ | refine blk_alloc ?_ _)); refine blk_far ?_ NB201_218.out _; (with_reducible repeat (first | refine blk_drewN ?_ _ | refine blk_drew ?_ | refine blk_alloc ?_ _)); refine blk_far ?_ NB201_218.out _; (with_reducible repeat (first | refine blk_drewN ?_ _ | refine blk_drew ?_ | refine blk_alloc ?_ _)); exact BK201.out⟩, ⟨zb2 HB.out GE201.out GE218.out⟩⟩
                 ·replace c38 := Bool.eq_false_iff.mpr c38
                  subst c38
                  have H1 : (if ((rd_T43 l0_1 x48_3).f1) = (rd x10_1 0) then (if 0 ≤ ((rd_T43 l0_1 x48_3).f0) then (if ((rd_T43 l0_1 x48_3).f0) < (x9_3.length : Int) then (if (rd x9_3 ((rd_T43 l0_1 x48_3).f0)) < 0 then (if 0 ≤ (rd x10_1 0) then (if (rd x10_1 0) < (x9_3.length : Int) then (if x10_3.length < 17592186044416 then (reach_lengths_1.l1 k3 l1 a2 (x9_3.set (((rd_T43 l0_1 x48_3).f0) : Int).toNat (wrap64 ((rd x9_3 (rd x10_1 0)) + 1))) (x10_3 ++ [(rd_T43 l0_1 x48_3).f0]) (rd x10_1 0) l0_1 (l0_1.length : Int) ji34 l0_0 l0_1) else (none)) else (none)) else (none)) else (reach_lengths_1.l1 k3 l1 a2 x9_3 x10_3 (rd x10_1 0) l0_1 (l0_1.length : Int) ji34 l0_0 l0_1)) else (none)) else (none)) else (reach_lengths_1.l1 k3 l1 a2 x9_3 x10_3 (rd x10_1 0) l0_1 (l0_1.length : Int) ji34 l0_0 l0_1)) = some r := by rw [if_neg (show ¬ (false = true) by decide)] at H; exact H
                  clear H
                  have H := H1
                  clear H1
                  by_cases c42 : ((rd_T43 l0_1 x48_3).f1) = (rd x10_1 0)
                  ·rw [if_pos c42] at H
                   have c42b0 : (((rd_T43 l0_1 x48_3).f1) == (rd x10_1 0)) = true := beq_iff_eq.mpr c42
                   have c42b1 : (((rd_T43 l0_1 x48_3).f1) != (rd x10_1 0)) = false := bne_eq_false_iff_eq.mpr c42
                   clear c42
                   by_cases c43 : 0 ≤ ((rd_T43 l0_1 x48_3).f0)
                   ·rw [if_pos c43] at H
                    have c43b0 : decide (0 ≤ ((rd_T43 l0_1 x48_3).f0)) = true := decide_eq_true c43
                    clear c43
                    by_cases c44 : ((rd_T43 l0_1 x48_3).f0) < (x9_3.length : Int)
                    ·rw [if_pos c44] at H
                     have c44b0 : decide (((rd_T43 l0_1 x48_3).f0) < (x9_3.length : Int)) = true := decide_eq_true c44
                     (try (have c44z0 := c44b0; simp only [hl9_1, hl9_3] at c44z0))
                     clear c44
                     by_cases c45 : (rd x9_3 ((rd_T43 l0_1 x48_3).f0)) < 0
                     ·rw [if_pos c45] at H
                      have c45b0 : decide ((rd x9_3 ((rd_T43 l0_1 x48_3).f0)) < 0) = true := decide_eq_true c45
                      clear c45
                      by_cases c46 : 0 ≤ (rd x10_1 0)
                      ·rw [if_pos c46] at H
                       have c46b0 : decide (0 ≤ (rd x10_1 0)) = true := decide_eq_true c46
                       clear c46
                       by_cases c47 : (rd x10_1 0) < (x9_3.length : Int)
                       ·rw [if_pos c47] at H
                        have c47b0 : decide ((rd x10_1 0) < (x9_3.length : Int)) = true := decide_eq_true c47
                        (try (have c47z0 := c47b0; simp only [hl9_1, hl9_3] at c47z0))
                        clear c47
                        obtain ⟨y222, hy222⟩ : ∃ y_ : List Int, y_ = (x9_3.set (((rd_T43 l0_1 x48_3).f0) : Int).toNat (wrap64 ((rd x9_3 (rd x10_1 0)) + 1))) := ⟨_, rfl⟩
                        replace H : (if x10_3.length < 17592186044416 then (reach_lengths_1.l1 k3 l1 a2 y222 (x10_3 ++ [(rd_T43 l0_1 x48_3).f0]) (rd x10_1 0) l0_1 (l0_1.length : Int) ji34 l0_0 l0_1) else (none)) = some r := by first | (rw [hy222]; with_reducible exact H) | (have H2_ := (Option.bind_some _ _).symm.trans H; rw [hy222]; with_reducible exact H2_) | (have H2_ := (Option.bind_some _ _).symm.trans H; with_reducible exact H2_) | with_reducible exact H | (rw [hy222]; exact H) | exact H
                        have Ny222 := Aside0.mk hy222
                        clear hy222
                        by_cases c49 : x10_3.length < 17592186044416
                        ·rw [if_pos c49] at H
                         have LMc49 := Aside0.mk c49
                         clear c49
                         obtain ⟨y223, hy223⟩ : ∃ y_ : List Int, y_ = (x10_3 ++ [(rd_T43 l0_1 x48_3).f0]) := ⟨_, rfl⟩
                         replace H : (reach_lengths_1.l1 k3 l1 a2 y222 y223 (rd x10_1 0) l0_1 (l0_1.length : Int) ji34 l0_0 l0_1) = some r := by first | (rw [hy223]; with_reducible exact H) | (have H2_ := (Option.bind_some _ _).symm.trans H; rw [hy223]; with_reducible exact H2_) | (have H2_ := (Option.bind_some _ _).symm.trans H; with_reducible exact H2_) | with_reducible exact H | (rw [hy223]; exact H) | exact H
                         have Ny223 := Aside0.mk hy223
                         clear hy223
                         have H' := Aside0.mk H
                         clear H
                         have p217 : 0 ≤ (x48_3 : Int) := oda
                         have q217 : x48_3 < (l0_1.length : Int) := oda
                         obtain ⟨ad217, e217, hx217_0, hx217_1⟩ := at_T43 HR0_1.out x48_3 p217 q217
                         cases e217
                         replace hx217_0 := zx HB.out hx217_0
                         replace hx217_1 := zx HB.out hx217_1
                         replace p217 := eq_true p217
                         replace q217 := eq_true q217
                         go_wp2_with (first | ((with_reducible refine gate_dst (N := 13) rfl ?_); refine box_event ?hg (N := 13) ?hd (cs := #[.int .i64 0, .int .i64 0]) (t := 43) ?hr ?_; (case hd => rfl); (case hg => rfl); (case hr => first | (go_simp; done) | (go_simp; rfl)); intro gb218 hg w50 hbox hb; have n0_ := Aside0.mk (Kd.R_below (zr HO_9.out) hb); have n1_ := Aside0.mk (Kd.Q_below (by (with_reducible repeat (first | apply Kd.Q_alloc | apply Kd.Q_drewN | apply Kd.Q_drew)); exact HO_10.out) hb); have n2_ := Aside0.mk (blk_below (g := gb201) (o := .cells #[.slice A0_0 l0_0.length c0_0, .slice (some ad217) l0_1.length c0_1] 25 (0, 0)) (zk BK201.out) hb); have n3_ := Aside0.mk (below_step (zb1 HB.out GE201.out) hb); have n4_ := Aside0.mk (hbox); have n5_ := Aside0.mk ((by rw [hg]; exact (below_size (zb1 HB.out GE201.out)) : w.heap.size ≤ gb218)); have n6_ := Aside0.mk ((by rw [hg]; exact (below_size (zb1 HB.out GE201.out)) : w.heap.size ≤ gb218)); have n7_ := Aside0.mk ((by rw [hg]; exact Nat.ne_of_lt (blk_lt (g := gb201) (o := .cells #[.slice A0_0 l0_0.length c0_0, .slice (some ad217) l0_1.length c0_1] 25 (0, 0)) (zk BK201.out)) : gb201 ≠ gb218)); have n8_ := Aside0.mk ((by rw [hg]; exact Nat.ne_of_gt (blk_lt (g := gb201) (o := .cells #[.slice A0_0 l0_0.length c0_0, .slice (some ad217) l0_1.length c0_1] 25 (0, 0)) (zk BK201.out)) : gb218 ≠ gb201)); clear HO_9; clear HO_10; clear BK201; clear HB; have HO_9 := n0_; have HO_10 := n1_; have BK201 := n2_; have HB := n3_; have BK218 := n4_; have GW218 := n5_; have GE218 := n6_; have NB201_218 := n7_; have NB218_201 := n8_; clear n0_ n1_ n2_ n3_ n4_ n5_ n6_ n7_ n8_; clear hb hbox hg; have hnb51 := NB218_201.out; have hnc51 := NB201_218.out; have hcz52_0 : w50.cell? ⟨gb218, 0, none⟩ = some (.int .i64 0) := (blk_cell BK218.out 0).trans rfl; have hcz52_1 : w50.cell? ⟨gb218, 1, none⟩ = some (.int .i64 0) := (blk_cell BK218.out 1).trans rfl; have hfz52_0 := blk_frozen BK218.out 0; have hfz52_1 := blk_frozen BK218.out 1) | ((with_reducible refine gate_store (t := 43) (p := 13) rfl ?_); refine store_event (t := 43) (p := 13) (v := ?vo_w53) (w1 := ((w50.setCell ⟨gb218, 0, none⟩ (.int .i64 ((rd_T43 l0_1 x48_3).f0))).setCell ⟨gb218, 1, none⟩ (.int .i64 ((rd_T43 l0_1 x48_3).f1)))) ?hg ?ho ?hn ?hr ?_; (case ho => rfl); (case hg => rfl); (case hn => rfl); (case hr => first | (go_simp; done) | (go_simp; rfl)); intro w53 hw; have n0_ : Aside0 (Kd.R (Kd.int .i64) 3 w53 w.heap.size (fun k_ => some k_ ≠ (u10 : Value).ownBlock) (.slice (some ⟨go8, 0, none⟩) x9_3.length co8) x9_3) := ⟨(by rw [hw]; exact (by (with_reducible repeat (first | apply Kd.R_alloc | apply Kd.R_drewN | apply Kd.R_drew)); exact Kd.R_mono (Kd.R_far (p := ⟨gb218, 1, none⟩) (Kd.R_far (p := ⟨gb218, 0, none⟩) (Kd.R_types HO_9.out BK218.out (by decide)) (fun _ hk => hk.2) (.int .i64 ((rd_T43 l0_1 x48_3).f0))) (fun _ hk => hk.2) (.int .i64 ((rd_T43 l0_1 x48_3).f1))) (fun _ hk => hk.1)))⟩; have n1_ : Aside0 (Kd.Q (Kd.int .i64) 3 w53 w.heap.size (fun k_ => some k_ ≠ (.slice (some ⟨go8, 0, none⟩) x9_3.length co8 : Value).ownBlock) u10 x10_3) := ⟨(by rw [hw]; exact (by (with_reducible repeat (first | apply Kd.Q_alloc | apply Kd.Q_drewN | apply Kd.Q_drew)); exact Kd.Q_mono (Kd.Q_far (p := ⟨gb218, 1, none⟩) (Kd.Q_far (p := ⟨gb218, 0, none⟩) (Kd.Q_types HO_10.out BK218.out (by decide)) (fun _ hk => hk.2) (.int .i64 ((rd_T43 l0_1 x48_3).f0))) (fun _ hk => hk.2) (.int .i64 ((rd_T43 l0_1 x48_3).f1))) (fun _ hk => hk.1)))⟩; have n2_ : Aside0 (w53.heap[gb201]? = some (.cells #[.slice A0_0 l0_0.length c0_0, .slice (some ad217) l0_1.length c0_1] 25 (0, 0))) := ⟨(by rw [hw]; exact (by (with_reducible repeat (first | refine blk_drewN ?_ _ | refine blk_drew ?_ | refine blk_alloc ?_ _)); refine blk_far ?_ NB201_218.out _; (with_reducible repeat (first | refine blk_drewN ?_ _ | refine blk_drew ?_ | refine blk_alloc ?_ _)); refine blk_far ?_ NB201_218.out _; (with_reducible repeat (first | refine blk_drewN ?_ _ | refine blk_drew ?_ | refine blk_alloc ?_ _)); exact BK201.out))⟩; have n3_ : Aside0 (w53.heap[gb218]? = some (.cells #[.int .i64 ((rd_T43 l0_1 x48_3).f0), .int .i64 ((rd_T43 l0_1 x48_3).f1)] 43 (0, 0))) := ⟨(by rw [hw]; exact (by (with_reducible repeat (first | refine blk_drewN ?_ _ | refine blk_drew ?_ | refine blk_alloc ?_ _)); refine blk_put (cs := #[.int .i64 ((rd_T43 l0_1 x48_3).f0), .int .i64 0]) ?_ 1 _ rfl; (with_reducible repeat (first | refine blk_drewN ?_ _ | refine blk_drew ?_ | refine blk_alloc ?_ _)); refine blk_put (cs := #[.int .i64 0, .int .i64 0]) ?_ 0 _ rfl; (with_reducible repeat (first | refine blk_drewN ?_ _ | refine blk_drew ?_ | refine blk_alloc ?_ _)); exact BK218.out))⟩; have n4_ : Aside0 (Below w.heap.size w w53) := ⟨(by rw [hw]; exact (zb2 HB.out GE201.out GE218.out))⟩; clear hw; clear HO_9; clear HO_10; clear BK201; clear BK218; clear HB; have HO_9 := n0_; have HO_10 := n1_; have BK201 := n2_; have BK218 := n3_; have HB := n4_; clear n0_ n1_ n2_ n3_ n4_; have hcz54_0 : w53.cell? ⟨gb218, 0, none⟩ = some (.int .i64 ((rd_T43 l0_1 x48_3).f0)) := (blk_cell BK218.out 0).trans rfl; have hcz54_1 : w53.cell? ⟨gb218, 1, none⟩ = some (.int .i64 ((rd_T43 l0_1 x48_3).f1)) := (blk_cell BK218.out 1).trans rfl; have hfz54_0 := blk_frozen BK218.out 0; have hfz54_1 := blk_frozen BK218.out 1; have p219 : 0 ≤ ((ji34) : Int) := oda; have q219 : (ji34) < (l1.length : Int) := oda; obtain ⟨ad219, e219, hx219_0⟩ := Kd.at_bool HR1.out (ji34) p219 q219; (try rw [← Nbq37.out] at hx219_0); cases e219; replace hx219_0 := zx HB.out hx219_0; replace p219 := eq_true p219; replace q219 := eq_true q219; have p220 : 0 ≤ (((rd_T43 l0_1 x48_3).f0) : Int) := oda; have q220 : ((rd_T43 l0_1 x48_3).f0) < (x9_3.length : Int) := oda; obtain ⟨ad220, e220, hx220_0⟩ := Kd.at_int (Kd.R_reads' HO_9.out).2.2 ((rd_T43 l0_1 x48_3).f0) p220 q220; obtain rfl : (⟨go8, 0, none⟩ : Addr) = ad220 := (by injection e220); (first | simp only [add_plain] at hx220_0 | simp only [add_at] at hx220_0 | simp only [Addr.add, Nat.zero_add] at hx220_0 | skip); replace p220 := eq_true p220; replace q220 := eq_true q220; have p221 : 0 ≤ ((rd x10_1 0) : Int) := oda; have q221 : (rd x10_1 0) < (x9_3.length : Int) := oda; obtain ⟨ad221, e221, hx221_0⟩ := Kd.at_int (Kd.R_reads' HO_9.out).2.2 (rd x10_1 0) p221 q221; obtain rfl : (⟨go8, 0, none⟩ : Addr) = ad221 := (by injection e221); (first | simp only [add_plain] at hx221_0 | simp only [add_at] at hx221_0 | simp only [Addr.add, Nat.zero_add] at hx221_0 | skip); replace p221 := eq_true p221; replace q221 := eq_true q221; have p48 : 0 ≤ (((rd_T43 l0_1 x48_3).f0) : Int) := oda; have q48 : (((rd_T43 l0_1 x48_3).f0) : Int) < ((x9_3.length : Int) : Int) := oda; obtain ⟨hx48_0, hf48_0⟩ := Kd.R_celln 0 HO_9.out (((rd_T43 l0_1 x48_3).f0) : Int) p48 q48; replace p48 := eq_true p48; replace q48 := eq_true q48; obtain ⟨hy55_, hz55_⟩ := Kd.R_celln 0 HO_9.out (((rd_T43 l0_1 x48_3).f0) : Int) (oda) (oda); have HP55 := Kd.R_putg HO_9.out (((rd_T43 l0_1 x48_3).f0) : Int) (wrap64 ((rd x9_3 (rd x10_1 0)) + 1))) | ((with_reducible refine gate_store (t := 3) (p := 84) rfl ?_); refine store_event (t := 3) (p := 84) (v := ?vo_w56) (w1 := (w53.setCell ⟨go8, (((rd_T43 l0_1 x48_3).f0) : Int).toNat, none⟩ (.int .i64 (wrap64 ((rd x9_3 (rd x10_1 0)) + 1))))) ?hg ?ho ?hn ?hr ?_; (case ho => rfl); (case hg => rfl); (case hn => rfl); (case hr => first | (go_simp; done) | (go_simp; rfl)); intro w56 hw; have hg : w53.grownBy w56 (some go8) := (by rw [hw]; exact HP55.2); have hp_ : Kd.R (Kd.int .i64) 3 w56 w.heap.size (fun k_ => some k_ ≠ (u10 : Value).ownBlock) (.slice (some ⟨go8, 0, none⟩) x9_3.length co8) y222 := (by rw [hw, Ny222.out]; exact HP55.1); clear HP55; have n0_ := Aside0.mk (hp_); have n1_ := Aside0.mk (Kd.Q_after (v := (.slice (some ⟨go8, 0, none⟩) x9_3.length co8)) (v1 := (.slice (some ⟨go8, 0, none⟩) x9_3.length co8)) (ok := (fun _ => True)) (by (with_reducible repeat (first | apply Kd.Q_alloc | apply Kd.Q_drewN | apply Kd.Q_drew)); exact Kd.Q_mono HO_10.out (fun _ hk => ⟨trivial, hk⟩)) hg (.inl rfl)); have n2_ := Aside0.mk (blk_grown (g := gb201) (o := .cells #[.slice A0_0 l0_0.length c0_0, .slice (some ad217) l0_1.length c0_1] 25 (0, 0)) (zk BK201.out) hg (Kd.R_ne HO_9.out BK201.out (by decide))); have n3_ := Aside0.mk (blk_grown (g := gb218) (o := .cells #[.int .i64 ((rd_T43 l0_1 x48_3).f0), .int .i64 ((rd_T43 l0_1 x48_3).f1)] 43 (0, 0)) (zk BK218.out) hg (Kd.R_ne HO_9.out BK218.out (by decide))); have n4_ := Aside0.mk ((by rw [hw]; exact below_set (HB.out) GB8.out : Below w.heap.size w w56)); clear HO_9; clear HO_10; clear BK201; clear BK218; clear HB; have HO_9 := n0_; have HO_10 := n1_; have BK201 := n2_; have BK218 := n3_; have HB := n4_; clear n0_ n1_ n2_ n3_ n4_; clear hg hw hp_) | ((with_reducible refine gate_builtin (b := .append) (xs := #[.tmp 85, .tmp 87]) rfl ?_); at_builtin; refine Kd.Q_append (Kd.int .i64) (w0 := w) w.heap.size rfl (.tmp 85) (.tmp 87) 26 3 (.int .i64 0) 8 rfl Try.underlying26 info3 rfl (by decide) (by omega) u10 x10_3 ((rd_T43 l0_1 x48_3).f0) [.int .i64 ((rd_T43 l0_1 x48_3).f0)] (fun k_ => some k_ ≠ (.slice (some ⟨go8, 0, none⟩) x9_3.length co8 : Value).ownBlock) (fun _ => False) rfl rfl ?aP (fun _ hk => hk.elim) ?aF ?aO ?aB ?aS ?aL ?_; (case aP => exact rfl); (case aB => exact (zb2 HB.out GE201.out GE218.out)); (case aF => exact (fun k_ hk => Kd.fresh' (Kd.R_lt (zr HO_9.out)) k_ hk)); (case aO => exact (by (with_reducible repeat (first | apply Kd.Q_alloc | apply Kd.Q_drewN | apply Kd.Q_drew)); exact Kd.Q_mono HO_10.out (fun _ hk => hk.2))); (case aS => exact (below_size (zb2 HB.out GE201.out GE218.out))); (case aL => have := LMc49.out; omega); intro v224 w57 ho hb hg hat; rw [← Ny223.out] at ho; have n0_ := Aside0.mk (Kd.R_after (ok := (fun _ => True)) (by (with_reducible repeat (first | apply Kd.R_alloc | apply Kd.R_drewN | apply Kd.R_drew)); exact Kd.R_mono HO_9.out (fun _ hk => ⟨trivial, hk⟩)) hg hat); have n1_ := Aside0.mk (blk_grown (g := gb201) (o := .cells #[.slice A0_0 l0_0.length c0_0, .slice (some ad217) l0_1.length c0_1] 25 (0, 0)) (zk BK201.out) hg (Kd.Q_ne HO_10.out BK201.out (by decide))); have n2_ := Aside0.mk (blk_grown (g := gb218) (o := .cells #[.int .i64 ((rd_T43 l0_1 x48_3).f0), .int .i64 ((rd_T43 l0_1 x48_3).f1)] 43 (0, 0)) (zk BK218.out) hg (Kd.Q_ne HO_10.out BK218.out (by decide))); have n3_ := Aside0.mk (hb); have n4_ := Aside0.mk (ho); clear HO_9; clear BK201; clear BK218; clear HB; clear HO_10; have HO_9 := n0_; have BK201 := n1_; have BK218 := n2_; have HB := n3_; have HO225 := n4_; clear n0_ n1_ n2_ n3_ n4_; clear ho hb hg hat))
                         (try simp only [← hl9_3])
                         go_roundg k3
                         case measure => have := HK1.out; have := HJ20.out; have := HK3.out; omega
                         case rel => exact ⟨(y222), (y223), (ji34), (by first | rfl | (simp; done) | (simp only [← hji34] <;> (first | rfl | (simp; done))) | (simp [*]; done)), H', ⟨by have := HK1.out; have := HJ20.out; have := HK3.out; omega⟩, ⟨by (try simp only [hl9_1]); (try simp only [hl9_3]); (with_reducible repeat (first | apply Kd.R_alloc | apply Kd.R_drewN | apply Kd.R_drew)); exact Kd.R_mono HO_9.out (fun _ hk => hk.2)⟩, ⟨by (try simp only [hl9_1]); (try simp only [hl9_3]); (with_reducible repeat (first | apply Kd.Q_alloc | apply Kd.Q_drewN | apply Kd.Q_drew)); exact HO225.out⟩, ⟨by (try simp only [hl9_1]); (try simp only [hl9_3]); (with_reducible repeat (first | refine blk_drewN ?_ _ | refine blk_drew ?_ | refine blk_alloc ?_ _)); exact BK201.out⟩, ⟨zb2 HB.out GE201.out GE218.out⟩⟩
                        ·rw [if_neg c49] at H
                         exact absurd H (by simp)
                       ·rw [if_neg c47] at H
                        exact absurd H (by simp)
                      ·rw [if_neg c46] at H
                       exact absurd H (by simp)
                     ·rw [if_neg c45] at H
                      have c45b0 : decide ((rd x9_3 ((rd_T43 l0_1 x48_3).f0)) < 0) = false := decide_eq_false c45
                      clear c45
                      have H' := Aside0.mk H
                      clear H
                      have p217 : 0 ≤ (x48_3 : Int) := oda
                      have q217 : x48_3 < (l0_1.length : Int) := oda
                      obtain ⟨ad217, e217, hx217_0, hx217_1⟩ := at_T43 HR0_1.out x48_3 p217 q217
                      cases e217
                      replace hx217_0 := zx HB.out hx217_0
                      replace hx217_1 := zx HB.out hx217_1
                      replace p217 := eq_true p217
                      replace q217 := eq_true q217
                      go_wp2_with (first | ((with_reducible refine gate_dst (N := 13) rfl ?_); refine box_event ?hg (N := 13) ?hd (cs := #[.int .i64 0, .int .i64 0]) (t := 43) ?hr ?_; (case hd => rfl); (case hg => rfl); (case hr => first | (go_simp; done) | (go_simp; rfl)); intro gb218 hg w58 hbox hb; have n0_ := Aside0.mk (Kd.R_below (zr HO_9.out) hb); have n1_ := Aside0.mk (Kd.Q_below (by (with_reducible repeat (first | apply Kd.Q_alloc | apply Kd.Q_drewN | apply Kd.Q_drew)); exact HO_10.out) hb); have n2_ := Aside0.mk (blk_below (g := gb201) (o := .cells #[.slice A0_0 l0_0.length c0_0, .slice (some ad217) l0_1.length c0_1] 25 (0, 0)) (zk BK201.out) hb); have n3_ := Aside0.mk (below_step (zb1 HB.out GE201.out) hb); have n4_ := Aside0.mk (hbox); have n5_ := Aside0.mk ((by rw [hg]; exact (below_size (zb1 HB.out GE201.out)) : w.heap.size ≤ gb218)); have n6_ := Aside0.mk ((by rw [hg]; exact (below_size (zb1 HB.out GE201.out)) : w.heap.size ≤ gb218)); have n7_ := Aside0.mk ((by rw [hg]; exact Nat.ne_of_lt (blk_lt (g := gb201) (o := .cells #[.slice A0_0 l0_0.length c0_0, .slice (some ad217) l0_1.length c0_1] 25 (0, 0)) (zk BK201.out)) : gb201 ≠ gb218)); have n8_ := Aside0.mk ((by rw [hg]; exact Nat.ne_of_gt (blk_lt (g := gb201) (o := .cells #[.slice A0_0 l0_0.length c0_0, .slice (some ad217) l0_1.length c0_1] 25 (0, 0)) (zk BK201.out)) : gb218 ≠ gb201)); clear HO_9; clear HO_10; clear BK201; clear HB; have HO_9 := n0_; have HO_10 := n1_; have BK201 := n2_; have HB := n3_; have BK218 := n4_; have GW218 := n5_; have GE218 := n6_; have NB201_218 := n7_; have NB218_201 := n8_; clear n0_ n1_ n2_ n3_ n4_ n5_ n6_ n7_ n8_; clear hb hbox hg; have hnb59 := NB218_201.out; have hnc59 := NB201_218.out; have hcz60_0 : w58.cell? ⟨gb218, 0, none⟩ = some (.int .i64 0) := (blk_cell BK218.out 0).trans rfl; have hcz60_1 : w58.cell? ⟨gb218, 1, none⟩ = some (.int .i64 0) := (blk_cell BK218.out 1).trans rfl; have hfz60_0 := blk_frozen BK218.out 0; have hfz60_1 := blk_frozen BK218.out 1; have p219 : 0 ≤ ((ji34) : Int) := oda; have q219 : (ji34) < (l1.length : Int) := oda; obtain ⟨ad219, e219, hx219_0⟩ := Kd.at_bool HR1.out (ji34) p219 q219; (try rw [← Nbq37.out] at hx219_0); cases e219; have hn219_0 : (ad219 : Addr).block ≠ gb218 := Nat.ne_of_lt (Nat.lt_of_lt_of_le (by have := World.block_lt_of_cell? _ _ hx219_0; first | rwa [add_block] at this | exact this) GW218.out); have hn219_1 : (ad219 : Addr).block ≠ gb218 := Nat.ne_of_lt (Nat.lt_of_lt_of_le (by have := World.block_lt_of_cell? _ _ hx219_0; first | rwa [add_block] at this | exact this) GW218.out); replace hx219_0 := zx HB.out hx219_0; replace hx219_0 := (cell_far (p := ⟨gb218, 0, none⟩) (by first | (rw [add_block]; exact hn219_0) | (show (Addr.add _ _).block ≠ _; rw [add_block]; exact hn219_0) | exact hn219_0) (.int .i64 ((rd_T43 l0_1 x48_3).f0))).trans hx219_0; replace hx219_0 := (cell_far (p := ⟨gb218, 1, none⟩) (by first | (rw [add_block]; exact hn219_1) | (show (Addr.add _ _).block ≠ _; rw [add_block]; exact hn219_1) | exact hn219_1) (.int .i64 ((rd_T43 l0_1 x48_3).f1))).trans hx219_0; clear hn219_0; clear hn219_1; replace p219 := eq_true p219; replace q219 := eq_true q219; have p220 : 0 ≤ (((rd_T43 l0_1 x48_3).f0) : Int) := oda; have q220 : ((rd_T43 l0_1 x48_3).f0) < (x9_3.length : Int) := oda; obtain ⟨ad220, e220, hx220_0⟩ := Kd.at_int (Kd.R_reads' HO_9.out).2.2 ((rd_T43 l0_1 x48_3).f0) p220 q220; obtain rfl : (⟨go8, 0, none⟩ : Addr) = ad220 := (by injection e220); (first | simp only [add_plain] at hx220_0 | simp only [add_at] at hx220_0 | simp only [Addr.add, Nat.zero_add] at hx220_0 | skip); have hn220_0 : (⟨go8, 0, none⟩ : Addr).block ≠ gb218 := Kd.own_blk (Kd.R_ne HO_9.out BK218.out (by decide)); have hn220_1 : (⟨go8, 0, none⟩ : Addr).block ≠ gb218 := Kd.own_blk (Kd.R_ne HO_9.out BK218.out (by decide)); replace hx220_0 := (cell_far (p := ⟨gb218, 0, none⟩) (by first | (rw [add_block]; exact hn220_0) | (show (Addr.add _ _).block ≠ _; rw [add_block]; exact hn220_0) | exact hn220_0) (.int .i64 ((rd_T43 l0_1 x48_3).f0))).trans hx220_0; replace hx220_0 := (cell_far (p := ⟨gb218, 1, none⟩) (by first | (rw [add_block]; exact hn220_1) | (show (Addr.add _ _).block ≠ _; rw [add_block]; exact hn220_1) | exact hn220_1) (.int .i64 ((rd_T43 l0_1 x48_3).f1))).trans hx220_0; clear hn220_0; clear hn220_1; replace p220 := eq_true p220; replace q220 := eq_true q220))
                      (try simp only [← hl9_3])
                      go_roundg k3
                      case measure => have := HK1.out; have := HJ20.out; have := HK3.out; omega
                      case rel => exact ⟨(x9_3), (x10_3), (ji34), (by first | rfl | (simp; done) | (simp only [← hji34] <;> (first | rfl | (simp; done))) | (simp [*]; done)), H', ⟨by have := HK1.out; have := HJ20.out; have := HK3.out; omega⟩, ⟨by (try simp only [hl9_1]); (try simp only [hl9_3]); (with_reducible repeat (first | apply Kd.R_alloc | apply Kd.R_drewN | apply Kd.R_drew)); exact Kd.R_mono (Kd.R_far (p := ⟨gb218, 1, none⟩) (Kd.R_far (p := ⟨gb218, 0, none⟩) (Kd.R_types HO_9.out BK218.out (by decide)) (fun _ hk => hk.2) (.int .i64 ((rd_T43 l0_1 x48_3).f0))) (fun _ hk => hk.2) (.int .i64 ((rd_T43 l0_1 x48_3).f1))) (fun _ hk => hk.1)⟩, ⟨by (try simp only [hl9_1]); (try simp only [hl9_3]); (with_reducible repeat (first | apply Kd.Q_alloc | apply Kd.Q_drewN | apply Kd.Q_drew)); exact Kd.Q_mono (Kd.Q_far (p := ⟨gb218, 1, none⟩) (Kd.Q_far (p := ⟨gb218, 0, none⟩) (Kd.Q_types HO_10.out BK218.out (by decide)) (fun _ hk => hk.2) (.int .i64 ((rd_T43 l0_1 x48_3).f0))) (fun _ hk => hk.2) (.int .i64 ((rd_T43 l0_1 x48_3).f1))) (fun _ hk => hk.1)⟩, ⟨by (try simp only [hl9_1]); (try simp only [hl9_3]); (with_reducible repeat (first | refine blk_drewN ?_ _ | refine blk_drew ?_ | refine blk_alloc ?_ _)); refine blk_far ?_ NB201_218.out _; (with_reducible repeat (first | refine blk_drewN ?_ _ | refine blk_drew ?_ | refine blk_alloc ?_ _)); refine blk_far ?_ NB201_218.out _; (with_reducible repeat (first | refine blk_drewN ?_ _ | refine blk_drew ?_ | refine blk_alloc ?_ _)); exact BK201.out⟩, ⟨zb2 HB.out GE201.out GE218.out⟩⟩
                    ·rw [if_neg c44] at H
                     exact absurd H (by simp)
                   ·rw [if_neg c43] at H
                    exact absurd H (by simp)
                  ·rw [if_neg c42] at H
                   have c42b0 : (((rd_T43 l0_1 x48_3).f1) == (rd x10_1 0)) = false := beq_eq_false_iff_ne.mpr c42
                   have c42b1 : (((rd_T43 l0_1 x48_3).f1) != (rd x10_1 0)) = true := bne_iff_ne.mpr c42
                   have H' := Aside0.mk H
                   clear H
                   have p217 : 0 ≤ (x48_3 : Int) := oda
                   have q217 : x48_3 < (l0_1.length : Int) := oda
                   obtain ⟨ad217, e217, hx217_0, hx217_1⟩ := at_T43 HR0_1.out x48_3 p217 q217
                   cases e217
                   replace hx217_0 := zx HB.out hx217_0
                   replace hx217_1 := zx HB.out hx217_1
                   replace p217 := eq_true p217
                   replace q217 := eq_true q217
                   go_wp2_with (first | ((with_reducible refine gate_dst (N := 13) rfl ?_); refine box_event ?hg (N := 13) ?hd (cs := #[.int .i64 0, .int .i64 0]) (t := 43) ?hr ?_; (case hd => rfl); (case hg => rfl); (case hr => first | (go_simp; done) | (go_simp; rfl)); intro gb218 hg w61 hbox hb; have n0_ := Aside0.mk (Kd.R_below (zr HO_9.out) hb); have n1_ := Aside0.mk (Kd.Q_below (by (with_reducible repeat (first | apply Kd.Q_alloc | apply Kd.Q_drewN | apply Kd.Q_drew)); exact HO_10.out) hb); have n2_ := Aside0.mk (blk_below (g := gb201) (o := .cells #[.slice A0_0 l0_0.length c0_0, .slice (some ad217) l0_1.length c0_1] 25 (0, 0)) (zk BK201.out) hb); have n3_ := Aside0.mk (below_step (zb1 HB.out GE201.out) hb); have n4_ := Aside0.mk (hbox); have n5_ := Aside0.mk ((by rw [hg]; exact (below_size (zb1 HB.out GE201.out)) : w.heap.size ≤ gb218)); have n6_ := Aside0.mk ((by rw [hg]; exact (below_size (zb1 HB.out GE201.out)) : w.heap.size ≤ gb218)); have n7_ := Aside0.mk ((by rw [hg]; exact Nat.ne_of_lt (blk_lt (g := gb201) (o := .cells #[.slice A0_0 l0_0.length c0_0, .slice (some ad217) l0_1.length c0_1] 25 (0, 0)) (zk BK201.out)) : gb201 ≠ gb218)); have n8_ := Aside0.mk ((by rw [hg]; exact Nat.ne_of_gt (blk_lt (g := gb201) (o := .cells #[.slice A0_0 l0_0.length c0_0, .slice (some ad217) l0_1.length c0_1] 25 (0, 0)) (zk BK201.out)) : gb218 ≠ gb201)); clear HO_9; clear HO_10; clear BK201; clear HB; have HO_9 := n0_; have HO_10 := n1_; have BK201 := n2_; have HB := n3_; have BK218 := n4_; have GW218 := n5_; have GE218 := n6_; have NB201_218 := n7_; have NB218_201 := n8_; clear n0_ n1_ n2_ n3_ n4_ n5_ n6_ n7_ n8_; clear hb hbox hg; have hnb62 := NB218_201.out; have hnc62 := NB201_218.out; have hcz63_0 : w61.cell? ⟨gb218, 0, none⟩ = some (.int .i64 0) := (blk_cell BK218.out 0).trans rfl; have hcz63_1 : w61.cell? ⟨gb218, 1, none⟩ = some (.int .i64 0) := (blk_cell BK218.out 1).trans rfl; have hfz63_0 := blk_frozen BK218.out 0; have hfz63_1 := blk_frozen BK218.out 1; have p219 : 0 ≤ ((ji34) : Int) := oda; have q219 : (ji34) < (l1.length : Int) := oda; obtain ⟨ad219, e219, hx219_0⟩ := Kd.at_bool HR1.out (ji34) p219 q219; (try rw [← Nbq37.out] at hx219_0); cases e219; have hn219_0 : (ad219 : Addr).block ≠ gb218 := Nat.ne_of_lt (Nat.lt_of_lt_of_le (by have := World.block_lt_of_cell? _ _ hx219_0; first | rwa [add_block] at this | exact this) GW218.out); have hn219_1 : (ad219 : Addr).block ≠ gb218 := Nat.ne_of_lt (Nat.lt_of_lt_of_le (by have := World.block_lt_of_cell? _ _ hx219_0; first | rwa [add_block] at this | exact this) GW218.out); replace hx219_0 := zx HB.out hx219_0; replace hx219_0 := (cell_far (p := ⟨gb218, 0, none⟩) (by first | (rw [add_block]; exact hn219_0) | (show (Addr.add _ _).block ≠ _; rw [add_block]; exact hn219_0) | exact hn219_0) (.int .i64 ((rd_T43 l0_1 x48_3).f0))).trans hx219_0; replace hx219_0 := (cell_far (p := ⟨gb218, 1, none⟩) (by first | (rw [add_block]; exact hn219_1) | (show (Addr.add _ _).block ≠ _; rw [add_block]; exact hn219_1) | exact hn219_1) (.int .i64 ((rd_T43 l0_1 x48_3).f1))).trans hx219_0; clear hn219_0; clear hn219_1; replace p219 := eq_true p219; replace q219 := eq_true q219))
                   (try simp only [← hl9_3])
                   go_roundg k3
                   case measure => have := HK1.out; have := HJ20.out; have := HK3.out; omega
                   case rel => exact ⟨(x9_3), (x10_3), (ji34), (by first | rfl | (simp; done) | (simp only [← hji34] <;> (first | rfl | (simp; done))) | (simp [*]; done)), H', ⟨by have := HK1.out; have := HJ20.out; have := HK3.out; omega⟩, ⟨by (try simp only [hl9_1]); (try simp only [hl9_3]); (with_reducible repeat (first | apply Kd.R_alloc | apply Kd.R_drewN | apply Kd.R_drew)); exact Kd.R_mono (Kd.R_far (p := ⟨gb218, 1, none⟩) (Kd.R_far (p := ⟨gb218, 0, none⟩) (Kd.R_types HO_9.out BK218.out (by decide)) (fun _ hk => hk.2) (.int .i64 ((rd_T43 l0_1 x48_3).f0))) (fun _ hk => hk.2) (.int .i64 ((rd_T43 l0_1 x48_3).f1))) (fun _ hk => hk.1)⟩, ⟨by (try simp only [hl9_1]); (try simp only [hl9_3]); (with_reducible repeat (first | apply Kd.Q_alloc | apply Kd.Q_drewN | apply Kd.Q_drew)); exact Kd.Q_mono (Kd.Q_far (p := ⟨gb218, 1, none⟩) (Kd.Q_far (p := ⟨gb218, 0, none⟩) (Kd.Q_types HO_10.out BK218.out (by decide)) (fun _ hk => hk.2) (.int .i64 ((rd_T43 l0_1 x48_3).f0))) (fun _ hk => hk.2) (.int .i64 ((rd_T43 l0_1 x48_3).f1))) (fun _ hk => hk.1)⟩, ⟨by (try simp only [hl9_1]); (try simp only [hl9_3]); (with_reducible repeat (first | refine blk_drewN ?_ _ | refine blk_drew ?_ | refine blk_alloc ?_ _)); refine blk_far ?_ NB201_218.out _; (with_reducible repeat (first | refine blk_drewN ?_ _ | refine blk_drew ?_ | refine blk_alloc ?_ _)); refine blk_far ?_ NB201_218.out _; (with_reducible repeat (first | refine blk_drewN ?_ _ | refine blk_drew ?_ | refine blk_alloc ?_ _)); exact BK201.out⟩, ⟨zb2 HB.out GE201.out GE218.out⟩⟩
                ·rw [if_neg c36] at H
                 exact absurd H (by simp)
               ·rw [if_neg c35] at H
                exact absurd H (by simp)
              ·rw [if_neg c33] at H
               exact absurd H (by simp)
             ·rw [if_neg c32] at H
              exact absurd H (by simp)
            ·rw [if_neg c31] at H
             have c31b0 : decide (x48_3 < (l0_1.length : Int)) = false := decide_eq_false c31
             (try (have c31z0 := c31b0; simp only [hl9_1, hl9_3] at c31z0))
             clear c31
             by_cases c64 : 1 ≤ (x10_3.length : Int)
             ·rw [if_pos c64] at H
              have c64b0 := eq_true c64
              have c64b1 : decide (1 ≤ (x10_3.length : Int)) = true := decide_eq_true c64
              clear c64
              obtain ⟨y226, hy226⟩ : ∃ y_ : List Int, y_ = (x10_3.drop (1 : Int).toNat) := ⟨_, rfl⟩
              replace H : (reach_lengths_1.l0 k3 l1 a2 x9_3 y226 l0_0 l0_1) = some r := by first | (rw [hy226]; with_reducible exact H) | (have H2_ := (Option.bind_some _ _).symm.trans H; rw [hy226]; with_reducible exact H2_) | (have H2_ := (Option.bind_some _ _).symm.trans H; with_reducible exact H2_) | with_reducible exact H | (rw [hy226]; exact H) | exact H
              have Ny226 := Aside0.mk hy226
              clear hy226
              have H' := Aside0.mk H
              clear H
              obtain ⟨Ao65, co65, eo65, _⟩ := Kd.Q_slice HO_10.out
              subst eo65
              have q66 : (1 : Int) ≤ ((x10_3.length : Int) : Int) := oda
              obtain ⟨i066, hi066, _, hsz66, _⟩ := info_parts info3
              have hcut66 := cut_from (P := Try.prog) 26 3 .i64 Try.underlying26 hi066 1 hsz66 Ao65 x10_3.length co65 1 (by omega) q66
              have hr66 := Kd.Q_drop (k := (1 : Int).toNat) HO_10.out (by omega)
              obtain ⟨A66, hA66⟩ : ∃ A1, A1 = (if co65 = (1 : Int).toNat then Ao65 else (Ao65 : Option Addr).map (·.add ((1 : Int).toNat * 1))) := ⟨_, rfl⟩
              obtain ⟨c66, hc66⟩ : ∃ c1, c1 = co65 - (1 : Int).toNat := ⟨_, rfl⟩
              have hy66 : y226.length = x10_3.length - (1 : Int).toNat := (by rw [Ny226.out, List.length_drop])
              rw [← Ny226.out] at hr66
              rw [← hy66, ← hA66, ← hc66] at hcut66
              replace hr66 : Kd.Q (Kd.int .i64) 3 wr w.heap.size (fun k_ => some k_ ≠ (.slice (some ⟨go8, 0, none⟩) x9_3.length co8 : Value).ownBlock) (.slice A66 y226.length c66) y226 := (by rw [hA66, hc66, hy66]; exact hr66)
              have HE66 : Aside0 ((Value.slice A66 y226.length c66).ownBlock = (.slice Ao65 x10_3.length co65 : Value).ownBlock) := ⟨by rw [hA66]; split <;> (cases (Ao65 : Option Addr) <;> rfl)⟩
              clear hy66 hi066 hsz66 HO_10 hA66 hc66
              have HO228 := Aside0.mk hr66
              clear hr66
              replace q66 := eq_true q66
              have n_ := Aside0.mk (Kd.R_mono (ok' := fun k_ => some k_ ≠ (.slice A66 y226.length c66 : Value).ownBlock) HO_9.out (fun k_ hk => (by rw [HE66.out]; exact hk)))
              clear HO_9
              have HO_9 := n_
              clear n_
              go_wp2
              (try simp only [← hl9_1, ← hl9_3])
              go_roundg k3
              case measure => have := HK1.out; have := HJ20.out; have := HK3.out; omega
              case rel => exact ⟨(x9_3), (y226), H', ⟨by have := HK1.out; have := HJ20.out; have := HK3.out; omega⟩, ⟨by (try simp only [hl9_1]); (try simp only [hl9_3]); (with_reducible repeat (first | apply Kd.R_alloc | apply Kd.R_drewN | apply Kd.R_drew)); exact HO_9.out⟩, ⟨by (try simp only [hl9_1]); (try simp only [hl9_3]); (with_reducible repeat (first | apply Kd.Q_alloc | apply Kd.Q_drewN | apply Kd.Q_drew)); exact HO228.out⟩, ⟨by (try simp only [hl9_1]); (try simp only [hl9_3]); (with_reducible repeat (first | refine blk_drewN ?_ _ | refine blk_drew ?_ | refine blk_alloc ?_ _)); exact BK201.out⟩, ⟨zb1 HB.out GE201.out⟩⟩
             ·rw [if_neg c64] at H
              exact absurd H (by simp)
      ·rw [if_neg c20] at H
       exact absurd H (by simp)
     ·rw [if_neg c19] at H
      have c19b0 : decide (0 < (x10_1.length : Int)) = false := decide_eq_false c19
      have c19b1 : decide (0 < x10_1.length) = false := decide_eq_false (by omega)
      (try (have c19z0 := c19b0; simp only [hl9_1] at c19z0))
      (try (have c19z1 := c19b1; simp only [hl9_1] at c19z1))
      clear c19
      obtain rfl := Option.some.inj H
      obtain ⟨Ao67, co67, eo67, _⟩ := Kd.Q_slice HO_10.out
      subst eo67
      go_wp2
      go_ret
      exact ⟨_, by first | rfl | (simp [errW_none, errW_some] <;> rfl) | (simp [*, errW_none, errW_some] <;> rfl), by (with_reducible repeat (first | apply Kd.R_alloc | apply Kd.R_drewN | apply Kd.R_drew)); exact Kd.R_mono HO_9.out (fun _ hk => trivial), zb1 HB.out GE201.out⟩
  ·rw [if_neg c7] at H
   exact absurd H (by simp)
 ·rw [if_neg c6] at H
  exact absurd H (by simp)

/-! ### reach_shut: function 54 -/
def reach_shut.l0 : Nat → List Bool → List Int → Int → Int → Option (List Bool)
 | 0, _, _, _, _ => none
 | k + 1, x5, x13, x14, x15 => if x15 < x14 then (if 0 ≤ x15 then (if x15 < (x13.length : Int) then (if (rd x13 x15) ≥ 1 then (if (rd x13 x15) < (x5.length : Int) then (if 0 ≤ (rd x13 x15) then (reach_shut.l0 k (x5.set ((rd x13 x15) : Int).toNat true) x13 x14 (wrap64 (x15 + 1))) else (none)) else (reach_shut.l0 k x5 x13 x14 (wrap64 (x15 + 1)))) else (reach_shut.l0 k x5 x13 x14 (wrap64 (x15 + 1)))) else (none)) else (none)) else (some x5)
def reach_shut.f (k : Nat) (l0_0 : List (S46)) (l0_1 : List (S43)) (l1 : List Int) : Option (List Bool) := if 0 ≤ (wrap64 ((l0_1.length : Int) + 1)) then (if (wrap64 ((l0_1.length : Int) + 1) : Int).toNat ≤ 281474976710656 then (reach_shut.l0 k (List.replicate (wrap64 ((l0_1.length : Int) + 1) : Int).toNat false) l1 (l1.length : Int) 0) else (none)) else (none)
theorem reach_shut.mono_l : ∀ k, (∀ y0 y1 y2 y3, LeO (reach_shut.l0 k y0 y1 y2 y3) (reach_shut.l0 (k + 1) y0 y1 y2 y3))
 | 0 => fun _ _ _ _ r h => by simp [reach_shut.l0] at h
 | k + 1 => by
  have ih0 := reach_shut.mono_l k
  ·intro y0 y1 y2 y3
   unfold reach_shut.l0
   repeat' first
   | (with_reducible exact ih0 _ _ _ _)
   | (with_reducible exact LeO.refl _)
   | (with_reducible exact LeO.none _)
   | (with_reducible refine LeO.ite ?_ ?_)
   | (with_reducible refine LeO.bind ?_ (fun _ => ?_))
   | exact ih0 _ _ _ _
   | exact LeO.none _
   | refine LeO.ite ?_ ?_
   | refine LeO.bind ?_ (fun _ => ?_)
theorem reach_shut.mono : ∀ a0 a1 a2 k, LeO (reach_shut.f k a0 a1 a2) (reach_shut.f (k + 1) a0 a1 a2) := by
 intro a0 a1 a2 k
 have ih0 := reach_shut.mono_l k
 unfold reach_shut.f
 repeat' first
   | (with_reducible exact ih0 _ _ _ _)
   | (with_reducible exact LeO.refl _)
   | (with_reducible exact LeO.none _)
   | (with_reducible refine LeO.ite ?_ ?_)
   | (with_reducible refine LeO.bind ?_ (fun _ => ?_))
   | exact ih0 _ _ _ _
   | exact LeO.none _
   | refine LeO.ite ?_ ?_
   | refine LeO.bind ?_ (fun _ => ?_)
set_option maxHeartbeats 8000000 in
set_option maxRecDepth 100000 in
theorem reach_shut.calls (k : Nat) (A0_0 : Option Addr) (c0_0 : Nat) (l0_0 : List (S46)) (A0_1 : Option Addr) (c0_1 : Nat) (l0_1 : List (S43)) (A1 : Option Addr) (c1 : Nat) (l1 : List Int) (r : List Bool) (w : World) (hr0_0 : Kd.C k46 w A0_0 l0_0.length l0_0) (hc0_0 : l0_0.length ≤ c0_0) (hr0_1 : Kd.C k43 w A0_1 l0_1.length l0_1) (hc0_1 : l0_1.length ≤ c0_1) (hr1 : Kd.C (Kd.int .i64) w A1 l1.length l1) (hc1 : l1.length ≤ c1) (h : reach_shut.f k l0_0 l0_1 l1 = some r) :
  Calls Try.prog 54 #[.agg #[.slice A0_0 l0_0.length c0_0, .slice A0_1 l0_1.length c0_1], .slice A1 l1.length c1] w fun e w' => ∃ v0_ : Value, e = .returned (v0_) ∧ Kd.R Kd.bool 4 w' w.heap.size (fun _ => True) v0_ r ∧ Below w.heap.size w w' := by
 have hu25 := Try.underlying25
 have HR0_0 := Aside0.mk hr0_0
 have HC0_0 := Aside0.mk hc0_0
 clear hr0_0 hc0_0
 have HR0_1 := Aside0.mk hr0_1
 have HC0_1 := Aside0.mk hc0_1
 clear hr0_1 hc0_1
 have HR1 := Aside0.mk hr1
 have HC1 := Aside0.mk hc1
 clear hr1 hc1
 have HB := Aside0.mk (Below.refl w.heap.size w)
 have H : (if 0 ≤ (wrap64 ((l0_1.length : Int) + 1)) then (if (wrap64 ((l0_1.length : Int) + 1) : Int).toNat ≤ 281474976710656 then (reach_shut.l0 k (List.replicate (wrap64 ((l0_1.length : Int) + 1) : Int).toNat false) l1 (l1.length : Int) 0) else (none)) else (none)) = some r := h
 clear h
 obtain ⟨ji3, hji3⟩ : ∃ j_ : Int, (wrap64 ((l0_1.length : Int) + 1)) = j_ := ⟨_, rfl⟩
 replace H : (if 0 ≤ (ji3) then (if (ji3 : Int).toNat ≤ 281474976710656 then (reach_shut.l0 k (List.replicate (ji3 : Int).toNat false) l1 (l1.length : Int) 0) else (none)) else (none)) = some r := by first | (rw [hji3] at H; exact H) | (simp only [hji3] at H ⊢; exact H)
 have hji3w : (IntKind.i64.wrap ((l0_1.length : Int) + 1)) = ji3 := (i64_w _).trans hji3
 by_cases c4 : 0 ≤ (ji3)
 ·rw [if_pos c4] at H
  have c4b0 := eq_true c4
  have c4b1 : decide (0 ≤ (ji3)) = true := decide_eq_true c4
  clear c4
  by_cases c5 : (ji3 : Int).toNat ≤ 281474976710656
  ·rw [if_pos c5] at H
   have c5b0 := eq_true c5
   have c5b1 : decide ((ji3 : Int).toNat ≤ 281474976710656) = true := decide_eq_true c5
   clear c5
   obtain ⟨y230, hy230⟩ : ∃ y_ : List Bool, y_ = (List.replicate (ji3 : Int).toNat false) := ⟨_, rfl⟩
   replace H : (reach_shut.l0 k y230 l1 (l1.length : Int) 0) = some r := by first | (rw [hy230]; with_reducible exact H) | (have H2_ := (Option.bind_some _ _).symm.trans H; rw [hy230]; with_reducible exact H2_) | (have H2_ := (Option.bind_some _ _).symm.trans H; with_reducible exact H2_) | with_reducible exact H | (rw [hy230]; exact H) | exact H
   have Ny230 := Aside0.mk hy230
   clear hy230
   have H' := Aside0.mk H
   clear H
   go_enter Try.func54, Try.ntmps54
   go_wp2_with (first | ((with_reducible refine gate_dst (N := 2) rfl ?_); (try (refine gate_guard (by rfl) ?_; dsimp only)); refine box_event ?hg (N := 2) ?hd (cs := #[.slice A0_0 l0_0.length c0_0, .slice A0_1 l0_1.length c0_1]) (t := 25) ?hr ?_; (case hd => rfl); (case hg => rfl); (case hr => first | (go_simp; done) | (go_simp; rfl)); intro gb229 hg w6 hbox hb; have n0_ := Aside0.mk (below_step (zb0 HB.out) hb); have n1_ := Aside0.mk (hbox); have n2_ := Aside0.mk ((by rw [hg]; exact (below_size (zb0 HB.out)) : w.heap.size ≤ gb229)); have n3_ := Aside0.mk ((by rw [hg]; exact (below_size (zb0 HB.out)) : w.heap.size ≤ gb229)); clear HB; have HB := n0_; have BK229 := n1_; have GW229 := n2_; have GE229 := n3_; clear n0_ n1_ n2_ n3_; clear hb hbox hg; have hcz7_0 : w6.cell? ⟨gb229, 0, none⟩ = some (.slice A0_0 l0_0.length c0_0) := (blk_cell BK229.out 0).trans rfl; have hcz7_1 : w6.cell? ⟨gb229, 1, none⟩ = some (.slice A0_1 l0_1.length c0_1) := (blk_cell BK229.out 1).trans rfl; have hfz7_0 := blk_frozen BK229.out 0; have hfz7_1 := blk_frozen BK229.out 1) | ((with_reducible refine gate_dst (N := 12) rfl ?_); (try (refine gate_guard (by rfl) ?_; dsimp only)); refine Kd.R_make Kd.bool _ 4 rfl (N := 12) rfl 80 _ _ rfl ji3 rfl rfl Try.underlying80 (.bool false) 1 info4 rfl (by decide) (by omega) false (ok := fun _ => True) (okp := fun _ => True) rfl (fun _ hk => hk) trivial (oda) (Nat.le_trans (Nat.mul_le_mul_right _ (oda : ji3.toNat ≤ 281474976710656)) (by omega)) (Below.refl _ _) (Nat.le_refl _) ?_; intro v231 w8 ho9 hb hg_ hnew_; clear hg_ hnew_; (first | rw [← Ny230.out] at ho9 | (simp only [Int.reduceToNat] at ho9; rw [← Ny230.out] at ho9)); have n0_ := Aside0.mk (Kd.R_lower ho9 (below_size (zb1 HB.out GE229.out))); have n1_ := Aside0.mk (blk_below (g := gb229) (o := .cells #[.slice A0_0 l0_0.length c0_0, .slice A0_1 l0_1.length c0_1] 25 (0, 0)) (zk BK229.out) hb); have n2_ := Aside0.mk (below_step (zb1 HB.out GE229.out) hb); clear BK229; clear HB; have HO232 := n0_; have BK229 := n1_; have HB := n2_; clear n0_ n1_ n2_; clear hb ho9))
   go_loopg [15] k (fun kq v15 w' => ∃ (x5_1 : List Bool) (x15_1 : Int), v15 = .int .i64 x15_1 ∧ Aside0 (reach_shut.l0 kq x5_1 l1 (l1.length : Int) x15_1 = some r) ∧ Aside0 (kq ≤ k) ∧ Aside0 (Kd.R Kd.bool 4 w' w.heap.size (fun _ => True) v231 x5_1) ∧ Aside0 (w'.heap[gb229]? = some (.cells #[(.slice A0_0 l0_0.length c0_0), (.slice A0_1 l0_1.length c0_1)] 25 (0, 0))) ∧ Aside0 (Below w.heap.size w w'))
   case atStart => exact ⟨(y230), (0), rs, H', ⟨Nat.le_refl _⟩, ⟨zr HO232.out⟩, ⟨zk BK229.out⟩, ⟨zb1 HB.out GE229.out⟩⟩
   case round =>
    clear H'
    try clear c1
    try clear p2
    try clear c4
    try clear c4b0
    try clear c4b1
    try clear c5
    try clear c5b0
    try clear c5b1
    try clear p6
    try clear hcz7_0
    try clear hcz7_1
    try clear hfz7_0
    try clear hfz7_1
    obtain ⟨x5_1, x15_1, rfl, HA, HK1, HO_5, BK229, HB⟩ := hrel
    cases gk with
    | zero => exact absurd HA.out (by simp [reach_shut.l0])
    | succ k1 =>
     have H := HA.out
     clear HA
     simp only [reach_shut.l0] at H
     by_cases c10 : x15_1 < (l1.length : Int)
     ·rw [if_pos c10] at H
      have c10b0 : decide (x15_1 < (l1.length : Int)) = true := decide_eq_true c10
      clear c10
      by_cases c11 : 0 ≤ x15_1
      ·rw [if_pos c11] at H
       have c11b0 : decide (0 ≤ x15_1) = true := decide_eq_true c11
       clear c11
       by_cases c12 : x15_1 < (l1.length : Int)
       ·rw [if_pos c12] at H
        have c12b0 : decide (x15_1 < (l1.length : Int)) = true := decide_eq_true c12
        clear c12
        by_cases c13 : (rd l1 x15_1) ≥ 1
        ·rw [if_pos c13] at H
         have c13b0 : decide (1 ≤ (rd l1 x15_1)) = true := decide_eq_true c13
         clear c13
         by_cases c14 : (rd l1 x15_1) < (x5_1.length : Int)
         ·rw [if_pos c14] at H
          have c14b0 : decide ((rd l1 x15_1) < (x5_1.length : Int)) = true := decide_eq_true c14
          clear c14
          by_cases c15 : 0 ≤ (rd l1 x15_1)
          ·rw [if_pos c15] at H
           have c15b0 : decide (0 ≤ (rd l1 x15_1)) = true := decide_eq_true c15
           clear c15
           obtain ⟨y234, hy234⟩ : ∃ y_ : List Bool, y_ = (x5_1.set ((rd l1 x15_1) : Int).toNat true) := ⟨_, rfl⟩
           replace H : (reach_shut.l0 k1 y234 l1 (l1.length : Int) (wrap64 (x15_1 + 1))) = some r := by first | (rw [hy234]; with_reducible exact H) | (have H2_ := (Option.bind_some _ _).symm.trans H; rw [hy234]; with_reducible exact H2_) | (have H2_ := (Option.bind_some _ _).symm.trans H; with_reducible exact H2_) | with_reducible exact H | (rw [hy234]; exact H) | exact H
           have Ny234 := Aside0.mk hy234
           clear hy234
           have H' := Aside0.mk H
           clear H
           have p233 : 0 ≤ (x15_1 : Int) := oda
           have q233 : x15_1 < (l1.length : Int) := oda
           obtain ⟨ad233, e233, hx233_0⟩ := Kd.at_int HR1.out x15_1 p233 q233
           cases e233
           replace hx233_0 := zx HB.out hx233_0
           replace p233 := eq_true p233
           replace q233 := eq_true q233
           obtain ⟨Ao17, co17, eo17⟩ := Kd.R_slice HO_5.out
           subst eo17
           have p16 : 0 ≤ ((rd l1 x15_1) : Int) := oda
           have q16 : ((rd l1 x15_1) : Int) < ((x5_1.length : Int) : Int) := oda
           obtain ⟨go16, co16, eo16, gb16, gl16, cl16, HG16⟩ := Kd.R_form HO_5.out (by omega)
           (first | cases eo16 | (injection eo16 with ea_ en_ ec_; (first | subst ea_ | (injection ea_ with ea_; subst ea_)); subst ec_; clear en_))
           have GB16 := Aside0.mk gb16
           have GG16 := Aside0.mk HG16
           clear gb16 gl16 HG16
           obtain ⟨hx16_0, hf16_0⟩ := Kd.R_celln false HO_5.out ((rd l1 x15_1) : Int) p16 q16
           replace p16 := eq_true p16
           replace q16 := eq_true q16
           have HP18 := Kd.R_putg HO_5.out ((rd l1 x15_1) : Int) true
           go_wp2_with (first | ((with_reducible refine gate_store (t := 4) (p := 29) rfl ?_); refine store_event (t := 4) (p := 29) (v := ?vo_w19) (w1 := (wr.setCell ⟨go16, ((rd l1 x15_1) : Int).toNat, none⟩ (.bool true))) ?hg ?ho ?hn ?hr ?_; (case ho => rfl); (case hg => rfl); (case hn => rfl); (case hr => first | (go_simp; done) | (go_simp; rfl)); intro w19 hw; have hg : wr.grownBy w19 (some go16) := (by rw [hw]; exact HP18.2); have hp_ : Kd.R Kd.bool 4 w19 w.heap.size (fun _ => True) (.slice (some ⟨go16, 0, none⟩) x5_1.length co17) y234 := (by rw [hw, Ny234.out]; exact HP18.1); clear HP18; have n0_ := Aside0.mk (hp_); have n1_ := Aside0.mk (blk_grown (g := gb229) (o := .cells #[.slice A0_0 l0_0.length c0_0, .slice A0_1 l0_1.length c0_1] 25 (0, 0)) (zk BK229.out) hg (Kd.R_ne HO_5.out BK229.out (by decide))); have n2_ := Aside0.mk ((by rw [hw]; exact below_set (HB.out) GB16.out : Below w.heap.size w w19)); clear HO_5; clear BK229; clear HB; have HO_5 := n0_; have BK229 := n1_; have HB := n2_; clear n0_ n1_ n2_; clear hg hw hp_))
           go_roundg k1
           case measure => have := HK1.out; omega
           case rel => exact ⟨(y234), (wrap64 (x15_1 + 1)), rs, H', ⟨by have := HK1.out; omega⟩, ⟨zr HO_5.out⟩, ⟨zk BK229.out⟩, ⟨zb1 HB.out GE229.out⟩⟩
          ·rw [if_neg c15] at H
           exact absurd H (by simp)
         ·rw [if_neg c14] at H
          have c14b0 : decide ((rd l1 x15_1) < (x5_1.length : Int)) = false := decide_eq_false c14
          clear c14
          have H' := Aside0.mk H
          clear H
          have p233 : 0 ≤ (x15_1 : Int) := oda
          have q233 : x15_1 < (l1.length : Int) := oda
          obtain ⟨ad233, e233, hx233_0⟩ := Kd.at_int HR1.out x15_1 p233 q233
          cases e233
          replace hx233_0 := zx HB.out hx233_0
          replace p233 := eq_true p233
          replace q233 := eq_true q233
          obtain ⟨Ao20, co20, eo20⟩ := Kd.R_slice HO_5.out
          subst eo20
          go_wp2
          go_roundg k1
          case measure => have := HK1.out; omega
          case rel => exact ⟨(x5_1), (wrap64 (x15_1 + 1)), rs, H', ⟨by have := HK1.out; omega⟩, ⟨zr HO_5.out⟩, ⟨zk BK229.out⟩, ⟨zb1 HB.out GE229.out⟩⟩
        ·rw [if_neg c13] at H
         have c13b0 : decide (1 ≤ (rd l1 x15_1)) = false := decide_eq_false c13
         clear c13
         have H' := Aside0.mk H
         clear H
         have p233 : 0 ≤ (x15_1 : Int) := oda
         have q233 : x15_1 < (l1.length : Int) := oda
         obtain ⟨ad233, e233, hx233_0⟩ := Kd.at_int HR1.out x15_1 p233 q233
         cases e233
         replace hx233_0 := zx HB.out hx233_0
         replace p233 := eq_true p233
         replace q233 := eq_true q233
         go_wp2
         go_roundg k1
         case measure => have := HK1.out; omega
         case rel => exact ⟨(x5_1), (wrap64 (x15_1 + 1)), rs, H', ⟨by have := HK1.out; omega⟩, ⟨zr HO_5.out⟩, ⟨zk BK229.out⟩, ⟨zb1 HB.out GE229.out⟩⟩
       ·rw [if_neg c12] at H
        exact absurd H (by simp)
      ·rw [if_neg c11] at H
       exact absurd H (by simp)
     ·rw [if_neg c10] at H
      have c10b0 : decide (x15_1 < (l1.length : Int)) = false := decide_eq_false c10
      clear c10
      obtain rfl := Option.some.inj H
      go_wp2
      go_ret
      exact ⟨_, by first | rfl | (simp [errW_none, errW_some] <;> rfl) | (simp only [← hji3]; first | rfl | (simp [errW_none, errW_some] <;> rfl)) | (simp [*, errW_none, errW_some] <;> rfl), by (with_reducible repeat (first | apply Kd.R_alloc | apply Kd.R_drewN | apply Kd.R_drew)); exact HO_5.out, zb1 HB.out GE229.out⟩
  ·rw [if_neg c5] at H
   exact absurd H (by simp)
 ·rw [if_neg c4] at H
  exact absurd H (by simp)

end Go.Proofs.Ytkdfohmceokchaa.PZoneJoined
