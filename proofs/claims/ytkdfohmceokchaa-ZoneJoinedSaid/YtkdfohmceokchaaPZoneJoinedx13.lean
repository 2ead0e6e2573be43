-- Written by a program of this session (wip/oprint): after the pattern of the kit's print, which does not take this law. -- trimmed
import Derived.Test.YtkdfohmceokchaaPZoneJoinedx0
import Derived.Test.YtkdfohmceokchaaPZoneJoinedx8
import Derived.Test.YtkdfohmceokchaaPZoneJoinedx11
import Derived.Test.YtkdfohmceokchaaPZoneJoinedx12
namespace Go.Proofs.Ytkdfohmceokchaa.PZoneJoined
open Go.RowKit Go.Proofs.YtkdfohmceokchaaW.PrintWords Go.Proofs.YtkdfohmceokchaaW.PrintLast Go.Proofs.YtkdfohmceokchaaW.PrintMore
attribute [local go_sem] max2_int min2_int max_two min_two max_three min_three max_four min_four   -- for this text's walks alone
set_option linter.unusedVariables false
set_option linter.unusedSimpArgs false

/-! ### route_Table: function 34 -/
def route_Table.l0 : Nat → List Int → List Int → List Int → Int → Int → List (S46) → List (S43) → Option (List Int × Int)
 | 0, _, _, _, _, _, _, _ => none
 | k + 1, x1, x8, x10, x24, x25, x261000, x261001 => if x25 < x24 then ((route_next.f k x261000 x261001 x1 x8 x25).bind fun t265 => (if x10.length < 17592186044416 then (route_Table.l0 k x1 x8 (x10 ++ [t265]) x24 (wrap64 (x25 + 1)) x261000 x261001) else (none))) else (some (x10, 0))
def route_Table.f (k : Nat) (l0_0 : List (S46)) (l0_1 : List (S43)) (l1 : List Int) (a2 : Int) : Option (List Int × Int) := (reach_To.f k l0_0 l0_1 l1 a2).bind fun bt261 => (if bt261.2 = 0 then (route_Table.l0 k l1 bt261.1 ([] : List Int) (l0_0.length : Int) 0 l0_0 l0_1) else (some (([] : List Int), bt261.2)))
theorem route_Table.mono_l : ∀ k, (∀ y0 y1 y2 y3 y4 y5 y6, LeO (route_Table.l0 k y0 y1 y2 y3 y4 y5 y6) (route_Table.l0 (k + 1) y0 y1 y2 y3 y4 y5 y6))
 | 0 => fun _ _ _ _ _ _ _ r h => by simp [route_Table.l0] at h
 | k + 1 => by
  have ih0 := route_Table.mono_l k
  ·intro y0 y1 y2 y3 y4 y5 y6
   unfold route_Table.l0
   repeat' first
   | (with_reducible exact ih0 _ _ _ _ _ _ _)
   | (with_reducible exact reach_To.mono _ _ _ _ _)
   | (with_reducible exact route_next.mono _ _ _ _ _ _)
   | (with_reducible exact LeO.refl _)
   | (with_reducible exact LeO.none _)
   | (with_reducible refine LeO.ite ?_ ?_)
   | (with_reducible refine LeO.bind ?_ (fun _ => ?_))
   | exact ih0 _ _ _ _ _ _ _
   | exact reach_To.mono _ _ _ _ _
   | exact route_next.mono _ _ _ _ _ _
   | exact LeO.none _
   | refine LeO.ite ?_ ?_
   | refine LeO.bind ?_ (fun _ => ?_)
theorem route_Table.mono : ∀ a0 a1 a2 a3 k, LeO (route_Table.f k a0 a1 a2 a3) (route_Table.f (k + 1) a0 a1 a2 a3) := by
 intro a0 a1 a2 a3 k
 have ih0 := route_Table.mono_l k
 unfold route_Table.f
 repeat' first
   | (with_reducible exact ih0 _ _ _ _ _ _ _)
   | (with_reducible exact reach_To.mono _ _ _ _ _)
   | (with_reducible exact route_next.mono _ _ _ _ _ _)
   | (with_reducible exact LeO.refl _)
   | (with_reducible exact LeO.none _)
   | (with_reducible refine LeO.ite ?_ ?_)
   | (with_reducible refine LeO.bind ?_ (fun _ => ?_))
   | exact ih0 _ _ _ _ _ _ _
   | exact reach_To.mono _ _ _ _ _
   | exact route_next.mono _ _ _ _ _ _
   | exact LeO.none _
   | refine LeO.ite ?_ ?_
   | refine LeO.bind ?_ (fun _ => ?_)
set_option maxHeartbeats 8000000 in
set_option maxRecDepth 100000 in
theorem route_Table.calls (k : Nat) (A0_0 : Option Addr) (c0_0 : Nat) (l0_0 : List (S46)) (A0_1 : Option Addr) (c0_1 : Nat) (l0_1 : List (S43)) (A1 : Option Addr) (c1 : Nat) (l1 : List Int) (a2 : Int) (r1 : List Int) (r2 : Int) (w : World) (hr0_0 : Kd.C k46 w A0_0 l0_0.length l0_0) (hc0_0 : l0_0.length ≤ c0_0) (hr0_1 : Kd.C k43 w A0_1 l0_1.length l0_1) (hc0_1 : l0_1.length ≤ c0_1) (hr1 : Kd.C (Kd.int .i64) w A1 l1.length l1) (hc1 : l1.length ≤ c1) (h : route_Table.f k l0_0 l0_1 l1 a2 = some (r1, r2)) :
  Calls Try.prog 34 #[.agg #[.slice A0_0 l0_0.length c0_0, .slice A0_1 l0_1.length c0_1], .slice A1 l1.length c1, .int .i64 a2] w fun e w' => ∃ v0_ : Value, e = .returned (.tuple #[v0_, .int .i64 r2]) ∧ Kd.R (Kd.int .i64) 3 w' w.heap.size (fun _ => True) v0_ r1 ∧ Below w.heap.size w w' := by
 have hu25 := Try.underlying25
 have HR0_0 := Aside0.mk hr0_0
 have HC0_0 := Aside0.mk hc0_0
 clear hr0_0 hc0_0
 have HR0_1 := Aside0.mk hr0_1
 have HC0_1 := Aside0.mk hc0_1
 clear hr0_1 hc0_1
 have HR1 := Aside0.mk hr1
 have HC1 := Aside0.mk hc1
 clear hr1 hc1
 have HB := Aside0.mk (Below.refl w.heap.size w)
 have H : ((reach_To.f k l0_0 l0_1 l1 a2).bind fun bt261 => (if bt261.2 = 0 then (route_Table.l0 k l1 bt261.1 ([] : List Int) (l0_0.length : Int) 0 l0_0 l0_1) else (some (([] : List Int), bt261.2)))) = some (r1, r2) := h
 clear h
 replace H := Option.bind_eq_some_iff.mp H
 obtain ⟨⟨t261, t264⟩, A40, H⟩ := H
 replace H : (if t264 = 0 then (route_Table.l0 k l1 t261 ([] : List Int) (l0_0.length : Int) 0 l0_0 l0_1) else (some (([] : List Int), t264))) = some (r1, r2) := H
 have A4 := Aside0.mk A40
 clear A40
 by_cases c5 : t264 = 0
 ·rw [if_pos c5] at H
  have c5b0 : (t264 == 0) = true := beq_iff_eq.mpr c5
  have c5b1 : (t264 != 0) = false := bne_eq_false_iff_eq.mpr c5
  clear c5
  have H' := Aside0.mk H
  clear H
  go_enter Try.func34, Try.ntmps34
  go_wp2_with (first | ((with_reducible refine gate_dst (N := 3) rfl ?_); refine box_event ?hg (N := 3) ?hd (cs := #[.slice A0_0 l0_0.length c0_0, .slice A0_1 l0_1.length c0_1]) (t := 25) ?hr ?_; (case hd => rfl); (case hg => rfl); (case hr => first | (go_simp; done) | (go_simp; rfl)); intro gb260 hg w6 hbox hb; have n0_ := Aside0.mk (below_step (zb0 HB.out) hb); have n1_ := Aside0.mk (hbox); have n2_ := Aside0.mk ((by rw [hg]; exact (below_size (zb0 HB.out)) : w.heap.size ≤ gb260)); have n3_ := Aside0.mk ((by rw [hg]; exact (below_size (zb0 HB.out)) : w.heap.size ≤ gb260)); clear HB; have HB := n0_; have BK260 := n1_; have GW260 := n2_; have GE260 := n3_; clear n0_ n1_ n2_ n3_; clear hb hbox hg; have hcz7_0 : w6.cell? ⟨gb260, 0, none⟩ = some (.slice A0_0 l0_0.length c0_0) := (blk_cell BK260.out 0).trans rfl; have hcz7_1 : w6.cell? ⟨gb260, 1, none⟩ = some (.slice A0_1 l0_1.length c0_1) := (blk_cell BK260.out 1).trans rfl; have hfz7_0 := blk_frozen BK260.out 0; have hfz7_1 := blk_frozen BK260.out 1) | ((with_reducible refine gate_callee (f := 47) rfl ?_); refine goesL_ (some 16) rfl rfl Try.func47 (by kernel_rfl) rfl #[.agg #[.slice A0_0 l0_0.length c0_0, .slice A0_1 l0_1.length c0_1], .slice A1 l1.length c1, .int .i64 a2] rfl am ?_; (with_reducible refine (reach_To.calls k _ _ l0_0 _ _ l0_1 _ _ l1 a2 t261 t264 _ ?side1 ?side2 ?side3 ?side4 ?side5 ?side6 A4.out).mono ?_); (case side1 => exact zc HR0_0.out HB.out); (case side2 => exact HC0_0.out); (case side3 => exact zc HR0_1.out HB.out); (case side4 => exact HC0_1.out); (case side5 => exact zc HR1.out HB.out); (case side6 => exact HC1.out); rintro e w8 ⟨v262, rfl, ho0, hb⟩; refine ⟨_, rfl, ?_⟩; have n0_ := Aside0.mk (Kd.R_lower ho0 (below_size (zb1 HB.out GE260.out))); have n1_ := Aside0.mk (blk_below (g := gb260) (o := .cells #[.slice A0_0 l0_0.length c0_0, .slice A0_1 l0_1.length c0_1] 25 (0, 0)) (zk BK260.out) hb); have n2_ := Aside0.mk (below_step (zb1 HB.out GE260.out) hb); clear BK260; clear HB; have HO263 := n0_; have BK260 := n1_; have HB := n2_; clear n0_ n1_ n2_; (try clear hb); (try clear hb2); (try clear hk); (try clear hi); (try clear ho0); have hcz9_0 : w8.cell? ⟨gb260, 0, none⟩ = some (.slice A0_0 l0_0.length c0_0) := (blk_cell BK260.out 0).trans rfl; have hcz9_1 : w8.cell? ⟨gb260, 1, none⟩ = some (.slice A0_1 l0_1.length c0_1) := (blk_cell BK260.out 1).trans rfl; have hfz9_0 := blk_frozen BK260.out 0; have hfz9_1 := blk_frozen BK260.out 1))
  go_loopg [10, 25] k (fun kq v10 v25 w' => ∃ (x10_1 : List Int) (x25_1 : Int), v25 = .int .i64 x25_1 ∧ Aside0 (route_Table.l0 kq l1 t261 x10_1 (l0_0.length : Int) x25_1 l0_0 l0_1 = some (r1, r2)) ∧ Aside0 (kq ≤ k) ∧ Aside0 (Kd.R (Kd.int .i64) 3 w' w.heap.size (fun k_ => some k_ ≠ (v10 : Value).ownBlock) v262 t261) ∧ Aside0 (Kd.R (Kd.int .i64) 3 w' w.heap.size (fun k_ => some k_ ≠ (v262 : Value).ownBlock) v10 x10_1) ∧ Aside0 (w'.heap[gb260]? = some (.cells #[(.slice A0_0 l0_0.length c0_0), (.slice A0_1 l0_1.length c0_1)] 25 (0, 0))) ∧ Aside0 (Below w.heap.size w w'))
  case atStart => exact ⟨(([] : List Int)), (0), rs, H', ⟨Nat.le_refl _⟩, ⟨by (with_reducible repeat (first | apply Kd.R_alloc | apply Kd.R_drewN | apply Kd.R_drew)); exact Kd.R_mono HO263.out (fun _ hk => (by simp [Value.ownBlock]))⟩, ⟨by first | exact Kd.R_nil _ _ _ _ _ | exact Kd.N_nil _ _ _ _ _ | exact Kd.V_nil _ _ _ _ _ | exact Kd.Q_nil _ _ _ _ _ | exact Kd.S_nil _ _ _ _ _⟩, ⟨zk BK260.out⟩, ⟨zb1 HB.out GE260.out⟩⟩
  case round =>
   clear H'
   try clear c1
   try clear p2
   try clear c3
   try clear c4
   try clear c5
   try clear c5b0
   try clear c5b1
   try clear hcz7_0
   try clear hcz7_1
   try clear hcz9_0
   try clear hcz9_1
   try clear hfz7_0
   try clear hfz7_1
   try clear hfz9_0
   try clear hfz9_1
   obtain ⟨x10_1, x25_1, rfl, HA, HK1, HO_8, HO_10, BK260, HB⟩ := hrel
   cases gk with
   | zero => exact absurd HA.out (by simp [route_Table.l0])
   | succ k1 =>
    have H := HA.out
    clear HA
    simp only [route_Table.l0] at H
    by_cases c10 : x25_1 < (l0_0.length : Int)
    ·rw [if_pos c10] at H
     have c10b0 : decide (x25_1 < (l0_0.length : Int)) = true := decide_eq_true c10
     clear c10
     replace H := Option.bind_eq_some_iff.mp H
     obtain ⟨t265, A110, H⟩ := H
     replace H : (if x10_1.length < 17592186044416 then (route_Table.l0 k1 l1 t261 (x10_1 ++ [t265]) (l0_0.length : Int) (wrap64 (x25_1 + 1)) l0_0 l0_1) else (none)) = some (r1, r2) := H
     have A11 := Aside0.mk A110
     clear A110
     by_cases c12 : x10_1.length < 17592186044416
     ·rw [if_pos c12] at H
      have LMc12 := Aside0.mk c12
      clear c12
      obtain ⟨y266, hy266⟩ : ∃ y_ : List Int, y_ = (x10_1 ++ [t265]) := ⟨_, rfl⟩
      replace H : (route_Table.l0 k1 l1 t261 y266 (l0_0.length : Int) (wrap64 (x25_1 + 1)) l0_0 l0_1) = some (r1, r2) := by first | (rw [hy266]; with_reducible exact H) | (have H2_ := (Option.bind_some _ _).symm.trans H; rw [hy266]; with_reducible exact H2_) | (have H2_ := (Option.bind_some _ _).symm.trans H; with_reducible exact H2_) | with_reducible exact H | (rw [hy266]; exact H) | exact H
      have Ny266 := Aside0.mk hy266
      clear hy266
      have H' := Aside0.mk H
      clear H
      have hcz13_0 : wr.cell? ⟨gb260, 0, none⟩ = some (.slice A0_0 l0_0.length c0_0) := (blk_cell BK260.out 0).trans rfl
      have hcz13_1 : wr.cell? ⟨gb260, 1, none⟩ = some (.slice A0_1 l0_1.length c0_1) := (blk_cell BK260.out 1).trans rfl
      have hfz13_0 := blk_frozen BK260.out 0
      have hfz13_1 := blk_frozen BK260.out 1
      obtain ⟨Ao14, co14, eo14⟩ := Kd.R_slice HO_8.out
      subst eo14
      go_wp2_with (first | ((with_reducible refine gate_callee (f := 48) rfl ?_); refine goesL_ (some 33) rfl rfl Try.func48 (by kernel_rfl) rfl #[.agg #[.slice A0_0 l0_0.length c0_0, .slice A0_1 l0_1.length c0_1], .slice A1 l1.length c1, .slice Ao14 t261.length co14, .int .i64 x25_1] rfl am ?_; (with_reducible refine (route_next.calls k1 _ _ l0_0 _ _ l0_1 _ _ l1 _ _ t261 x25_1 t265 _ ?side1 ?side2 ?side3 ?side4 ?side5 ?side6 ?side7 ?side8 A11.out).mono ?_); (case side1 => exact zc HR0_0.out HB.out); (case side2 => exact HC0_0.out); (case side3 => exact zc HR0_1.out HB.out); (case side4 => exact HC0_1.out); (case side5 => exact zc HR1.out HB.out); (case side6 => exact HC1.out); (case side7 => exact zd (Kd.R_reads' HO_8.out).2.2); (case side8 => exact (Kd.R_reads' HO_8.out).2.1); rintro e w15 ⟨rfl, hb⟩; refine ⟨_, rfl, ?_⟩; have n0_ := Aside0.mk (Kd.R_below (zr HO_8.out) hb); have n1_ := Aside0.mk (Kd.R_below (zr HO_10.out) hb); have n2_ := Aside0.mk (blk_below (g := gb260) (o := .cells #[.slice A0_0 l0_0.length c0_0, .slice A0_1 l0_1.length c0_1] 25 (0, 0)) (zk BK260.out) hb); have n3_ := Aside0.mk (below_step (zb1 HB.out GE260.out) hb); clear HO_8; clear HO_10; clear BK260; clear HB; have HO_8 := n0_; have HO_10 := n1_; have BK260 := n2_; have HB := n3_; clear n0_ n1_ n2_ n3_; (try clear hb); (try clear hb2); (try clear hk); (try clear hi)) | ((with_reducible refine gate_builtin (b := .append) (xs := #[.tmp 28, .tmp 34]) rfl ?_); at_builtin; refine Kd.R_append (Kd.int .i64) (w0 := w) w.heap.size rfl (.tmp 28) (.tmp 34) 26 3 (.int .i64 0) 8 rfl Try.underlying26 info3 rfl (by decide) (by omega) u10 x10_1 t265 [.int .i64 t265] (fun k_ => some k_ ≠ (.slice Ao14 t261.length co14 : Value).ownBlock) (fun _ => False) rfl rfl ?aP (fun _ hk => hk.elim) ?aF ?aO ?aB ?aS ?aL ?_; (case aP => exact rfl); (case aB => exact (zb1 HB.out GE260.out)); (case aF => exact (fun k_ hk => Kd.fresh' (Kd.R_lt (zr HO_8.out)) k_ hk)); (case aO => exact (zr HO_10.out)); (case aS => exact (below_size (zb1 HB.out GE260.out))); (case aL => have := LMc12.out; omega); intro v267 w16 ho hb hg hat; rw [← Ny266.out] at ho; have n0_ := Aside0.mk (Kd.R_after (ok := (fun _ => True)) (by (with_reducible repeat (first | apply Kd.R_alloc | apply Kd.R_drewN | apply Kd.R_drew)); exact Kd.R_mono HO_8.out (fun _ hk => ⟨trivial, hk⟩)) hg hat); have n1_ := Aside0.mk (blk_grown (g := gb260) (o := .cells #[.slice A0_0 l0_0.length c0_0, .slice A0_1 l0_1.length c0_1] 25 (0, 0)) (zk BK260.out) hg (Kd.R_ne HO_10.out BK260.out (by decide))); have n2_ := Aside0.mk (hb); have n3_ := Aside0.mk (ho); clear HO_8; clear BK260; clear HB; clear HO_10; have HO_8 := n0_; have BK260 := n1_; have HB := n2_; have HO268 := n3_; clear n0_ n1_ n2_ n3_; clear ho hb hg hat))
      go_roundg k1
      case measure => have := HK1.out; omega
      case rel => exact ⟨(y266), (wrap64 (x25_1 + 1)), rs, H', ⟨by have := HK1.out; omega⟩, ⟨by (with_reducible repeat (first | apply Kd.R_alloc | apply Kd.R_drewN | apply Kd.R_drew)); exact Kd.R_mono HO_8.out (fun _ hk => hk.2)⟩, ⟨zr HO268.out⟩, ⟨zk BK260.out⟩, ⟨zb1 HB.out GE260.out⟩⟩
     ·rw [if_neg c12] at H
      exact absurd H (by simp)
    ·rw [if_neg c10] at H
     have c10b0 : decide (x25_1 < (l0_0.length : Int)) = false := decide_eq_false c10
     clear c10
     simp only [Option.some.injEq, Prod.mk.injEq] at H
     obtain ⟨rfl, rfl⟩ := H
     go_wp2
     go_ret2
     exact ⟨_, by first | rfl | (simp [errW_none, errW_some] <;> rfl) | (simp [*, errW_none, errW_some] <;> rfl), by (with_reducible repeat (first | apply Kd.R_alloc | apply Kd.R_drewN | apply Kd.R_drew)); exact Kd.R_mono HO_10.out (fun _ hk => trivial), zb1 HB.out GE260.out⟩
 ·rw [if_neg c5] at H
  have c5b0 : (t264 == 0) = false := beq_eq_false_iff_ne.mpr c5
  have c5b1 : (t264 != 0) = true := bne_iff_ne.mpr c5
  simp only [Option.some.injEq, Prod.mk.injEq] at H
  obtain ⟨rfl, rfl⟩ := H
  go_enter Try.func34, Try.ntmps34
  go_wp2_with (first | ((with_reducible refine gate_dst (N := 3) rfl ?_); refine box_event ?hg (N := 3) ?hd (cs := #[.slice A0_0 l0_0.length c0_0, .slice A0_1 l0_1.length c0_1]) (t := 25) ?hr ?_; (case hd => rfl); (case hg => rfl); (case hr => first | (go_simp; done) | (go_simp; rfl)); intro gb260 hg w17 hbox hb; have n0_ := Aside0.mk (below_step (zb0 HB.out) hb); have n1_ := Aside0.mk (hbox); have n2_ := Aside0.mk ((by rw [hg]; exact (below_size (zb0 HB.out)) : w.heap.size ≤ gb260)); have n3_ := Aside0.mk ((by rw [hg]; exact (below_size (zb0 HB.out)) : w.heap.size ≤ gb260)); clear HB; have HB := n0_; have BK260 := n1_; have GW260 := n2_; have GE260 := n3_; clear n0_ n1_ n2_ n3_; clear hb hbox hg; have hcz18_0 : w17.cell? ⟨gb260, 0, none⟩ = some (.slice A0_0 l0_0.length c0_0) := (blk_cell BK260.out 0).trans rfl; have hcz18_1 : w17.cell? ⟨gb260, 1, none⟩ = some (.slice A0_1 l0_1.length c0_1) := (blk_cell BK260.out 1).trans rfl; have hfz18_0 := blk_frozen BK260.out 0; have hfz18_1 := blk_frozen BK260.out 1) | ((with_reducible refine gate_callee (f := 47) rfl ?_); refine goesL_ (some 16) rfl rfl Try.func47 (by kernel_rfl) rfl #[.agg #[.slice A0_0 l0_0.length c0_0, .slice A0_1 l0_1.length c0_1], .slice A1 l1.length c1, .int .i64 a2] rfl am ?_; (with_reducible refine (reach_To.calls k _ _ l0_0 _ _ l0_1 _ _ l1 a2 t261 t264 _ ?side1 ?side2 ?side3 ?side4 ?side5 ?side6 A4.out).mono ?_); (case side1 => exact zc HR0_0.out HB.out); (case side2 => exact HC0_0.out); (case side3 => exact zc HR0_1.out HB.out); (case side4 => exact HC0_1.out); (case side5 => exact zc HR1.out HB.out); (case side6 => exact HC1.out); rintro e w19 ⟨v262, rfl, ho0, hb⟩; refine ⟨_, rfl, ?_⟩; have n0_ := Aside0.mk (Kd.R_lower ho0 (below_size (zb1 HB.out GE260.out))); have n1_ := Aside0.mk (blk_below (g := gb260) (o := .cells #[.slice A0_0 l0_0.length c0_0, .slice A0_1 l0_1.length c0_1] 25 (0, 0)) (zk BK260.out) hb); have n2_ := Aside0.mk (below_step (zb1 HB.out GE260.out) hb); clear BK260; clear HB; have HO263 := n0_; have BK260 := n1_; have HB := n2_; clear n0_ n1_ n2_; (try clear hb); (try clear hb2); (try clear hk); (try clear hi); (try clear ho0)))
  go_ret2
  exact ⟨_, by first | rfl | (simp [errW_none, errW_some] <;> rfl) | (simp [*, errW_none, errW_some] <;> rfl), by first | exact Kd.R_nil _ _ _ _ _ | exact Kd.N_nil _ _ _ _ _ | exact Kd.V_nil _ _ _ _ _ | exact Kd.Q_nil _ _ _ _ _ | exact Kd.S_nil _ _ _ _ _, zb1 HB.out GE260.out⟩

/-! ### route_Path: function 20 -/
def route_Path.l0 : Nat → Int → List Int → List Int → Int → List (S46) → List (S43) → Option (List Int × Int)
 | 0, _, _, _, _, _, _ => none
 | k + 1, x3, x10, x12, x13, x270000, x270001 => if x13 = x3 then (some (x12, 0)) else (if 0 ≤ x13 then (if x13 < (x10.length : Int) then (if (rd x10 x13) = 0 then (some (([] : List Int), 80)) else (if x12.length < 17592186044416 then (if 0 ≤ (wrap64 ((rd x10 x13) - 1)) then (if (wrap64 ((rd x10 x13) - 1)) < (x270001.length : Int) then (route_Path.l0 k x3 x10 (x12 ++ [rd x10 x13]) ((rd_T43 x270001 (wrap64 ((rd x10 x13) - 1))).f1) x270000 x270001) else (none)) else (none)) else (none))) else (none)) else (none))
def route_Path.f (k : Nat) (l0_0 : List (S46)) (l0_1 : List (S43)) (l1 : List Int) (a2 : Int) (a3 : Int) : Option (List Int × Int) := (route_out.f l0_0 l0_1 (([a2, a3] : List Int))).bind fun t273 => (if t273 = true then (some (([] : List Int), 1)) else ((route_Table.f k l0_0 l0_1 l1 a3).bind fun bt274 => (route_Path.l0 k a3 bt274.1 ([] : List Int) a2 l0_0 l0_1)))
theorem route_Path.mono_l : ∀ k, (∀ y0 y1 y2 y3 y4 y5, LeO (route_Path.l0 k y0 y1 y2 y3 y4 y5) (route_Path.l0 (k + 1) y0 y1 y2 y3 y4 y5))
 | 0 => fun _ _ _ _ _ _ r h => by simp [route_Path.l0] at h
 | k + 1 => by
  have ih0 := route_Path.mono_l k
  ·intro y0 y1 y2 y3 y4 y5
   unfold route_Path.l0
   repeat' first
   | (with_reducible exact ih0 _ _ _ _ _ _)
   | (with_reducible exact route_Table.mono _ _ _ _ _)
   | (with_reducible exact LeO.refl _)
   | (with_reducible exact LeO.none _)
   | (with_reducible refine LeO.ite ?_ ?_)
   | (with_reducible refine LeO.bind ?_ (fun _ => ?_))
   | exact ih0 _ _ _ _ _ _
   | exact route_Table.mono _ _ _ _ _
   | exact LeO.none _
   | refine LeO.ite ?_ ?_
   | refine LeO.bind ?_ (fun _ => ?_)
theorem route_Path.mono : ∀ a0 a1 a2 a3 a4 k, LeO (route_Path.f k a0 a1 a2 a3 a4) (route_Path.f (k + 1) a0 a1 a2 a3 a4) := by
 intro a0 a1 a2 a3 a4 k
 have ih0 := route_Path.mono_l k
 unfold route_Path.f
 repeat' first
   | (with_reducible exact ih0 _ _ _ _ _ _)
   | (with_reducible exact route_Table.mono _ _ _ _ _)
   | (with_reducible exact LeO.refl _)
   | (with_reducible exact LeO.none _)
   | (with_reducible refine LeO.ite ?_ ?_)
   | (with_reducible refine LeO.bind ?_ (fun _ => ?_))
   | exact ih0 _ _ _ _ _ _
   | exact route_Table.mono _ _ _ _ _
   | exact LeO.none _
   | refine LeO.ite ?_ ?_
   | refine LeO.bind ?_ (fun _ => ?_)
set_option maxHeartbeats 8000000 in
set_option maxRecDepth 100000 in
theorem route_Path.calls (k : Nat) (A0_0 : Option Addr) (c0_0 : Nat) (l0_0 : List (S46)) (A0_1 : Option Addr) (c0_1 : Nat) (l0_1 : List (S43)) (A1 : Option Addr) (c1 : Nat) (l1 : List Int) (a2 : Int) (a3 : Int) (r1 : List Int) (r2 : Int) (w : World) (hr0_0 : Kd.C k46 w A0_0 l0_0.length l0_0) (hc0_0 : l0_0.length ≤ c0_0) (hr0_1 : Kd.C k43 w A0_1 l0_1.length l0_1) (hc0_1 : l0_1.length ≤ c0_1) (hr1 : Kd.C (Kd.int .i64) w A1 l1.length l1) (hc1 : l1.length ≤ c1) (h : route_Path.f k l0_0 l0_1 l1 a2 a3 = some (r1, r2)) :
  Calls Try.prog 20 #[.agg #[.slice A0_0 l0_0.length c0_0, .slice A0_1 l0_1.length c0_1], .slice A1 l1.length c1, .int .i64 a2, .int .i64 a3] w fun e w' => ∃ v0_ : Value, e = .returned (.tuple #[v0_, .int .i64 r2]) ∧ Kd.R (Kd.int .i64) 3 w' w.heap.size (fun _ => True) v0_ r1 ∧ Below w.heap.size w w' := by
 have hu25 := Try.underlying25
 have HR0_0 := Aside0.mk hr0_0
 have HC0_0 := Aside0.mk hc0_0
 clear hr0_0 hc0_0
 have HR0_1 := Aside0.mk hr0_1
 have HC0_1 := Aside0.mk hc0_1
 clear hr0_1 hc0_1
 have HR1 := Aside0.mk hr1
 have HC1 := Aside0.mk hc1
 clear hr1 hc1
 have HB := Aside0.mk (Below.refl w.heap.size w)
 have H : ((route_out.f l0_0 l0_1 (([a2, a3] : List Int))).bind fun t273 => (if t273 = true then (some (([] : List Int), 1)) else ((route_Table.f k l0_0 l0_1 l1 a3).bind fun bt274 => (route_Path.l0 k a3 bt274.1 ([] : List Int) a2 l0_0 l0_1)))) = some (r1, r2) := h
 clear h
 obtain ⟨y270, hy270⟩ : ∃ y_ : List Int, y_ = (([a2, a3] : List Int)) := ⟨_, rfl⟩
 replace H : ((route_out.f l0_0 l0_1 y270).bind fun t273 => (if t273 = true then (some (([] : List Int), 1)) else ((route_Table.f k l0_0 l0_1 l1 a3).bind fun bt274 => (route_Path.l0 k a3 bt274.1 ([] : List Int) a2 l0_0 l0_1)))) = some (r1, r2) := by first | (rw [hy270]; with_reducible exact H) | (have H2_ := (Option.bind_some _ _).symm.trans H; rw [hy270]; with_reducible exact H2_) | (have H2_ := (Option.bind_some _ _).symm.trans H; with_reducible exact H2_) | with_reducible exact H | (rw [hy270]; exact H) | exact H
 have Ny270 := Aside0.mk hy270
 clear hy270
 replace H := Option.bind_eq_some_iff.mp H
 obtain ⟨t273, A50, H⟩ := H
 replace H : (if t273 = true then (some (([] : List Int), 1)) else ((route_Table.f k l0_0 l0_1 l1 a3).bind fun bt274 => (route_Path.l0 k a3 bt274.1 ([] : List Int) a2 l0_0 l0_1))) = some (r1, r2) := H
 have A5 := Aside0.mk A50
 clear A50
 by_cases c6 : t273 = true
 ·subst c6
  have H1 : (some (([] : List Int), 1)) = some (r1, r2) := by rw [if_pos rfl] at H; exact H
  clear H
  have H := H1
  clear H1
  simp only [Option.some.injEq, Prod.mk.injEq] at H
  obtain ⟨rfl, rfl⟩ := H
  go_enter Try.func20, Try.ntmps20
  go_wp2_with (first | ((with_reducible refine gate_dst (N := 4) rfl ?_); refine box_event ?hg (N := 4) ?hd (cs := #[.slice A0_0 l0_0.length c0_0, .slice A0_1 l0_1.length c0_1]) (t := 25) ?hr ?_; (case hd => rfl); (case hg => rfl); (case hr => first | (go_simp; done) | (go_simp; rfl)); intro gb269 hg w7 hbox hb; have n0_ := Aside0.mk (below_step (zb0 HB.out) hb); have n1_ := Aside0.mk (hbox); have n2_ := Aside0.mk ((by rw [hg]; exact (below_size (zb0 HB.out)) : w.heap.size ≤ gb269)); have n3_ := Aside0.mk ((by rw [hg]; exact (below_size (zb0 HB.out)) : w.heap.size ≤ gb269)); clear HB; have HB := n0_; have BK269 := n1_; have GW269 := n2_; have GE269 := n3_; clear n0_ n1_ n2_ n3_; clear hb hbox hg; have hcz8_0 : w7.cell? ⟨gb269, 0, none⟩ = some (.slice A0_0 l0_0.length c0_0) := (blk_cell BK269.out 0).trans rfl; have hcz8_1 : w7.cell? ⟨gb269, 1, none⟩ = some (.slice A0_1 l0_1.length c0_1) := (blk_cell BK269.out 1).trans rfl; have hfz8_0 := blk_frozen BK269.out 0; have hfz8_1 := blk_frozen BK269.out 1) | ((with_reducible refine gate_dst (N := 18) rfl ?_); refine Kd.R_lit (Kd.int .i64) _ 3 ?hg (N := 18) ?hd (xs := ([a2, a3] : List Int)) (inner := [.int .i64 a2, .int .i64 a3]) (ok := fun _ => True) (okp := fun _ => True) ?hr ?hp (fun _ hk => hk) trivial (Below.refl _ _) (Nat.le_refl _) (by simp) ?_; (case hd => rfl); (case hg => rfl); (case hr => first | (go_simp; done) | (go_simp; rfl)); (case hp => exact (Reps.one (show Kd.M (Kd.int .i64) _ _ _ a2 [.int .i64 a2] from rfl) (Reps.one (show Kd.M (Kd.int .i64) _ _ _ a3 [.int .i64 a3] from rfl) (Reps.none _ _)))); intro v271 w9 ho10 hb hg_ hnew_; clear hg_ hnew_; (first | rw [← Ny270.out] at ho10 | (simp only [Int.reduceToNat] at ho10; rw [← Ny270.out] at ho10)); have n0_ := Aside0.mk (Kd.R_lower ho10 (below_size (zb1 HB.out GE269.out))); have n1_ := Aside0.mk (blk_below (g := gb269) (o := .cells #[.slice A0_0 l0_0.length c0_0, .slice A0_1 l0_1.length c0_1] 25 (0, 0)) (zk BK269.out) hb); have n2_ := Aside0.mk (below_step (zb1 HB.out GE269.out) hb); clear BK269; clear HB; have HO272 := n0_; have BK269 := n1_; have HB := n2_; clear n0_ n1_ n2_; clear hb ho10; obtain ⟨Ao11, co11, eo11⟩ := Kd.R_slice HO272.out; subst eo11) | ((with_reducible refine gate_callee (f := 33) rfl ?_); refine goesL_ (some 19) rfl rfl Try.func33 (by kernel_rfl) rfl #[.agg #[.slice A0_0 l0_0.length c0_0, .slice A0_1 l0_1.length c0_1], .slice Ao11 y270.length co11] rfl am ?_; (with_reducible refine (route_out.calls _ _ l0_0 _ _ l0_1 _ _ y270 true _ ?side1 ?side2 ?side3 ?side4 ?side5 ?side6 A5.out).mono ?_); (case side1 => exact zc HR0_0.out HB.out); (case side2 => exact HC0_0.out); (case side3 => exact zc HR0_1.out HB.out); (case side4 => exact HC0_1.out); (case side5 => exact zd (Kd.R_reads' HO272.out).2.2); (case side6 => exact (Kd.R_reads' HO272.out).2.1); rintro e w12 ⟨rfl, hb⟩; refine ⟨_, rfl, ?_⟩; have n0_ := Aside0.mk (Kd.R_below (zr HO272.out) hb); have n1_ := Aside0.mk (blk_below (g := gb269) (o := .cells #[.slice A0_0 l0_0.length c0_0, .slice A0_1 l0_1.length c0_1] 25 (0, 0)) (zk BK269.out) hb); have n2_ := Aside0.mk (below_step (zb1 HB.out GE269.out) hb); clear HO272; clear BK269; clear HB; have HO272 := n0_; have BK269 := n1_; have HB := n2_; clear n0_ n1_ n2_; (try clear hb); (try clear hb2); (try clear hk); (try clear hi)))
  go_ret2
  exact ⟨_, by first | rfl | (simp [errW_none, errW_some] <;> rfl) | (simp [*, errW_none, errW_some] <;> rfl), by first | exact Kd.R_nil _ _ _ _ _ | exact Kd.N_nil _ _ _ _ _ | exact Kd.V_nil _ _ _ _ _ | exact Kd.Q_nil _ _ _ _ _ | exact Kd.S_nil _ _ _ _ _, zb1 HB.out GE269.out⟩
 ·replace c6 := Bool.eq_false_iff.mpr c6
  subst c6
  have H1 : ((route_Table.f k l0_0 l0_1 l1 a3).bind fun bt274 => (route_Path.l0 k a3 bt274.1 ([] : List Int) a2 l0_0 l0_1)) = some (r1, r2) := by rw [if_neg (show ¬ (false = true) by decide)] at H; exact H
  clear H
  have H := H1
  clear H1
  replace H := Option.bind_eq_some_iff.mp H
  obtain ⟨⟨t274, t277⟩, A130, H⟩ := H
  replace H : (route_Path.l0 k a3 t274 ([] : List Int) a2 l0_0 l0_1) = some (r1, r2) := H
  have A13 := Aside0.mk A130
  clear A130
  have H' := Aside0.mk H
  clear H
  go_enter Try.func20, Try.ntmps20
  go_wp2_with (first | ((with_reducible refine gate_dst (N := 4) rfl ?_); refine box_event ?hg (N := 4) ?hd (cs := #[.slice A0_0 l0_0.length c0_0, .slice A0_1 l0_1.length c0_1]) (t := 25) ?hr ?_; (case hd => rfl); (case hg => rfl); (case hr => first | (go_simp; done) | (go_simp; rfl)); intro gb269 hg w14 hbox hb; have n0_ := Aside0.mk (below_step (zb0 HB.out) hb); have n1_ := Aside0.mk (hbox); have n2_ := Aside0.mk ((by rw [hg]; exact (below_size (zb0 HB.out)) : w.heap.size ≤ gb269)); have n3_ := Aside0.mk ((by rw [hg]; exact (below_size (zb0 HB.out)) : w.heap.size ≤ gb269)); clear HB; have HB := n0_; have BK269 := n1_; have GW269 := n2_; have GE269 := n3_; clear n0_ n1_ n2_ n3_; clear hb hbox hg; have hcz15_0 : w14.cell? ⟨gb269, 0, none⟩ = some (.slice A0_0 l0_0.length c0_0) := (blk_cell BK269.out 0).trans rfl; have hcz15_1 : w14.cell? ⟨gb269, 1, none⟩ = some (.slice A0_1 l0_1.length c0_1) := (blk_cell BK269.out 1).trans rfl; have hfz15_0 := blk_frozen BK269.out 0; have hfz15_1 := blk_frozen BK269.out 1) | ((with_reducible refine gate_dst (N := 18) rfl ?_); refine Kd.R_lit (Kd.int .i64) _ 3 ?hg (N := 18) ?hd (xs := ([a2, a3] : List Int)) (inner := [.int .i64 a2, .int .i64 a3]) (ok := fun _ => True) (okp := fun _ => True) ?hr ?hp (fun _ hk => hk) trivial (Below.refl _ _) (Nat.le_refl _) (by simp) ?_; (case hd => rfl); (case hg => rfl); (case hr => first | (go_simp; done) | (go_simp; rfl)); (case hp => exact (Reps.one (show Kd.M (Kd.int .i64) _ _ _ a2 [.int .i64 a2] from rfl) (Reps.one (show Kd.M (Kd.int .i64) _ _ _ a3 [.int .i64 a3] from rfl) (Reps.none _ _)))); intro v271 w16 ho17 hb hg_ hnew_; clear hg_ hnew_; (first | rw [← Ny270.out] at ho17 | (simp only [Int.reduceToNat] at ho17; rw [← Ny270.out] at ho17)); have n0_ := Aside0.mk (Kd.R_lower ho17 (below_size (zb1 HB.out GE269.out))); have n1_ := Aside0.mk (blk_below (g := gb269) (o := .cells #[.slice A0_0 l0_0.length c0_0, .slice A0_1 l0_1.length c0_1] 25 (0, 0)) (zk BK269.out) hb); have n2_ := Aside0.mk (below_step (zb1 HB.out GE269.out) hb); clear BK269; clear HB; have HO272 := n0_; have BK269 := n1_; have HB := n2_; clear n0_ n1_ n2_; clear hb ho17; obtain ⟨Ao18, co18, eo18⟩ := Kd.R_slice HO272.out; subst eo18) | ((with_reducible refine gate_callee (f := 33) rfl ?_); refine goesL_ (some 19) rfl rfl Try.func33 (by kernel_rfl) rfl #[.agg #[.slice A0_0 l0_0.length c0_0, .slice A0_1 l0_1.length c0_1], .slice Ao18 y270.length co18] rfl am ?_; (with_reducible refine (route_out.calls _ _ l0_0 _ _ l0_1 _ _ y270 false _ ?side1 ?side2 ?side3 ?side4 ?side5 ?side6 A5.out).mono ?_); (case side1 => exact zc HR0_0.out HB.out); (case side2 => exact HC0_0.out); (case side3 => exact zc HR0_1.out HB.out); (case side4 => exact HC0_1.out); (case side5 => exact zd (Kd.R_reads' HO272.out).2.2); (case side6 => exact (Kd.R_reads' HO272.out).2.1); rintro e w19 ⟨rfl, hb⟩; refine ⟨_, rfl, ?_⟩; have n0_ := Aside0.mk (Kd.R_below (zr HO272.out) hb); have n1_ := Aside0.mk (blk_below (g := gb269) (o := .cells #[.slice A0_0 l0_0.length c0_0, .slice A0_1 l0_1.length c0_1] 25 (0, 0)) (zk BK269.out) hb); have n2_ := Aside0.mk (below_step (zb1 HB.out GE269.out) hb); clear HO272; clear BK269; clear HB; have HO272 := n0_; have BK269 := n1_; have HB := n2_; clear n0_ n1_ n2_; (try clear hb); (try clear hb2); (try clear hk); (try clear hi); have hcz20_0 : w19.cell? ⟨gb269, 0, none⟩ = some (.slice A0_0 l0_0.length c0_0) := (blk_cell BK269.out 0).trans rfl; have hcz20_1 : w19.cell? ⟨gb269, 1, none⟩ = some (.slice A0_1 l0_1.length c0_1) := (blk_cell BK269.out 1).trans rfl; have hfz20_0 := blk_frozen BK269.out 0; have hfz20_1 := blk_frozen BK269.out 1) | ((with_reducible refine gate_callee (f := 34) rfl ?_); refine goesL_ (some 24) rfl rfl Try.func34 (by kernel_rfl) rfl #[.agg #[.slice A0_0 l0_0.length c0_0, .slice A0_1 l0_1.length c0_1], .slice A1 l1.length c1, .int .i64 a3] rfl am ?_; (with_reducible refine (route_Table.calls k _ _ l0_0 _ _ l0_1 _ _ l1 a3 t274 t277 _ ?side1 ?side2 ?side3 ?side4 ?side5 ?side6 A13.out).mono ?_); (case side1 => exact zc HR0_0.out HB.out); (case side2 => exact HC0_0.out); (case side3 => exact zc HR0_1.out HB.out); (case side4 => exact HC0_1.out); (case side5 => exact zc HR1.out HB.out); (case side6 => exact HC1.out); rintro e w21 ⟨v275, rfl, ho0, hb⟩; refine ⟨_, rfl, ?_⟩; have n0_ := Aside0.mk (Kd.R_elder' (zr HO272.out) (Kd.R_base ho0) hb); have n1_ := Aside0.mk (Kd.R_lower (Kd.R_new' ho0 (Kd.R_lt (zr HO272.out))) (below_size (zb1 HB.out GE269.out))); have n2_ := Aside0.mk (blk_below (g := gb269) (o := .cells #[.slice A0_0 l0_0.length c0_0, .slice A0_1 l0_1.length c0_1] 25 (0, 0)) (zk BK269.out) hb); have n3_ := Aside0.mk (below_step (zb1 HB.out GE269.out) hb); clear HO272; clear BK269; clear HB; have HO272 := n0_; have HO276 := n1_; have BK269 := n2_; have HB := n3_; clear n0_ n1_ n2_ n3_; (try clear hb); (try clear hb2); (try clear hk); (try clear hi); (try clear ho0)))
  go_loopg [12, 13] k (fun kq v12 v13 w' => ∃ (x12_1 : List Int) (x13_1 : Int), v13 = .int .i64 x13_1 ∧ Aside0 (route_Path.l0 kq a3 t274 x12_1 x13_1 l0_0 l0_1 = some (r1, r2)) ∧ Aside0 (kq ≤ k) ∧ Aside0 (Kd.R (Kd.int .i64) 3 w' w.heap.size (fun k_ => some k_ ≠ (v12 : Value).ownBlock) v275 t274) ∧ Aside0 (Kd.R (Kd.int .i64) 3 w' w.heap.size (fun k_ => some k_ ≠ (v275 : Value).ownBlock) v12 x12_1) ∧ Aside0 (w'.heap[gb269]? = some (.cells #[(.slice A0_0 l0_0.length c0_0), (.slice A0_1 l0_1.length c0_1)] 25 (0, 0))) ∧ Aside0 (Below w.heap.size w w'))
  case atStart => exact ⟨(([] : List Int)), (a2), rs, H', ⟨Nat.le_refl _⟩, ⟨by (with_reducible repeat (first | apply Kd.R_alloc | apply Kd.R_drewN | apply Kd.R_drew)); exact Kd.R_mono HO276.out (fun _ hk => (by simp [Value.ownBlock]))⟩, ⟨by first | exact Kd.R_nil _ _ _ _ _ | exact Kd.N_nil _ _ _ _ _ | exact Kd.V_nil _ _ _ _ _ | exact Kd.Q_nil _ _ _ _ _ | exact Kd.S_nil _ _ _ _ _⟩, ⟨zk BK269.out⟩, ⟨zb1 HB.out GE269.out⟩⟩
  case round =>
   clear H'
   try clear c1
   try clear c2
   try clear p2
   try clear c3
   try clear c6
   try clear c20
   try clear hcz15_0
   try clear hcz15_1
   try clear hcz20_0
   try clear hcz20_1
   try clear hcz8_0
   try clear hcz8_1
   try clear hfz15_0
   try clear hfz15_1
   try clear hfz20_0
   try clear hfz20_1
   try clear hfz8_0
   try clear hfz8_1
   obtain ⟨x12_1, x13_1, rfl, HA, HK1, HO_10, HO_12, BK269, HB⟩ := hrel
   cases gk with
   | zero => exact absurd HA.out (by simp [route_Path.l0])
   | succ k1 =>
    have H := HA.out
    clear HA
    simp only [route_Path.l0] at H
    by_cases c22 : x13_1 = a3
    ·rw [if_pos c22] at H
     have c22b0 : (x13_1 == a3) = true := beq_iff_eq.mpr c22
     have c22b1 : (x13_1 != a3) = false := bne_eq_false_iff_eq.mpr c22
     clear c22
     simp only [Option.some.injEq, Prod.mk.injEq] at H
     obtain ⟨rfl, rfl⟩ := H
     go_wp2
     go_ret2
     exact ⟨_, by first | rfl | (simp [errW_none, errW_some] <;> rfl) | (simp [*, errW_none, errW_some] <;> rfl), by (with_reducible repeat (first | apply Kd.R_alloc | apply Kd.R_drewN | apply Kd.R_drew)); exact Kd.R_mono HO_12.out (fun _ hk => trivial), zb1 HB.out GE269.out⟩
    ·rw [if_neg c22] at H
     have c22b0 : (x13_1 == a3) = false := beq_eq_false_iff_ne.mpr c22
     have c22b1 : (x13_1 != a3) = true := bne_iff_ne.mpr c22
     by_cases c23 : 0 ≤ x13_1
     ·rw [if_pos c23] at H
      have c23b0 : decide (0 ≤ x13_1) = true := decide_eq_true c23
      clear c23
      by_cases c24 : x13_1 < (t274.length : Int)
      ·rw [if_pos c24] at H
       have c24b0 : decide (x13_1 < (t274.length : Int)) = true := decide_eq_true c24
       clear c24
       by_cases c25 : (rd t274 x13_1) = 0
       ·rw [if_pos c25] at H
        have c25b0 : ((rd t274 x13_1) == 0) = true := beq_iff_eq.mpr c25
        have c25b1 : ((rd t274 x13_1) != 0) = false := bne_eq_false_iff_eq.mpr c25
        clear c25
        simp only [Option.some.injEq, Prod.mk.injEq] at H
        obtain ⟨rfl, rfl⟩ := H
        obtain ⟨Ao26, co26, eo26⟩ := Kd.R_slice HO_10.out
        subst eo26
        have p278 : 0 ≤ (x13_1 : Int) := oda
        have q278 : x13_1 < (t274.length : Int) := oda
        obtain ⟨ad278, e278, hx278_0⟩ := Kd.at_int (Kd.R_reads' HO_10.out).2.2 x13_1 p278 q278
        cases e278
        replace p278 := eq_true p278
        replace q278 := eq_true q278
        go_wp2
        go_ret2
        exact ⟨_, by first | rfl | (simp [errW_none, errW_some] <;> rfl) | (simp [*, errW_none, errW_some] <;> rfl), by first | exact Kd.R_nil _ _ _ _ _ | exact Kd.N_nil _ _ _ _ _ | exact Kd.V_nil _ _ _ _ _ | exact Kd.Q_nil _ _ _ _ _ | exact Kd.S_nil _ _ _ _ _, zb1 HB.out GE269.out⟩
       ·rw [if_neg c25] at H
        have c25b0 : ((rd t274 x13_1) == 0) = false := beq_eq_false_iff_ne.mpr c25
        have c25b1 : ((rd t274 x13_1) != 0) = true := bne_iff_ne.mpr c25
        by_cases c27 : x12_1.length < 17592186044416
        ·rw [if_pos c27] at H
         have LMc27 := Aside0.mk c27
         clear c27
         obtain ⟨y279, hy279⟩ : ∃ y_ : List Int, y_ = (x12_1 ++ [rd t274 x13_1]) := ⟨_, rfl⟩
         replace H : (if 0 ≤ (wrap64 ((rd t274 x13_1) - 1)) then (if (wrap64 ((rd t274 x13_1) - 1)) < (l0_1.length : Int) then (route_Path.l0 k1 a3 t274 y279 ((rd_T43 l0_1 (wrap64 ((rd t274 x13_1) - 1))).f1) l0_0 l0_1) else (none)) else (none)) = some (r1, r2) := by first | (rw [hy279]; with_reducible exact H) | (have H2_ := (Option.bind_some _ _).symm.trans H; rw [hy279]; with_reducible exact H2_) | (have H2_ := (Option.bind_some _ _).symm.trans H; with_reducible exact H2_) | with_reducible exact H | (rw [hy279]; exact H) | exact H
         have Ny279 := Aside0.mk hy279
         clear hy279
         obtain ⟨ji28, hji28⟩ : ∃ j_ : Int, (wrap64 ((rd t274 x13_1) - 1)) = j_ := ⟨_, rfl⟩
         replace H : (if 0 ≤ (ji28) then (if (ji28) < (l0_1.length : Int) then (route_Path.l0 k1 a3 t274 y279 ((rd_T43 l0_1 (ji28)).f1) l0_0 l0_1) else (none)) else (none)) = some (r1, r2) := by first | (rw [hji28] at H; exact H) | (simp only [hji28] at H ⊢; exact H)
         have hji28w : (IntKind.i64.wrap ((rd t274 x13_1) - 1)) = ji28 := (i64_w _).trans hji28
         by_cases c29 : 0 ≤ (ji28)
         ·rw [if_pos c29] at H
          have c29b0 : decide (0 ≤ (ji28)) = true := decide_eq_true c29
          clear c29
          by_cases c30 : (ji28) < (l0_1.length : Int)
          ·rw [if_pos c30] at H
           have c30b0 : decide ((ji28) < (l0_1.length : Int)) = true := decide_eq_true c30
           clear c30
           have H' := Aside0.mk H
           clear H
           obtain ⟨Ao31, co31, eo31⟩ := Kd.R_slice HO_10.out
           subst eo31
           have p278 : 0 ≤ (x13_1 : Int) := oda
           have q278 : x13_1 < (t274.length : Int) := oda
           obtain ⟨ad278, e278, hx278_0⟩ := Kd.at_int (Kd.R_reads' HO_10.out).2.2 x13_1 p278 q278
           cases e278
           replace p278 := eq_true p278
           replace q278 := eq_true q278
           go_wp2_with (first | ((with_reducible refine gate_builtin (b := .append) (xs := #[.tmp 37, .tmp 39]) rfl ?_); at_builtin; refine Kd.R_append (Kd.int .i64) (w0 := w) w.heap.size rfl (.tmp 37) (.tmp 39) 26 3 (.int .i64 0) 8 rfl Try.underlying26 info3 rfl (by decide) (by omega) u12 x12_1 (rd t274 x13_1) [.int .i64 (rd t274 x13_1)] (fun k_ => some k_ ≠ (.slice (some ad278) t274.length co31 : Value).ownBlock) (fun _ => False) rfl rfl ?aP (fun _ hk => hk.elim) ?aF ?aO ?aB ?aS ?aL ?_; (case aP => exact rfl); (case aB => exact (zb1 HB.out GE269.out)); (case aF => exact (fun k_ hk => Kd.fresh' (Kd.R_lt (zr HO_10.out)) k_ hk)); (case aO => exact (zr HO_12.out)); (case aS => exact (below_size (zb1 HB.out GE269.out))); (case aL => have := LMc27.out; omega); intro v280 w32 ho hb hg hat; rw [← Ny279.out] at ho; have n0_ := Aside0.mk (Kd.R_after (ok := (fun _ => True)) (by (with_reducible repeat (first | apply Kd.R_alloc | apply Kd.R_drewN | apply Kd.R_drew)); exact Kd.R_mono HO_10.out (fun _ hk => ⟨trivial, hk⟩)) hg hat); have n1_ := Aside0.mk (blk_grown (g := gb269) (o := .cells #[.slice A0_0 l0_0.length c0_0, .slice A0_1 l0_1.length c0_1] 25 (0, 0)) (zk BK269.out) hg (Kd.R_ne HO_12.out BK269.out (by decide))); have n2_ := Aside0.mk (hb); have n3_ := Aside0.mk (ho); clear HO_10; clear BK269; clear HB; clear HO_12; have HO_10 := n0_; have BK269 := n1_; have HB := n2_; have HO281 := n3_; clear n0_ n1_ n2_ n3_; clear ho hb hg hat; have hcz33_0 : w32.cell? ⟨gb269, 0, none⟩ = some (.slice A0_0 l0_0.length c0_0) := (blk_cell BK269.out 0).trans rfl; have hcz33_1 : w32.cell? ⟨gb269, 1, none⟩ = some (.slice A0_1 l0_1.length c0_1) := (blk_cell BK269.out 1).trans rfl; have hfz33_0 := blk_frozen BK269.out 0; have hfz33_1 := blk_frozen BK269.out 1; have p282 : 0 ≤ ((ji28) : Int) := oda; have q282 : (ji28) < (l0_1.length : Int) := oda; obtain ⟨ad282, e282, hx282_0, hx282_1⟩ := at_T43 HR0_1.out (ji28) p282 q282; cases e282; replace hx282_0 := zx HB.out hx282_0; replace hx282_1 := zx HB.out hx282_1; replace p282 := eq_true p282; replace q282 := eq_true q282))
           go_roundg k1
           case measure => have := HK1.out; omega
           case rel => exact ⟨(y279), ((rd_T43 l0_1 (ji28)).f1), (by first | rfl | (simp; done) | (simp only [← hji28] <;> (first | rfl | (simp; done))) | (simp [*]; done)), H', ⟨by have := HK1.out; omega⟩, ⟨by (with_reducible repeat (first | apply Kd.R_alloc | apply Kd.R_drewN | apply Kd.R_drew)); exact Kd.R_mono HO_10.out (fun _ hk => hk.2)⟩, ⟨zr HO281.out⟩, ⟨zk BK269.out⟩, ⟨zb1 HB.out GE269.out⟩⟩
          ·rw [if_neg c30] at H
           exact absurd H (by simp)
         ·rw [if_neg c29] at H
          exact absurd H (by simp)
        ·rw [if_neg c27] at H
         exact absurd H (by simp)
      ·rw [if_neg c24] at H
       exact absurd H (by simp)
     ·rw [if_neg c23] at H
      exact absurd H (by simp)

end Go.Proofs.Ytkdfohmceokchaa.PZoneJoined
