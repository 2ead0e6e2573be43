-- Written by a program of this session (wip/oprint): after the pattern of the kit's print, which does not take this law. -- trimmed
import Derived.Test.YtbbdgndaaajejaaPRoutePathsx0
import Derived.Test.YtbbdgndaaajejaaPRoutePathsx3
namespace Go.Proofs.Ytbbdgndaaajejaa.PRoutePaths
open Go.RowKit Go.Proofs.YtbbdgndaaajejaaW.PrintWords Go.Proofs.YtbbdgndaaajejaaW.PrintLast Go.Proofs.YtbbdgndaaajejaaW.PrintMore
attribute [local go_sem] max2_int min2_int max_two min_two max_three min_three max_four min_four   -- for this text's walks alone
set_option linter.unusedVariables false
set_option linter.unusedSimpArgs false

/-! ### reach_To: function 28 -/
def reach_To.j0 : Nat → List Int → Int → Bool → List (S47) → List (S38) → Option (List Int × Int)
 | 0, _, _, _, _, _ => none
 | k + 1, x1, x2, x16, x166000, x166001 => if x16 = true then (some (([] : List Int), 1)) else ((reach_shut.f k x166000 x166001 x1).bind fun t166 => ((reach_lengths_1.f k x166000 x166001 t166 x2 1).bind fun t169 => (some (t169, 0))))
def reach_To.f (k : Nat) (l0_0 : List (S47)) (l0_1 : List (S38)) (l1 : List Int) (a2 : Int) : Option (List Int × Int) := if a2 < 0 then (reach_To.j0 k l1 a2 true l0_0 l0_1) else (reach_To.j0 k l1 a2 (decide (a2 ≥ (l0_0.length : Int))) l0_0 l0_1)
theorem reach_To.mono_l : ∀ k, (∀ y0 y1 y2 y3 y4, LeO (reach_To.j0 k y0 y1 y2 y3 y4) (reach_To.j0 (k + 1) y0 y1 y2 y3 y4))
 | 0 => fun _ _ _ _ _ r h => by simp [reach_To.j0] at h
 | k + 1 => by
  have ih0 := reach_To.mono_l k
  ·intro y0 y1 y2 y3 y4
   unfold reach_To.j0
   repeat' first
   | (with_reducible exact ih0 _ _ _ _ _)
   | (with_reducible exact reach_lengths_1.mono _ _ _ _ _ _)
   | (with_reducible exact reach_shut.mono _ _ _ _)
   | (with_reducible exact LeO.refl _)
   | (with_reducible exact LeO.none _)
   | (with_reducible refine LeO.ite ?_ ?_)
   | (with_reducible refine LeO.bind ?_ (fun _ => ?_))
   | exact ih0 _ _ _ _ _
   | exact reach_lengths_1.mono _ _ _ _ _ _
   | exact reach_shut.mono _ _ _ _
   | exact LeO.none _
   | refine LeO.ite ?_ ?_
   | refine LeO.bind ?_ (fun _ => ?_)
theorem reach_To.mono : ∀ a0 a1 a2 a3 k, LeO (reach_To.f k a0 a1 a2 a3) (reach_To.f (k + 1) a0 a1 a2 a3) := by
 intro a0 a1 a2 a3 k
 have ih0 := reach_To.mono_l k
 unfold reach_To.f
 repeat' first
   | (with_reducible exact ih0 _ _ _ _ _)
   | (with_reducible exact reach_lengths_1.mono _ _ _ _ _ _)
   | (with_reducible exact reach_shut.mono _ _ _ _)
   | (with_reducible exact LeO.refl _)
   | (with_reducible exact LeO.none _)
   | (with_reducible refine LeO.ite ?_ ?_)
   | (with_reducible refine LeO.bind ?_ (fun _ => ?_))
   | exact ih0 _ _ _ _ _
   | exact reach_lengths_1.mono _ _ _ _ _ _
   | exact reach_shut.mono _ _ _ _
   | exact LeO.none _
   | refine LeO.ite ?_ ?_
   | refine LeO.bind ?_ (fun _ => ?_)
def reach_To.T3 : Bool × List (List Nat × List Nat) := (true, [([], []), ([], []), ([], []), ([1, 2], [1, 2]), ([], []), ([0, 3, 4, 3], [0, 3, 4]), ([5, 5, 0, 1, 2, 3, 4, 5], [5]), ([6, 0, 1, 2, 3, 4, 5, 6], [])])
def reach_To.B3 : List Nat := [0, 0, 0, 6, 0, 31, 63, 127]
theorem reach_To.tab3 : rtab .any (opsOf Try.f28 3) = reach_To.T3 := by kernel_rfl
theorem reach_To.bits3 : waitsOk reach_To.T3.2 reach_To.B3 = true := by kernel_rfl
set_option maxHeartbeats 8000000 in
set_option maxRecDepth 100000 in
theorem reach_To.calls (k : Nat) (A0_0 : Option Addr) (c0_0 : Nat) (l0_0 : List (S47)) (A0_1 : Option Addr) (c0_1 : Nat) (l0_1 : List (S38)) (A1 : Option Addr) (c1 : Nat) (l1 : List Int) (a2 : Int) (r1 : List Int) (r2 : Int) (w : World) (hr0_0 : Kd.C k47 w A0_0 l0_0.length l0_0) (hc0_0 : l0_0.length ≤ c0_0) (hr0_1 : Kd.C k38 w A0_1 l0_1.length l0_1) (hc0_1 : l0_1.length ≤ c0_1) (hr1 : Kd.C (Kd.int .i64) w A1 l1.length l1) (hc1 : l1.length ≤ c1) (h : reach_To.f k l0_0 l0_1 l1 a2 = some (r1, r2)) :
  Calls Try.prog 28 #[.agg #[.slice A0_0 l0_0.length c0_0, .slice A0_1 l0_1.length c0_1], .slice A1 l1.length c1, .int .i64 a2] w fun e w' => ∃ v0_ : Value, e = .returned (.tuple #[v0_, .int .i64 r2]) ∧ Kd.R (Kd.int .i64) 3 w' w.heap.size (fun _ => True) v0_ r1 ∧ Below w.heap.size w w' := by
 have hu25 := Try.underlying25
 have HR0_0 := Aside0.mk hr0_0
 have HC0_0 := Aside0.mk hc0_0
 clear hr0_0 hc0_0
 have HR0_1 := Aside0.mk hr0_1
 have HC0_1 := Aside0.mk hc0_1
 clear hr0_1 hc0_1
 have HR1 := Aside0.mk hr1
 have HC1 := Aside0.mk hc1
 clear hr1 hc1
 have HB := Aside0.mk (Below.refl w.heap.size w)
 have H : (if a2 < 0 then (reach_To.j0 k l1 a2 true l0_0 l0_1) else (reach_To.j0 k l1 a2 (decide (a2 ≥ (l0_0.length : Int))) l0_0 l0_1)) = some (r1, r2) := h
 clear h
 have HC4 := Aside0.mk H
 clear H
 go_enter Try.func28, Try.ntmps28
 go_upto_region 1 with (first | ((with_reducible refine gate_dst (N := 3) rfl ?_); (try (refine gate_guard (by rfl) ?_; dsimp only)); refine box_event ?hg (N := 3) ?hd (cs := #[.slice A0_0 l0_0.length c0_0, .slice A0_1 l0_1.length c0_1]) (t := 25) ?hr ?_; (case hd => rfl); (case hg => rfl); (case hr => first | (go_simp; done) | (go_simp; rfl)); intro gb165 hg w5 hbox hb; have BK165 := Aside0.mk (hbox); have GW165 := Aside0.mk ((by rw [hg]; exact (below_size (zb0 HB.out)) : w.heap.size ≤ gb165)); have GE165 := Aside0.mk ((by rw [hg]; exact (below_size (zb0 HB.out)) : w.heap.size ≤ gb165)); replace HB := Aside0.mk (below_step (zb0 HB.out) hb); clear hb hbox hg))
 (try simp only [Act.put, List.setIfInBounds_toArray, List.set_cons_zero, List.set_cons_succ])
 go_cut [16] (fun v16 wc => ∃ (kq : Nat) (x16_3 : Bool), v16 = .bool x16_3 ∧ Aside0 (reach_To.j0 kq l1 a2 x16_3 l0_0 l0_1 = some (r1, r2)) ∧ Aside0 (kq ≤ k) ∧ Aside0 (wc.heap[gb165]? = some (.cells #[(.slice A0_0 l0_0.length c0_0), (.slice A0_1 l0_1.length c0_1)] 25 (0, 0))) ∧ Aside0 (Below w.heap.size w wc))
 case first =>
  have H := HC4.out
  clear HC4
  by_cases c6 : a2 < 0
  ·rw [if_pos c6] at H
   have c6b0 : decide (a2 < 0) = true := decide_eq_true c6
   clear c6
   (first | rw [c6b0] | (simp only [i64_w, i32_w]; rw [c6b0]) | skip)
   have H' := Aside0.mk H; clear H
   go_wp2
   go_meet
   case rel => exact ⟨_, (true), rs, H', ⟨by first | omega | exact Nat.le_refl _⟩, ⟨zk BK165.out⟩, ⟨zb1 HB.out GE165.out⟩⟩
  rw [if_neg c6] at H
  have c6b0 : decide (a2 < 0) = false := decide_eq_false c6
  clear c6
  (first | rw [c6b0] | (simp only [i64_w, i32_w]; rw [c6b0]) | skip)
  have H' := Aside0.mk H; clear H
  have hcz7_0 : w5.cell? ⟨gb165, 0, none⟩ = some (.slice A0_0 l0_0.length c0_0) := (blk_cell BK165.out 0).trans rfl
  have hcz7_1 : w5.cell? ⟨gb165, 1, none⟩ = some (.slice A0_1 l0_1.length c0_1) := (blk_cell BK165.out 1).trans rfl
  have hfz7_0 := blk_frozen BK165.out 0
  have hfz7_1 := blk_frozen BK165.out 1
  go_wp2
  go_meet
  case rel => exact ⟨_, (decide (a2 ≥ (l0_0.length : Int))), rs, H', ⟨by first | omega | exact Nat.le_refl _⟩, ⟨zk BK165.out⟩, ⟨zb1 HB.out GE165.out⟩⟩
 case rest =>
  clear HC4
  obtain ⟨kq, x16_3, rfl, HA, HJ3, BK165, HB⟩ := hcut
  cases kq with
  | zero => exact absurd HA.out (by simp [reach_To.j0])
  | succ kj3 =>
   have H := HA.out
   clear HA
   simp only [reach_To.j0] at H
   by_cases c8 : x16_3 = true
   ·subst c8
    have H1 : (some (([] : List Int), 1)) = some (r1, r2) := by rw [if_pos rfl] at H; exact H
    clear H; have H := H1; clear H1
    simp only [Option.some.injEq, Prod.mk.injEq] at H
    obtain ⟨rfl, rfl⟩ := H
    go_wp2
    go_ret2
    exact ⟨_, by first | rfl | (simp [errW_none, errW_some] <;> rfl) | (simp [*, errW_none, errW_some] <;> rfl), by first | exact Kd.R_nil _ _ _ _ _ | exact Kd.N_nil _ _ _ _ _ | exact Kd.V_nil _ _ _ _ _ | exact Kd.Q_nil _ _ _ _ _ | exact Kd.S_nil _ _ _ _ _, zb1 HB.out GE165.out⟩
   replace c8 := Bool.eq_false_iff.mpr c8
   subst c8
   have H1 : ((reach_shut.f kj3 l0_0 l0_1 l1).bind fun t166 => ((reach_lengths_1.f kj3 l0_0 l0_1 t166 a2 1).bind fun t169 => (some (t169, 0)))) = some (r1, r2) := by rw [if_neg (show ¬ (false = true) by decide)] at H; exact H
   clear H; have H := H1; clear H1
   replace H := Option.bind_eq_some_iff.mp H; obtain ⟨t166, A90, H⟩ := H
   replace H : ((reach_lengths_1.f kj3 l0_0 l0_1 t166 a2 1).bind fun t169 => (some (t169, 0))) = some (r1, r2) := H
   have A9 := Aside0.mk A90
   clear A90
   replace H := Option.bind_eq_some_iff.mp H; obtain ⟨t169, A100, H⟩ := H
   replace H : (some (t169, 0)) = some (r1, r2) := H
   have A10 := Aside0.mk A100
   clear A100
   simp only [Option.some.injEq, Prod.mk.injEq] at H
   obtain ⟨rfl, rfl⟩ := H
   try go_wp2
   have n0_ := Aside0.mk (blk_drew BK165.out)
   have n1_ := Aside0.mk (below_drew1 HB.out)
   clear BK165
   clear HB
   have BK165 := n0_
   have HB := n1_
   clear n0_ n1_
   refine start_ (n := 8) (S := fun w' => w'.cell? ⟨gb165, 0, none⟩ = some (.slice A0_0 l0_0.length c0_0) ∧ w'.cell? ⟨gb165, 1, none⟩ = some (.slice A0_1 l0_1.length c0_1)) (ds := []) #[false, false, false, false, false, false, false, false] (by kernel_rfl) rfl rfl ⟨(blk_cell BK165.out 0).trans rfl, (blk_cell BK165.out 1).trans rfl⟩ (fun hHeld => ?_); refine with_tabW reach_To.tab3 reach_To.bits3 (fun HT_ HW_ => ?_)
   generalize wc.drew = w11 at BK165 HB hHeld ⊢
   refine pure_ (i := 2) (N := some 19) (v := ?_) (a' := ?_) #[false, false, true, false, false, false, false, false] rfl rfl (any_of HT_.out (by kernel_rfl)) (fun _ _ _ h => h) (Or.inl ⟨by rfl, ?_⟩) ?_ ?_
   rotate_left; ·intro w'; go_simp; with_reducible rfl
   rotate_left; ·simp only [Act.put, sa, sz, ss, i64_w, i32_w]; rfl
   refine pure_ (i := 4) (N := some 21) (v := ?_) (a' := ?_) #[false, false, true, false, true, false, false, false] rfl rfl (any_of HT_.out (by kernel_rfl)) (fun _ _ _ h => h) (Or.inl ⟨by rfl, ?_⟩) ?_ ?_
   rotate_left; ·intro w'; go_simp; with_reducible rfl
   rotate_left; ·simp only [Act.put, sa, sz, ss, i64_w, i32_w]; rfl
   refine take_ (i := 0) (N := some 17) (v := ?_) (a' := ?_) #[true, false, true, false, true, false, false, false] rfl rfl (take_ofW HT_.out HW_.out (by kernel_rfl)) (fun _ _ _ h => h) (Or.inl ⟨by rfl, ?_⟩) hHeld ?_ ?_
   rotate_left
   ·rintro w' ⟨s0, s1⟩
    go_simp
    with_reducible rfl
   rotate_left; ·simp only [Act.put, sa, sz, ss, i64_w, i32_w]; rfl
   refine take_ (i := 1) (N := some 18) (v := ?_) (a' := ?_) #[true, true, true, false, true, false, false, false] rfl rfl (take_ofW HT_.out HW_.out (by kernel_rfl)) (fun _ _ _ h => h) (Or.inl ⟨by rfl, ?_⟩) hHeld ?_ ?_
   rotate_left
   ·rintro w' ⟨s0, s1⟩
    go_simp
    with_reducible rfl
   rotate_left; ·simp only [Act.put, sa, sz, ss, i64_w, i32_w]; rfl
   refine one_ (i := 3) (N := some 20) #[true, true, true, true, true, false, false, false] rfl rfl (one_of HT_.out (by kernel_rfl)) (by decide) (fun K hK => ?_)
   refine goes_ Try.func37 (by kernel_rfl) rfl #[.agg #[.slice A0_0 l0_0.length c0_0, .slice A0_1 l0_1.length c0_1], .slice A1 l1.length c1] (by rfl) rfl rfl am ?_
   with_reducible refine (reach_shut.calls kj3 _ _ l0_0 _ _ l0_1 _ _ l1 t166 _ ?side1 ?side2 ?side3 ?side4 ?side5 ?side6 A9.out).mono ?_
   (case side1 => exact zc HR0_0.out HB.out)
   (case side2 => exact HC0_0.out)
   (case side3 => exact zc HR0_1.out HB.out)
   (case side4 => exact HC0_1.out)
   (case side5 => exact zc HR1.out HB.out)
   (case side6 => exact HC1.out)
   rintro e w12 ⟨v167, rfl, ho0, hb⟩
   refine ⟨_, rfl, ?_⟩
   have n0_ := Aside0.mk (Kd.R_lower ho0 (below_size (zb1 HB.out GE165.out)))
   have n1_ := Aside0.mk (blk_below (g := gb165) (o := .cells #[.slice A0_0 l0_0.length c0_0, .slice A0_1 l0_1.length c0_1] 25 (0, 0)) (zk BK165.out) hb)
   have n2_ := Aside0.mk (below_step (zb1 HB.out GE165.out) hb)
   clear BK165
   clear HB
   have HO168 := n0_
   have BK165 := n1_
   have HB := n2_
   clear n0_ n1_ n2_
   obtain ⟨Ao13, co13, eo13⟩ := Kd.R_slice HO168.out
   (first | subst eo13 | (injection eo13 with f1_ f2_ f3_; have f4_ := f1_.symm; have f5_ := f3_.symm; clear f1_ f2_ f3_; subst f4_; subst f5_))
   refine hK.out _ _ ⟨(blk_cell BK165.out 0).trans rfl, (blk_cell BK165.out 1).trans rfl⟩ (fun hHeld => ?_)
   clear hK K
   refine norm_ (a' := ?_) ?_ ?_
   rotate_left
   ·show Act.put _ (some 20) _ = _
    simp only [Act.put, sa, sz, ss, i64_w, i32_w]
    rfl
   refine one_ (i := 5) (N := some 22) #[true, true, true, true, true, true, false, false] rfl rfl (one_of HT_.out (by kernel_rfl)) (by decide) (fun K hK => ?_)
   refine goes_ Try.func36 (by kernel_rfl) rfl #[.agg #[.slice A0_0 l0_0.length c0_0, .slice A0_1 l0_1.length c0_1], .slice Ao13 t166.length co13, .int .i64 a2, .int .i64 1] (by rfl) rfl rfl am ?_
   with_reducible refine (reach_lengths_1.calls kj3 _ _ l0_0 _ _ l0_1 _ _ t166 a2 1 t169 _ ?side1 ?side2 ?side3 ?side4 ?side5 ?side6 A10.out).mono ?_
   (case side1 => exact zc HR0_0.out HB.out)
   (case side2 => exact HC0_0.out)
   (case side3 => exact zc HR0_1.out HB.out)
   (case side4 => exact HC0_1.out)
   (case side5 => exact zd (Kd.R_reads' HO168.out).2.2)
   (case side6 => exact (Kd.R_reads' HO168.out).2.1)
   rintro e w14 ⟨v170, rfl, ho0, hb⟩
   refine ⟨_, rfl, ?_⟩
   have n0_ := Aside0.mk (Kd.R_below (zr HO168.out) hb)
   have n1_ := Aside0.mk (Kd.R_lower ho0 (below_size (zb1 HB.out GE165.out)))
   have n2_ := Aside0.mk (blk_below (g := gb165) (o := .cells #[.slice A0_0 l0_0.length c0_0, .slice A0_1 l0_1.length c0_1] 25 (0, 0)) (zk BK165.out) hb)
   have n3_ := Aside0.mk (below_step (zb1 HB.out GE165.out) hb)
   clear HO168
   clear BK165
   clear HB
   have HO168 := n0_
   have HO171 := n1_
   have BK165 := n2_
   have HB := n3_
   clear n0_ n1_ n2_ n3_
   refine hK.out _ _ ⟨(blk_cell BK165.out 0).trans rfl, (blk_cell BK165.out 1).trans rfl⟩ (fun hHeld => ?_)
   clear hK K
   refine norm_ (a' := ?_) ?_ ?_
   rotate_left
   ·show Act.put _ (some 22) _ = _
    simp only [Act.put, sa, sz, ss, i64_w, i32_w]
    rfl
   refine pure_ (i := 6) (N := some 6) (v := ?_) (a' := ?_) #[true, true, true, true, true, true, true, false] rfl rfl (any_of HT_.out (by kernel_rfl)) (fun _ _ _ h => h) (Or.inl ⟨by rfl, ?_⟩) ?_ ?_
   rotate_left; ·intro w'; go_simp; with_reducible rfl
   rotate_left; ·simp only [Act.put, sa, sz, ss, i64_w, i32_w]; rfl
   refine pure_ (i := 7) (N := some 7) (v := ?_) (a' := ?_) #[true, true, true, true, true, true, true, true] rfl rfl (any_of HT_.out (by kernel_rfl)) (fun _ _ _ h => h) (Or.inl ⟨by rfl, ?_⟩) ?_ ?_
   rotate_left; ·intro w'; go_simp; with_reducible rfl
   rotate_left; ·simp only [Act.put, sa, sz, ss, i64_w, i32_w]; rfl
   refine done_ (done_of HT_.out (by kernel_rfl)) ?_
   try go_wp2
   go_ret2
   exact ⟨_, by first | rfl | (simp [errW_none, errW_some] <;> rfl) | (simp [*, errW_none, errW_some] <;> rfl), by (with_reducible repeat (first | apply Kd.R_alloc | apply Kd.R_drewN | apply Kd.R_drew)); exact HO171.out, zb1 HB.out GE165.out⟩

/-! ### slices_Index_int_int: function 42 -/
def slices_Index_int_int.l0 : Nat → List Int → Int → Int → Int → Option (Int)
 | 0, _, _, _, _ => none
 | k + 1, x0, x1, x7, x8 => if x8 < x7 then (if 0 ≤ x8 then (if x8 < (x0.length : Int) then (if x1 = (rd x0 x8) then (some x8) else (slices_Index_int_int.l0 k x0 x1 x7 (wrap64 (x8 + 1)))) else (none)) else (none)) else (some (-1))
def slices_Index_int_int.f (k : Nat) (l0 : List Int) (a1 : Int) : Option (Int) := slices_Index_int_int.l0 k l0 a1 (l0.length : Int) 0
theorem slices_Index_int_int.mono_l : ∀ k, (∀ y0 y1 y2 y3, LeO (slices_Index_int_int.l0 k y0 y1 y2 y3) (slices_Index_int_int.l0 (k + 1) y0 y1 y2 y3))
 | 0 => fun _ _ _ _ r h => by simp [slices_Index_int_int.l0] at h
 | k + 1 => by
  have ih0 := slices_Index_int_int.mono_l k
  ·intro y0 y1 y2 y3
   unfold slices_Index_int_int.l0
   repeat' first
   | (with_reducible exact ih0 _ _ _ _)
   | (with_reducible exact LeO.refl _)
   | (with_reducible exact LeO.none _)
   | (with_reducible refine LeO.ite ?_ ?_)
   | (with_reducible refine LeO.bind ?_ (fun _ => ?_))
   | exact ih0 _ _ _ _
   | exact LeO.none _
   | refine LeO.ite ?_ ?_
   | refine LeO.bind ?_ (fun _ => ?_)
theorem slices_Index_int_int.mono : ∀ a0 a1 k, LeO (slices_Index_int_int.f k a0 a1) (slices_Index_int_int.f (k + 1) a0 a1) := by
 intro a0 a1 k
 have ih0 := slices_Index_int_int.mono_l k
 unfold slices_Index_int_int.f
 repeat' first
   | (with_reducible exact ih0 _ _ _ _)
   | (with_reducible exact LeO.refl _)
   | (with_reducible exact LeO.none _)
   | (with_reducible refine LeO.ite ?_ ?_)
   | (with_reducible refine LeO.bind ?_ (fun _ => ?_))
   | exact ih0 _ _ _ _
   | exact LeO.none _
   | refine LeO.ite ?_ ?_
   | refine LeO.bind ?_ (fun _ => ?_)
set_option maxHeartbeats 8000000 in
set_option maxRecDepth 100000 in
theorem slices_Index_int_int.calls (k : Nat) (A0 : Option Addr) (c0 : Nat) (l0 : List Int) (a1 : Int) (r : Int) (w : World) (hr0 : Kd.C (Kd.int .i64) w A0 l0.length l0) (hc0 : l0.length ≤ c0) (h : slices_Index_int_int.f k l0 a1 = some r) :
  Calls Try.prog 42 #[.slice A0 l0.length c0, .int .i64 a1] w fun e w' => e = .returned (.int .i64 r) ∧ Drawn0 w w' := by
 have HR0 := Aside0.mk hr0
 have HC0 := Aside0.mk hc0
 clear hr0 hc0
 have H : (slices_Index_int_int.l0 k l0 a1 (l0.length : Int) 0) = some r := h
 clear h
 have H' := Aside0.mk H; clear H
 go_enter Try.func42, Try.ntmps42
 go_wp2
 go_loopg [8] k (fun kq v8 w' => ∃ (x8_1 : Int), v8 = .int .i64 x8_1 ∧ Aside0 (slices_Index_int_int.l0 kq l0 a1 (l0.length : Int) x8_1 = some r) ∧ Aside0 (kq ≤ k) ∧ Drawn0 w w')
 case atStart => exact ⟨(0), rs, H', ⟨Nat.le_refl _⟩, by repeat (first | exact Drawn0.refl _ | apply Drawn0.step)⟩
 case round =>
  clear H'
  obtain ⟨x8_1, rfl, HA, HK1, ⟨m1, rfl⟩⟩ := hrel
  cases gk with
  | zero => exact absurd HA.out (by simp [slices_Index_int_int.l0])
  | succ k1 =>
   have H := HA.out
   clear HA
   simp only [slices_Index_int_int.l0] at H
   by_cases c3 : x8_1 < (l0.length : Int)
   rotate_left
   ·rw [if_neg c3] at H
    have c3b0 : decide (x8_1 < (l0.length : Int)) = false := decide_eq_false c3
    clear c3
    obtain rfl := Option.some.inj H
    go_wp2
    go_ret
    exact ⟨by first | rfl | (simp; done) | (simp [*]; done), by repeat (first | exact Drawn0.refl _ | apply Drawn0.step)⟩

   rw [if_pos c3] at H
   have c3b0 : decide (x8_1 < (l0.length : Int)) = true := decide_eq_true c3
   clear c3
   by_cases c4 : 0 ≤ x8_1
   rotate_left; ·rw [if_neg c4] at H; exact absurd H (by simp)
   rw [if_pos c4] at H
   have c4b0 : decide (0 ≤ x8_1) = true := decide_eq_true c4
   clear c4
   by_cases c5 : x8_1 < (l0.length : Int)
   rotate_left; ·rw [if_neg c5] at H; exact absurd H (by simp)
   rw [if_pos c5] at H
   have c5b0 : decide (x8_1 < (l0.length : Int)) = true := decide_eq_true c5
   clear c5
   by_cases c6 : a1 = (rd l0 x8_1)
   ·rw [if_pos c6] at H
    have c6b0 : (a1 == (rd l0 x8_1)) = true := beq_iff_eq.mpr c6
    have c6b1 : (a1 != (rd l0 x8_1)) = false := bne_eq_false_iff_eq.mpr c6
    clear c6
    obtain rfl := Option.some.inj H
    have p172 : 0 ≤ (x8_1 : Int) := oda
    have q172 : x8_1 < (l0.length : Int) := oda
    obtain ⟨ad172, e172, hx172_0⟩ := Kd.at_int HR0.out x8_1 p172 q172
    cases e172
    replace p172 := eq_true p172
    replace q172 := eq_true q172
    go_wp2
    go_ret
    exact ⟨by first | rfl | (simp; done) | (simp [*]; done), by repeat (first | exact Drawn0.refl _ | apply Drawn0.step)⟩
   rw [if_neg c6] at H
   have c6b0 : (a1 == (rd l0 x8_1)) = false := beq_eq_false_iff_ne.mpr c6
   have c6b1 : (a1 != (rd l0 x8_1)) = true := bne_iff_ne.mpr c6
   have H' := Aside0.mk H; clear H
   have p172 : 0 ≤ (x8_1 : Int) := oda
   have q172 : x8_1 < (l0.length : Int) := oda
   obtain ⟨ad172, e172, hx172_0⟩ := Kd.at_int HR0.out x8_1 p172 q172
   cases e172
   replace p172 := eq_true p172
   replace q172 := eq_true q172
   go_wp2
   go_roundg k1
   case measure => have := HK1.out; omega
   case rel => exact ⟨(wrap64 (x8_1 + 1)), rs, H', ⟨by have := HK1.out; omega⟩, by repeat (first | exact Drawn0.refl _ | apply Drawn0.step)⟩
/-! ### slices_Contains_int_int: function 32 -/
def slices_Contains_int_int.f (k : Nat) (l0 : List Int) (a1 : Int) : Option (Bool) := (slices_Index_int_int.f k l0 a1).bind fun t173 => (some (decide (t173 ≥ 0)))
theorem slices_Contains_int_int.mono : ∀ a0 a1 k, LeO (slices_Contains_int_int.f k a0 a1) (slices_Contains_int_int.f (k + 1) a0 a1) := by
 intro a0 a1 k
 unfold slices_Contains_int_int.f
 repeat' first
   | (with_reducible exact slices_Index_int_int.mono _ _ _)
   | (with_reducible exact LeO.refl _)
   | (with_reducible exact LeO.none _)
   | (with_reducible refine LeO.ite ?_ ?_)
   | (with_reducible refine LeO.bind ?_ (fun _ => ?_))
   | exact slices_Index_int_int.mono _ _ _
   | exact LeO.none _
   | refine LeO.ite ?_ ?_
   | refine LeO.bind ?_ (fun _ => ?_)
set_option maxHeartbeats 8000000 in
set_option maxRecDepth 100000 in
theorem slices_Contains_int_int.calls (k : Nat) (A0 : Option Addr) (c0 : Nat) (l0 : List Int) (a1 : Int) (r : Bool) (w : World) (hr0 : Kd.C (Kd.int .i64) w A0 l0.length l0) (hc0 : l0.length ≤ c0) (h : slices_Contains_int_int.f k l0 a1 = some r) :
  Calls Try.prog 32 #[.slice A0 l0.length c0, .int .i64 a1] w fun e w' => e = .returned (.bool r) ∧ Drawn0 w w' := by
 have HR0 := Aside0.mk hr0
 have HC0 := Aside0.mk hc0
 clear hr0 hc0
 have H : ((slices_Index_int_int.f k l0 a1).bind fun t173 => (some (decide (t173 ≥ 0)))) = some r := h
 clear h
 replace H := Option.bind_eq_some_iff.mp H; obtain ⟨t173, A30, H⟩ := H
 replace H : (some (decide (t173 ≥ 0))) = some r := H
 have A3 := Aside0.mk A30
 clear A30
 obtain rfl := Option.some.inj H
 go_enter Try.func32, Try.ntmps32
 go_wp2_with (first | ((with_reducible refine gate_callee (f := 42) rfl ?_); refine goesL_ (some 7) rfl rfl Try.func42 (by kernel_rfl) rfl #[.slice A0 l0.length c0, .int .i64 a1] rfl am ?_; (with_reducible refine (slices_Index_int_int.calls k _ _ l0 a1 t173 _ ?side1 ?side2 A3.out).mono ?_); (case side1 => repeat (first | exact HR0.out | (with_reducible refine Kd.C_alloc ?_ _) | (with_reducible refine Kd.C_drewN ?_ _) | (with_reducible refine Kd.C_drew ?_))); (case side2 => exact HC0.out); rintro e w' ⟨rfl, ⟨nd, rfl⟩⟩; refine ⟨_, rfl, ?_⟩))
 go_ret
 exact ⟨by first | rfl | (simp; done) | (simp [*]; done), by repeat (first | exact Drawn0.refl _ | apply Drawn0.step)⟩

/-! ### layout_Out: function 33 -/
def layout_Out.l0 : Nat → Int → List Int → List (S38) → Int → Int → List (S47) → List (S38) → Option (List Int)
 | 0, _, _, _, _, _, _, _ => none
 | k + 1, x1, x5, x9, x10, x11, x175000, x175001 => if x11 < x10 then (if 0 ≤ x11 then (if x11 < (x9.length : Int) then (if ((rd_T38 x9 x11).f0) = x1 then (if x1 < (x175000.length : Int) then (if x1 ≥ 0 then (if x5.length < 17592186044416 then (layout_Out.l0 k x1 (x5 ++ [wrap64 (x11 + 1)]) x9 x10 (wrap64 (x11 + 1)) x175000 x175001) else (none)) else (layout_Out.l0 k x1 x5 x9 x10 (wrap64 (x11 + 1)) x175000 x175001)) else (layout_Out.l0 k x1 x5 x9 x10 (wrap64 (x11 + 1)) x175000 x175001)) else (layout_Out.l0 k x1 x5 x9 x10 (wrap64 (x11 + 1)) x175000 x175001)) else (none)) else (none)) else (some x5)
def layout_Out.f (k : Nat) (l0_0 : List (S47)) (l0_1 : List (S38)) (a1 : Int) : Option (List Int) := layout_Out.l0 k a1 ([] : List Int) l0_1 (l0_1.length : Int) 0 l0_0 l0_1
theorem layout_Out.mono_l : ∀ k, (∀ y0 y1 y2 y3 y4 y5 y6, LeO (layout_Out.l0 k y0 y1 y2 y3 y4 y5 y6) (layout_Out.l0 (k + 1) y0 y1 y2 y3 y4 y5 y6))
 | 0 => fun _ _ _ _ _ _ _ r h => by simp [layout_Out.l0] at h
 | k + 1 => by
  have ih0 := layout_Out.mono_l k
  ·intro y0 y1 y2 y3 y4 y5 y6
   unfold layout_Out.l0
   repeat' first
   | (with_reducible exact ih0 _ _ _ _ _ _ _)
   | (with_reducible exact LeO.refl _)
   | (with_reducible exact LeO.none _)
   | (with_reducible refine LeO.ite ?_ ?_)
   | (with_reducible refine LeO.bind ?_ (fun _ => ?_))
   | exact ih0 _ _ _ _ _ _ _
   | exact LeO.none _
   | refine LeO.ite ?_ ?_
   | refine LeO.bind ?_ (fun _ => ?_)
theorem layout_Out.mono : ∀ a0 a1 a2 k, LeO (layout_Out.f k a0 a1 a2) (layout_Out.f (k + 1) a0 a1 a2) := by
 intro a0 a1 a2 k
 have ih0 := layout_Out.mono_l k
 unfold layout_Out.f
 repeat' first
   | (with_reducible exact ih0 _ _ _ _ _ _ _)
   | (with_reducible exact LeO.refl _)
   | (with_reducible exact LeO.none _)
   | (with_reducible refine LeO.ite ?_ ?_)
   | (with_reducible refine LeO.bind ?_ (fun _ => ?_))
   | exact ih0 _ _ _ _ _ _ _
   | exact LeO.none _
   | refine LeO.ite ?_ ?_
   | refine LeO.bind ?_ (fun _ => ?_)
set_option maxHeartbeats 8000000 in
set_option maxRecDepth 100000 in
theorem layout_Out.calls (k : Nat) (A0_0 : Option Addr) (c0_0 : Nat) (l0_0 : List (S47)) (A0_1 : Option Addr) (c0_1 : Nat) (l0_1 : List (S38)) (a1 : Int) (r : List Int) (w : World) (hr0_0 : Kd.C k47 w A0_0 l0_0.length l0_0) (hc0_0 : l0_0.length ≤ c0_0) (hr0_1 : Kd.C k38 w A0_1 l0_1.length l0_1) (hc0_1 : l0_1.length ≤ c0_1) (h : layout_Out.f k l0_0 l0_1 a1 = some r) :
  Calls Try.prog 33 #[.agg #[.slice A0_0 l0_0.length c0_0, .slice A0_1 l0_1.length c0_1], .int .i64 a1] w fun e w' => ∃ v0_ : Value, e = .returned (v0_) ∧ Kd.R (Kd.int .i64) 3 w' w.heap.size (fun _ => True) v0_ r ∧ Below w.heap.size w w' := by
 have hu25 := Try.underlying25
 have hu38 := Try.underlying38
 have HR0_0 := Aside0.mk hr0_0
 have HC0_0 := Aside0.mk hc0_0
 clear hr0_0 hc0_0
 have HR0_1 := Aside0.mk hr0_1
 have HC0_1 := Aside0.mk hc0_1
 clear hr0_1 hc0_1
 have HB := Aside0.mk (Below.refl w.heap.size w)
 have H : (layout_Out.l0 k a1 ([] : List Int) l0_1 (l0_1.length : Int) 0 l0_0 l0_1) = some r := h
 clear h
 have H' := Aside0.mk H; clear H
 go_enter Try.func33, Try.ntmps33
 go_wp2_with (first | ((with_reducible refine gate_dst (N := 2) rfl ?_); (try (refine gate_guard (by rfl) ?_; dsimp only)); refine box_event ?hg (N := 2) ?hd (cs := #[.slice A0_0 l0_0.length c0_0, .slice A0_1 l0_1.length c0_1]) (t := 25) ?hr ?_; (case hd => rfl); (case hg => rfl); (case hr => first | (go_simp; done) | (go_simp; rfl)); intro gb174 hg w3 hbox hb; have BK174 := Aside0.mk (hbox); have GW174 := Aside0.mk ((by rw [hg]; exact (below_size (zb0 HB.out)) : w.heap.size ≤ gb174)); have GE174 := Aside0.mk ((by rw [hg]; exact (below_size (zb0 HB.out)) : w.heap.size ≤ gb174)); replace HB := Aside0.mk (below_step (zb0 HB.out) hb); clear hb hbox hg; have hcz4_0 : w3.cell? ⟨gb174, 0, none⟩ = some (.slice A0_0 l0_0.length c0_0) := (blk_cell BK174.out 0).trans rfl; have hcz4_1 : w3.cell? ⟨gb174, 1, none⟩ = some (.slice A0_1 l0_1.length c0_1) := (blk_cell BK174.out 1).trans rfl; have hfz4_0 := blk_frozen BK174.out 0; have hfz4_1 := blk_frozen BK174.out 1))
 go_loopg [5, 11] k (fun kq v5 v11 w' => ∃ (x5_1 : List Int) (x11_1 : Int), v11 = .int .i64 x11_1 ∧ Aside0 (layout_Out.l0 kq a1 x5_1 l0_1 (l0_1.length : Int) x11_1 l0_0 l0_1 = some r) ∧ Aside0 (kq ≤ k) ∧ Aside0 (Kd.R (Kd.int .i64) 3 w' w.heap.size (fun _ => True) v5 x5_1) ∧ Aside0 (w'.heap[gb174]? = some (.cells #[(.slice A0_0 l0_0.length c0_0), (.slice A0_1 l0_1.length c0_1)] 25 (0, 0))) ∧ Aside0 (Below w.heap.size w w'))
 case atStart => exact ⟨(([] : List Int)), (0), rs, H', ⟨Nat.le_refl _⟩, ⟨by first | exact Kd.R_nil _ _ _ _ _ | exact Kd.N_nil _ _ _ _ _ | exact Kd.V_nil _ _ _ _ _ | exact Kd.Q_nil _ _ _ _ _ | exact Kd.S_nil _ _ _ _ _⟩, ⟨zk BK174.out⟩, ⟨zb1 HB.out GE174.out⟩⟩
 case round =>
  clear H'
  obtain ⟨x5_1, x11_1, rfl, HA, HK1, HO_5, BK174, HB⟩ := hrel
  cases gk with
  | zero => exact absurd HA.out (by simp [layout_Out.l0])
  | succ k1 =>
   have H := HA.out
   clear HA
   simp only [layout_Out.l0] at H
   by_cases c5 : x11_1 < (l0_1.length : Int)
   rotate_left
   ·rw [if_neg c5] at H
    have c5b0 : decide (x11_1 < (l0_1.length : Int)) = false := decide_eq_false c5
    clear c5
    obtain rfl := Option.some.inj H
    go_wp2
    go_ret
    exact ⟨_, by first | rfl | (simp [errW_none, errW_some] <;> rfl) | (simp [*, errW_none, errW_some] <;> rfl), by (with_reducible repeat (first | apply Kd.R_alloc | apply Kd.R_drewN | apply Kd.R_drew)); exact HO_5.out, zb1 HB.out GE174.out⟩

   rw [if_pos c5] at H
   have c5b0 : decide (x11_1 < (l0_1.length : Int)) = true := decide_eq_true c5
   clear c5
   by_cases c6 : 0 ≤ x11_1
   rotate_left; ·rw [if_neg c6] at H; exact absurd H (by simp)
   rw [if_pos c6] at H
   have c6b0 : decide (0 ≤ x11_1) = true := decide_eq_true c6
   clear c6
   by_cases c7 : x11_1 < (l0_1.length : Int)
   rotate_left; ·rw [if_neg c7] at H; exact absurd H (by simp)
   rw [if_pos c7] at H
   have c7b0 : decide (x11_1 < (l0_1.length : Int)) = true := decide_eq_true c7
   clear c7
   by_cases c8 : ((rd_T38 l0_1 x11_1).f0) = a1
   rotate_left
   ·rw [if_neg c8] at H
    have c8b0 : (((rd_T38 l0_1 x11_1).f0) == a1) = false := beq_eq_false_iff_ne.mpr c8
    have c8b1 : (((rd_T38 l0_1 x11_1).f0) != a1) = true := bne_iff_ne.mpr c8
    have H' := Aside0.mk H; clear H
    have p175 : 0 ≤ (x11_1 : Int) := oda
    have q175 : x11_1 < (l0_1.length : Int) := oda
    obtain ⟨ad175, e175, hx175_0, hx175_1⟩ := at_T38 HR0_1.out x11_1 p175 q175
    cases e175
    replace hx175_0 := zx HB.out hx175_0
    replace hx175_1 := zx HB.out hx175_1
    replace p175 := eq_true p175
    replace q175 := eq_true q175
    go_wp2_with (first | ((with_reducible refine gate_dst (N := 7) rfl ?_); (try (refine gate_guard (by rfl) ?_; dsimp only)); refine box_event ?hg (N := 7) ?hd (cs := #[.int .i64 0, .int .i64 0]) (t := 38) ?hr ?_; (case hd => rfl); (case hg => rfl); (case hr => first | (go_simp; done) | (go_simp; rfl)); intro gb176 hg w25 hbox hb; replace HO_5 := Aside0.mk (Kd.R_below (zr HO_5.out) hb); have BK176 := Aside0.mk (hbox); have GW176 := Aside0.mk ((by rw [hg]; exact (below_size (zb1 HB.out GE174.out)) : w.heap.size ≤ gb176)); have GE176 := Aside0.mk ((by rw [hg]; exact (below_size (zb1 HB.out GE174.out)) : w.heap.size ≤ gb176)); replace HB := Aside0.mk (below_step (zb1 HB.out GE174.out) hb); have NB174_176 := Aside0.mk ((by rw [hg]; exact Nat.ne_of_lt (blk_lt (g := gb174) (o := .cells #[.slice A0_0 l0_0.length c0_0, .slice (some ad175) l0_1.length c0_1] 25 (0, 0)) (zk BK174.out)) : gb174 ≠ gb176)); have NB176_174 := Aside0.mk ((by rw [hg]; exact Nat.ne_of_gt (blk_lt (g := gb174) (o := .cells #[.slice A0_0 l0_0.length c0_0, .slice (some ad175) l0_1.length c0_1] 25 (0, 0)) (zk BK174.out)) : gb176 ≠ gb174)); replace BK174 := Aside0.mk (blk_below (g := gb174) (o := .cells #[.slice A0_0 l0_0.length c0_0, .slice (some ad175) l0_1.length c0_1] 25 (0, 0)) (zk BK174.out) hb); clear hb hbox hg; have hnb26 := NB176_174.out; have hnc26 := NB174_176.out; have hcz27_0 : w25.cell? ⟨gb176, 0, none⟩ = some (.int .i64 0) := (blk_cell BK176.out 0).trans rfl; have hcz27_1 : w25.cell? ⟨gb176, 1, none⟩ = some (.int .i64 0) := (blk_cell BK176.out 1).trans rfl; have hfz27_0 := blk_frozen BK176.out 0; have hfz27_1 := blk_frozen BK176.out 1))
    go_roundg k1
    case measure => have := HK1.out; omega
    case rel => exact ⟨(x5_1), (wrap64 (x11_1 + 1)), rs, H', ⟨by have := HK1.out; omega⟩, ⟨by (with_reducible repeat (first | apply Kd.R_alloc | apply Kd.R_drewN | apply Kd.R_drew)); exact Kd.R_mono (Kd.R_far (p := ⟨gb176, 1, none⟩) (Kd.R_far (p := ⟨gb176, 0, none⟩) (Kd.R_types HO_5.out BK176.out (by decide)) (fun _ hk => hk.2) (.int .i64 ((rd_T38 l0_1 x11_1).f0))) (fun _ hk => hk.2) (.int .i64 ((rd_T38 l0_1 x11_1).f1))) (fun _ hk => trivial)⟩, ⟨by (with_reducible repeat (first | refine blk_drewN ?_ _ | refine blk_drew ?_ | refine blk_alloc ?_ _)); refine blk_far ?_ NB174_176.out _; (with_reducible repeat (first | refine blk_drewN ?_ _ | refine blk_drew ?_ | refine blk_alloc ?_ _)); refine blk_far ?_ NB174_176.out _; (with_reducible repeat (first | refine blk_drewN ?_ _ | refine blk_drew ?_ | refine blk_alloc ?_ _)); exact BK174.out⟩, ⟨zb2 HB.out GE174.out GE176.out⟩⟩
   rw [if_pos c8] at H
   have c8b0 : (((rd_T38 l0_1 x11_1).f0) == a1) = true := beq_iff_eq.mpr c8
   have c8b1 : (((rd_T38 l0_1 x11_1).f0) != a1) = false := bne_eq_false_iff_eq.mpr c8
   clear c8
   by_cases c9 : a1 < (l0_0.length : Int)
   rotate_left
   ·rw [if_neg c9] at H
    have c9b0 : decide (a1 < (l0_0.length : Int)) = false := decide_eq_false c9
    clear c9
    have H' := Aside0.mk H; clear H
    have p175 : 0 ≤ (x11_1 : Int) := oda
    have q175 : x11_1 < (l0_1.length : Int) := oda
    obtain ⟨ad175, e175, hx175_0, hx175_1⟩ := at_T38 HR0_1.out x11_1 p175 q175
    cases e175
    replace hx175_0 := zx HB.out hx175_0
    replace hx175_1 := zx HB.out hx175_1
    replace p175 := eq_true p175
    replace q175 := eq_true q175
    go_wp2_with (first | ((with_reducible refine gate_dst (N := 7) rfl ?_); (try (refine gate_guard (by rfl) ?_; dsimp only)); refine box_event ?hg (N := 7) ?hd (cs := #[.int .i64 0, .int .i64 0]) (t := 38) ?hr ?_; (case hd => rfl); (case hg => rfl); (case hr => first | (go_simp; done) | (go_simp; rfl)); intro gb176 hg w21 hbox hb; replace HO_5 := Aside0.mk (Kd.R_below (zr HO_5.out) hb); have BK176 := Aside0.mk (hbox); have GW176 := Aside0.mk ((by rw [hg]; exact (below_size (zb1 HB.out GE174.out)) : w.heap.size ≤ gb176)); have GE176 := Aside0.mk ((by rw [hg]; exact (below_size (zb1 HB.out GE174.out)) : w.heap.size ≤ gb176)); replace HB := Aside0.mk (below_step (zb1 HB.out GE174.out) hb); have NB174_176 := Aside0.mk ((by rw [hg]; exact Nat.ne_of_lt (blk_lt (g := gb174) (o := .cells #[.slice A0_0 l0_0.length c0_0, .slice (some ad175) l0_1.length c0_1] 25 (0, 0)) (zk BK174.out)) : gb174 ≠ gb176)); have NB176_174 := Aside0.mk ((by rw [hg]; exact Nat.ne_of_gt (blk_lt (g := gb174) (o := .cells #[.slice A0_0 l0_0.length c0_0, .slice (some ad175) l0_1.length c0_1] 25 (0, 0)) (zk BK174.out)) : gb176 ≠ gb174)); replace BK174 := Aside0.mk (blk_below (g := gb174) (o := .cells #[.slice A0_0 l0_0.length c0_0, .slice (some ad175) l0_1.length c0_1] 25 (0, 0)) (zk BK174.out) hb); clear hb hbox hg; have hnb22 := NB176_174.out; have hnc22 := NB174_176.out; have hcz23_0 : w21.cell? ⟨gb176, 0, none⟩ = some (.int .i64 0) := (blk_cell BK176.out 0).trans rfl; have hcz23_1 : w21.cell? ⟨gb176, 1, none⟩ = some (.int .i64 0) := (blk_cell BK176.out 1).trans rfl; have hfz23_0 := blk_frozen BK176.out 0; have hfz23_1 := blk_frozen BK176.out 1; have hcz24_0 : w21.cell? ⟨gb174, 0, none⟩ = some (.slice A0_0 l0_0.length c0_0) := (blk_cell BK174.out 0).trans rfl; have hcz24_1 : w21.cell? ⟨gb174, 1, none⟩ = some (.slice (some ad175) l0_1.length c0_1) := (blk_cell BK174.out 1).trans rfl; have hfz24_0 := blk_frozen BK174.out 0; have hfz24_1 := blk_frozen BK174.out 1))
    go_roundg k1
    case measure => have := HK1.out; omega
    case rel => exact ⟨(x5_1), (wrap64 (x11_1 + 1)), rs, H', ⟨by have := HK1.out; omega⟩, ⟨by (with_reducible repeat (first | apply Kd.R_alloc | apply Kd.R_drewN | apply Kd.R_drew)); exact Kd.R_mono (Kd.R_far (p := ⟨gb176, 1, none⟩) (Kd.R_far (p := ⟨gb176, 0, none⟩) (Kd.R_types HO_5.out BK176.out (by decide)) (fun _ hk => hk.2) (.int .i64 ((rd_T38 l0_1 x11_1).f0))) (fun _ hk => hk.2) (.int .i64 ((rd_T38 l0_1 x11_1).f1))) (fun _ hk => trivial)⟩, ⟨by (with_reducible repeat (first | refine blk_drewN ?_ _ | refine blk_drew ?_ | refine blk_alloc ?_ _)); refine blk_far ?_ NB174_176.out _; (with_reducible repeat (first | refine blk_drewN ?_ _ | refine blk_drew ?_ | refine blk_alloc ?_ _)); refine blk_far ?_ NB174_176.out _; (with_reducible repeat (first | refine blk_drewN ?_ _ | refine blk_drew ?_ | refine blk_alloc ?_ _)); exact BK174.out⟩, ⟨zb2 HB.out GE174.out GE176.out⟩⟩
   rw [if_pos c9] at H
   have c9b0 : decide (a1 < (l0_0.length : Int)) = true := decide_eq_true c9
   clear c9
   by_cases c10 : a1 ≥ 0
   rotate_left
   ·rw [if_neg c10] at H
    have c10b0 : decide (0 ≤ a1) = false := decide_eq_false c10
    clear c10
    have H' := Aside0.mk H; clear H
    have p175 : 0 ≤ (x11_1 : Int) := oda
    have q175 : x11_1 < (l0_1.length : Int) := oda
    obtain ⟨ad175, e175, hx175_0, hx175_1⟩ := at_T38 HR0_1.out x11_1 p175 q175
    cases e175
    replace hx175_0 := zx HB.out hx175_0
    replace hx175_1 := zx HB.out hx175_1
    replace p175 := eq_true p175
    replace q175 := eq_true q175
    go_wp2_with (first | ((with_reducible refine gate_dst (N := 7) rfl ?_); (try (refine gate_guard (by rfl) ?_; dsimp only)); refine box_event ?hg (N := 7) ?hd (cs := #[.int .i64 0, .int .i64 0]) (t := 38) ?hr ?_; (case hd => rfl); (case hg => rfl); (case hr => first | (go_simp; done) | (go_simp; rfl)); intro gb176 hg w17 hbox hb; replace HO_5 := Aside0.mk (Kd.R_below (zr HO_5.out) hb); have BK176 := Aside0.mk (hbox); have GW176 := Aside0.mk ((by rw [hg]; exact (below_size (zb1 HB.out GE174.out)) : w.heap.size ≤ gb176)); have GE176 := Aside0.mk ((by rw [hg]; exact (below_size (zb1 HB.out GE174.out)) : w.heap.size ≤ gb176)); replace HB := Aside0.mk (below_step (zb1 HB.out GE174.out) hb); have NB174_176 := Aside0.mk ((by rw [hg]; exact Nat.ne_of_lt (blk_lt (g := gb174) (o := .cells #[.slice A0_0 l0_0.length c0_0, .slice (some ad175) l0_1.length c0_1] 25 (0, 0)) (zk BK174.out)) : gb174 ≠ gb176)); have NB176_174 := Aside0.mk ((by rw [hg]; exact Nat.ne_of_gt (blk_lt (g := gb174) (o := .cells #[.slice A0_0 l0_0.length c0_0, .slice (some ad175) l0_1.length c0_1] 25 (0, 0)) (zk BK174.out)) : gb176 ≠ gb174)); replace BK174 := Aside0.mk (blk_below (g := gb174) (o := .cells #[.slice A0_0 l0_0.length c0_0, .slice (some ad175) l0_1.length c0_1] 25 (0, 0)) (zk BK174.out) hb); clear hb hbox hg; have hnb18 := NB176_174.out; have hnc18 := NB174_176.out; have hcz19_0 : w17.cell? ⟨gb176, 0, none⟩ = some (.int .i64 0) := (blk_cell BK176.out 0).trans rfl; have hcz19_1 : w17.cell? ⟨gb176, 1, none⟩ = some (.int .i64 0) := (blk_cell BK176.out 1).trans rfl; have hfz19_0 := blk_frozen BK176.out 0; have hfz19_1 := blk_frozen BK176.out 1; have hcz20_0 : w17.cell? ⟨gb174, 0, none⟩ = some (.slice A0_0 l0_0.length c0_0) := (blk_cell BK174.out 0).trans rfl; have hcz20_1 : w17.cell? ⟨gb174, 1, none⟩ = some (.slice (some ad175) l0_1.length c0_1) := (blk_cell BK174.out 1).trans rfl; have hfz20_0 := blk_frozen BK174.out 0; have hfz20_1 := blk_frozen BK174.out 1))
    go_roundg k1
    case measure => have := HK1.out; omega
    case rel => exact ⟨(x5_1), (wrap64 (x11_1 + 1)), rs, H', ⟨by have := HK1.out; omega⟩, ⟨by (with_reducible repeat (first | apply Kd.R_alloc | apply Kd.R_drewN | apply Kd.R_drew)); exact Kd.R_mono (Kd.R_far (p := ⟨gb176, 1, none⟩) (Kd.R_far (p := ⟨gb176, 0, none⟩) (Kd.R_types HO_5.out BK176.out (by decide)) (fun _ hk => hk.2) (.int .i64 ((rd_T38 l0_1 x11_1).f0))) (fun _ hk => hk.2) (.int .i64 ((rd_T38 l0_1 x11_1).f1))) (fun _ hk => trivial)⟩, ⟨by (with_reducible repeat (first | refine blk_drewN ?_ _ | refine blk_drew ?_ | refine blk_alloc ?_ _)); refine blk_far ?_ NB174_176.out _; (with_reducible repeat (first | refine blk_drewN ?_ _ | refine blk_drew ?_ | refine blk_alloc ?_ _)); refine blk_far ?_ NB174_176.out _; (with_reducible repeat (first | refine blk_drewN ?_ _ | refine blk_drew ?_ | refine blk_alloc ?_ _)); exact BK174.out⟩, ⟨zb2 HB.out GE174.out GE176.out⟩⟩
   rw [if_pos c10] at H
   have c10b0 : decide (0 ≤ a1) = true := decide_eq_true c10
   clear c10
   by_cases c11 : x5_1.length < 17592186044416
   rotate_left; ·rw [if_neg c11] at H; exact absurd H (by simp)
   rw [if_pos c11] at H
   have LMc11 := Aside0.mk c11
   clear c11
   obtain ⟨y177, hy177⟩ : ∃ y_ : List Int, y_ = (x5_1 ++ [wrap64 (x11_1 + 1)]) := ⟨_, rfl⟩
   replace H : (layout_Out.l0 k1 a1 y177 l0_1 (l0_1.length : Int) (wrap64 (x11_1 + 1)) l0_0 l0_1) = some r := by first | (rw [hy177]; with_reducible exact H) | (have H2_ := (Option.bind_some _ _).symm.trans H; rw [hy177]; with_reducible exact H2_) | (have H2_ := (Option.bind_some _ _).symm.trans H; with_reducible exact H2_) | with_reducible exact H | (rw [hy177]; exact H) | exact H
   have Ny177 := Aside0.mk hy177
   clear hy177
   have H' := Aside0.mk H; clear H
   have p175 : 0 ≤ (x11_1 : Int) := oda
   have q175 : x11_1 < (l0_1.length : Int) := oda
   obtain ⟨ad175, e175, hx175_0, hx175_1⟩ := at_T38 HR0_1.out x11_1 p175 q175
   cases e175
   replace hx175_0 := zx HB.out hx175_0
   replace hx175_1 := zx HB.out hx175_1
   replace p175 := eq_true p175
   replace q175 := eq_true q175
   go_wp2_with (first | ((with_reducible refine gate_dst (N := 7) rfl ?_); (try (refine gate_guard (by rfl) ?_; dsimp only)); refine box_event ?hg (N := 7) ?hd (cs := #[.int .i64 0, .int .i64 0]) (t := 38) ?hr ?_; (case hd => rfl); (case hg => rfl); (case hr => first | (go_simp; done) | (go_simp; rfl)); intro gb176 hg w12 hbox hb; replace HO_5 := Aside0.mk (Kd.R_below (zr HO_5.out) hb); have BK176 := Aside0.mk (hbox); have GW176 := Aside0.mk ((by rw [hg]; exact (below_size (zb1 HB.out GE174.out)) : w.heap.size ≤ gb176)); have GE176 := Aside0.mk ((by rw [hg]; exact (below_size (zb1 HB.out GE174.out)) : w.heap.size ≤ gb176)); replace HB := Aside0.mk (below_step (zb1 HB.out GE174.out) hb); have NB174_176 := Aside0.mk ((by rw [hg]; exact Nat.ne_of_lt (blk_lt (g := gb174) (o := .cells #[.slice A0_0 l0_0.length c0_0, .slice (some ad175) l0_1.length c0_1] 25 (0, 0)) (zk BK174.out)) : gb174 ≠ gb176)); have NB176_174 := Aside0.mk ((by rw [hg]; exact Nat.ne_of_gt (blk_lt (g := gb174) (o := .cells #[.slice A0_0 l0_0.length c0_0, .slice (some ad175) l0_1.length c0_1] 25 (0, 0)) (zk BK174.out)) : gb176 ≠ gb174)); replace BK174 := Aside0.mk (blk_below (g := gb174) (o := .cells #[.slice A0_0 l0_0.length c0_0, .slice (some ad175) l0_1.length c0_1] 25 (0, 0)) (zk BK174.out) hb); clear hb hbox hg; have hnb13 := NB176_174.out; have hnc13 := NB174_176.out; have hcz14_0 : w12.cell? ⟨gb176, 0, none⟩ = some (.int .i64 0) := (blk_cell BK176.out 0).trans rfl; have hcz14_1 : w12.cell? ⟨gb176, 1, none⟩ = some (.int .i64 0) := (blk_cell BK176.out 1).trans rfl; have hfz14_0 := blk_frozen BK176.out 0; have hfz14_1 := blk_frozen BK176.out 1; have hcz15_0 : w12.cell? ⟨gb174, 0, none⟩ = some (.slice A0_0 l0_0.length c0_0) := (blk_cell BK174.out 0).trans rfl; have hcz15_1 : w12.cell? ⟨gb174, 1, none⟩ = some (.slice (some ad175) l0_1.length c0_1) := (blk_cell BK174.out 1).trans rfl; have hfz15_0 := blk_frozen BK174.out 0; have hfz15_1 := blk_frozen BK174.out 1) | ((with_reducible refine gate_builtin (b := .append) (xs := #[.tmp 31, .tmp 34]) rfl ?_); (try (refine gate_guard (by rfl) ?_; dsimp only)); at_builtin; refine Kd.R_append (Kd.int .i64) (w0 := w) w.heap.size rfl (.tmp 31) (.tmp 34) 26 3 (.int .i64 0) 8 rfl Try.underlying26 info3 rfl (by decide) (by omega) u5 x5_1 (wrap64 (x11_1 + 1)) [.int .i64 (wrap64 (x11_1 + 1))] (fun _ => True) (fun _ => False) rfl (by first | (go_simp; done) | (go_simp; rfl)) ?aP (fun _ hk => hk.elim) ?aF ?aO ?aB ?aS ?aL ?_; (case aP => exact rfl); (case aB => exact (zb2 HB.out GE174.out GE176.out)); (case aF => exact (fun _ _ => trivial)); (case aO => exact (by (with_reducible repeat (first | apply Kd.R_alloc | apply Kd.R_drewN | apply Kd.R_drew)); exact Kd.R_mono (Kd.R_far (p := ⟨gb176, 1, none⟩) (Kd.R_far (p := ⟨gb176, 0, none⟩) (Kd.R_types HO_5.out BK176.out (by decide)) (fun _ hk => hk.2) (.int .i64 ((rd_T38 l0_1 x11_1).f0))) (fun _ hk => hk.2) (.int .i64 ((rd_T38 l0_1 x11_1).f1))) (fun _ hk => trivial))); (case aS => exact (below_size (zb2 HB.out GE174.out GE176.out))); (case aL => have := LMc11.out; omega); intro v178 w16 ho hb hg hat; rw [← Ny177.out] at ho; replace BK174 := Aside0.mk (blk_grown (g := gb174) (o := .cells #[.slice A0_0 l0_0.length c0_0, .slice (some ad175) l0_1.length c0_1] 25 (0, 0)) (by (with_reducible repeat (first | refine blk_drewN ?_ _ | refine blk_drew ?_ | refine blk_alloc ?_ _)); refine blk_far ?_ NB174_176.out _; (with_reducible repeat (first | refine blk_drewN ?_ _ | refine blk_drew ?_ | refine blk_alloc ?_ _)); refine blk_far ?_ NB174_176.out _; (with_reducible repeat (first | refine blk_drewN ?_ _ | refine blk_drew ?_ | refine blk_alloc ?_ _)); exact BK174.out) hg (Kd.R_ne HO_5.out BK174.out (by decide))); replace BK176 := Aside0.mk (blk_grown (g := gb176) (o := .cells #[.int .i64 ((rd_T38 l0_1 x11_1).f0), .int .i64 ((rd_T38 l0_1 x11_1).f1)] 38 (0, 0)) (by (with_reducible repeat (first | refine blk_drewN ?_ _ | refine blk_drew ?_ | refine blk_alloc ?_ _)); refine blk_put (cs := #[.int .i64 ((rd_T38 l0_1 x11_1).f0), .int .i64 0]) ?_ 1 _ rfl; (with_reducible repeat (first | refine blk_drewN ?_ _ | refine blk_drew ?_ | refine blk_alloc ?_ _)); refine blk_put (cs := #[.int .i64 0, .int .i64 0]) ?_ 0 _ rfl; (with_reducible repeat (first | refine blk_drewN ?_ _ | refine blk_drew ?_ | refine blk_alloc ?_ _)); exact BK176.out) hg (Kd.R_ne HO_5.out BK176.out (by decide))); replace HB := Aside0.mk (hb); have HO179 := Aside0.mk (ho); clear HO_5; clear ho hb hg hat))
   go_roundg k1
   case measure => have := HK1.out; omega
   case rel => exact ⟨(y177), (wrap64 (x11_1 + 1)), rs, H', ⟨by have := HK1.out; omega⟩, ⟨zr HO179.out⟩, ⟨zk BK174.out⟩, ⟨zb2 HB.out GE174.out GE176.out⟩⟩
end Go.Proofs.Ytbbdgndaaajejaa.PRoutePaths
