-- Written by a program of this session (wip/oprint): after the pattern of the kit's print, which does not take this law. -- trimmed
import Derived.Test.YtkdfohmceokchaaPZoneJoinedx0
import Derived.Test.YtkdfohmceokchaaPZoneJoinedx10
namespace Go.Proofs.Ytkdfohmceokchaa.PZoneJoined
open Go.RowKit Go.Proofs.YtkdfohmceokchaaW.PrintWords Go.Proofs.YtkdfohmceokchaaW.PrintLast Go.Proofs.YtkdfohmceokchaaW.PrintMore
attribute [local go_sem] max2_int min2_int max_two min_two max_three min_three max_four min_four   -- for this text's walks alone
set_option linter.unusedVariables false
set_option linter.unusedSimpArgs false

/-! ### reach_To: function 47 -/
def reach_To.j0 : Nat → List Int → Int → Bool → List (S46) → List (S43) → Option (List Int × Int)
 | 0, _, _, _, _, _ => none
 | k + 1, x1, x2, x16, x236000, x236001 => if x16 = true then (some (([] : List Int), 1)) else ((reach_shut.f k x236000 x236001 x1).bind fun t236 => ((reach_lengths_1.f k x236000 x236001 t236 x2 1).bind fun t239 => (some (t239, 0))))
def reach_To.f (k : Nat) (l0_0 : List (S46)) (l0_1 : List (S43)) (l1 : List Int) (a2 : Int) : Option (List Int × Int) := if a2 < 0 then (reach_To.j0 k l1 a2 true l0_0 l0_1) else (reach_To.j0 k l1 a2 (decide (a2 ≥ (l0_0.length : Int))) l0_0 l0_1)
theorem reach_To.mono_l : ∀ k, (∀ y0 y1 y2 y3 y4, LeO (reach_To.j0 k y0 y1 y2 y3 y4) (reach_To.j0 (k + 1) y0 y1 y2 y3 y4))
 | 0 => fun _ _ _ _ _ r h => by simp [reach_To.j0] at h
 | k + 1 => by
  have ih0 := reach_To.mono_l k
  ·intro y0 y1 y2 y3 y4
   unfold reach_To.j0
   repeat' first
   | (with_reducible exact ih0 _ _ _ _ _)
   | (with_reducible exact reach_lengths_1.mono _ _ _ _ _ _)
   | (with_reducible exact reach_shut.mono _ _ _ _)
   | (with_reducible exact LeO.refl _)
   | (with_reducible exact LeO.none _)
   | (with_reducible refine LeO.ite ?_ ?_)
   | (with_reducible refine LeO.bind ?_ (fun _ => ?_))
   | exact ih0 _ _ _ _ _
   | exact reach_lengths_1.mono _ _ _ _ _ _
   | exact reach_shut.mono _ _ _ _
   | exact LeO.none _
   | refine LeO.ite ?_ ?_
   | refine LeO.bind ?_ (fun _ => ?_)
theorem reach_To.mono : ∀ a0 a1 a2 a3 k, LeO (reach_To.f k a0 a1 a2 a3) (reach_To.f (k + 1) a0 a1 a2 a3) := by
 intro a0 a1 a2 a3 k
 have ih0 := reach_To.mono_l k
 unfold reach_To.f
 repeat' first
   | (with_reducible exact ih0 _ _ _ _ _)
   | (with_reducible exact reach_lengths_1.mono _ _ _ _ _ _)
   | (with_reducible exact reach_shut.mono _ _ _ _)
   | (with_reducible exact LeO.refl _)
   | (with_reducible exact LeO.none _)
   | (with_reducible refine LeO.ite ?_ ?_)
   | (with_reducible refine LeO.bind ?_ (fun _ => ?_))
   | exact ih0 _ _ _ _ _
   | exact reach_lengths_1.mono _ _ _ _ _ _
   | exact reach_shut.mono _ _ _ _
   | exact LeO.none _
   | refine LeO.ite ?_ ?_
   | refine LeO.bind ?_ (fun _ => ?_)
def reach_To.T3 : Bool × List (List Nat × List Nat) := (true, [([], []), ([], []), ([], []), ([1, 2], [1, 2]), ([], []), ([0, 3, 4, 3], [0, 3, 4]), ([5, 5, 0, 1, 2, 3, 4, 5], [5]), ([6, 0, 1, 2, 3, 4, 5, 6], [])])
def reach_To.B3 : List Nat := [0, 0, 0, 6, 0, 31, 63, 127]
theorem reach_To.tab3 : rtab .any (opsOf Try.f47 3) = reach_To.T3 := by kernel_rfl
theorem reach_To.bits3 : waitsOk reach_To.T3.2 reach_To.B3 = true := by kernel_rfl
set_option maxHeartbeats 8000000 in
set_option maxRecDepth 100000 in
theorem reach_To.calls (k : Nat) (A0_0 : Option Addr) (c0_0 : Nat) (l0_0 : List (S46)) (A0_1 : Option Addr) (c0_1 : Nat) (l0_1 : List (S43)) (A1 : Option Addr) (c1 : Nat) (l1 : List Int) (a2 : Int) (r1 : List Int) (r2 : Int) (w : World) (hr0_0 : Kd.C k46 w A0_0 l0_0.length l0_0) (hc0_0 : l0_0.length ≤ c0_0) (hr0_1 : Kd.C k43 w A0_1 l0_1.length l0_1) (hc0_1 : l0_1.length ≤ c0_1) (hr1 : Kd.C (Kd.int .i64) w A1 l1.length l1) (hc1 : l1.length ≤ c1) (h : reach_To.f k l0_0 l0_1 l1 a2 = some (r1, r2)) :
  Calls Try.prog 47 #[.agg #[.slice A0_0 l0_0.length c0_0, .slice A0_1 l0_1.length c0_1], .slice A1 l1.length c1, .int .i64 a2] w fun e w' => ∃ v0_ : Value, e = .returned (.tuple #[v0_, .int .i64 r2]) ∧ Kd.R (Kd.int .i64) 3 w' w.heap.size (fun _ => True) v0_ r1 ∧ Below w.heap.size w w' := by
 have hu25 := Try.underlying25
 have HR0_0 := Aside0.mk hr0_0
 have HC0_0 := Aside0.mk hc0_0
 clear hr0_0 hc0_0
 have HR0_1 := Aside0.mk hr0_1
 have HC0_1 := Aside0.mk hc0_1
 clear hr0_1 hc0_1
 have HR1 := Aside0.mk hr1
 have HC1 := Aside0.mk hc1
 clear hr1 hc1
 have HB := Aside0.mk (Below.refl w.heap.size w)
 have H : (if a2 < 0 then (reach_To.j0 k l1 a2 true l0_0 l0_1) else (reach_To.j0 k l1 a2 (decide (a2 ≥ (l0_0.length : Int))) l0_0 l0_1)) = some (r1, r2) := h
 clear h
 have HC4 := Aside0.mk H
 clear H
 go_enter Try.func47, Try.ntmps47
 go_upto_region 1 with (first | ((with_reducible refine gate_dst (N := 3) rfl ?_); (try (refine gate_guard (by rfl) ?_; dsimp only)); refine box_event ?hg (N := 3) ?hd (cs := #[.slice A0_0 l0_0.length c0_0, .slice A0_1 l0_1.length c0_1]) (t := 25) ?hr ?_; (case hd => rfl); (case hg => rfl); (case hr => first | (go_simp; done) | (go_simp; rfl)); intro gb235 hg w5 hbox hb; have n0_ := Aside0.mk (below_step (zb0 HB.out) hb); have n1_ := Aside0.mk (hbox); have n2_ := Aside0.mk ((by rw [hg]; exact (below_size (zb0 HB.out)) : w.heap.size ≤ gb235)); have n3_ := Aside0.mk ((by rw [hg]; exact (below_size (zb0 HB.out)) : w.heap.size ≤ gb235)); clear HB; have HB := n0_; have BK235 := n1_; have GW235 := n2_; have GE235 := n3_; clear n0_ n1_ n2_ n3_; clear hb hbox hg))
 (try simp only [Act.put, List.setIfInBounds_toArray, List.set_cons_zero, List.set_cons_succ])
 go_cut [16] (fun v16 wc => ∃ (kq : Nat) (x16_3 : Bool), v16 = .bool x16_3 ∧ Aside0 (reach_To.j0 kq l1 a2 x16_3 l0_0 l0_1 = some (r1, r2)) ∧ Aside0 (kq ≤ k) ∧ Aside0 (wc.heap[gb235]? = some (.cells #[(.slice A0_0 l0_0.length c0_0), (.slice A0_1 l0_1.length c0_1)] 25 (0, 0))) ∧ Aside0 (Below w.heap.size w wc))
 case first =>
  have H := HC4.out
  clear HC4
  by_cases c6 : a2 < 0
  ·rw [if_pos c6] at H
   have c6b0 : decide (a2 < 0) = true := decide_eq_true c6
   clear c6
   (first | rw [c6b0] | (simp only [i64_w, i32_w]; rw [c6b0]) | skip)
   have H' := Aside0.mk H
   clear H
   go_wp2
   go_meet
   case rel => exact ⟨_, (true), rs, H', ⟨by first | omega | exact Nat.le_refl _⟩, ⟨zk BK235.out⟩, ⟨zb1 HB.out GE235.out⟩⟩
  ·rw [if_neg c6] at H
   have c6b0 : decide (a2 < 0) = false := decide_eq_false c6
   clear c6
   (first | rw [c6b0] | (simp only [i64_w, i32_w]; rw [c6b0]) | skip)
   have H' := Aside0.mk H
   clear H
   have hcz7_0 : w5.cell? ⟨gb235, 0, none⟩ = some (.slice A0_0 l0_0.length c0_0) := (blk_cell BK235.out 0).trans rfl
   have hcz7_1 : w5.cell? ⟨gb235, 1, none⟩ = some (.slice A0_1 l0_1.length c0_1) := (blk_cell BK235.out 1).trans rfl
   have hfz7_0 := blk_frozen BK235.out 0
   have hfz7_1 := blk_frozen BK235.out 1
   go_wp2
   go_meet
   case rel => exact ⟨_, (decide (a2 ≥ (l0_0.length : Int))), rs, H', ⟨by first | omega | exact Nat.le_refl _⟩, ⟨zk BK235.out⟩, ⟨zb1 HB.out GE235.out⟩⟩
 case rest =>
  clear HC4
  try clear c1
  try clear p2
  try clear c4
  try clear c6
  try clear c6b0
  try clear hcz7_0
  try clear hcz7_1
  try clear hfz7_0
  try clear hfz7_1
  obtain ⟨kq, x16_3, rfl, HA, HJ3, BK235, HB⟩ := hcut
  cases kq with
  | zero => exact absurd HA.out (by simp [reach_To.j0])
  | succ kj3 =>
   have H := HA.out
   clear HA
   simp only [reach_To.j0] at H
   by_cases c8 : x16_3 = true
   ·subst c8
    have H1 : (some (([] : List Int), 1)) = some (r1, r2) := by rw [if_pos rfl] at H; exact H
    clear H
    have H := H1
    clear H1
    simp only [Option.some.injEq, Prod.mk.injEq] at H
    obtain ⟨rfl, rfl⟩ := H
    go_wp2
    go_ret2
    exact ⟨_, by first | rfl | (simp [errW_none, errW_some] <;> rfl) | (simp [*, errW_none, errW_some] <;> rfl), by first | exact Kd.R_nil _ _ _ _ _ | exact Kd.N_nil _ _ _ _ _ | exact Kd.V_nil _ _ _ _ _ | exact Kd.Q_nil _ _ _ _ _ | exact Kd.S_nil _ _ _ _ _, zb1 HB.out GE235.out⟩
   ·replace c8 := Bool.eq_false_iff.mpr c8
    subst c8
    have H1 : ((reach_shut.f kj3 l0_0 l0_1 l1).bind fun t236 => ((reach_lengths_1.f kj3 l0_0 l0_1 t236 a2 1).bind fun t239 => (some (t239, 0)))) = some (r1, r2) := by rw [if_neg (show ¬ (false = true) by decide)] at H; exact H
    clear H
    have H := H1
    clear H1
    replace H := Option.bind_eq_some_iff.mp H
    obtain ⟨t236, A90, H⟩ := H
    replace H : ((reach_lengths_1.f kj3 l0_0 l0_1 t236 a2 1).bind fun t239 => (some (t239, 0))) = some (r1, r2) := H
    have A9 := Aside0.mk A90
    clear A90
    replace H := Option.bind_eq_some_iff.mp H
    obtain ⟨t239, A100, H⟩ := H
    replace H : (some (t239, 0)) = some (r1, r2) := H
    have A10 := Aside0.mk A100
    clear A100
    simp only [Option.some.injEq, Prod.mk.injEq] at H
    obtain ⟨rfl, rfl⟩ := H
    try go_wp2
    have n0_ := Aside0.mk (blk_drew BK235.out)
    have n1_ := Aside0.mk (below_drew1 HB.out)
    clear BK235
    clear HB
    have BK235 := n0_
    have HB := n1_
    clear n0_ n1_
    refine start_ (n := 8) (S := fun w' => w'.cell? ⟨gb235, 0, none⟩ = some (.slice A0_0 l0_0.length c0_0) ∧ w'.cell? ⟨gb235, 1, none⟩ = some (.slice A0_1 l0_1.length c0_1)) (ds := []) #[false, false, false, false, false, false, false, false] (by kernel_rfl) rfl rfl ⟨(blk_cell BK235.out 0).trans rfl, (blk_cell BK235.out 1).trans rfl⟩ (fun hHeld => ?_); refine with_tabW reach_To.tab3 reach_To.bits3 (fun HT_ HW_ => ?_)
    generalize wc.drew = w11 at BK235 HB hHeld ⊢
    refine pure_ (i := 2) (N := some 19) (v := ?_) (a' := ?_) #[false, false, true, false, false, false, false, false] rfl rfl (any_of HT_.out (by kernel_rfl)) (fun _ _ _ h => h) (Or.inl ⟨by rfl, ?_⟩) ?_ ?_
    rotate_left
    ·intro w'
     go_simp
     with_reducible rfl
    rotate_left
    ·simp only [Act.put, sa, sz, ss, i64_w, i32_w]
     rfl
    refine pure_ (i := 4) (N := some 21) (v := ?_) (a' := ?_) #[false, false, true, false, true, false, false, false] rfl rfl (any_of HT_.out (by kernel_rfl)) (fun _ _ _ h => h) (Or.inl ⟨by rfl, ?_⟩) ?_ ?_
    rotate_left
    ·intro w'
     go_simp
     with_reducible rfl
    rotate_left
    ·simp only [Act.put, sa, sz, ss, i64_w, i32_w]
     rfl
    refine take_ (i := 0) (N := some 17) (v := ?_) (a' := ?_) #[true, false, true, false, true, false, false, false] rfl rfl (take_ofW HT_.out HW_.out (by kernel_rfl)) (fun _ _ _ h => h) (Or.inl ⟨by rfl, ?_⟩) hHeld ?_ ?_
    rotate_left
    ·rintro w' ⟨s0, s1⟩
     go_simp
     with_reducible rfl
    rotate_left
    ·simp only [Act.put, sa, sz, ss, i64_w, i32_w]
     rfl
    refine take_ (i := 1) (N := some 18) (v := ?_) (a' := ?_) #[true, true, true, false, true, false, false, false] rfl rfl (take_ofW HT_.out HW_.out (by kernel_rfl)) (fun _ _ _ h => h) (Or.inl ⟨by rfl, ?_⟩) hHeld ?_ ?_
    rotate_left
    ·rintro w' ⟨s0, s1⟩
     go_simp
     with_reducible rfl
    rotate_left
    ·simp only [Act.put, sa, sz, ss, i64_w, i32_w]
     rfl
    refine one_ (i := 3) (N := some 20) #[true, true, true, true, true, false, false, false] rfl rfl (one_of HT_.out (by kernel_rfl)) (by decide) (fun K hK => ?_)
    refine goes_ Try.func54 (by kernel_rfl) rfl #[.agg #[.slice A0_0 l0_0.length c0_0, .slice A0_1 l0_1.length c0_1], .slice A1 l1.length c1] (by rfl) rfl rfl am ?_
    with_reducible refine (reach_shut.calls kj3 _ _ l0_0 _ _ l0_1 _ _ l1 t236 _ ?side1 ?side2 ?side3 ?side4 ?side5 ?side6 A9.out).mono ?_
    (case side1 => exact zc HR0_0.out HB.out)
    (case side2 => exact HC0_0.out)
    (case side3 => exact zc HR0_1.out HB.out)
    (case side4 => exact HC0_1.out)
    (case side5 => exact zc HR1.out HB.out)
    (case side6 => exact HC1.out)
    rintro e w12 ⟨v237, rfl, ho0, hb⟩
    refine ⟨_, rfl, ?_⟩
    have n0_ := Aside0.mk (Kd.R_lower ho0 (below_size (zb1 HB.out GE235.out)))
    have n1_ := Aside0.mk (blk_below (g := gb235) (o := .cells #[.slice A0_0 l0_0.length c0_0, .slice A0_1 l0_1.length c0_1] 25 (0, 0)) (zk BK235.out) hb)
    have n2_ := Aside0.mk (below_step (zb1 HB.out GE235.out) hb)
    clear BK235
    clear HB
    have HO238 := n0_
    have BK235 := n1_
    have HB := n2_
    clear n0_ n1_ n2_
    (try clear hb)
    (try clear hb2)
    (try clear hk)
    (try clear hi)
    (try clear ho0)
    obtain ⟨Ao13, co13, eo13⟩ := Kd.R_slice HO238.out
    (first | subst eo13 | (injection eo13 with f1_ f2_ f3_; have f4_ := f1_.symm; have f5_ := f3_.symm; clear f1_ f2_ f3_; subst f4_; subst f5_))
    refine hK.out _ _ ⟨(blk_cell BK235.out 0).trans rfl, (blk_cell BK235.out 1).trans rfl⟩ (fun hHeld => ?_)
    clear hK K
    refine norm_ (a' := ?_) ?_ ?_
    rotate_left
    ·show Act.put _ (some 20) _ = _
     simp only [Act.put, sa, sz, ss, i64_w, i32_w]
     rfl
    refine one_ (i := 5) (N := some 22) #[true, true, true, true, true, true, false, false] rfl rfl (one_of HT_.out (by kernel_rfl)) (by decide) (fun K hK => ?_)
    refine goes_ Try.func53 (by kernel_rfl) rfl #[.agg #[.slice A0_0 l0_0.length c0_0, .slice A0_1 l0_1.length c0_1], .slice Ao13 t236.length co13, .int .i64 a2, .int .i64 1] (by rfl) rfl rfl am ?_
    with_reducible refine (reach_lengths_1.calls kj3 _ _ l0_0 _ _ l0_1 _ _ t236 a2 1 t239 _ ?side1 ?side2 ?side3 ?side4 ?side5 ?side6 A10.out).mono ?_
    (case side1 => exact zc HR0_0.out HB.out)
    (case side2 => exact HC0_0.out)
    (case side3 => exact zc HR0_1.out HB.out)
    (case side4 => exact HC0_1.out)
    (case side5 => exact zd (Kd.R_reads' HO238.out).2.2)
    (case side6 => exact (Kd.R_reads' HO238.out).2.1)
    rintro e w14 ⟨v240, rfl, ho0, hb⟩
    refine ⟨_, rfl, ?_⟩
    have n0_ := Aside0.mk (Kd.R_below (zr HO238.out) hb)
    have n1_ := Aside0.mk (Kd.R_lower ho0 (below_size (zb1 HB.out GE235.out)))
    have n2_ := Aside0.mk (blk_below (g := gb235) (o := .cells #[.slice A0_0 l0_0.length c0_0, .slice A0_1 l0_1.length c0_1] 25 (0, 0)) (zk BK235.out) hb)
    have n3_ := Aside0.mk (below_step (zb1 HB.out GE235.out) hb)
    clear HO238
    clear BK235
    clear HB
    have HO238 := n0_
    have HO241 := n1_
    have BK235 := n2_
    have HB := n3_
    clear n0_ n1_ n2_ n3_
    (try clear hb)
    (try clear hb2)
    (try clear hk)
    (try clear hi)
    (try clear ho0)
    refine hK.out _ _ ⟨(blk_cell BK235.out 0).trans rfl, (blk_cell BK235.out 1).trans rfl⟩ (fun hHeld => ?_)
    clear hK K
    refine norm_ (a' := ?_) ?_ ?_
    rotate_left
    ·show Act.put _ (some 22) _ = _
     simp only [Act.put, sa, sz, ss, i64_w, i32_w]
     rfl
    refine pure_ (i := 6) (N := some 6) (v := ?_) (a' := ?_) #[true, true, true, true, true, true, true, false] rfl rfl (any_of HT_.out (by kernel_rfl)) (fun _ _ _ h => h) (Or.inl ⟨by rfl, ?_⟩) ?_ ?_
    rotate_left
    ·intro w'
     go_simp
     with_reducible rfl
    rotate_left
    ·simp only [Act.put, sa, sz, ss, i64_w, i32_w]
     rfl
    refine pure_ (i := 7) (N := some 7) (v := ?_) (a' := ?_) #[true, true, true, true, true, true, true, true] rfl rfl (any_of HT_.out (by kernel_rfl)) (fun _ _ _ h => h) (Or.inl ⟨by rfl, ?_⟩) ?_ ?_
    rotate_left
    ·intro w'
     go_simp
     with_reducible rfl
    rotate_left
    ·simp only [Act.put, sa, sz, ss, i64_w, i32_w]
     rfl
    refine done_ (done_of HT_.out (by kernel_rfl)) ?_
    try go_wp2
    go_ret2
    exact ⟨_, by first | rfl | (simp [errW_none, errW_some] <;> rfl) | (simp [*, errW_none, errW_some] <;> rfl), by (with_reducible repeat (first | apply Kd.R_alloc | apply Kd.R_drewN | apply Kd.R_drew)); exact HO241.out, zb1 HB.out GE235.out⟩

/-! ### layout_Out: function 55 -/
def layout_Out.l0 : Nat → Int → List Int → List (S43) → Int → Int → List (S46) → List (S43) → Option (List Int)
 | 0, _, _, _, _, _, _, _ => none
 | k + 1, x1, x5, x9, x10, x11, x243000, x243001 => if x11 < x10 then (if 0 ≤ x11 then (if x11 < (x9.length : Int) then (if ((rd_T43 x9 x11).f0) = x1 then (if x1 < (x243000.length : Int) then (if x1 ≥ 0 then (if x5.length < 17592186044416 then (layout_Out.l0 k x1 (x5 ++ [wrap64 (x11 + 1)]) x9 x10 (wrap64 (x11 + 1)) x243000 x243001) else (none)) else (layout_Out.l0 k x1 x5 x9 x10 (wrap64 (x11 + 1)) x243000 x243001)) else (layout_Out.l0 k x1 x5 x9 x10 (wrap64 (x11 + 1)) x243000 x243001)) else (layout_Out.l0 k x1 x5 x9 x10 (wrap64 (x11 + 1)) x243000 x243001)) else (none)) else (none)) else (some x5)
def layout_Out.f (k : Nat) (l0_0 : List (S46)) (l0_1 : List (S43)) (a1 : Int) : Option (List Int) := layout_Out.l0 k a1 ([] : List Int) l0_1 (l0_1.length : Int) 0 l0_0 l0_1
theorem layout_Out.mono_l : ∀ k, (∀ y0 y1 y2 y3 y4 y5 y6, LeO (layout_Out.l0 k y0 y1 y2 y3 y4 y5 y6) (layout_Out.l0 (k + 1) y0 y1 y2 y3 y4 y5 y6))
 | 0 => fun _ _ _ _ _ _ _ r h => by simp [layout_Out.l0] at h
 | k + 1 => by
  have ih0 := layout_Out.mono_l k
  ·intro y0 y1 y2 y3 y4 y5 y6
   unfold layout_Out.l0
   repeat' first
   | (with_reducible exact ih0 _ _ _ _ _ _ _)
   | (with_reducible exact LeO.refl _)
   | (with_reducible exact LeO.none _)
   | (with_reducible refine LeO.ite ?_ ?_)
   | (with_reducible refine LeO.bind ?_ (fun _ => ?_))
   | exact ih0 _ _ _ _ _ _ _
   | exact LeO.none _
   | refine LeO.ite ?_ ?_
   | refine LeO.bind ?_ (fun _ => ?_)
theorem layout_Out.mono : ∀ a0 a1 a2 k, LeO (layout_Out.f k a0 a1 a2) (layout_Out.f (k + 1) a0 a1 a2) := by
 intro a0 a1 a2 k
 have ih0 := layout_Out.mono_l k
 unfold layout_Out.f
 repeat' first
   | (with_reducible exact ih0 _ _ _ _ _ _ _)
   | (with_reducible exact LeO.refl _)
   | (with_reducible exact LeO.none _)
   | (with_reducible refine LeO.ite ?_ ?_)
   | (with_reducible refine LeO.bind ?_ (fun _ => ?_))
   | exact ih0 _ _ _ _ _ _ _
   | exact LeO.none _
   | refine LeO.ite ?_ ?_
   | refine LeO.bind ?_ (fun _ => ?_)
set_option maxHeartbeats 8000000 in
set_option maxRecDepth 100000 in
theorem layout_Out.calls (k : Nat) (A0_0 : Option Addr) (c0_0 : Nat) (l0_0 : List (S46)) (A0_1 : Option Addr) (c0_1 : Nat) (l0_1 : List (S43)) (a1 : Int) (r : List Int) (w : World) (hr0_0 : Kd.C k46 w A0_0 l0_0.length l0_0) (hc0_0 : l0_0.length ≤ c0_0) (hr0_1 : Kd.C k43 w A0_1 l0_1.length l0_1) (hc0_1 : l0_1.length ≤ c0_1) (h : layout_Out.f k l0_0 l0_1 a1 = some r) :
  Calls Try.prog 55 #[.agg #[.slice A0_0 l0_0.length c0_0, .slice A0_1 l0_1.length c0_1], .int .i64 a1] w fun e w' => ∃ v0_ : Value, e = .returned (v0_) ∧ Kd.R (Kd.int .i64) 3 w' w.heap.size (fun _ => True) v0_ r ∧ Below w.heap.size w w' := by
 have hu25 := Try.underlying25
 have hu43 := Try.underlying43
 have HR0_0 := Aside0.mk hr0_0
 have HC0_0 := Aside0.mk hc0_0
 clear hr0_0 hc0_0
 have HR0_1 := Aside0.mk hr0_1
 have HC0_1 := Aside0.mk hc0_1
 clear hr0_1 hc0_1
 have HB := Aside0.mk (Below.refl w.heap.size w)
 have H : (layout_Out.l0 k a1 ([] : List Int) l0_1 (l0_1.length : Int) 0 l0_0 l0_1) = some r := h
 clear h
 have H' := Aside0.mk H
 clear H
 go_enter Try.func55, Try.ntmps55
 go_wp2_with (first | ((with_reducible refine gate_dst (N := 2) rfl ?_); (try (refine gate_guard (by rfl) ?_; dsimp only)); refine box_event ?hg (N := 2) ?hd (cs := #[.slice A0_0 l0_0.length c0_0, .slice A0_1 l0_1.length c0_1]) (t := 25) ?hr ?_; (case hd => rfl); (case hg => rfl); (case hr => first | (go_simp; done) | (go_simp; rfl)); intro gb242 hg w3 hbox hb; have n0_ := Aside0.mk (below_step (zb0 HB.out) hb); have n1_ := Aside0.mk (hbox); have n2_ := Aside0.mk ((by rw [hg]; exact (below_size (zb0 HB.out)) : w.heap.size ≤ gb242)); have n3_ := Aside0.mk ((by rw [hg]; exact (below_size (zb0 HB.out)) : w.heap.size ≤ gb242)); clear HB; have HB := n0_; have BK242 := n1_; have GW242 := n2_; have GE242 := n3_; clear n0_ n1_ n2_ n3_; clear hb hbox hg; have hcz4_0 : w3.cell? ⟨gb242, 0, none⟩ = some (.slice A0_0 l0_0.length c0_0) := (blk_cell BK242.out 0).trans rfl; have hcz4_1 : w3.cell? ⟨gb242, 1, none⟩ = some (.slice A0_1 l0_1.length c0_1) := (blk_cell BK242.out 1).trans rfl; have hfz4_0 := blk_frozen BK242.out 0; have hfz4_1 := blk_frozen BK242.out 1))
 go_loopg [5, 11] k (fun kq v5 v11 w' => ∃ (x5_1 : List Int) (x11_1 : Int), v11 = .int .i64 x11_1 ∧ Aside0 (layout_Out.l0 kq a1 x5_1 l0_1 (l0_1.length : Int) x11_1 l0_0 l0_1 = some r) ∧ Aside0 (kq ≤ k) ∧ Aside0 (Kd.R (Kd.int .i64) 3 w' w.heap.size (fun _ => True) v5 x5_1) ∧ Aside0 (w'.heap[gb242]? = some (.cells #[(.slice A0_0 l0_0.length c0_0), (.slice A0_1 l0_1.length c0_1)] 25 (0, 0))) ∧ Aside0 (Below w.heap.size w w'))
 case atStart => exact ⟨(([] : List Int)), (0), rs, H', ⟨Nat.le_refl _⟩, ⟨by first | exact Kd.R_nil _ _ _ _ _ | exact Kd.N_nil _ _ _ _ _ | exact Kd.V_nil _ _ _ _ _ | exact Kd.Q_nil _ _ _ _ _ | exact Kd.S_nil _ _ _ _ _⟩, ⟨zk BK242.out⟩, ⟨zb1 HB.out GE242.out⟩⟩
 case round =>
  clear H'
  try clear p2
  try clear hcz4_0
  try clear hcz4_1
  try clear hfz4_0
  try clear hfz4_1
  obtain ⟨x5_1, x11_1, rfl, HA, HK1, HO_5, BK242, HB⟩ := hrel
  cases gk with
  | zero => exact absurd HA.out (by simp [layout_Out.l0])
  | succ k1 =>
   have H := HA.out
   clear HA
   simp only [layout_Out.l0] at H
   by_cases c5 : x11_1 < (l0_1.length : Int)
   ·rw [if_pos c5] at H
    have c5b0 : decide (x11_1 < (l0_1.length : Int)) = true := decide_eq_true c5
    clear c5
    by_cases c6 : 0 ≤ x11_1
    ·rw [if_pos c6] at H
     have c6b0 : decide (0 ≤ x11_1) = true := decide_eq_true c6
     clear c6
     by_cases c7 : x11_1 < (l0_1.length : Int)
     ·rw [if_pos c7] at H
      have c7b0 : decide (x11_1 < (l0_1.length : Int)) = true := decide_eq_true c7
      clear c7
      by_cases c8 : ((rd_T43 l0_1 x11_1).f0) = a1
      ·rw [if_pos c8] at H
       have c8b0 : (((rd_T43 l0_1 x11_1).f0) == a1) = true := beq_iff_eq.mpr c8
       have c8b1 : (((rd_T43 l0_1 x11_1).f0) != a1) = false := bne_eq_false_iff_eq.mpr c8
       clear c8
       by_cases c9 : a1 < (l0_0.length : Int)
       ·rw [if_pos c9] at H
        have c9b0 : decide (a1 < (l0_0.length : Int)) = true := decide_eq_true c9
        clear c9
        by_cases c10 : a1 ≥ 0
        ·rw [if_pos c10] at H
         have c10b0 : decide (0 ≤ a1) = true := decide_eq_true c10
         clear c10
         by_cases c11 : x5_1.length < 17592186044416
         ·rw [if_pos c11] at H
          have LMc11 := Aside0.mk c11
          clear c11
          obtain ⟨y245, hy245⟩ : ∃ y_ : List Int, y_ = (x5_1 ++ [wrap64 (x11_1 + 1)]) := ⟨_, rfl⟩
          replace H : (layout_Out.l0 k1 a1 y245 l0_1 (l0_1.length : Int) (wrap64 (x11_1 + 1)) l0_0 l0_1) = some r := by first | (rw [hy245]; with_reducible exact H) | (have H2_ := (Option.bind_some _ _).symm.trans H; rw [hy245]; with_reducible exact H2_) | (have H2_ := (Option.bind_some _ _).symm.trans H; with_reducible exact H2_) | with_reducible exact H | (rw [hy245]; exact H) | exact H
          have Ny245 := Aside0.mk hy245
          clear hy245
          have H' := Aside0.mk H
          clear H
          have p243 : 0 ≤ (x11_1 : Int) := oda
          have q243 : x11_1 < (l0_1.length : Int) := oda
          obtain ⟨ad243, e243, hx243_0, hx243_1⟩ := at_T43 HR0_1.out x11_1 p243 q243
          cases e243
          replace hx243_0 := zx HB.out hx243_0
          replace hx243_1 := zx HB.out hx243_1
          replace p243 := eq_true p243
          replace q243 := eq_true q243
          go_wp2_with (first | ((with_reducible refine gate_dst (N := 7) rfl ?_); (try (refine gate_guard (by rfl) ?_; dsimp only)); refine box_event ?hg (N := 7) ?hd (cs := #[.int .i64 0, .int .i64 0]) (t := 43) ?hr ?_; (case hd => rfl); (case hg => rfl); (case hr => first | (go_simp; done) | (go_simp; rfl)); intro gb244 hg w12 hbox hb; have n0_ := Aside0.mk (Kd.R_below (zr HO_5.out) hb); have n1_ := Aside0.mk (blk_below (g := gb242) (o := .cells #[.slice A0_0 l0_0.length c0_0, .slice (some ad243) l0_1.length c0_1] 25 (0, 0)) (zk BK242.out) hb); have n2_ := Aside0.mk (below_step (zb1 HB.out GE242.out) hb); have n3_ := Aside0.mk (hbox); have n4_ := Aside0.mk ((by rw [hg]; exact (below_size (zb1 HB.out GE242.out)) : w.heap.size ≤ gb244)); have n5_ := Aside0.mk ((by rw [hg]; exact (below_size (zb1 HB.out GE242.out)) : w.heap.size ≤ gb244)); have n6_ := Aside0.mk ((by rw [hg]; exact Nat.ne_of_lt (blk_lt (g := gb242) (o := .cells #[.slice A0_0 l0_0.length c0_0, .slice (some ad243) l0_1.length c0_1] 25 (0, 0)) (zk BK242.out)) : gb242 ≠ gb244)); have n7_ := Aside0.mk ((by rw [hg]; exact Nat.ne_of_gt (blk_lt (g := gb242) (o := .cells #[.slice A0_0 l0_0.length c0_0, .slice (some ad243) l0_1.length c0_1] 25 (0, 0)) (zk BK242.out)) : gb244 ≠ gb242)); clear HO_5; clear BK242; clear HB; have HO_5 := n0_; have BK242 := n1_; have HB := n2_; have BK244 := n3_; have GW244 := n4_; have GE244 := n5_; have NB242_244 := n6_; have NB244_242 := n7_; clear n0_ n1_ n2_ n3_ n4_ n5_ n6_ n7_; clear hb hbox hg; have hnb13 := NB244_242.out; have hnc13 := NB242_244.out; have hcz14_0 : w12.cell? ⟨gb244, 0, none⟩ = some (.int .i64 0) := (blk_cell BK244.out 0).trans rfl; have hcz14_1 : w12.cell? ⟨gb244, 1, none⟩ = some (.int .i64 0) := (blk_cell BK244.out 1).trans rfl; have hfz14_0 := blk_frozen BK244.out 0; have hfz14_1 := blk_frozen BK244.out 1; have hcz15_0 : w12.cell? ⟨gb242, 0, none⟩ = some (.slice A0_0 l0_0.length c0_0) := (blk_cell BK242.out 0).trans rfl; have hcz15_1 : w12.cell? ⟨gb242, 1, none⟩ = some (.slice (some ad243) l0_1.length c0_1) := (blk_cell BK242.out 1).trans rfl; have hfz15_0 := blk_frozen BK242.out 0; have hfz15_1 := blk_frozen BK242.out 1) | ((with_reducible refine gate_builtin (b := .append) (xs := #[.tmp 31, .tmp 34]) rfl ?_); (try (refine gate_guard (by rfl) ?_; dsimp only)); at_builtin; refine Kd.R_append (Kd.int .i64) (w0 := w) w.heap.size rfl (.tmp 31) (.tmp 34) 26 3 (.int .i64 0) 8 rfl Try.underlying26 info3 rfl (by decide) (by omega) u5 x5_1 (wrap64 (x11_1 + 1)) [.int .i64 (wrap64 (x11_1 + 1))] (fun _ => True) (fun _ => False) rfl (by first | (go_simp; done) | (go_simp; rfl)) ?aP (fun _ hk => hk.elim) ?aF ?aO ?aB ?aS ?aL ?_; (case aP => exact rfl); (case aB => exact (zb2 HB.out GE242.out GE244.out)); (case aF => exact (fun _ _ => trivial)); (case aO => exact (by (with_reducible repeat (first | apply Kd.R_alloc | apply Kd.R_drewN | apply Kd.R_drew)); exact Kd.R_mono (Kd.R_far (p := ⟨gb244, 1, none⟩) (Kd.R_far (p := ⟨gb244, 0, none⟩) (Kd.R_types HO_5.out BK244.out (by decide)) (fun _ hk => hk.2) (.int .i64 ((rd_T43 l0_1 x11_1).f0))) (fun _ hk => hk.2) (.int .i64 ((rd_T43 l0_1 x11_1).f1))) (fun _ hk => trivial))); (case aS => exact (below_size (zb2 HB.out GE242.out GE244.out))); (case aL => have := LMc11.out; omega); intro v246 w16 ho hb hg hat; rw [← Ny245.out] at ho; have n0_ := Aside0.mk (blk_grown (g := gb242) (o := .cells #[.slice A0_0 l0_0.length c0_0, .slice (some ad243) l0_1.length c0_1] 25 (0, 0)) (by (with_reducible repeat (first | refine blk_drewN ?_ _ | refine blk_drew ?_ | refine blk_alloc ?_ _)); refine blk_far ?_ NB242_244.out _; (with_reducible repeat (first | refine blk_drewN ?_ _ | refine blk_drew ?_ | refine blk_alloc ?_ _)); refine blk_far ?_ NB242_244.out _; (with_reducible repeat (first | refine blk_drewN ?_ _ | refine blk_drew ?_ | refine blk_alloc ?_ _)); exact BK242.out) hg (Kd.R_ne HO_5.out BK242.out (by decide))); have n1_ := Aside0.mk (blk_grown (g := gb244) (o := .cells #[.int .i64 ((rd_T43 l0_1 x11_1).f0), .int .i64 ((rd_T43 l0_1 x11_1).f1)] 43 (0, 0)) (by (with_reducible repeat (first | refine blk_drewN ?_ _ | refine blk_drew ?_ | refine blk_alloc ?_ _)); refine blk_put (cs := #[.int .i64 ((rd_T43 l0_1 x11_1).f0), .int .i64 0]) ?_ 1 _ rfl; (with_reducible repeat (first | refine blk_drewN ?_ _ | refine blk_drew ?_ | refine blk_alloc ?_ _)); refine blk_put (cs := #[.int .i64 0, .int .i64 0]) ?_ 0 _ rfl; (with_reducible repeat (first | refine blk_drewN ?_ _ | refine blk_drew ?_ | refine blk_alloc ?_ _)); exact BK244.out) hg (Kd.R_ne HO_5.out BK244.out (by decide))); have n2_ := Aside0.mk (hb); have n3_ := Aside0.mk (ho); clear BK242; clear BK244; clear HB; clear HO_5; have BK242 := n0_; have BK244 := n1_; have HB := n2_; have HO247 := n3_; clear n0_ n1_ n2_ n3_; clear ho hb hg hat))
          go_roundg k1
          case measure => have := HK1.out; omega
          case rel => exact ⟨(y245), (wrap64 (x11_1 + 1)), rs, H', ⟨by have := HK1.out; omega⟩, ⟨zr HO247.out⟩, ⟨zk BK242.out⟩, ⟨zb2 HB.out GE242.out GE244.out⟩⟩
         ·rw [if_neg c11] at H
          exact absurd H (by simp)
        ·rw [if_neg c10] at H
         have c10b0 : decide (0 ≤ a1) = false := decide_eq_false c10
         clear c10
         have H' := Aside0.mk H
         clear H
         have p243 : 0 ≤ (x11_1 : Int) := oda
         have q243 : x11_1 < (l0_1.length : Int) := oda
         obtain ⟨ad243, e243, hx243_0, hx243_1⟩ := at_T43 HR0_1.out x11_1 p243 q243
         cases e243
         replace hx243_0 := zx HB.out hx243_0
         replace hx243_1 := zx HB.out hx243_1
         replace p243 := eq_true p243
         replace q243 := eq_true q243
         go_wp2_with (first | ((with_reducible refine gate_dst (N := 7) rfl ?_); (try (refine gate_guard (by rfl) ?_; dsimp only)); refine box_event ?hg (N := 7) ?hd (cs := #[.int .i64 0, .int .i64 0]) (t := 43) ?hr ?_; (case hd => rfl); (case hg => rfl); (case hr => first | (go_simp; done) | (go_simp; rfl)); intro gb244 hg w17 hbox hb; have n0_ := Aside0.mk (Kd.R_below (zr HO_5.out) hb); have n1_ := Aside0.mk (blk_below (g := gb242) (o := .cells #[.slice A0_0 l0_0.length c0_0, .slice (some ad243) l0_1.length c0_1] 25 (0, 0)) (zk BK242.out) hb); have n2_ := Aside0.mk (below_step (zb1 HB.out GE242.out) hb); have n3_ := Aside0.mk (hbox); have n4_ := Aside0.mk ((by rw [hg]; exact (below_size (zb1 HB.out GE242.out)) : w.heap.size ≤ gb244)); have n5_ := Aside0.mk ((by rw [hg]; exact (below_size (zb1 HB.out GE242.out)) : w.heap.size ≤ gb244)); have n6_ := Aside0.mk ((by rw [hg]; exact Nat.ne_of_lt (blk_lt (g := gb242) (o := .cells #[.slice A0_0 l0_0.length c0_0, .slice (some ad243) l0_1.length c0_1] 25 (0, 0)) (zk BK242.out)) : gb242 ≠ gb244)); have n7_ := Aside0.mk ((by rw [hg]; exact Nat.ne_of_gt (blk_lt (g := gb242) (o := .cells #[.slice A0_0 l0_0.length c0_0, .slice (some ad243) l0_1.length c0_1] 25 (0, 0)) (zk BK242.out)) : gb244 ≠ gb242)); clear HO_5; clear BK242; clear HB; have HO_5 := n0_; have BK242 := n1_; have HB := n2_; have BK244 := n3_; have GW244 := n4_; have GE244 := n5_; have NB242_244 := n6_; have NB244_242 := n7_; clear n0_ n1_ n2_ n3_ n4_ n5_ n6_ n7_; clear hb hbox hg; have hnb18 := NB244_242.out; have hnc18 := NB242_244.out; have hcz19_0 : w17.cell? ⟨gb244, 0, none⟩ = some (.int .i64 0) := (blk_cell BK244.out 0).trans rfl; have hcz19_1 : w17.cell? ⟨gb244, 1, none⟩ = some (.int .i64 0) := (blk_cell BK244.out 1).trans rfl; have hfz19_0 := blk_frozen BK244.out 0; have hfz19_1 := blk_frozen BK244.out 1; have hcz20_0 : w17.cell? ⟨gb242, 0, none⟩ = some (.slice A0_0 l0_0.length c0_0) := (blk_cell BK242.out 0).trans rfl; have hcz20_1 : w17.cell? ⟨gb242, 1, none⟩ = some (.slice (some ad243) l0_1.length c0_1) := (blk_cell BK242.out 1).trans rfl; have hfz20_0 := blk_frozen BK242.out 0; have hfz20_1 := blk_frozen BK242.out 1))
         go_roundg k1
         case measure => have := HK1.out; omega
         case rel => exact ⟨(x5_1), (wrap64 (x11_1 + 1)), rs, H', ⟨by have := HK1.out; omega⟩, ⟨by (with_reducible repeat (first | apply Kd.R_alloc | apply Kd.R_drewN | apply Kd.R_drew)); exact Kd.R_mono (Kd.R_far (p := ⟨gb244, 1, none⟩) (Kd.R_far (p := ⟨gb244, 0, none⟩) (Kd.R_types HO_5.out BK244.out (by decide)) (fun _ hk => hk.2) (.int .i64 ((rd_T43 l0_1 x11_1).f0))) (fun _ hk => hk.2) (.int .i64 ((rd_T43 l0_1 x11_1).f1))) (fun _ hk => trivial)⟩, ⟨by (with_reducible repeat (first | refine blk_drewN ?_ _ | refine blk_drew ?_ | refine blk_alloc ?_ _)); refine blk_far ?_ NB242_244.out _; (with_reducible repeat (first | refine blk_drewN ?_ _ | refine blk_drew ?_ | refine blk_alloc ?_ _)); refine blk_far ?_ NB242_244.out _; (with_reducible repeat (first | refine blk_drewN ?_ _ | refine blk_drew ?_ | refine blk_alloc ?_ _)); exact BK242.out⟩, ⟨zb2 HB.out GE242.out GE244.out⟩⟩
       ·rw [if_neg c9] at H
        have c9b0 : decide (a1 < (l0_0.length : Int)) = false := decide_eq_false c9
        clear c9
        have H' := Aside0.mk H
        clear H
        have p243 : 0 ≤ (x11_1 : Int) := oda
        have q243 : x11_1 < (l0_1.length : Int) := oda
        obtain ⟨ad243, e243, hx243_0, hx243_1⟩ := at_T43 HR0_1.out x11_1 p243 q243
        cases e243
        replace hx243_0 := zx HB.out hx243_0
        replace hx243_1 := zx HB.out hx243_1
        replace p243 := eq_true p243
        replace q243 := eq_true q243
        go_wp2_with (first | ((with_reducible refine gate_dst (N := 7) rfl ?_); (try (refine gate_guard (by rfl) ?_; dsimp only)); refine box_event ?hg (N := 7) ?hd (cs := #[.int .i64 0, .int .i64 0]) (t := 43) ?hr ?_; (case hd => rfl); (case hg => rfl); (case hr => first | (go_simp; done) | (go_simp; rfl)); intro gb244 hg w21 hbox hb; have n0_ := Aside0.mk (Kd.R_below (zr HO_5.out) hb); have n1_ := Aside0.mk (blk_below (g := gb242) (o := .cells #[.slice A0_0 l0_0.length c0_0, .slice (some ad243) l0_1.length c0_1] 25 (0, 0)) (zk BK242.out) hb); have n2_ := Aside0.mk (below_step (zb1 HB.out GE242.out) hb); have n3_ := Aside0.mk (hbox); have n4_ := Aside0.mk ((by rw [hg]; exact (below_size (zb1 HB.out GE242.out)) : w.heap.size ≤ gb244)); have n5_ := Aside0.mk ((by rw [hg]; exact (below_size (zb1 HB.out GE242.out)) : w.heap.size ≤ gb244)); have n6_ := Aside0.mk ((by rw [hg]; exact Nat.ne_of_lt (blk_lt (g := gb242) (o := .cells #[.slice A0_0 l0_0.length c0_0, .slice (some ad243) l0_1.length c0_1] 25 (0, 0)) (zk BK242.out)) : gb242 ≠ gb244)); have n7_ := Aside0.mk ((by rw [hg]; exact Nat.ne_of_gt (blk_lt (g := gb242) (o := .cells #[.slice A0_0 l0_0.length c0_0, .slice (some ad243) l0_1.length c0_1] 25 (0, 0)) (zk BK242.out)) : gb244 ≠ gb242)); clear HO_5; clear BK242; clear HB; have HO_5 := n0_; have BK242 := n1_; have HB := n2_; have BK244 := n3_; have GW244 := n4_; have GE244 := n5_; have NB242_244 := n6_; have NB244_242 := n7_; clear n0_ n1_ n2_ n3_ n4_ n5_ n6_ n7_; clear hb hbox hg; have hnb22 := NB244_242.out; have hnc22 := NB242_244.out; have hcz23_0 : w21.cell? ⟨gb244, 0, none⟩ = some (.int .i64 0) := (blk_cell BK244.out 0).trans rfl; have hcz23_1 : w21.cell? ⟨gb244, 1, none⟩ = some (.int .i64 0) := (blk_cell BK244.out 1).trans rfl; have hfz23_0 := blk_frozen BK244.out 0; have hfz23_1 := blk_frozen BK244.out 1; have hcz24_0 : w21.cell? ⟨gb242, 0, none⟩ = some (.slice A0_0 l0_0.length c0_0) := (blk_cell BK242.out 0).trans rfl; have hcz24_1 : w21.cell? ⟨gb242, 1, none⟩ = some (.slice (some ad243) l0_1.length c0_1) := (blk_cell BK242.out 1).trans rfl; have hfz24_0 := blk_frozen BK242.out 0; have hfz24_1 := blk_frozen BK242.out 1))
        go_roundg k1
        case measure => have := HK1.out; omega
        case rel => exact ⟨(x5_1), (wrap64 (x11_1 + 1)), rs, H', ⟨by have := HK1.out; omega⟩, ⟨by (with_reducible repeat (first | apply Kd.R_alloc | apply Kd.R_drewN | apply Kd.R_drew)); exact Kd.R_mono (Kd.R_far (p := ⟨gb244, 1, none⟩) (Kd.R_far (p := ⟨gb244, 0, none⟩) (Kd.R_types HO_5.out BK244.out (by decide)) (fun _ hk => hk.2) (.int .i64 ((rd_T43 l0_1 x11_1).f0))) (fun _ hk => hk.2) (.int .i64 ((rd_T43 l0_1 x11_1).f1))) (fun _ hk => trivial)⟩, ⟨by (with_reducible repeat (first | refine blk_drewN ?_ _ | refine blk_drew ?_ | refine blk_alloc ?_ _)); refine blk_far ?_ NB242_244.out _; (with_reducible repeat (first | refine blk_drewN ?_ _ | refine blk_drew ?_ | refine blk_alloc ?_ _)); refine blk_far ?_ NB242_244.out _; (with_reducible repeat (first | refine blk_drewN ?_ _ | refine blk_drew ?_ | refine blk_alloc ?_ _)); exact BK242.out⟩, ⟨zb2 HB.out GE242.out GE244.out⟩⟩
      ·rw [if_neg c8] at H
       have c8b0 : (((rd_T43 l0_1 x11_1).f0) == a1) = false := beq_eq_false_iff_ne.mpr c8
       have c8b1 : (((rd_T43 l0_1 x11_1).f0) != a1) = true := bne_iff_ne.mpr c8
       have H' := Aside0.mk H
       clear H
       have p243 : 0 ≤ (x11_1 : Int) := oda
       have q243 : x11_1 < (l0_1.length : Int) := oda
       obtain ⟨ad243, e243, hx243_0, hx243_1⟩ := at_T43 HR0_1.out x11_1 p243 q243
       cases e243
       replace hx243_0 := zx HB.out hx243_0
       replace hx243_1 := zx HB.out hx243_1
       replace p243 := eq_true p243
       replace q243 := eq_true q243
       go_wp2_with (first | ((with_reducible refine gate_dst (N := 7) rfl ?_); (try (refine gate_guard (by rfl) ?_; dsimp only)); refine box_event ?hg (N := 7) ?hd (cs := #[.int .i64 0, .int .i64 0]) (t := 43) ?hr ?_; (case hd => rfl); (case hg => rfl); (case hr => first | (go_simp; done) | (go_simp; rfl)); intro gb244 hg w25 hbox hb; have n0_ := Aside0.mk (Kd.R_below (zr HO_5.out) hb); have n1_ := Aside0.mk (blk_below (g := gb242) (o := .cells #[.slice A0_0 l0_0.length c0_0, .slice (some ad243) l0_1.length c0_1] 25 (0, 0)) (zk BK242.out) hb); have n2_ := Aside0.mk (below_step (zb1 HB.out GE242.out) hb); have n3_ := Aside0.mk (hbox); have n4_ := Aside0.mk ((by rw [hg]; exact (below_size (zb1 HB.out GE242.out)) : w.heap.size ≤ gb244)); have n5_ := Aside0.mk ((by rw [hg]; exact (below_size (zb1 HB.out GE242.out)) : w.heap.size ≤ gb244)); have n6_ := Aside0.mk ((by rw [hg]; exact Nat.ne_of_lt (blk_lt (g := gb242) (o := .cells #[.slice A0_0 l0_0.length c0_0, .slice (some ad243) l0_1.length c0_1] 25 (0, 0)) (zk BK242.out)) : gb242 ≠ gb244)); have n7_ := Aside0.mk ((by rw [hg]; exact Nat.ne_of_gt (blk_lt (g := gb242) (o := .cells #[.slice A0_0 l0_0.length c0_0, .slice (some ad243) l0_1.length c0_1] 25 (0, 0)) (zk BK242.out)) : gb244 ≠ gb242)); clear HO_5; clear BK242; clear HB; have HO_5 := n0_; have BK242 := n1_; have HB := n2_; have BK244 := n3_; have GW244 := n4_; have GE244 := n5_; have NB242_244 := n6_; have NB244_242 := n7_; clear n0_ n1_ n2_ n3_ n4_ n5_ n6_ n7_; clear hb hbox hg; have hnb26 := NB244_242.out; have hnc26 := NB242_244.out; have hcz27_0 : w25.cell? ⟨gb244, 0, none⟩ = some (.int .i64 0) := (blk_cell BK244.out 0).trans rfl; have hcz27_1 : w25.cell? ⟨gb244, 1, none⟩ = some (.int .i64 0) := (blk_cell BK244.out 1).trans rfl; have hfz27_0 := blk_frozen BK244.out 0; have hfz27_1 := blk_frozen BK244.out 1))
       go_roundg k1
       case measure => have := HK1.out; omega
       case rel => exact ⟨(x5_1), (wrap64 (x11_1 + 1)), rs, H', ⟨by have := HK1.out; omega⟩, ⟨by (with_reducible repeat (first | apply Kd.R_alloc | apply Kd.R_drewN | apply Kd.R_drew)); exact Kd.R_mono (Kd.R_far (p := ⟨gb244, 1, none⟩) (Kd.R_far (p := ⟨gb244, 0, none⟩) (Kd.R_types HO_5.out BK244.out (by decide)) (fun _ hk => hk.2) (.int .i64 ((rd_T43 l0_1 x11_1).f0))) (fun _ hk => hk.2) (.int .i64 ((rd_T43 l0_1 x11_1).f1))) (fun _ hk => trivial)⟩, ⟨by (with_reducible repeat (first | refine blk_drewN ?_ _ | refine blk_drew ?_ | refine blk_alloc ?_ _)); refine blk_far ?_ NB242_244.out _; (with_reducible repeat (first | refine blk_drewN ?_ _ | refine blk_drew ?_ | refine blk_alloc ?_ _)); refine blk_far ?_ NB242_244.out _; (with_reducible repeat (first | refine blk_drewN ?_ _ | refine blk_drew ?_ | refine blk_alloc ?_ _)); exact BK242.out⟩, ⟨zb2 HB.out GE242.out GE244.out⟩⟩
     ·rw [if_neg c7] at H
      exact absurd H (by simp)
    ·rw [if_neg c6] at H
     exact absurd H (by simp)
   ·rw [if_neg c5] at H
    have c5b0 : decide (x11_1 < (l0_1.length : Int)) = false := decide_eq_false c5
    clear c5
    obtain rfl := Option.some.inj H
    go_wp2
    go_ret
    exact ⟨_, by first | rfl | (simp [errW_none, errW_some] <;> rfl) | (simp [*, errW_none, errW_some] <;> rfl), by (with_reducible repeat (first | apply Kd.R_alloc | apply Kd.R_drewN | apply Kd.R_drew)); exact HO_5.out, zb1 HB.out GE242.out⟩

end Go.Proofs.Ytkdfohmceokchaa.PZoneJoined
