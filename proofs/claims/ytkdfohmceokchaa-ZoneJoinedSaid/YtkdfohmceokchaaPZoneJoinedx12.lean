-- Written by a program of this session (wip/oprint): after the pattern of the kit's print, which does not take this law. -- trimmed
import Derived.Test.YtkdfohmceokchaaPZoneJoinedx0
import Derived.Test.YtkdfohmceokchaaPZoneJoinedx2
import Derived.Test.YtkdfohmceokchaaPZoneJoinedx11
namespace Go.Proofs.Ytkdfohmceokchaa.PZoneJoined
open Go.RowKit Go.Proofs.YtkdfohmceokchaaW.PrintWords Go.Proofs.YtkdfohmceokchaaW.PrintLast Go.Proofs.YtkdfohmceokchaaW.PrintMore
attribute [local go_sem] max2_int min2_int max_two min_two max_three min_three max_four min_four   -- for this text's walks alone
set_option linter.unusedVariables false
set_option linter.unusedSimpArgs false

/-! ### route_next: function 48 -/
def route_next.l0 : Nat → List Int → List Int → Int → List Int → Int → Int → List (S46) → List (S43) → Option (Int)
 | 0, _, _, _, _, _, _, _, _ => none
 | k + 1, x1, x2, x3, x14, x15, x16, x249000, x249001 => if x16 < x15 then (if 0 ≤ x16 then (if x16 < (x14.length : Int) then (if 0 ≤ (wrap64 ((rd x14 x16) - 1)) then (if (wrap64 ((rd x14 x16) - 1)) < (x249001.length : Int) then ((slices_Contains_int_int.f k x1 (rd x14 x16)).bind fun t254 => (if t254 = true then (route_next.l0 k x1 x2 x3 x14 x15 (wrap64 (x16 + 1)) x249000 x249001) else (if 0 ≤ ((rd_T43 x249001 (wrap64 ((rd x14 x16) - 1))).f1) then (if ((rd_T43 x249001 (wrap64 ((rd x14 x16) - 1))).f1) < (x2.length : Int) then (if (rd x2 ((rd_T43 x249001 (wrap64 ((rd x14 x16) - 1))).f1)) < 0 then (route_next.l0 k x1 x2 x3 x14 x15 (wrap64 (x16 + 1)) x249000 x249001) else (if 0 ≤ x3 then (if x3 < (x2.length : Int) then (if (rd x2 ((rd_T43 x249001 (wrap64 ((rd x14 x16) - 1))).f1)) = (wrap64 ((rd x2 x3) - 1)) then (if (rd x2 ((rd_T43 x249001 (wrap64 ((rd x14 x16) - 1))).f1)) > 0 then (if ((rd_T43 x249001 (wrap64 ((rd x14 x16) - 1))).f1) < (x249000.length : Int) then (if ((rd_T46 x249000 ((rd_T43 x249001 (wrap64 ((rd x14 x16) - 1))).f1)).f1) = 1 then (some (rd x14 x16)) else (route_next.l0 k x1 x2 x3 x14 x15 (wrap64 (x16 + 1)) x249000 x249001)) else (none)) else (some (rd x14 x16))) else (route_next.l0 k x1 x2 x3 x14 x15 (wrap64 (x16 + 1)) x249000 x249001)) else (none)) else (none))) else (none)) else (none)))) else (none)) else (none)) else (none)) else (none)) else (some 0)
def route_next.f (k : Nat) (l0_0 : List (S46)) (l0_1 : List (S43)) (l1 : List Int) (l2 : List Int) (a3 : Int) : Option (Int) := (layout_Out.f k l0_0 l0_1 a3).bind fun t249 => (route_next.l0 k l1 l2 a3 t249 (t249.length : Int) 0 l0_0 l0_1)
theorem route_next.mono_l : ∀ k, (∀ y0 y1 y2 y3 y4 y5 y6 y7, LeO (route_next.l0 k y0 y1 y2 y3 y4 y5 y6 y7) (route_next.l0 (k + 1) y0 y1 y2 y3 y4 y5 y6 y7))
 | 0 => fun _ _ _ _ _ _ _ _ r h => by simp [route_next.l0] at h
 | k + 1 => by
  have ih0 := route_next.mono_l k
  ·intro y0 y1 y2 y3 y4 y5 y6 y7
   unfold route_next.l0
   repeat' first
   | (with_reducible exact ih0 _ _ _ _ _ _ _ _)
   | (with_reducible exact layout_Out.mono _ _ _ _)
   | (with_reducible exact slices_Contains_int_int.mono _ _ _)
   | (with_reducible exact LeO.refl _)
   | (with_reducible exact LeO.none _)
   | (with_reducible refine LeO.ite ?_ ?_)
   | (with_reducible refine LeO.bind ?_ (fun _ => ?_))
   | exact ih0 _ _ _ _ _ _ _ _
   | exact layout_Out.mono _ _ _ _
   | exact slices_Contains_int_int.mono _ _ _
   | exact LeO.none _
   | refine LeO.ite ?_ ?_
   | refine LeO.bind ?_ (fun _ => ?_)
theorem route_next.mono : ∀ a0 a1 a2 a3 a4 k, LeO (route_next.f k a0 a1 a2 a3 a4) (route_next.f (k + 1) a0 a1 a2 a3 a4) := by
 intro a0 a1 a2 a3 a4 k
 have ih0 := route_next.mono_l k
 unfold route_next.f
 repeat' first
   | (with_reducible exact ih0 _ _ _ _ _ _ _ _)
   | (with_reducible exact layout_Out.mono _ _ _ _)
   | (with_reducible exact slices_Contains_int_int.mono _ _ _)
   | (with_reducible exact LeO.refl _)
   | (with_reducible exact LeO.none _)
   | (with_reducible refine LeO.ite ?_ ?_)
   | (with_reducible refine LeO.bind ?_ (fun _ => ?_))
   | exact ih0 _ _ _ _ _ _ _ _
   | exact layout_Out.mono _ _ _ _
   | exact slices_Contains_int_int.mono _ _ _
   | exact LeO.none _
   | refine LeO.ite ?_ ?_
   | refine LeO.bind ?_ (fun _ => ?_)
def route_next.T5 : Bool × List (List Nat × List Nat) := (true, [([], []), ([], []), ([0, 1], [0, 1]), ([2, 2], [2]), ([3], [3]), ([3], [3]), ([4, 5, 3], [3, 4, 5]), ([6, 3], [3, 6]), ([7, 3], [3, 7]), ([3, 8], [3, 8]), ([9, 3], [9]), ([10], [10]), ([10], [10]), ([11, 12, 10], [10, 11, 12]), ([13, 10], [10, 13]), ([10], [10]), ([10], [10]), ([15, 16, 10], [10, 15, 16]), ([17, 10], [10, 17]), ([18, 10], [10, 18]), ([14, 19, 10], [10, 14, 19]), ([10, 20], [10, 20]), ([21, 10], [21]), ([22], [22]), ([22], [22]), ([23, 24, 22], [22, 23, 24]), ([25, 22], [22, 25]), ([26, 22], [22, 26]), ([27, 22, 22], [22, 27]), ([28], [28]), ([29, 28], [28, 29]), ([28], [28]), ([30, 31, 28], [28, 30, 31]), ([32, 28], [28, 32]), ([33, 28], [28, 33]), ([34, 28], [28, 34]), ([28, 35, 22], [22, 28, 35]), ([22, 36], [22, 36])])
def route_next.B5 : List Nat := [0, 0, 3, 7, 15, 15, 63, 127, 255, 511, 1023, 2047, 2047, 8191, 16383, 2047, 2047, 100351, 231423, 493567, 1048575, 2097151, 4194303, 8388607, 8388607, 33554431, 67108863, 134217727, 268435455, 536870911, 1073741823, 536870911, 4294967295, 8589934591, 17179869183, 34359738367, 68719476735, 137438953471]
theorem route_next.tab5 : rtab .any (opsOf Try.f48 5) = route_next.T5 := by kernel_rfl
theorem route_next.bits5 : waitsOk route_next.T5.2 route_next.B5 = true := by kernel_rfl
set_option maxHeartbeats 8000000 in
set_option maxRecDepth 100000 in
theorem route_next.calls (k : Nat) (A0_0 : Option Addr) (c0_0 : Nat) (l0_0 : List (S46)) (A0_1 : Option Addr) (c0_1 : Nat) (l0_1 : List (S43)) (A1 : Option Addr) (c1 : Nat) (l1 : List Int) (A2 : Option Addr) (c2 : Nat) (l2 : List Int) (a3 : Int) (r : Int) (w : World) (hr0_0 : Kd.C k46 w A0_0 l0_0.length l0_0) (hc0_0 : l0_0.length ≤ c0_0) (hr0_1 : Kd.C k43 w A0_1 l0_1.length l0_1) (hc0_1 : l0_1.length ≤ c0_1) (hr1 : Kd.C (Kd.int .i64) w A1 l1.length l1) (hc1 : l1.length ≤ c1) (hr2 : Kd.C (Kd.int .i64) w A2 l2.length l2) (hc2 : l2.length ≤ c2) (h : route_next.f k l0_0 l0_1 l1 l2 a3 = some r) :
  Calls Try.prog 48 #[.agg #[.slice A0_0 l0_0.length c0_0, .slice A0_1 l0_1.length c0_1], .slice A1 l1.length c1, .slice A2 l2.length c2, .int .i64 a3] w fun e w' => e = .returned (.int .i64 r) ∧ Below w.heap.size w w' := by
 have hu25 := Try.underlying25
 have HR0_0 := Aside0.mk hr0_0
 have HC0_0 := Aside0.mk hc0_0
 clear hr0_0 hc0_0
 have HR0_1 := Aside0.mk hr0_1
 have HC0_1 := Aside0.mk hc0_1
 clear hr0_1 hc0_1
 have HR1 := Aside0.mk hr1
 have HC1 := Aside0.mk hc1
 clear hr1 hc1
 have HR2 := Aside0.mk hr2
 have HC2 := Aside0.mk hc2
 clear hr2 hc2
 have HB := Aside0.mk (Below.refl w.heap.size w)
 have H : ((layout_Out.f k l0_0 l0_1 a3).bind fun t249 => (route_next.l0 k l1 l2 a3 t249 (t249.length : Int) 0 l0_0 l0_1)) = some r := h
 clear h
 replace H := Option.bind_eq_some_iff.mp H
 obtain ⟨t249, A50, H⟩ := H
 replace H : (route_next.l0 k l1 l2 a3 t249 (t249.length : Int) 0 l0_0 l0_1) = some r := H
 have A5 := Aside0.mk A50
 clear A50
 have H' := Aside0.mk H
 clear H
 go_enter Try.func48, Try.ntmps48
 go_wp2_with (first | ((with_reducible refine gate_dst (N := 4) rfl ?_); refine box_event ?hg (N := 4) ?hd (cs := #[.slice A0_0 l0_0.length c0_0, .slice A0_1 l0_1.length c0_1]) (t := 25) ?hr ?_; (case hd => rfl); (case hg => rfl); (case hr => first | (go_simp; done) | (go_simp; rfl)); intro gb248 hg w6 hbox hb; have n0_ := Aside0.mk (below_step (zb0 HB.out) hb); have n1_ := Aside0.mk (hbox); have n2_ := Aside0.mk ((by rw [hg]; exact (below_size (zb0 HB.out)) : w.heap.size ≤ gb248)); have n3_ := Aside0.mk ((by rw [hg]; exact (below_size (zb0 HB.out)) : w.heap.size ≤ gb248)); clear HB; have HB := n0_; have BK248 := n1_; have GW248 := n2_; have GE248 := n3_; clear n0_ n1_ n2_ n3_; clear hb hbox hg; have hcz7_0 : w6.cell? ⟨gb248, 0, none⟩ = some (.slice A0_0 l0_0.length c0_0) := (blk_cell BK248.out 0).trans rfl; have hcz7_1 : w6.cell? ⟨gb248, 1, none⟩ = some (.slice A0_1 l0_1.length c0_1) := (blk_cell BK248.out 1).trans rfl; have hfz7_0 := blk_frozen BK248.out 0; have hfz7_1 := blk_frozen BK248.out 1) | ((with_reducible refine gate_callee (f := 55) rfl ?_); refine goesL_ (some 14) rfl rfl Try.func55 (by kernel_rfl) rfl #[.agg #[.slice A0_0 l0_0.length c0_0, .slice A0_1 l0_1.length c0_1], .int .i64 a3] rfl am ?_; (with_reducible refine (layout_Out.calls k _ _ l0_0 _ _ l0_1 a3 t249 _ ?side1 ?side2 ?side3 ?side4 A5.out).mono ?_); (case side1 => exact zc HR0_0.out HB.out); (case side2 => exact HC0_0.out); (case side3 => exact zc HR0_1.out HB.out); (case side4 => exact HC0_1.out); rintro e w8 ⟨v250, rfl, ho0, hb⟩; refine ⟨_, rfl, ?_⟩; have n0_ := Aside0.mk (Kd.R_lower ho0 (below_size (zb1 HB.out GE248.out))); have n1_ := Aside0.mk (blk_below (g := gb248) (o := .cells #[.slice A0_0 l0_0.length c0_0, .slice A0_1 l0_1.length c0_1] 25 (0, 0)) (zk BK248.out) hb); have n2_ := Aside0.mk (below_step (zb1 HB.out GE248.out) hb); clear BK248; clear HB; have HO251 := n0_; have BK248 := n1_; have HB := n2_; clear n0_ n1_ n2_; (try clear hb); (try clear hb2); (try clear hk); (try clear hi); (try clear ho0); obtain ⟨Ao9, co9, eo9⟩ := Kd.R_slice HO251.out; subst eo9))
 go_loopg [16] k (fun kq v16 w' => ∃ (x16_1 : Int), v16 = .int .i64 x16_1 ∧ Aside0 (route_next.l0 kq l1 l2 a3 t249 (t249.length : Int) x16_1 l0_0 l0_1 = some r) ∧ Aside0 (kq ≤ k) ∧ Aside0 (Kd.R (Kd.int .i64) 3 w' w.heap.size (fun _ => True) (.slice Ao9 t249.length co9) t249) ∧ Aside0 (w'.heap[gb248]? = some (.cells #[(.slice A0_0 l0_0.length c0_0), (.slice A0_1 l0_1.length c0_1)] 25 (0, 0))) ∧ Aside0 (Below w.heap.size w w'))
 case atStart => exact ⟨(0), rs, H', ⟨Nat.le_refl _⟩, ⟨zr HO251.out⟩, ⟨zk BK248.out⟩, ⟨zb1 HB.out GE248.out⟩⟩
 case round =>
  clear H'
  try clear c1
  try clear c2
  try clear p2
  try clear c4
  try clear c5
  try clear hcz7_0
  try clear hcz7_1
  try clear hfz7_0
  try clear hfz7_1
  obtain ⟨x16_1, rfl, HA, HK1, HO_14, BK248, HB⟩ := hrel
  cases gk with
  | zero => exact absurd HA.out (by simp [route_next.l0])
  | succ k1 =>
   have H := HA.out
   clear HA
   simp only [route_next.l0] at H
   by_cases c10 : x16_1 < (t249.length : Int)
   ·rw [if_pos c10] at H
    have c10b0 : decide (x16_1 < (t249.length : Int)) = true := decide_eq_true c10
    clear c10
    by_cases c11 : 0 ≤ x16_1
    ·rw [if_pos c11] at H
     have c11b0 : decide (0 ≤ x16_1) = true := decide_eq_true c11
     clear c11
     by_cases c12 : x16_1 < (t249.length : Int)
     ·rw [if_pos c12] at H
      have c12b0 : decide (x16_1 < (t249.length : Int)) = true := decide_eq_true c12
      clear c12
      obtain ⟨ji13, hji13⟩ : ∃ j_ : Int, (wrap64 ((rd t249 x16_1) - 1)) = j_ := ⟨_, rfl⟩
      replace H : (if 0 ≤ (ji13) then (if (ji13) < (l0_1.length : Int) then ((slices_Contains_int_int.f k1 l1 (rd t249 x16_1)).bind fun t254 => (if t254 = true then (route_next.l0 k1 l1 l2 a3 t249 (t249.length : Int) (wrap64 (x16_1 + 1)) l0_0 l0_1) else (if 0 ≤ ((rd_T43 l0_1 (ji13)).f1) then (if ((rd_T43 l0_1 (ji13)).f1) < (l2.length : Int) then (if (rd l2 ((rd_T43 l0_1 (ji13)).f1)) < 0 then (route_next.l0 k1 l1 l2 a3 t249 (t249.length : Int) (wrap64 (x16_1 + 1)) l0_0 l0_1) else (if 0 ≤ a3 then (if a3 < (l2.length : Int) then (if (rd l2 ((rd_T43 l0_1 (ji13)).f1)) = (wrap64 ((rd l2 a3) - 1)) then (if (rd l2 ((rd_T43 l0_1 (ji13)).f1)) > 0 then (if ((rd_T43 l0_1 (ji13)).f1) < (l0_0.length : Int) then (if ((rd_T46 l0_0 ((rd_T43 l0_1 (ji13)).f1)).f1) = 1 then (some (rd t249 x16_1)) else (route_next.l0 k1 l1 l2 a3 t249 (t249.length : Int) (wrap64 (x16_1 + 1)) l0_0 l0_1)) else (none)) else (some (rd t249 x16_1))) else (route_next.l0 k1 l1 l2 a3 t249 (t249.length : Int) (wrap64 (x16_1 + 1)) l0_0 l0_1)) else (none)) else (none))) else (none)) else (none)))) else (none)) else (none)) = some r := by first | (rw [hji13] at H; exact H) | (simp only [hji13] at H ⊢; exact H)
      have hji13w : (IntKind.i64.wrap ((rd t249 x16_1) - 1)) = ji13 := (i64_w _).trans hji13
      by_cases c14 : 0 ≤ (ji13)
      ·rw [if_pos c14] at H
       have c14b0 : decide (0 ≤ (ji13)) = true := decide_eq_true c14
       clear c14
       by_cases c15 : (ji13) < (l0_1.length : Int)
       ·rw [if_pos c15] at H
        have c15b0 : decide ((ji13) < (l0_1.length : Int)) = true := decide_eq_true c15
        clear c15
        replace H := Option.bind_eq_some_iff.mp H
        obtain ⟨t254, A160, H⟩ := H
        replace H : (if t254 = true then (route_next.l0 k1 l1 l2 a3 t249 (t249.length : Int) (wrap64 (x16_1 + 1)) l0_0 l0_1) else (if 0 ≤ ((rd_T43 l0_1 (ji13)).f1) then (if ((rd_T43 l0_1 (ji13)).f1) < (l2.length : Int) then (if (rd l2 ((rd_T43 l0_1 (ji13)).f1)) < 0 then (route_next.l0 k1 l1 l2 a3 t249 (t249.length : Int) (wrap64 (x16_1 + 1)) l0_0 l0_1) else (if 0 ≤ a3 then (if a3 < (l2.length : Int) then (if (rd l2 ((rd_T43 l0_1 (ji13)).f1)) = (wrap64 ((rd l2 a3) - 1)) then (if (rd l2 ((rd_T43 l0_1 (ji13)).f1)) > 0 then (if ((rd_T43 l0_1 (ji13)).f1) < (l0_0.length : Int) then (if ((rd_T46 l0_0 ((rd_T43 l0_1 (ji13)).f1)).f1) = 1 then (some (rd t249 x16_1)) else (route_next.l0 k1 l1 l2 a3 t249 (t249.length : Int) (wrap64 (x16_1 + 1)) l0_0 l0_1)) else (none)) else (some (rd t249 x16_1))) else (route_next.l0 k1 l1 l2 a3 t249 (t249.length : Int) (wrap64 (x16_1 + 1)) l0_0 l0_1)) else (none)) else (none))) else (none)) else (none))) = some r := H
        have A16 := Aside0.mk A160
        clear A160
        by_cases c17 : t254 = true
        ·subst c17
         have H1 : (route_next.l0 k1 l1 l2 a3 t249 (t249.length : Int) (wrap64 (x16_1 + 1)) l0_0 l0_1) = some r := by rw [if_pos rfl] at H; exact H
         clear H
         have H := H1
         clear H1
         have H' := Aside0.mk H
         clear H
         have p252 : 0 ≤ (x16_1 : Int) := oda
         have q252 : x16_1 < (t249.length : Int) := oda
         obtain ⟨ad252, e252, hx252_0⟩ := Kd.at_int (Kd.R_reads' HO_14.out).2.2 x16_1 p252 q252
         cases e252
         replace p252 := eq_true p252
         replace q252 := eq_true q252
         have hcz18_0 : wr.cell? ⟨gb248, 0, none⟩ = some (.slice A0_0 l0_0.length c0_0) := (blk_cell BK248.out 0).trans rfl
         have hcz18_1 : wr.cell? ⟨gb248, 1, none⟩ = some (.slice A0_1 l0_1.length c0_1) := (blk_cell BK248.out 1).trans rfl
         have hfz18_0 := blk_frozen BK248.out 0
         have hfz18_1 := blk_frozen BK248.out 1
         have p253 : 0 ≤ ((ji13) : Int) := oda
         have q253 : (ji13) < (l0_1.length : Int) := oda
         obtain ⟨ad253, e253, hx253_0, hx253_1⟩ := at_T43 HR0_1.out (ji13) p253 q253
         cases e253
         replace hx253_0 := zx HB.out hx253_0
         replace hx253_1 := zx HB.out hx253_1
         replace p253 := eq_true p253
         replace q253 := eq_true q253
         try go_wp2
         have n0_ := Aside0.mk (Kd.R_drew HO_14.out)
         have n1_ := Aside0.mk (blk_drew BK248.out)
         have n2_ := Aside0.mk (below_drew1 HB.out)
         clear HO_14
         clear BK248
         clear HB
         have HO_14 := n0_
         have BK248 := n1_
         have HB := n2_
         clear n0_ n1_ n2_
         refine start_ (n := 38) (S := fun w' => True) (ds := []) bq5 (by kernel_rfl) rfl rfl trivial (fun hHeld => ?_); refine with_tabW route_next.tab5 route_next.bits5 (fun HT_ HW_ => ?_)
         generalize wr.drew = w19 at HO_14 BK248 HB hHeld ⊢
         refine pp_ 0 27 (v := ?_) (a' := ?_) bq6 HT_ rfl rfl ?_ ?_ ?_
         rotate_left
         ·intro w'
          go_simp
          with_reducible rfl
         rotate_left
         ·simp only [Act.put, sa, sz, ss, i64_w, i32_w]
          rfl
         refine pp_ 1 28 (v := ?_) (a' := ?_) bq7 HT_ rfl rfl ?_ ?_ ?_
         rotate_left
         ·intro w'
          go_simp
          with_reducible rfl
         rotate_left
         ·simp only [Act.put, sa, sz, ss, i64_w, i32_w]
          rfl
         refine one_ (i := 2) (N := some 29) bq8 rfl rfl (one_of HT_.out (by kernel_rfl)) (by decide) (fun K hK => ?_)
         refine goes_ Try.func43 (by kernel_rfl) rfl #[.slice A1 l1.length c1, .int .i64 (rd t249 x16_1)] (by rfl) rfl rfl am ?_
         with_reducible refine (slices_Contains_int_int.calls k1 _ _ l1 (rd t249 x16_1) true _ ?side1 ?side2 A16.out).mono ?_
         (case side1 => exact zc HR1.out HB.out)
         (case side2 => exact HC1.out)
         rintro e w' ⟨rfl, ⟨nd, rfl⟩⟩
         refine ⟨_, rfl, ?_⟩
         refine hK.out _ _ trivial (fun hHeld => ?_)
         clear hK K
         refine norm_ (a' := ?_) ?_ ?_
         rotate_left
         ·show Act.put _ (some 29) _ = _
          simp only [Act.put, sa, sz, ss, i64_w, i32_w]
          rfl
         refine pp_ 3 30 (v := ?_) (a' := ?_) bq9 HT_ rfl rfl ?_ ?_ ?_
         rotate_left
         ·intro w'
          go_simp
          with_reducible rfl
         rotate_left
         ·simp only [Act.put, sa, sz, ss, i64_w, i32_w]
          rfl
         refine pu_ 4 31 (a' := ?_) bq10 HT_ rfl rfl ?_ ?_
         rotate_left
         ·simp only [Act.put, sa, sz, ss, i64_w, i32_w]
          rfl
         refine pu_ 5 32 (a' := ?_) bq11 HT_ rfl rfl ?_ ?_
         rotate_left
         ·simp only [Act.put, sa, sz, ss, i64_w, i32_w]
          rfl
         refine pu_ 6 33 (a' := ?_) bq12 HT_ rfl rfl ?_ ?_
         rotate_left
         ·simp only [Act.put, sa, sz, ss, i64_w, i32_w]
          rfl
         refine pu_ 7 34 (a' := ?_) bq13 HT_ rfl rfl ?_ ?_
         rotate_left
         ·simp only [Act.put, sa, sz, ss, i64_w, i32_w]
          rfl
         refine pu_ 8 35 (a' := ?_) bq14 HT_ rfl rfl ?_ ?_
         rotate_left
         ·simp only [Act.put, sa, sz, ss, i64_w, i32_w]
          rfl
         refine pp_ 9 36 (v := ?_) (a' := ?_) bq15 HT_ rfl rfl ?_ ?_ ?_
         rotate_left
         ·intro w'
          go_simp
          with_reducible rfl
         rotate_left
         ·simp only [Act.put, sa, sz, ss, i64_w, i32_w]
          rfl
         refine pp_ 10 37 (v := ?_) (a' := ?_) bq16 HT_ rfl rfl ?_ ?_ ?_
         rotate_left
         ·intro w'
          go_simp
          with_reducible rfl
         rotate_left
         ·simp only [Act.put, sa, sz, ss, i64_w, i32_w]
          rfl
         refine pu_ 11 38 (a' := ?_) bq17 HT_ rfl rfl ?_ ?_
         rotate_left
         ·simp only [Act.put, sa, sz, ss, i64_w, i32_w]
          rfl
         refine pu_ 12 39 (a' := ?_) bq18 HT_ rfl rfl ?_ ?_
         rotate_left
         ·simp only [Act.put, sa, sz, ss, i64_w, i32_w]
          rfl
         refine pu_ 13 40 (a' := ?_) bq19 HT_ rfl rfl ?_ ?_
         rotate_left
         ·simp only [Act.put, sa, sz, ss, i64_w, i32_w]
          rfl
         refine pu_ 14 41 (a' := ?_) bq20 HT_ rfl rfl ?_ ?_
         rotate_left
         ·simp only [Act.put, sa, sz, ss, i64_w, i32_w]
          rfl
         refine pu_ 15 42 (a' := ?_) bq21 HT_ rfl rfl ?_ ?_
         rotate_left
         ·simp only [Act.put, sa, sz, ss, i64_w, i32_w]
          rfl
         refine pu_ 16 43 (a' := ?_) bq22 HT_ rfl rfl ?_ ?_
         rotate_left
         ·simp only [Act.put, sa, sz, ss, i64_w, i32_w]
          rfl
         refine pu_ 17 44 (a' := ?_) bq23 HT_ rfl rfl ?_ ?_
         rotate_left
         ·simp only [Act.put, sa, sz, ss, i64_w, i32_w]
          rfl
         refine pu_ 18 45 (a' := ?_) bq24 HT_ rfl rfl ?_ ?_
         rotate_left
         ·simp only [Act.put, sa, sz, ss, i64_w, i32_w]
          rfl
         refine pu_ 19 46 (a' := ?_) bq25 HT_ rfl rfl ?_ ?_
         rotate_left
         ·simp only [Act.put, sa, sz, ss, i64_w, i32_w]
          rfl
         refine pu_ 20 47 (a' := ?_) bq26 HT_ rfl rfl ?_ ?_
         rotate_left
         ·simp only [Act.put, sa, sz, ss, i64_w, i32_w]
          rfl
         refine pp_ 21 48 (v := ?_) (a' := ?_) bq27 HT_ rfl rfl ?_ ?_ ?_
         rotate_left
         ·intro w'
          go_simp
          with_reducible rfl
         rotate_left
         ·simp only [Act.put, sa, sz, ss, i64_w, i32_w]
          rfl
         refine pp_ 22 49 (v := ?_) (a' := ?_) bq28 HT_ rfl rfl ?_ ?_ ?_
         rotate_left
         ·intro w'
          go_simp
          with_reducible rfl
         rotate_left
         ·simp only [Act.put, sa, sz, ss, i64_w, i32_w]
          rfl
         refine pu_ 23 50 (a' := ?_) bq29 HT_ rfl rfl ?_ ?_
         rotate_left
         ·simp only [Act.put, sa, sz, ss, i64_w, i32_w]
          rfl
         refine pu_ 24 51 (a' := ?_) bq30 HT_ rfl rfl ?_ ?_
         rotate_left
         ·simp only [Act.put, sa, sz, ss, i64_w, i32_w]
          rfl
         refine pu_ 25 52 (a' := ?_) bq31 HT_ rfl rfl ?_ ?_
         rotate_left
         ·simp only [Act.put, sa, sz, ss, i64_w, i32_w]
          rfl
         refine pu_ 26 53 (a' := ?_) bq32 HT_ rfl rfl ?_ ?_
         rotate_left
         ·simp only [Act.put, sa, sz, ss, i64_w, i32_w]
          rfl
         refine pu_ 27 54 (a' := ?_) bq33 HT_ rfl rfl ?_ ?_
         rotate_left
         ·simp only [Act.put, sa, sz, ss, i64_w, i32_w]
          rfl
         refine pu_ 28 55 (a' := ?_) bq34 HT_ rfl rfl ?_ ?_
         rotate_left
         ·simp only [Act.put, sa, sz, ss, i64_w, i32_w]
          rfl
         refine pu_ 29 56 (a' := ?_) bq35 HT_ rfl rfl ?_ ?_
         rotate_left
         ·simp only [Act.put, sa, sz, ss, i64_w, i32_w]
          rfl
         refine pu_ 30 57 (a' := ?_) bq36 HT_ rfl rfl ?_ ?_
         rotate_left
         ·simp only [Act.put, sa, sz, ss, i64_w, i32_w]
          rfl
         refine pu_ 31 58 (a' := ?_) bq37 HT_ rfl rfl ?_ ?_
         rotate_left
         ·simp only [Act.put, sa, sz, ss, i64_w, i32_w]
          rfl
         refine pu_ 32 59 (a' := ?_) bq38 HT_ rfl rfl ?_ ?_
         rotate_left
         ·simp only [Act.put, sa, sz, ss, i64_w, i32_w]
          rfl
         refine pu_ 33 60 (a' := ?_) bq39 HT_ rfl rfl ?_ ?_
         rotate_left
         ·simp only [Act.put, sa, sz, ss, i64_w, i32_w]
          rfl
         refine pu_ 34 61 (a' := ?_) bq40 HT_ rfl rfl ?_ ?_
         rotate_left
         ·simp only [Act.put, sa, sz, ss, i64_w, i32_w]
          rfl
         refine pu_ 35 62 (a' := ?_) bq41 HT_ rfl rfl ?_ ?_
         rotate_left
         ·simp only [Act.put, sa, sz, ss, i64_w, i32_w]
          rfl
         refine pu_ 36 63 (a' := ?_) bq42 HT_ rfl rfl ?_ ?_
         rotate_left
         ·simp only [Act.put, sa, sz, ss, i64_w, i32_w]
          rfl
         refine pp_ 37 64 (v := ?_) (a' := ?_) bq43 HT_ rfl rfl ?_ ?_ ?_
         rotate_left
         ·intro w'
          go_simp
          with_reducible rfl
         rotate_left
         ·simp only [Act.put, sa, sz, ss, i64_w, i32_w]
          rfl
         refine done_ (done_of HT_.out (by kernel_rfl)) ?_
         try go_wp2
         go_roundg k1
         case measure => have := HK1.out; omega
         case rel => exact ⟨(wrap64 (x16_1 + 1)), rs, H', ⟨by have := HK1.out; omega⟩, ⟨zr HO_14.out⟩, ⟨zk BK248.out⟩, ⟨zb1 HB.out GE248.out⟩⟩
        ·replace c17 := Bool.eq_false_iff.mpr c17
         subst c17
         have H1 : (if 0 ≤ ((rd_T43 l0_1 (ji13)).f1) then (if ((rd_T43 l0_1 (ji13)).f1) < (l2.length : Int) then (if (rd l2 ((rd_T43 l0_1 (ji13)).f1)) < 0 then (route_next.l0 k1 l1 l2 a3 t249 (t249.length : Int) (wrap64 (x16_1 + 1)) l0_0 l0_1) else (if 0 ≤ a3 then (if a3 < (l2.length : Int) then (if (rd l2 ((rd_T43 l0_1 (ji13)).f1)) = (wrap64 ((rd l2 a3) - 1)) then (if (rd l2 ((rd_T43 l0_1 (ji13)).f1)) > 0 then (if ((rd_T43 l0_1 (ji13)).f1) < (l0_0.length : Int) then (if ((rd_T46 l0_0 ((rd_T43 l0_1 (ji13)).f1)).f1) = 1 then (some (rd t249 x16_1)) else (route_next.l0 k1 l1 l2 a3 t249 (t249.length : Int) (wrap64 (x16_1 + 1)) l0_0 l0_1)) else (none)) else (some (rd t249 x16_1))) else (route_next.l0 k1 l1 l2 a3 t249 (t249.length : Int) (wrap64 (x16_1 + 1)) l0_0 l0_1)) else (none)) else (none))) else (none)) else (none)) = some r := by rw [if_neg (show ¬ (false = true) by decide)] at H; exact H
         clear H
         have H := H1
         clear H1
         by_cases c20 : 0 ≤ ((rd_T43 l0_1 (ji13)).f1)
         ·rw [if_pos c20] at H
          have c20b0 : decide (0 ≤ ((rd_T43 l0_1 (ji13)).f1)) = true := decide_eq_true c20
          clear c20
          by_cases c21 : ((rd_T43 l0_1 (ji13)).f1) < (l2.length : Int)
          ·rw [if_pos c21] at H
           have c21b0 : decide (((rd_T43 l0_1 (ji13)).f1) < (l2.length : Int)) = true := decide_eq_true c21
           clear c21
           by_cases c22 : (rd l2 ((rd_T43 l0_1 (ji13)).f1)) < 0
           ·rw [if_pos c22] at H
            have c22b0 : decide ((rd l2 ((rd_T43 l0_1 (ji13)).f1)) < 0) = true := decide_eq_true c22
            clear c22
            have H' := Aside0.mk H
            clear H
            have p252 : 0 ≤ (x16_1 : Int) := oda
            have q252 : x16_1 < (t249.length : Int) := oda
            obtain ⟨ad252, e252, hx252_0⟩ := Kd.at_int (Kd.R_reads' HO_14.out).2.2 x16_1 p252 q252
            cases e252
            replace p252 := eq_true p252
            replace q252 := eq_true q252
            have hcz23_0 : wr.cell? ⟨gb248, 0, none⟩ = some (.slice A0_0 l0_0.length c0_0) := (blk_cell BK248.out 0).trans rfl
            have hcz23_1 : wr.cell? ⟨gb248, 1, none⟩ = some (.slice A0_1 l0_1.length c0_1) := (blk_cell BK248.out 1).trans rfl
            have hfz23_0 := blk_frozen BK248.out 0
            have hfz23_1 := blk_frozen BK248.out 1
            have p253 : 0 ≤ ((ji13) : Int) := oda
            have q253 : (ji13) < (l0_1.length : Int) := oda
            obtain ⟨ad253, e253, hx253_0, hx253_1⟩ := at_T43 HR0_1.out (ji13) p253 q253
            cases e253
            replace hx253_0 := zx HB.out hx253_0
            replace hx253_1 := zx HB.out hx253_1
            replace p253 := eq_true p253
            replace q253 := eq_true q253
            try go_wp2
            have n0_ := Aside0.mk (Kd.R_drew HO_14.out)
            have n1_ := Aside0.mk (blk_drew BK248.out)
            have n2_ := Aside0.mk (below_drew1 HB.out)
            clear HO_14
            clear BK248
            clear HB
            have HO_14 := n0_
            have BK248 := n1_
            have HB := n2_
            clear n0_ n1_ n2_
            have p255 : 0 ≤ (((rd_T43 l0_1 (ji13)).f1) : Int) := oda
            have q255 : ((rd_T43 l0_1 (ji13)).f1) < (l2.length : Int) := oda
            obtain ⟨ad255, e255, hx255_0⟩ := Kd.at_int HR2.out ((rd_T43 l0_1 (ji13)).f1) p255 q255
            have hw255_0 := hx255_0
            cases e255
            replace hx255_0 := zx HB.out hx255_0
            replace p255 := eq_true p255
            replace q255 := eq_true q255
            refine start_ (n := 38) (S := fun w' => w'.cell? (ad255.add (((rd_T43 l0_1 (ji13)).f1)).toNat) = some (.int .i64 (rd l2 ((rd_T43 l0_1 (ji13)).f1)))) (ds := []) bq5 (by kernel_rfl) rfl rfl (((HB.out.cell (World.block_lt_of_cell? w _ hw255_0)).trans hw255_0)) (fun hHeld => ?_); refine with_tabW route_next.tab5 route_next.bits5 (fun HT_ HW_ => ?_)
            generalize wr.drew = w24 at HO_14 BK248 HB hx255_0 hHeld ⊢
            refine pp_ 0 27 (v := ?_) (a' := ?_) bq6 HT_ rfl rfl ?_ ?_ ?_
            rotate_left
            ·intro w'
             go_simp
             with_reducible rfl
            rotate_left
            ·simp only [Act.put, sa, sz, ss, i64_w, i32_w]
             rfl
            refine pp_ 1 28 (v := ?_) (a' := ?_) bq7 HT_ rfl rfl ?_ ?_ ?_
            rotate_left
            ·intro w'
             go_simp
             with_reducible rfl
            rotate_left
            ·simp only [Act.put, sa, sz, ss, i64_w, i32_w]
             rfl
            refine one_ (i := 2) (N := some 29) bq8 rfl rfl (one_of HT_.out (by kernel_rfl)) (by decide) (fun K hK => ?_)
            refine goes_ Try.func43 (by kernel_rfl) rfl #[.slice A1 l1.length c1, .int .i64 (rd t249 x16_1)] (by rfl) rfl rfl am ?_
            with_reducible refine (slices_Contains_int_int.calls k1 _ _ l1 (rd t249 x16_1) false _ ?side1 ?side2 A16.out).mono ?_
            (case side1 => exact zc HR1.out HB.out)
            (case side2 => exact HC1.out)
            rintro e w' ⟨rfl, ⟨nd, rfl⟩⟩
            refine ⟨_, rfl, ?_⟩
            refine hK.out _ _ (((HB.out.cell (World.block_lt_of_cell? w _ hw255_0)).trans hw255_0)) (fun hHeld => ?_)
            clear hK K
            refine norm_ (a' := ?_) ?_ ?_
            rotate_left
            ·show Act.put _ (some 29) _ = _
             simp only [Act.put, sa, sz, ss, i64_w, i32_w]
             rfl
            refine pp_ 3 30 (v := ?_) (a' := ?_) bq9 HT_ rfl rfl ?_ ?_ ?_
            rotate_left
            ·intro w'
             go_simp
             with_reducible rfl
            rotate_left
            ·simp only [Act.put, sa, sz, ss, i64_w, i32_w]
             rfl
            refine pp_ 4 31 (v := ?_) (a' := ?_) bq10 HT_ rfl rfl ?_ ?_ ?_
            rotate_left
            ·intro w'
             go_simp
             with_reducible rfl
            rotate_left
            ·simp only [Act.put, sa, sz, ss, i64_w, i32_w]
             rfl
            refine pp_ 5 32 (v := ?_) (a' := ?_) bq11 HT_ rfl rfl ?_ ?_ ?_
            rotate_left
            ·intro w'
             go_simp
             with_reducible rfl
            rotate_left
            ·simp only [Act.put, sa, sz, ss, i64_w, i32_w]
             rfl
            refine pp_ 6 33 (v := ?_) (a' := ?_) bq12 HT_ rfl rfl ?_ ?_ ?_
            rotate_left
            ·intro w'
             go_simp
             with_reducible rfl
            rotate_left
            ·simp only [Act.put, sa, sz, ss, i64_w, i32_w]
             rfl
            refine take_ (i := 7) (N := some 34) (v := ?_) (a' := ?_) bq13 rfl rfl (take_ofW HT_.out HW_.out (by kernel_rfl)) (fun _ _ _ h => h) (Or.inl ⟨by rfl, ?_⟩) hHeld ?_ ?_
            rotate_left
            ·intro w' s0
             go_simp
             with_reducible rfl
            rotate_left
            ·simp only [Act.put, sa, sz, ss, i64_w, i32_w]
             rfl
            refine pp_ 8 35 (v := ?_) (a' := ?_) bq14 HT_ rfl rfl ?_ ?_ ?_
            rotate_left
            ·intro w'
             go_simp
             with_reducible rfl
            rotate_left
            ·simp only [Act.put, sa, sz, ss, i64_w, i32_w]
             rfl
            refine pp_ 9 36 (v := ?_) (a' := ?_) bq15 HT_ rfl rfl ?_ ?_ ?_
            rotate_left
            ·intro w'
             go_simp
             with_reducible rfl
            rotate_left
            ·simp only [Act.put, sa, sz, ss, i64_w, i32_w]
             rfl
            refine pp_ 10 37 (v := ?_) (a' := ?_) bq16 HT_ rfl rfl ?_ ?_ ?_
            rotate_left
            ·intro w'
             go_simp
             with_reducible rfl
            rotate_left
            ·simp only [Act.put, sa, sz, ss, i64_w, i32_w]
             rfl
            refine pu_ 11 38 (a' := ?_) bq17 HT_ rfl rfl ?_ ?_
            rotate_left
            ·simp only [Act.put, sa, sz, ss, i64_w, i32_w]
             rfl
            refine pu_ 12 39 (a' := ?_) bq18 HT_ rfl rfl ?_ ?_
            rotate_left
            ·simp only [Act.put, sa, sz, ss, i64_w, i32_w]
             rfl
            refine pu_ 13 40 (a' := ?_) bq19 HT_ rfl rfl ?_ ?_
            rotate_left
            ·simp only [Act.put, sa, sz, ss, i64_w, i32_w]
             rfl
            refine pu_ 14 41 (a' := ?_) bq20 HT_ rfl rfl ?_ ?_
            rotate_left
            ·simp only [Act.put, sa, sz, ss, i64_w, i32_w]
             rfl
            refine pu_ 15 42 (a' := ?_) bq21 HT_ rfl rfl ?_ ?_
            rotate_left
            ·simp only [Act.put, sa, sz, ss, i64_w, i32_w]
             rfl
            refine pu_ 16 43 (a' := ?_) bq22 HT_ rfl rfl ?_ ?_
            rotate_left
            ·simp only [Act.put, sa, sz, ss, i64_w, i32_w]
             rfl
            refine pu_ 17 44 (a' := ?_) bq23 HT_ rfl rfl ?_ ?_
            rotate_left
            ·simp only [Act.put, sa, sz, ss, i64_w, i32_w]
             rfl
            refine pu_ 18 45 (a' := ?_) bq24 HT_ rfl rfl ?_ ?_
            rotate_left
            ·simp only [Act.put, sa, sz, ss, i64_w, i32_w]
             rfl
            refine pu_ 19 46 (a' := ?_) bq25 HT_ rfl rfl ?_ ?_
            rotate_left
            ·simp only [Act.put, sa, sz, ss, i64_w, i32_w]
             rfl
            refine pu_ 20 47 (a' := ?_) bq26 HT_ rfl rfl ?_ ?_
            rotate_left
            ·simp only [Act.put, sa, sz, ss, i64_w, i32_w]
             rfl
            refine pp_ 21 48 (v := ?_) (a' := ?_) bq27 HT_ rfl rfl ?_ ?_ ?_
            rotate_left
            ·intro w'
             go_simp
             with_reducible rfl
            rotate_left
            ·simp only [Act.put, sa, sz, ss, i64_w, i32_w]
             rfl
            refine pp_ 22 49 (v := ?_) (a' := ?_) bq28 HT_ rfl rfl ?_ ?_ ?_
            rotate_left
            ·intro w'
             go_simp
             with_reducible rfl
            rotate_left
            ·simp only [Act.put, sa, sz, ss, i64_w, i32_w]
             rfl
            refine pu_ 23 50 (a' := ?_) bq29 HT_ rfl rfl ?_ ?_
            rotate_left
            ·simp only [Act.put, sa, sz, ss, i64_w, i32_w]
             rfl
            refine pu_ 24 51 (a' := ?_) bq30 HT_ rfl rfl ?_ ?_
            rotate_left
            ·simp only [Act.put, sa, sz, ss, i64_w, i32_w]
             rfl
            refine pu_ 25 52 (a' := ?_) bq31 HT_ rfl rfl ?_ ?_
            rotate_left
            ·simp only [Act.put, sa, sz, ss, i64_w, i32_w]
             rfl
            refine pu_ 26 53 (a' := ?_) bq32 HT_ rfl rfl ?_ ?_
            rotate_left
            ·simp only [Act.put, sa, sz, ss, i64_w, i32_w]
             rfl
            refine pu_ 27 54 (a' := ?_) bq33 HT_ rfl rfl ?_ ?_
            rotate_left
            ·simp only [Act.put, sa, sz, ss, i64_w, i32_w]
             rfl
            refine pu_ 28 55 (a' := ?_) bq34 HT_ rfl rfl ?_ ?_
            rotate_left
            ·simp only [Act.put, sa, sz, ss, i64_w, i32_w]
             rfl
            refine pu_ 29 56 (a' := ?_) bq35 HT_ rfl rfl ?_ ?_
            rotate_left
            ·simp only [Act.put, sa, sz, ss, i64_w, i32_w]
             rfl
            refine pu_ 30 57 (a' := ?_) bq36 HT_ rfl rfl ?_ ?_
            rotate_left
            ·simp only [Act.put, sa, sz, ss, i64_w, i32_w]
             rfl
            refine pu_ 31 58 (a' := ?_) bq37 HT_ rfl rfl ?_ ?_
            rotate_left
            ·simp only [Act.put, sa, sz, ss, i64_w, i32_w]
             rfl
            refine pu_ 32 59 (a' := ?_) bq38 HT_ rfl rfl ?_ ?_
            rotate_left
            ·simp only [Act.put, sa, sz, ss, i64_w, i32_w]
             rfl
            refine pu_ 33 60 (a' := ?_) bq39 HT_ rfl rfl ?_ ?_
            rotate_left
            ·simp only [Act.put, sa, sz, ss, i64_w, i32_w]
             rfl
            refine pu_ 34 61 (a' := ?_) bq40 HT_ rfl rfl ?_ ?_
            rotate_left
            ·simp only [Act.put, sa, sz, ss, i64_w, i32_w]
             rfl
            refine pu_ 35 62 (a' := ?_) bq41 HT_ rfl rfl ?_ ?_
            rotate_left
            ·simp only [Act.put, sa, sz, ss, i64_w, i32_w]
             rfl
            refine pu_ 36 63 (a' := ?_) bq42 HT_ rfl rfl ?_ ?_
            rotate_left
            ·simp only [Act.put, sa, sz, ss, i64_w, i32_w]
             rfl
            refine pp_ 37 64 (v := ?_) (a' := ?_) bq43 HT_ rfl rfl ?_ ?_ ?_
            rotate_left
            ·intro w'
             go_simp
             with_reducible rfl
            rotate_left
            ·simp only [Act.put, sa, sz, ss, i64_w, i32_w]
             rfl
            refine done_ (done_of HT_.out (by kernel_rfl)) ?_
            try go_wp2
            go_roundg k1
            case measure => have := HK1.out; omega
            case rel => exact ⟨(wrap64 (x16_1 + 1)), rs, H', ⟨by have := HK1.out; omega⟩, ⟨zr HO_14.out⟩, ⟨zk BK248.out⟩, ⟨zb1 HB.out GE248.out⟩⟩
           ·rw [if_neg c22] at H
            have c22b0 : decide ((rd l2 ((rd_T43 l0_1 (ji13)).f1)) < 0) = false := decide_eq_false c22
            clear c22
            by_cases c25 : 0 ≤ a3
            ·rw [if_pos c25] at H
             have c25b0 : decide (0 ≤ a3) = true := decide_eq_true c25
             clear c25
             by_cases c26 : a3 < (l2.length : Int)
             ·rw [if_pos c26] at H
              have c26b0 : decide (a3 < (l2.length : Int)) = true := decide_eq_true c26
              clear c26
              by_cases c27 : (rd l2 ((rd_T43 l0_1 (ji13)).f1)) = (wrap64 ((rd l2 a3) - 1))
              ·rw [if_pos c27] at H
               have c27b0 : ((rd l2 ((rd_T43 l0_1 (ji13)).f1)) == (wrap64 ((rd l2 a3) - 1))) = true := beq_iff_eq.mpr c27
               have c27b1 : ((rd l2 ((rd_T43 l0_1 (ji13)).f1)) != (wrap64 ((rd l2 a3) - 1))) = false := bne_eq_false_iff_eq.mpr c27
               clear c27
               by_cases c28 : (rd l2 ((rd_T43 l0_1 (ji13)).f1)) > 0
               ·rw [if_pos c28] at H
                have c28b0 : decide (0 < (rd l2 ((rd_T43 l0_1 (ji13)).f1))) = true := decide_eq_true c28
                clear c28
                by_cases c29 : ((rd_T43 l0_1 (ji13)).f1) < (l0_0.length : Int)
                ·rw [if_pos c29] at H
                 have c29b0 : decide (((rd_T43 l0_1 (ji13)).f1) < (l0_0.length : Int)) = true := decide_eq_true c29
                 clear c29
                 by_cases c30 : ((rd_T46 l0_0 ((rd_T43 l0_1 (ji13)).f1)).f1) = 1
                 ·rw [if_pos c30] at H
                  have c30b0 : (((rd_T46 l0_0 ((rd_T43 l0_1 (ji13)).f1)).f1) == 1) = true := beq_iff_eq.mpr c30
                  have c30b1 : (((rd_T46 l0_0 ((rd_T43 l0_1 (ji13)).f1)).f1) != 1) = false := bne_eq_false_iff_eq.mpr c30
                  clear c30
                  obtain rfl := Option.some.inj H
                  have p252 : 0 ≤ (x16_1 : Int) := oda
                  have q252 : x16_1 < (t249.length : Int) := oda
                  obtain ⟨ad252, e252, hx252_0⟩ := Kd.at_int (Kd.R_reads' HO_14.out).2.2 x16_1 p252 q252
                  cases e252
                  replace p252 := eq_true p252
                  replace q252 := eq_true q252
                  have hcz31_0 : wr.cell? ⟨gb248, 0, none⟩ = some (.slice A0_0 l0_0.length c0_0) := (blk_cell BK248.out 0).trans rfl
                  have hcz31_1 : wr.cell? ⟨gb248, 1, none⟩ = some (.slice A0_1 l0_1.length c0_1) := (blk_cell BK248.out 1).trans rfl
                  have hfz31_0 := blk_frozen BK248.out 0
                  have hfz31_1 := blk_frozen BK248.out 1
                  have p253 : 0 ≤ ((ji13) : Int) := oda
                  have q253 : (ji13) < (l0_1.length : Int) := oda
                  obtain ⟨ad253, e253, hx253_0, hx253_1⟩ := at_T43 HR0_1.out (ji13) p253 q253
                  cases e253
                  replace hx253_0 := zx HB.out hx253_0
                  replace hx253_1 := zx HB.out hx253_1
                  replace p253 := eq_true p253
                  replace q253 := eq_true q253
                  try go_wp2
                  have n0_ := Aside0.mk (Kd.R_drew HO_14.out)
                  have n1_ := Aside0.mk (blk_drew BK248.out)
                  have n2_ := Aside0.mk (below_drew1 HB.out)
                  clear HO_14
                  clear BK248
                  clear HB
                  have HO_14 := n0_
                  have BK248 := n1_
                  have HB := n2_
                  clear n0_ n1_ n2_
                  have p255 : 0 ≤ (((rd_T43 l0_1 (ji13)).f1) : Int) := oda
                  have q255 : ((rd_T43 l0_1 (ji13)).f1) < (l2.length : Int) := oda
                  obtain ⟨ad255, e255, hx255_0⟩ := Kd.at_int HR2.out ((rd_T43 l0_1 (ji13)).f1) p255 q255
                  have hw255_0 := hx255_0
                  cases e255
                  replace hx255_0 := zx HB.out hx255_0
                  replace p255 := eq_true p255
                  replace q255 := eq_true q255
                  have p256 : 0 ≤ (((rd_T43 l0_1 (ji13)).f1) : Int) := oda
                  have q256 : ((rd_T43 l0_1 (ji13)).f1) < (l2.length : Int) := oda
                  obtain ⟨ad256, e256, hx256_0⟩ := Kd.at_int HR2.out ((rd_T43 l0_1 (ji13)).f1) p256 q256
                  have hw256_0 := hx256_0
                  obtain rfl : ad255 = ad256 := (by injection e256)
                  replace hx256_0 := zx HB.out hx256_0
                  replace p256 := eq_true p256
                  replace q256 := eq_true q256
                  have p257 : 0 ≤ (a3 : Int) := oda
                  have q257 : a3 < (l2.length : Int) := oda
                  obtain ⟨ad257, e257, hx257_0⟩ := Kd.at_int HR2.out a3 p257 q257
                  have hw257_0 := hx257_0
                  obtain rfl : ad255 = ad257 := (by injection e257)
                  replace hx257_0 := zx HB.out hx257_0
                  replace p257 := eq_true p257
                  replace q257 := eq_true q257
                  have p258 : 0 ≤ (((rd_T43 l0_1 (ji13)).f1) : Int) := oda
                  have q258 : ((rd_T43 l0_1 (ji13)).f1) < (l2.length : Int) := oda
                  obtain ⟨ad258, e258, hx258_0⟩ := Kd.at_int HR2.out ((rd_T43 l0_1 (ji13)).f1) p258 q258
                  have hw258_0 := hx258_0
                  obtain rfl : ad255 = ad258 := (by injection e258)
                  replace hx258_0 := zx HB.out hx258_0
                  replace p258 := eq_true p258
                  replace q258 := eq_true q258
                  have p259 : 0 ≤ (((rd_T43 l0_1 (ji13)).f1) : Int) := oda
                  have q259 : ((rd_T43 l0_1 (ji13)).f1) < (l0_0.length : Int) := oda
                  obtain ⟨ad259, e259, hx259_0, hx259_1, hx259_2⟩ := at_T46 HR0_0.out ((rd_T43 l0_1 (ji13)).f1) p259 q259
                  have hw259_2 := hx259_2
                  have hw259_1 := hx259_1
                  have hw259_0 := hx259_0
                  cases e259
                  replace hx259_0 := zx HB.out hx259_0
                  replace hx259_1 := zx HB.out hx259_1
                  replace hx259_2 := zx HB.out hx259_2
                  replace p259 := eq_true p259
                  replace q259 := eq_true q259
                  refine start_ (n := 38) (S := fun w' => w'.cell? ⟨gb248, 0, none⟩ = some (.slice (some ad259) l0_0.length c0_0) ∧ w'.cell? ⟨gb248, 1, none⟩ = some (.slice (some ad253) l0_1.length c0_1) ∧ w'.cell? (ad255.add (((rd_T43 l0_1 (ji13)).f1)).toNat) = some (.int .i64 (rd l2 ((rd_T43 l0_1 (ji13)).f1))) ∧ w'.cell? (ad255.add (((rd_T43 l0_1 (ji13)).f1)).toNat) = some (.int .i64 (rd l2 ((rd_T43 l0_1 (ji13)).f1))) ∧ w'.cell? (ad255.add (a3).toNat) = some (.int .i64 (rd l2 a3)) ∧ w'.cell? (ad255.add (((rd_T43 l0_1 (ji13)).f1)).toNat) = some (.int .i64 (rd l2 ((rd_T43 l0_1 (ji13)).f1))) ∧ w'.cell? (ad259.add ((((rd_T43 l0_1 (ji13)).f1)).toNat * 3)) = some (.string ((rd_T46 l0_0 ((rd_T43 l0_1 (ji13)).f1)).f0)) ∧ w'.cell? ⟨(ad259.add ((((rd_T43 l0_1 (ji13)).f1)).toNat * 3)).block, (ad259.add ((((rd_T43 l0_1 (ji13)).f1)).toNat * 3)).off + 1, none⟩ = some (.int .i64 ((rd_T46 l0_0 ((rd_T43 l0_1 (ji13)).f1)).f1)) ∧ w'.cell? ⟨(ad259.add ((((rd_T43 l0_1 (ji13)).f1)).toNat * 3)).block, (ad259.add ((((rd_T43 l0_1 (ji13)).f1)).toNat * 3)).off + 2, none⟩ = some (.int .i64 ((rd_T46 l0_0 ((rd_T43 l0_1 (ji13)).f1)).f2))) (ds := []) bq5 (by kernel_rfl) rfl rfl ⟨(blk_cell BK248.out 0).trans rfl, (blk_cell BK248.out 1).trans rfl, ((HB.out.cell (World.block_lt_of_cell? w _ hw255_0)).trans hw255_0), ((HB.out.cell (World.block_lt_of_cell? w _ hw256_0)).trans hw256_0), ((HB.out.cell (World.block_lt_of_cell? w _ hw257_0)).trans hw257_0), ((HB.out.cell (World.block_lt_of_cell? w _ hw258_0)).trans hw258_0), ((HB.out.cell (World.block_lt_of_cell? w _ hw259_0)).trans hw259_0), ((HB.out.cell (World.block_lt_of_cell? w _ hw259_1)).trans hw259_1), ((HB.out.cell (World.block_lt_of_cell? w _ hw259_2)).trans hw259_2)⟩ (fun hHeld => ?_); refine with_tabW route_next.tab5 route_next.bits5 (fun HT_ HW_ => ?_)
                  generalize wr.drew = w32 at HO_14 BK248 HB hx255_0 hx256_0 hx257_0 hx258_0 hx259_0 hx259_1 hx259_2 hHeld ⊢
                  refine pp_ 0 27 (v := ?_) (a' := ?_) bq6 HT_ rfl rfl ?_ ?_ ?_
                  rotate_left
                  ·intro w'
                   go_simp
                   with_reducible rfl
                  rotate_left
                  ·simp only [Act.put, sa, sz, ss, i64_w, i32_w]
                   rfl
                  refine pp_ 1 28 (v := ?_) (a' := ?_) bq7 HT_ rfl rfl ?_ ?_ ?_
                  rotate_left
                  ·intro w'
                   go_simp
                   with_reducible rfl
                  rotate_left
                  ·simp only [Act.put, sa, sz, ss, i64_w, i32_w]
                   rfl
                  refine one_ (i := 2) (N := some 29) bq8 rfl rfl (one_of HT_.out (by kernel_rfl)) (by decide) (fun K hK => ?_)
                  refine goes_ Try.func43 (by kernel_rfl) rfl #[.slice A1 l1.length c1, .int .i64 (rd t249 x16_1)] (by rfl) rfl rfl am ?_
                  with_reducible refine (slices_Contains_int_int.calls k1 _ _ l1 (rd t249 x16_1) false _ ?side1 ?side2 A16.out).mono ?_
                  (case side1 => exact zc HR1.out HB.out)
                  (case side2 => exact HC1.out)
                  rintro e w' ⟨rfl, ⟨nd, rfl⟩⟩
                  refine ⟨_, rfl, ?_⟩
                  refine hK.out _ _ ⟨(blk_cell BK248.out 0).trans rfl, (blk_cell BK248.out 1).trans rfl, ((HB.out.cell (World.block_lt_of_cell? w _ hw255_0)).trans hw255_0), ((HB.out.cell (World.block_lt_of_cell? w _ hw256_0)).trans hw256_0), ((HB.out.cell (World.block_lt_of_cell? w _ hw257_0)).trans hw257_0), ((HB.out.cell (World.block_lt_of_cell? w _ hw258_0)).trans hw258_0), ((HB.out.cell (World.block_lt_of_cell? w _ hw259_0)).trans hw259_0), ((HB.out.cell (World.block_lt_of_cell? w _ hw259_1)).trans hw259_1), ((HB.out.cell (World.block_lt_of_cell? w _ hw259_2)).trans hw259_2)⟩ (fun hHeld => ?_)
                  clear hK K
                  refine norm_ (a' := ?_) ?_ ?_
                  rotate_left
                  ·show Act.put _ (some 29) _ = _
                   simp only [Act.put, sa, sz, ss, i64_w, i32_w]
                   rfl
                  refine pp_ 3 30 (v := ?_) (a' := ?_) bq9 HT_ rfl rfl ?_ ?_ ?_
                  rotate_left
                  ·intro w'
                   go_simp
                   with_reducible rfl
                  rotate_left
                  ·simp only [Act.put, sa, sz, ss, i64_w, i32_w]
                   rfl
                  refine pp_ 4 31 (v := ?_) (a' := ?_) bq10 HT_ rfl rfl ?_ ?_ ?_
                  rotate_left
                  ·intro w'
                   go_simp
                   with_reducible rfl
                  rotate_left
                  ·simp only [Act.put, sa, sz, ss, i64_w, i32_w]
                   rfl
                  refine pp_ 5 32 (v := ?_) (a' := ?_) bq11 HT_ rfl rfl ?_ ?_ ?_
                  rotate_left
                  ·intro w'
                   go_simp
                   with_reducible rfl
                  rotate_left
                  ·simp only [Act.put, sa, sz, ss, i64_w, i32_w]
                   rfl
                  refine pp_ 6 33 (v := ?_) (a' := ?_) bq12 HT_ rfl rfl ?_ ?_ ?_
                  rotate_left
                  ·intro w'
                   go_simp
                   with_reducible rfl
                  rotate_left
                  ·simp only [Act.put, sa, sz, ss, i64_w, i32_w]
                   rfl
                  refine take_ (i := 7) (N := some 34) (v := ?_) (a' := ?_) bq13 rfl rfl (take_ofW HT_.out HW_.out (by kernel_rfl)) (fun _ _ _ h => h) (Or.inl ⟨by rfl, ?_⟩) hHeld ?_ ?_
                  rotate_left
                  ·rintro w' ⟨s0, s1, s2, s3, s4, s5, s6, s7, s8⟩
                   go_simp
                   with_reducible rfl
                  rotate_left
                  ·simp only [Act.put, sa, sz, ss, i64_w, i32_w]
                   rfl
                  refine pp_ 8 35 (v := ?_) (a' := ?_) bq14 HT_ rfl rfl ?_ ?_ ?_
                  rotate_left
                  ·intro w'
                   go_simp
                   with_reducible rfl
                  rotate_left
                  ·simp only [Act.put, sa, sz, ss, i64_w, i32_w]
                   rfl
                  refine pp_ 9 36 (v := ?_) (a' := ?_) bq15 HT_ rfl rfl ?_ ?_ ?_
                  rotate_left
                  ·intro w'
                   go_simp
                   with_reducible rfl
                  rotate_left
                  ·simp only [Act.put, sa, sz, ss, i64_w, i32_w]
                   rfl
                  refine pp_ 10 37 (v := ?_) (a' := ?_) bq16 HT_ rfl rfl ?_ ?_ ?_
                  rotate_left
                  ·intro w'
                   go_simp
                   with_reducible rfl
                  rotate_left
                  ·simp only [Act.put, sa, sz, ss, i64_w, i32_w]
                   rfl
                  refine pp_ 11 38 (v := ?_) (a' := ?_) bq17 HT_ rfl rfl ?_ ?_ ?_
                  rotate_left
                  ·intro w'
                   go_simp
                   with_reducible rfl
                  rotate_left
                  ·simp only [Act.put, sa, sz, ss, i64_w, i32_w]
                   rfl
                  refine pp_ 12 39 (v := ?_) (a' := ?_) bq18 HT_ rfl rfl ?_ ?_ ?_
                  rotate_left
                  ·intro w'
                   go_simp
                   with_reducible rfl
                  rotate_left
                  ·simp only [Act.put, sa, sz, ss, i64_w, i32_w]
                   rfl
                  refine pp_ 13 40 (v := ?_) (a' := ?_) bq19 HT_ rfl rfl ?_ ?_ ?_
                  rotate_left
                  ·intro w'
                   go_simp
                   with_reducible rfl
                  rotate_left
                  ·simp only [Act.put, sa, sz, ss, i64_w, i32_w]
                   rfl
                  refine pp_ 15 42 (v := ?_) (a' := ?_) bq44 HT_ rfl rfl ?_ ?_ ?_
                  rotate_left
                  ·intro w'
                   go_simp
                   with_reducible rfl
                  rotate_left
                  ·simp only [Act.put, sa, sz, ss, i64_w, i32_w]
                   rfl
                  refine pp_ 16 43 (v := ?_) (a' := ?_) bq45 HT_ rfl rfl ?_ ?_ ?_
                  rotate_left
                  ·intro w'
                   go_simp
                   with_reducible rfl
                  rotate_left
                  ·simp only [Act.put, sa, sz, ss, i64_w, i32_w]
                   rfl
                  refine pp_ 17 44 (v := ?_) (a' := ?_) bq46 HT_ rfl rfl ?_ ?_ ?_
                  rotate_left
                  ·intro w'
                   go_simp
                   with_reducible rfl
                  rotate_left
                  ·simp only [Act.put, sa, sz, ss, i64_w, i32_w]
                   rfl
                  refine take_ (i := 14) (N := some 41) (v := ?_) (a' := ?_) bq23 rfl rfl (take_ofW HT_.out HW_.out (by kernel_rfl)) (fun _ _ _ h => h) (Or.inl ⟨by rfl, ?_⟩) hHeld ?_ ?_
                  rotate_left
                  ·rintro w' ⟨s0, s1, s2, s3, s4, s5, s6, s7, s8⟩
                   go_simp
                   with_reducible rfl
                  rotate_left
                  ·simp only [Act.put, sa, sz, ss, i64_w, i32_w]
                   rfl
                  refine take_ (i := 18) (N := some 45) (v := ?_) (a' := ?_) bq24 rfl rfl (take_ofW HT_.out HW_.out (by kernel_rfl)) (fun _ _ _ h => h) (Or.inl ⟨by rfl, ?_⟩) hHeld ?_ ?_
                  rotate_left
                  ·rintro w' ⟨s0, s1, s2, s3, s4, s5, s6, s7, s8⟩
                   go_simp
                   with_reducible rfl
                  rotate_left
                  ·simp only [Act.put, sa, sz, ss, i64_w, i32_w]
                   rfl
                  refine pp_ 19 46 (v := ?_) (a' := ?_) bq25 HT_ rfl rfl ?_ ?_ ?_
                  rotate_left
                  ·intro w'
                   go_simp
                   with_reducible rfl
                  rotate_left
                  ·simp only [Act.put, sa, sz, ss, i64_w, i32_w]
                   rfl
                  refine pp_ 20 47 (v := ?_) (a' := ?_) bq26 HT_ rfl rfl ?_ ?_ ?_
                  rotate_left
                  ·intro w'
                   go_simp
                   with_reducible rfl
                  rotate_left
                  ·simp only [Act.put, sa, sz, ss, i64_w, i32_w]
                   rfl
                  refine pp_ 21 48 (v := ?_) (a' := ?_) bq27 HT_ rfl rfl ?_ ?_ ?_
                  rotate_left
                  ·intro w'
                   go_simp
                   with_reducible rfl
                  rotate_left
                  ·simp only [Act.put, sa, sz, ss, i64_w, i32_w]
                   rfl
                  refine pp_ 22 49 (v := ?_) (a' := ?_) bq28 HT_ rfl rfl ?_ ?_ ?_
                  rotate_left
                  ·intro w'
                   go_simp
                   with_reducible rfl
                  rotate_left
                  ·simp only [Act.put, sa, sz, ss, i64_w, i32_w]
                   rfl
                  refine pp_ 23 50 (v := ?_) (a' := ?_) bq29 HT_ rfl rfl ?_ ?_ ?_
                  rotate_left
                  ·intro w'
                   go_simp
                   with_reducible rfl
                  rotate_left
                  ·simp only [Act.put, sa, sz, ss, i64_w, i32_w]
                   rfl
                  refine pp_ 24 51 (v := ?_) (a' := ?_) bq30 HT_ rfl rfl ?_ ?_ ?_
                  rotate_left
                  ·intro w'
                   go_simp
                   with_reducible rfl
                  rotate_left
                  ·simp only [Act.put, sa, sz, ss, i64_w, i32_w]
                   rfl
                  refine pp_ 25 52 (v := ?_) (a' := ?_) bq31 HT_ rfl rfl ?_ ?_ ?_
                  rotate_left
                  ·intro w'
                   go_simp
                   with_reducible rfl
                  rotate_left
                  ·simp only [Act.put, sa, sz, ss, i64_w, i32_w]
                   rfl
                  refine take_ (i := 26) (N := some 53) (v := ?_) (a' := ?_) bq32 rfl rfl (take_ofW HT_.out HW_.out (by kernel_rfl)) (fun _ _ _ h => h) (Or.inl ⟨by rfl, ?_⟩) hHeld ?_ ?_
                  rotate_left
                  ·rintro w' ⟨s0, s1, s2, s3, s4, s5, s6, s7, s8⟩
                   go_simp
                   with_reducible rfl
                  rotate_left
                  ·simp only [Act.put, sa, sz, ss, i64_w, i32_w]
                   rfl
                  refine pp_ 27 54 (v := ?_) (a' := ?_) bq33 HT_ rfl rfl ?_ ?_ ?_
                  rotate_left
                  ·intro w'
                   go_simp
                   with_reducible rfl
                  rotate_left
                  ·simp only [Act.put, sa, sz, ss, i64_w, i32_w]
                   rfl
                  refine pp_ 28 55 (v := ?_) (a' := ?_) bq34 HT_ rfl rfl ?_ ?_ ?_
                  rotate_left
                  ·intro w'
                   go_simp
                   with_reducible rfl
                  rotate_left
                  ·simp only [Act.put, sa, sz, ss, i64_w, i32_w]
                   rfl
                  refine pp_ 29 56 (v := ?_) (a' := ?_) bq35 HT_ rfl rfl ?_ ?_ ?_
                  rotate_left
                  ·intro w'
                   go_simp
                   with_reducible rfl
                  rotate_left
                  ·simp only [Act.put, sa, sz, ss, i64_w, i32_w]
                   rfl
                  refine pp_ 31 58 (v := ?_) (a' := ?_) bq47 HT_ rfl rfl ?_ ?_ ?_
                  rotate_left
                  ·intro w'
                   go_simp
                   with_reducible rfl
                  rotate_left
                  ·simp only [Act.put, sa, sz, ss, i64_w, i32_w]
                   rfl
                  refine take_ (i := 30) (N := some 57) (v := ?_) (a' := ?_) bq37 rfl rfl (take_ofW HT_.out HW_.out (by kernel_rfl)) (fun _ _ _ h => h) (Or.inl ⟨by rfl, ?_⟩) hHeld ?_ ?_
                  rotate_left
                  ·rintro w' ⟨s0, s1, s2, s3, s4, s5, s6, s7, s8⟩
                   go_simp
                   with_reducible rfl
                  rotate_left
                  ·simp only [Act.put, sa, sz, ss, i64_w, i32_w]
                   rfl
                  refine pp_ 32 59 (v := ?_) (a' := ?_) bq38 HT_ rfl rfl ?_ ?_ ?_
                  rotate_left
                  ·intro w'
                   go_simp
                   with_reducible rfl
                  rotate_left
                  ·simp only [Act.put, sa, sz, ss, i64_w, i32_w]
                   rfl
                  refine pp_ 33 60 (v := ?_) (a' := ?_) bq39 HT_ rfl rfl ?_ ?_ ?_
                  rotate_left
                  ·intro w'
                   go_simp
                   with_reducible rfl
                  rotate_left
                  ·simp only [Act.put, sa, sz, ss, i64_w, i32_w]
                   rfl
                  refine take_ (i := 34) (N := some 61) (v := ?_) (a' := ?_) bq40 rfl rfl (take_ofW HT_.out HW_.out (by kernel_rfl)) (fun _ _ _ h => h) (Or.inl ⟨by rfl, ?_⟩) hHeld ?_ ?_
                  rotate_left
                  ·rintro w' ⟨s0, s1, s2, s3, s4, s5, s6, s7, s8⟩
                   go_simp
                   with_reducible rfl
                  rotate_left
                  ·simp only [Act.put, sa, sz, ss, i64_w, i32_w]
                   rfl
                  refine pp_ 35 62 (v := ?_) (a' := ?_) bq41 HT_ rfl rfl ?_ ?_ ?_
                  rotate_left
                  ·intro w'
                   go_simp
                   with_reducible rfl
                  rotate_left
                  ·simp only [Act.put, sa, sz, ss, i64_w, i32_w]
                   rfl
                  refine pp_ 36 63 (v := ?_) (a' := ?_) bq42 HT_ rfl rfl ?_ ?_ ?_
                  rotate_left
                  ·intro w'
                   go_simp
                   with_reducible rfl
                  rotate_left
                  ·simp only [Act.put, sa, sz, ss, i64_w, i32_w]
                   rfl
                  refine pp_ 37 64 (v := ?_) (a' := ?_) bq43 HT_ rfl rfl ?_ ?_ ?_
                  rotate_left
                  ·intro w'
                   go_simp
                   with_reducible rfl
                  rotate_left
                  ·simp only [Act.put, sa, sz, ss, i64_w, i32_w]
                   rfl
                  refine done_ (done_of HT_.out (by kernel_rfl)) ?_
                  try go_wp2
                  go_ret
                  exact ⟨by first | rfl | (simp [errW_none, errW_some] <;> rfl) | (simp only [← hji13]; first | rfl | (simp [errW_none, errW_some] <;> rfl)) | (simp [*, errW_none, errW_some] <;> rfl), zb1 HB.out GE248.out⟩
                 ·rw [if_neg c30] at H
                  have c30b0 : (((rd_T46 l0_0 ((rd_T43 l0_1 (ji13)).f1)).f1) == 1) = false := beq_eq_false_iff_ne.mpr c30
                  have c30b1 : (((rd_T46 l0_0 ((rd_T43 l0_1 (ji13)).f1)).f1) != 1) = true := bne_iff_ne.mpr c30
                  have H' := Aside0.mk H
                  clear H
                  have p252 : 0 ≤ (x16_1 : Int) := oda
                  have q252 : x16_1 < (t249.length : Int) := oda
                  obtain ⟨ad252, e252, hx252_0⟩ := Kd.at_int (Kd.R_reads' HO_14.out).2.2 x16_1 p252 q252
                  cases e252
                  replace p252 := eq_true p252
                  replace q252 := eq_true q252
                  have hcz33_0 : wr.cell? ⟨gb248, 0, none⟩ = some (.slice A0_0 l0_0.length c0_0) := (blk_cell BK248.out 0).trans rfl
                  have hcz33_1 : wr.cell? ⟨gb248, 1, none⟩ = some (.slice A0_1 l0_1.length c0_1) := (blk_cell BK248.out 1).trans rfl
                  have hfz33_0 := blk_frozen BK248.out 0
                  have hfz33_1 := blk_frozen BK248.out 1
                  have p253 : 0 ≤ ((ji13) : Int) := oda
                  have q253 : (ji13) < (l0_1.length : Int) := oda
                  obtain ⟨ad253, e253, hx253_0, hx253_1⟩ := at_T43 HR0_1.out (ji13) p253 q253
                  cases e253
                  replace hx253_0 := zx HB.out hx253_0
                  replace hx253_1 := zx HB.out hx253_1
                  replace p253 := eq_true p253
                  replace q253 := eq_true q253
                  try go_wp2
                  have n0_ := Aside0.mk (Kd.R_drew HO_14.out)
                  have n1_ := Aside0.mk (blk_drew BK248.out)
                  have n2_ := Aside0.mk (below_drew1 HB.out)
                  clear HO_14
                  clear BK248
                  clear HB
                  have HO_14 := n0_
                  have BK248 := n1_
                  have HB := n2_
                  clear n0_ n1_ n2_
                  have p255 : 0 ≤ (((rd_T43 l0_1 (ji13)).f1) : Int) := oda
                  have q255 : ((rd_T43 l0_1 (ji13)).f1) < (l2.length : Int) := oda
                  obtain ⟨ad255, e255, hx255_0⟩ := Kd.at_int HR2.out ((rd_T43 l0_1 (ji13)).f1) p255 q255
                  have hw255_0 := hx255_0
                  cases e255
                  replace hx255_0 := zx HB.out hx255_0
                  replace p255 := eq_true p255
                  replace q255 := eq_true q255
                  have p256 : 0 ≤ (((rd_T43 l0_1 (ji13)).f1) : Int) := oda
                  have q256 : ((rd_T43 l0_1 (ji13)).f1) < (l2.length : Int) := oda
                  obtain ⟨ad256, e256, hx256_0⟩ := Kd.at_int HR2.out ((rd_T43 l0_1 (ji13)).f1) p256 q256
                  have hw256_0 := hx256_0
                  obtain rfl : ad255 = ad256 := (by injection e256)
                  replace hx256_0 := zx HB.out hx256_0
                  replace p256 := eq_true p256
                  replace q256 := eq_true q256
                  have p257 : 0 ≤ (a3 : Int) := oda
                  have q257 : a3 < (l2.length : Int) := oda
                  obtain ⟨ad257, e257, hx257_0⟩ := Kd.at_int HR2.out a3 p257 q257
                  have hw257_0 := hx257_0
                  obtain rfl : ad255 = ad257 := (by injection e257)
                  replace hx257_0 := zx HB.out hx257_0
                  replace p257 := eq_true p257
                  replace q257 := eq_true q257
                  have p258 : 0 ≤ (((rd_T43 l0_1 (ji13)).f1) : Int) := oda
                  have q258 : ((rd_T43 l0_1 (ji13)).f1) < (l2.length : Int) := oda
                  obtain ⟨ad258, e258, hx258_0⟩ := Kd.at_int HR2.out ((rd_T43 l0_1 (ji13)).f1) p258 q258
                  have hw258_0 := hx258_0
                  obtain rfl : ad255 = ad258 := (by injection e258)
                  replace hx258_0 := zx HB.out hx258_0
                  replace p258 := eq_true p258
                  replace q258 := eq_true q258
                  have p259 : 0 ≤ (((rd_T43 l0_1 (ji13)).f1) : Int) := oda
                  have q259 : ((rd_T43 l0_1 (ji13)).f1) < (l0_0.length : Int) := oda
                  obtain ⟨ad259, e259, hx259_0, hx259_1, hx259_2⟩ := at_T46 HR0_0.out ((rd_T43 l0_1 (ji13)).f1) p259 q259
                  have hw259_2 := hx259_2
                  have hw259_1 := hx259_1
                  have hw259_0 := hx259_0
                  cases e259
                  replace hx259_0 := zx HB.out hx259_0
                  replace hx259_1 := zx HB.out hx259_1
                  replace hx259_2 := zx HB.out hx259_2
                  replace p259 := eq_true p259
                  replace q259 := eq_true q259
                  refine start_ (n := 38) (S := fun w' => w'.cell? ⟨gb248, 0, none⟩ = some (.slice (some ad259) l0_0.length c0_0) ∧ w'.cell? ⟨gb248, 1, none⟩ = some (.slice (some ad253) l0_1.length c0_1) ∧ w'.cell? (ad255.add (((rd_T43 l0_1 (ji13)).f1)).toNat) = some (.int .i64 (rd l2 ((rd_T43 l0_1 (ji13)).f1))) ∧ w'.cell? (ad255.add (((rd_T43 l0_1 (ji13)).f1)).toNat) = some (.int .i64 (rd l2 ((rd_T43 l0_1 (ji13)).f1))) ∧ w'.cell? (ad255.add (a3).toNat) = some (.int .i64 (rd l2 a3)) ∧ w'.cell? (ad255.add (((rd_T43 l0_1 (ji13)).f1)).toNat) = some (.int .i64 (rd l2 ((rd_T43 l0_1 (ji13)).f1))) ∧ w'.cell? (ad259.add ((((rd_T43 l0_1 (ji13)).f1)).toNat * 3)) = some (.string ((rd_T46 l0_0 ((rd_T43 l0_1 (ji13)).f1)).f0)) ∧ w'.cell? ⟨(ad259.add ((((rd_T43 l0_1 (ji13)).f1)).toNat * 3)).block, (ad259.add ((((rd_T43 l0_1 (ji13)).f1)).toNat * 3)).off + 1, none⟩ = some (.int .i64 ((rd_T46 l0_0 ((rd_T43 l0_1 (ji13)).f1)).f1)) ∧ w'.cell? ⟨(ad259.add ((((rd_T43 l0_1 (ji13)).f1)).toNat * 3)).block, (ad259.add ((((rd_T43 l0_1 (ji13)).f1)).toNat * 3)).off + 2, none⟩ = some (.int .i64 ((rd_T46 l0_0 ((rd_T43 l0_1 (ji13)).f1)).f2))) (ds := []) bq5 (by kernel_rfl) rfl rfl ⟨(blk_cell BK248.out 0).trans rfl, (blk_cell BK248.out 1).trans rfl, ((HB.out.cell (World.block_lt_of_cell? w _ hw255_0)).trans hw255_0), ((HB.out.cell (World.block_lt_of_cell? w _ hw256_0)).trans hw256_0), ((HB.out.cell (World.block_lt_of_cell? w _ hw257_0)).trans hw257_0), ((HB.out.cell (World.block_lt_of_cell? w _ hw258_0)).trans hw258_0), ((HB.out.cell (World.block_lt_of_cell? w _ hw259_0)).trans hw259_0), ((HB.out.cell (World.block_lt_of_cell? w _ hw259_1)).trans hw259_1), ((HB.out.cell (World.block_lt_of_cell? w _ hw259_2)).trans hw259_2)⟩ (fun hHeld => ?_); refine with_tabW route_next.tab5 route_next.bits5 (fun HT_ HW_ => ?_)
                  generalize wr.drew = w34 at HO_14 BK248 HB hx255_0 hx256_0 hx257_0 hx258_0 hx259_0 hx259_1 hx259_2 hHeld ⊢
                  refine pp_ 0 27 (v := ?_) (a' := ?_) bq6 HT_ rfl rfl ?_ ?_ ?_
                  rotate_left
                  ·intro w'
                   go_simp
                   with_reducible rfl
                  rotate_left
                  ·simp only [Act.put, sa, sz, ss, i64_w, i32_w]
                   rfl
                  refine pp_ 1 28 (v := ?_) (a' := ?_) bq7 HT_ rfl rfl ?_ ?_ ?_
                  rotate_left
                  ·intro w'
                   go_simp
                   with_reducible rfl
                  rotate_left
                  ·simp only [Act.put, sa, sz, ss, i64_w, i32_w]
                   rfl
                  refine one_ (i := 2) (N := some 29) bq8 rfl rfl (one_of HT_.out (by kernel_rfl)) (by decide) (fun K hK => ?_)
                  refine goes_ Try.func43 (by kernel_rfl) rfl #[.slice A1 l1.length c1, .int .i64 (rd t249 x16_1)] (by rfl) rfl rfl am ?_
                  with_reducible refine (slices_Contains_int_int.calls k1 _ _ l1 (rd t249 x16_1) false _ ?side1 ?side2 A16.out).mono ?_
                  (case side1 => exact zc HR1.out HB.out)
                  (case side2 => exact HC1.out)
                  rintro e w' ⟨rfl, ⟨nd, rfl⟩⟩
                  refine ⟨_, rfl, ?_⟩
                  refine hK.out _ _ ⟨(blk_cell BK248.out 0).trans rfl, (blk_cell BK248.out 1).trans rfl, ((HB.out.cell (World.block_lt_of_cell? w _ hw255_0)).trans hw255_0), ((HB.out.cell (World.block_lt_of_cell? w _ hw256_0)).trans hw256_0), ((HB.out.cell (World.block_lt_of_cell? w _ hw257_0)).trans hw257_0), ((HB.out.cell (World.block_lt_of_cell? w _ hw258_0)).trans hw258_0), ((HB.out.cell (World.block_lt_of_cell? w _ hw259_0)).trans hw259_0), ((HB.out.cell (World.block_lt_of_cell? w _ hw259_1)).trans hw259_1), ((HB.out.cell (World.block_lt_of_cell? w _ hw259_2)).trans hw259_2)⟩ (fun hHeld => ?_)
                  clear hK K
                  refine norm_ (a' := ?_) ?_ ?_
                  rotate_left
                  ·show Act.put _ (some 29) _ = _
                   simp only [Act.put, sa, sz, ss, i64_w, i32_w]
                   rfl
                  refine pp_ 3 30 (v := ?_) (a' := ?_) bq9 HT_ rfl rfl ?_ ?_ ?_
                  rotate_left
                  ·intro w'
                   go_simp
                   with_reducible rfl
                  rotate_left
                  ·simp only [Act.put, sa, sz, ss, i64_w, i32_w]
                   rfl
                  refine pp_ 4 31 (v := ?_) (a' := ?_) bq10 HT_ rfl rfl ?_ ?_ ?_
                  rotate_left
                  ·intro w'
                   go_simp
                   with_reducible rfl
                  rotate_left
                  ·simp only [Act.put, sa, sz, ss, i64_w, i32_w]
                   rfl
                  refine pp_ 5 32 (v := ?_) (a' := ?_) bq11 HT_ rfl rfl ?_ ?_ ?_
                  rotate_left
                  ·intro w'
                   go_simp
                   with_reducible rfl
                  rotate_left
                  ·simp only [Act.put, sa, sz, ss, i64_w, i32_w]
                   rfl
                  refine pp_ 6 33 (v := ?_) (a' := ?_) bq12 HT_ rfl rfl ?_ ?_ ?_
                  rotate_left
                  ·intro w'
                   go_simp
                   with_reducible rfl
                  rotate_left
                  ·simp only [Act.put, sa, sz, ss, i64_w, i32_w]
                   rfl
                  refine take_ (i := 7) (N := some 34) (v := ?_) (a' := ?_) bq13 rfl rfl (take_ofW HT_.out HW_.out (by kernel_rfl)) (fun _ _ _ h => h) (Or.inl ⟨by rfl, ?_⟩) hHeld ?_ ?_
                  rotate_left
                  ·rintro w' ⟨s0, s1, s2, s3, s4, s5, s6, s7, s8⟩
                   go_simp
                   with_reducible rfl
                  rotate_left
                  ·simp only [Act.put, sa, sz, ss, i64_w, i32_w]
                   rfl
                  refine pp_ 8 35 (v := ?_) (a' := ?_) bq14 HT_ rfl rfl ?_ ?_ ?_
                  rotate_left
                  ·intro w'
                   go_simp
                   with_reducible rfl
                  rotate_left
                  ·simp only [Act.put, sa, sz, ss, i64_w, i32_w]
                   rfl
                  refine pp_ 9 36 (v := ?_) (a' := ?_) bq15 HT_ rfl rfl ?_ ?_ ?_
                  rotate_left
                  ·intro w'
                   go_simp
                   with_reducible rfl
                  rotate_left
                  ·simp only [Act.put, sa, sz, ss, i64_w, i32_w]
                   rfl
                  refine pp_ 10 37 (v := ?_) (a' := ?_) bq16 HT_ rfl rfl ?_ ?_ ?_
                  rotate_left
                  ·intro w'
                   go_simp
                   with_reducible rfl
                  rotate_left
                  ·simp only [Act.put, sa, sz, ss, i64_w, i32_w]
                   rfl
                  refine pp_ 11 38 (v := ?_) (a' := ?_) bq17 HT_ rfl rfl ?_ ?_ ?_
                  rotate_left
                  ·intro w'
                   go_simp
                   with_reducible rfl
                  rotate_left
                  ·simp only [Act.put, sa, sz, ss, i64_w, i32_w]
                   rfl
                  refine pp_ 12 39 (v := ?_) (a' := ?_) bq18 HT_ rfl rfl ?_ ?_ ?_
                  rotate_left
                  ·intro w'
                   go_simp
                   with_reducible rfl
                  rotate_left
                  ·simp only [Act.put, sa, sz, ss, i64_w, i32_w]
                   rfl
                  refine pp_ 13 40 (v := ?_) (a' := ?_) bq19 HT_ rfl rfl ?_ ?_ ?_
                  rotate_left
                  ·intro w'
                   go_simp
                   with_reducible rfl
                  rotate_left
                  ·simp only [Act.put, sa, sz, ss, i64_w, i32_w]
                   rfl
                  refine pp_ 15 42 (v := ?_) (a' := ?_) bq44 HT_ rfl rfl ?_ ?_ ?_
                  rotate_left
                  ·intro w'
                   go_simp
                   with_reducible rfl
                  rotate_left
                  ·simp only [Act.put, sa, sz, ss, i64_w, i32_w]
                   rfl
                  refine pp_ 16 43 (v := ?_) (a' := ?_) bq45 HT_ rfl rfl ?_ ?_ ?_
                  rotate_left
                  ·intro w'
                   go_simp
                   with_reducible rfl
                  rotate_left
                  ·simp only [Act.put, sa, sz, ss, i64_w, i32_w]
                   rfl
                  refine pp_ 17 44 (v := ?_) (a' := ?_) bq46 HT_ rfl rfl ?_ ?_ ?_
                  rotate_left
                  ·intro w'
                   go_simp
                   with_reducible rfl
                  rotate_left
                  ·simp only [Act.put, sa, sz, ss, i64_w, i32_w]
                   rfl
                  refine take_ (i := 14) (N := some 41) (v := ?_) (a' := ?_) bq23 rfl rfl (take_ofW HT_.out HW_.out (by kernel_rfl)) (fun _ _ _ h => h) (Or.inl ⟨by rfl, ?_⟩) hHeld ?_ ?_
                  rotate_left
                  ·rintro w' ⟨s0, s1, s2, s3, s4, s5, s6, s7, s8⟩
                   go_simp
                   with_reducible rfl
                  rotate_left
                  ·simp only [Act.put, sa, sz, ss, i64_w, i32_w]
                   rfl
                  refine take_ (i := 18) (N := some 45) (v := ?_) (a' := ?_) bq24 rfl rfl (take_ofW HT_.out HW_.out (by kernel_rfl)) (fun _ _ _ h => h) (Or.inl ⟨by rfl, ?_⟩) hHeld ?_ ?_
                  rotate_left
                  ·rintro w' ⟨s0, s1, s2, s3, s4, s5, s6, s7, s8⟩
                   go_simp
                   with_reducible rfl
                  rotate_left
                  ·simp only [Act.put, sa, sz, ss, i64_w, i32_w]
                   rfl
                  refine pp_ 19 46 (v := ?_) (a' := ?_) bq25 HT_ rfl rfl ?_ ?_ ?_
                  rotate_left
                  ·intro w'
                   go_simp
                   with_reducible rfl
                  rotate_left
                  ·simp only [Act.put, sa, sz, ss, i64_w, i32_w]
                   rfl
                  refine pp_ 20 47 (v := ?_) (a' := ?_) bq26 HT_ rfl rfl ?_ ?_ ?_
                  rotate_left
                  ·intro w'
                   go_simp
                   with_reducible rfl
                  rotate_left
                  ·simp only [Act.put, sa, sz, ss, i64_w, i32_w]
                   rfl
                  refine pp_ 21 48 (v := ?_) (a' := ?_) bq27 HT_ rfl rfl ?_ ?_ ?_
                  rotate_left
                  ·intro w'
                   go_simp
                   with_reducible rfl
                  rotate_left
                  ·simp only [Act.put, sa, sz, ss, i64_w, i32_w]
                   rfl
                  refine pp_ 22 49 (v := ?_) (a' := ?_) bq28 HT_ rfl rfl ?_ ?_ ?_
                  rotate_left
                  ·intro w'
                   go_simp
                   with_reducible rfl
                  rotate_left
                  ·simp only [Act.put, sa, sz, ss, i64_w, i32_w]
                   rfl
                  refine pp_ 23 50 (v := ?_) (a' := ?_) bq29 HT_ rfl rfl ?_ ?_ ?_
                  rotate_left
                  ·intro w'
                   go_simp
                   with_reducible rfl
                  rotate_left
                  ·simp only [Act.put, sa, sz, ss, i64_w, i32_w]
                   rfl
                  refine pp_ 24 51 (v := ?_) (a' := ?_) bq30 HT_ rfl rfl ?_ ?_ ?_
                  rotate_left
                  ·intro w'
                   go_simp
                   with_reducible rfl
                  rotate_left
                  ·simp only [Act.put, sa, sz, ss, i64_w, i32_w]
                   rfl
                  refine pp_ 25 52 (v := ?_) (a' := ?_) bq31 HT_ rfl rfl ?_ ?_ ?_
                  rotate_left
                  ·intro w'
                   go_simp
                   with_reducible rfl
                  rotate_left
                  ·simp only [Act.put, sa, sz, ss, i64_w, i32_w]
                   rfl
                  refine take_ (i := 26) (N := some 53) (v := ?_) (a' := ?_) bq32 rfl rfl (take_ofW HT_.out HW_.out (by kernel_rfl)) (fun _ _ _ h => h) (Or.inl ⟨by rfl, ?_⟩) hHeld ?_ ?_
                  rotate_left
                  ·rintro w' ⟨s0, s1, s2, s3, s4, s5, s6, s7, s8⟩
                   go_simp
                   with_reducible rfl
                  rotate_left
                  ·simp only [Act.put, sa, sz, ss, i64_w, i32_w]
                   rfl
                  refine pp_ 27 54 (v := ?_) (a' := ?_) bq33 HT_ rfl rfl ?_ ?_ ?_
                  rotate_left
                  ·intro w'
                   go_simp
                   with_reducible rfl
                  rotate_left
                  ·simp only [Act.put, sa, sz, ss, i64_w, i32_w]
                   rfl
                  refine pp_ 28 55 (v := ?_) (a' := ?_) bq34 HT_ rfl rfl ?_ ?_ ?_
                  rotate_left
                  ·intro w'
                   go_simp
                   with_reducible rfl
                  rotate_left
                  ·simp only [Act.put, sa, sz, ss, i64_w, i32_w]
                   rfl
                  refine pp_ 29 56 (v := ?_) (a' := ?_) bq35 HT_ rfl rfl ?_ ?_ ?_
                  rotate_left
                  ·intro w'
                   go_simp
                   with_reducible rfl
                  rotate_left
                  ·simp only [Act.put, sa, sz, ss, i64_w, i32_w]
                   rfl
                  refine pp_ 31 58 (v := ?_) (a' := ?_) bq47 HT_ rfl rfl ?_ ?_ ?_
                  rotate_left
                  ·intro w'
                   go_simp
                   with_reducible rfl
                  rotate_left
                  ·simp only [Act.put, sa, sz, ss, i64_w, i32_w]
                   rfl
                  refine take_ (i := 30) (N := some 57) (v := ?_) (a' := ?_) bq37 rfl rfl (take_ofW HT_.out HW_.out (by kernel_rfl)) (fun _ _ _ h => h) (Or.inl ⟨by rfl, ?_⟩) hHeld ?_ ?_
                  rotate_left
                  ·rintro w' ⟨s0, s1, s2, s3, s4, s5, s6, s7, s8⟩
                   go_simp
                   with_reducible rfl
                  rotate_left
                  ·simp only [Act.put, sa, sz, ss, i64_w, i32_w]
                   rfl
                  refine pp_ 32 59 (v := ?_) (a' := ?_) bq38 HT_ rfl rfl ?_ ?_ ?_
                  rotate_left
                  ·intro w'
                   go_simp
                   with_reducible rfl
                  rotate_left
                  ·simp only [Act.put, sa, sz, ss, i64_w, i32_w]
                   rfl
                  refine pp_ 33 60 (v := ?_) (a' := ?_) bq39 HT_ rfl rfl ?_ ?_ ?_
                  rotate_left
                  ·intro w'
                   go_simp
                   with_reducible rfl
                  rotate_left
                  ·simp only [Act.put, sa, sz, ss, i64_w, i32_w]
                   rfl
                  refine take_ (i := 34) (N := some 61) (v := ?_) (a' := ?_) bq40 rfl rfl (take_ofW HT_.out HW_.out (by kernel_rfl)) (fun _ _ _ h => h) (Or.inl ⟨by rfl, ?_⟩) hHeld ?_ ?_
                  rotate_left
                  ·rintro w' ⟨s0, s1, s2, s3, s4, s5, s6, s7, s8⟩
                   go_simp
                   with_reducible rfl
                  rotate_left
                  ·simp only [Act.put, sa, sz, ss, i64_w, i32_w]
                   rfl
                  refine pp_ 35 62 (v := ?_) (a' := ?_) bq41 HT_ rfl rfl ?_ ?_ ?_
                  rotate_left
                  ·intro w'
                   go_simp
                   with_reducible rfl
                  rotate_left
                  ·simp only [Act.put, sa, sz, ss, i64_w, i32_w]
                   rfl
                  refine pp_ 36 63 (v := ?_) (a' := ?_) bq42 HT_ rfl rfl ?_ ?_ ?_
                  rotate_left
                  ·intro w'
                   go_simp
                   with_reducible rfl
                  rotate_left
                  ·simp only [Act.put, sa, sz, ss, i64_w, i32_w]
                   rfl
                  refine pp_ 37 64 (v := ?_) (a' := ?_) bq43 HT_ rfl rfl ?_ ?_ ?_
                  rotate_left
                  ·intro w'
                   go_simp
                   with_reducible rfl
                  rotate_left
                  ·simp only [Act.put, sa, sz, ss, i64_w, i32_w]
                   rfl
                  refine done_ (done_of HT_.out (by kernel_rfl)) ?_
                  try go_wp2
                  go_roundg k1
                  case measure => have := HK1.out; omega
                  case rel => exact ⟨(wrap64 (x16_1 + 1)), rs, H', ⟨by have := HK1.out; omega⟩, ⟨zr HO_14.out⟩, ⟨zk BK248.out⟩, ⟨zb1 HB.out GE248.out⟩⟩
                ·rw [if_neg c29] at H
                 exact absurd H (by simp)
               ·rw [if_neg c28] at H
                have c28b0 : decide (0 < (rd l2 ((rd_T43 l0_1 (ji13)).f1))) = false := decide_eq_false c28
                clear c28
                obtain rfl := Option.some.inj H
                have p252 : 0 ≤ (x16_1 : Int) := oda
                have q252 : x16_1 < (t249.length : Int) := oda
                obtain ⟨ad252, e252, hx252_0⟩ := Kd.at_int (Kd.R_reads' HO_14.out).2.2 x16_1 p252 q252
                cases e252
                replace p252 := eq_true p252
                replace q252 := eq_true q252
                have hcz35_0 : wr.cell? ⟨gb248, 0, none⟩ = some (.slice A0_0 l0_0.length c0_0) := (blk_cell BK248.out 0).trans rfl
                have hcz35_1 : wr.cell? ⟨gb248, 1, none⟩ = some (.slice A0_1 l0_1.length c0_1) := (blk_cell BK248.out 1).trans rfl
                have hfz35_0 := blk_frozen BK248.out 0
                have hfz35_1 := blk_frozen BK248.out 1
                have p253 : 0 ≤ ((ji13) : Int) := oda
                have q253 : (ji13) < (l0_1.length : Int) := oda
                obtain ⟨ad253, e253, hx253_0, hx253_1⟩ := at_T43 HR0_1.out (ji13) p253 q253
                cases e253
                replace hx253_0 := zx HB.out hx253_0
                replace hx253_1 := zx HB.out hx253_1
                replace p253 := eq_true p253
                replace q253 := eq_true q253
                try go_wp2
                have n0_ := Aside0.mk (Kd.R_drew HO_14.out)
                have n1_ := Aside0.mk (blk_drew BK248.out)
                have n2_ := Aside0.mk (below_drew1 HB.out)
                clear HO_14
                clear BK248
                clear HB
                have HO_14 := n0_
                have BK248 := n1_
                have HB := n2_
                clear n0_ n1_ n2_
                have p255 : 0 ≤ (((rd_T43 l0_1 (ji13)).f1) : Int) := oda
                have q255 : ((rd_T43 l0_1 (ji13)).f1) < (l2.length : Int) := oda
                obtain ⟨ad255, e255, hx255_0⟩ := Kd.at_int HR2.out ((rd_T43 l0_1 (ji13)).f1) p255 q255
                have hw255_0 := hx255_0
                cases e255
                replace hx255_0 := zx HB.out hx255_0
                replace p255 := eq_true p255
                replace q255 := eq_true q255
                have p256 : 0 ≤ (((rd_T43 l0_1 (ji13)).f1) : Int) := oda
                have q256 : ((rd_T43 l0_1 (ji13)).f1) < (l2.length : Int) := oda
                obtain ⟨ad256, e256, hx256_0⟩ := Kd.at_int HR2.out ((rd_T43 l0_1 (ji13)).f1) p256 q256
                have hw256_0 := hx256_0
                obtain rfl : ad255 = ad256 := (by injection e256)
                replace hx256_0 := zx HB.out hx256_0
                replace p256 := eq_true p256
                replace q256 := eq_true q256
                have p257 : 0 ≤ (a3 : Int) := oda
                have q257 : a3 < (l2.length : Int) := oda
                obtain ⟨ad257, e257, hx257_0⟩ := Kd.at_int HR2.out a3 p257 q257
                have hw257_0 := hx257_0
                obtain rfl : ad255 = ad257 := (by injection e257)
                replace hx257_0 := zx HB.out hx257_0
                replace p257 := eq_true p257
                replace q257 := eq_true q257
                have p258 : 0 ≤ (((rd_T43 l0_1 (ji13)).f1) : Int) := oda
                have q258 : ((rd_T43 l0_1 (ji13)).f1) < (l2.length : Int) := oda
                obtain ⟨ad258, e258, hx258_0⟩ := Kd.at_int HR2.out ((rd_T43 l0_1 (ji13)).f1) p258 q258
                have hw258_0 := hx258_0
                obtain rfl : ad255 = ad258 := (by injection e258)
                replace hx258_0 := zx HB.out hx258_0
                replace p258 := eq_true p258
                replace q258 := eq_true q258
                refine start_ (n := 38) (S := fun w' => w'.cell? (ad255.add (((rd_T43 l0_1 (ji13)).f1)).toNat) = some (.int .i64 (rd l2 ((rd_T43 l0_1 (ji13)).f1))) ∧ w'.cell? (ad255.add (((rd_T43 l0_1 (ji13)).f1)).toNat) = some (.int .i64 (rd l2 ((rd_T43 l0_1 (ji13)).f1))) ∧ w'.cell? (ad255.add (a3).toNat) = some (.int .i64 (rd l2 a3)) ∧ w'.cell? (ad255.add (((rd_T43 l0_1 (ji13)).f1)).toNat) = some (.int .i64 (rd l2 ((rd_T43 l0_1 (ji13)).f1)))) (ds := []) bq5 (by kernel_rfl) rfl rfl ⟨((HB.out.cell (World.block_lt_of_cell? w _ hw255_0)).trans hw255_0), ((HB.out.cell (World.block_lt_of_cell? w _ hw256_0)).trans hw256_0), ((HB.out.cell (World.block_lt_of_cell? w _ hw257_0)).trans hw257_0), ((HB.out.cell (World.block_lt_of_cell? w _ hw258_0)).trans hw258_0)⟩ (fun hHeld => ?_); refine with_tabW route_next.tab5 route_next.bits5 (fun HT_ HW_ => ?_)
                generalize wr.drew = w36 at HO_14 BK248 HB hx255_0 hx256_0 hx257_0 hx258_0 hHeld ⊢
                refine pp_ 0 27 (v := ?_) (a' := ?_) bq6 HT_ rfl rfl ?_ ?_ ?_
                rotate_left
                ·intro w'
                 go_simp
                 with_reducible rfl
                rotate_left
                ·simp only [Act.put, sa, sz, ss, i64_w, i32_w]
                 rfl
                refine pp_ 1 28 (v := ?_) (a' := ?_) bq7 HT_ rfl rfl ?_ ?_ ?_
                rotate_left
                ·intro w'
                 go_simp
                 with_reducible rfl
                rotate_left
                ·simp only [Act.put, sa, sz, ss, i64_w, i32_w]
                 rfl
                refine one_ (i := 2) (N := some 29) bq8 rfl rfl (one_of HT_.out (by kernel_rfl)) (by decide) (fun K hK => ?_)
                refine goes_ Try.func43 (by kernel_rfl) rfl #[.slice A1 l1.length c1, .int .i64 (rd t249 x16_1)] (by rfl) rfl rfl am ?_
                with_reducible refine (slices_Contains_int_int.calls k1 _ _ l1 (rd t249 x16_1) false _ ?side1 ?side2 A16.out).mono ?_
                (case side1 => exact zc HR1.out HB.out)
                (case side2 => exact HC1.out)
                rintro e w' ⟨rfl, ⟨nd, rfl⟩⟩
                refine ⟨_, rfl, ?_⟩
                refine hK.out _ _ ⟨((HB.out.cell (World.block_lt_of_cell? w _ hw255_0)).trans hw255_0), ((HB.out.cell (World.block_lt_of_cell? w _ hw256_0)).trans hw256_0), ((HB.out.cell (World.block_lt_of_cell? w _ hw257_0)).trans hw257_0), ((HB.out.cell (World.block_lt_of_cell? w _ hw258_0)).trans hw258_0)⟩ (fun hHeld => ?_)
                clear hK K
                refine norm_ (a' := ?_) ?_ ?_
                rotate_left
                ·show Act.put _ (some 29) _ = _
                 simp only [Act.put, sa, sz, ss, i64_w, i32_w]
                 rfl
                refine pp_ 3 30 (v := ?_) (a' := ?_) bq9 HT_ rfl rfl ?_ ?_ ?_
                rotate_left
                ·intro w'
                 go_simp
                 with_reducible rfl
                rotate_left
                ·simp only [Act.put, sa, sz, ss, i64_w, i32_w]
                 rfl
                refine pp_ 4 31 (v := ?_) (a' := ?_) bq10 HT_ rfl rfl ?_ ?_ ?_
                rotate_left
                ·intro w'
                 go_simp
                 with_reducible rfl
                rotate_left
                ·simp only [Act.put, sa, sz, ss, i64_w, i32_w]
                 rfl
                refine pp_ 5 32 (v := ?_) (a' := ?_) bq11 HT_ rfl rfl ?_ ?_ ?_
                rotate_left
                ·intro w'
                 go_simp
                 with_reducible rfl
                rotate_left
                ·simp only [Act.put, sa, sz, ss, i64_w, i32_w]
                 rfl
                refine pp_ 6 33 (v := ?_) (a' := ?_) bq12 HT_ rfl rfl ?_ ?_ ?_
                rotate_left
                ·intro w'
                 go_simp
                 with_reducible rfl
                rotate_left
                ·simp only [Act.put, sa, sz, ss, i64_w, i32_w]
                 rfl
                refine take_ (i := 7) (N := some 34) (v := ?_) (a' := ?_) bq13 rfl rfl (take_ofW HT_.out HW_.out (by kernel_rfl)) (fun _ _ _ h => h) (Or.inl ⟨by rfl, ?_⟩) hHeld ?_ ?_
                rotate_left
                ·rintro w' ⟨s0, s1, s2, s3⟩
                 go_simp
                 with_reducible rfl
                rotate_left
                ·simp only [Act.put, sa, sz, ss, i64_w, i32_w]
                 rfl
                refine pp_ 8 35 (v := ?_) (a' := ?_) bq14 HT_ rfl rfl ?_ ?_ ?_
                rotate_left
                ·intro w'
                 go_simp
                 with_reducible rfl
                rotate_left
                ·simp only [Act.put, sa, sz, ss, i64_w, i32_w]
                 rfl
                refine pp_ 9 36 (v := ?_) (a' := ?_) bq15 HT_ rfl rfl ?_ ?_ ?_
                rotate_left
                ·intro w'
                 go_simp
                 with_reducible rfl
                rotate_left
                ·simp only [Act.put, sa, sz, ss, i64_w, i32_w]
                 rfl
                refine pp_ 10 37 (v := ?_) (a' := ?_) bq16 HT_ rfl rfl ?_ ?_ ?_
                rotate_left
                ·intro w'
                 go_simp
                 with_reducible rfl
                rotate_left
                ·simp only [Act.put, sa, sz, ss, i64_w, i32_w]
                 rfl
                refine pp_ 11 38 (v := ?_) (a' := ?_) bq17 HT_ rfl rfl ?_ ?_ ?_
                rotate_left
                ·intro w'
                 go_simp
                 with_reducible rfl
                rotate_left
                ·simp only [Act.put, sa, sz, ss, i64_w, i32_w]
                 rfl
                refine pp_ 12 39 (v := ?_) (a' := ?_) bq18 HT_ rfl rfl ?_ ?_ ?_
                rotate_left
                ·intro w'
                 go_simp
                 with_reducible rfl
                rotate_left
                ·simp only [Act.put, sa, sz, ss, i64_w, i32_w]
                 rfl
                refine pp_ 13 40 (v := ?_) (a' := ?_) bq19 HT_ rfl rfl ?_ ?_ ?_
                rotate_left
                ·intro w'
                 go_simp
                 with_reducible rfl
                rotate_left
                ·simp only [Act.put, sa, sz, ss, i64_w, i32_w]
                 rfl
                refine pp_ 15 42 (v := ?_) (a' := ?_) bq44 HT_ rfl rfl ?_ ?_ ?_
                rotate_left
                ·intro w'
                 go_simp
                 with_reducible rfl
                rotate_left
                ·simp only [Act.put, sa, sz, ss, i64_w, i32_w]
                 rfl
                refine pp_ 16 43 (v := ?_) (a' := ?_) bq45 HT_ rfl rfl ?_ ?_ ?_
                rotate_left
                ·intro w'
                 go_simp
                 with_reducible rfl
                rotate_left
                ·simp only [Act.put, sa, sz, ss, i64_w, i32_w]
                 rfl
                refine pp_ 17 44 (v := ?_) (a' := ?_) bq46 HT_ rfl rfl ?_ ?_ ?_
                rotate_left
                ·intro w'
                 go_simp
                 with_reducible rfl
                rotate_left
                ·simp only [Act.put, sa, sz, ss, i64_w, i32_w]
                 rfl
                refine take_ (i := 14) (N := some 41) (v := ?_) (a' := ?_) bq23 rfl rfl (take_ofW HT_.out HW_.out (by kernel_rfl)) (fun _ _ _ h => h) (Or.inl ⟨by rfl, ?_⟩) hHeld ?_ ?_
                rotate_left
                ·rintro w' ⟨s0, s1, s2, s3⟩
                 go_simp
                 with_reducible rfl
                rotate_left
                ·simp only [Act.put, sa, sz, ss, i64_w, i32_w]
                 rfl
                refine take_ (i := 18) (N := some 45) (v := ?_) (a' := ?_) bq24 rfl rfl (take_ofW HT_.out HW_.out (by kernel_rfl)) (fun _ _ _ h => h) (Or.inl ⟨by rfl, ?_⟩) hHeld ?_ ?_
                rotate_left
                ·rintro w' ⟨s0, s1, s2, s3⟩
                 go_simp
                 with_reducible rfl
                rotate_left
                ·simp only [Act.put, sa, sz, ss, i64_w, i32_w]
                 rfl
                refine pp_ 19 46 (v := ?_) (a' := ?_) bq25 HT_ rfl rfl ?_ ?_ ?_
                rotate_left
                ·intro w'
                 go_simp
                 with_reducible rfl
                rotate_left
                ·simp only [Act.put, sa, sz, ss, i64_w, i32_w]
                 rfl
                refine pp_ 20 47 (v := ?_) (a' := ?_) bq26 HT_ rfl rfl ?_ ?_ ?_
                rotate_left
                ·intro w'
                 go_simp
                 with_reducible rfl
                rotate_left
                ·simp only [Act.put, sa, sz, ss, i64_w, i32_w]
                 rfl
                refine pp_ 21 48 (v := ?_) (a' := ?_) bq27 HT_ rfl rfl ?_ ?_ ?_
                rotate_left
                ·intro w'
                 go_simp
                 with_reducible rfl
                rotate_left
                ·simp only [Act.put, sa, sz, ss, i64_w, i32_w]
                 rfl
                refine pp_ 22 49 (v := ?_) (a' := ?_) bq28 HT_ rfl rfl ?_ ?_ ?_
                rotate_left
                ·intro w'
                 go_simp
                 with_reducible rfl
                rotate_left
                ·simp only [Act.put, sa, sz, ss, i64_w, i32_w]
                 rfl
                refine pp_ 23 50 (v := ?_) (a' := ?_) bq29 HT_ rfl rfl ?_ ?_ ?_
                rotate_left
                ·intro w'
                 go_simp
                 with_reducible rfl
                rotate_left
                ·simp only [Act.put, sa, sz, ss, i64_w, i32_w]
                 rfl
                refine pp_ 24 51 (v := ?_) (a' := ?_) bq30 HT_ rfl rfl ?_ ?_ ?_
                rotate_left
                ·intro w'
                 go_simp
                 with_reducible rfl
                rotate_left
                ·simp only [Act.put, sa, sz, ss, i64_w, i32_w]
                 rfl
                refine pp_ 25 52 (v := ?_) (a' := ?_) bq31 HT_ rfl rfl ?_ ?_ ?_
                rotate_left
                ·intro w'
                 go_simp
                 with_reducible rfl
                rotate_left
                ·simp only [Act.put, sa, sz, ss, i64_w, i32_w]
                 rfl
                refine take_ (i := 26) (N := some 53) (v := ?_) (a' := ?_) bq32 rfl rfl (take_ofW HT_.out HW_.out (by kernel_rfl)) (fun _ _ _ h => h) (Or.inl ⟨by rfl, ?_⟩) hHeld ?_ ?_
                rotate_left
                ·rintro w' ⟨s0, s1, s2, s3⟩
                 go_simp
                 with_reducible rfl
                rotate_left
                ·simp only [Act.put, sa, sz, ss, i64_w, i32_w]
                 rfl
                refine pp_ 27 54 (v := ?_) (a' := ?_) bq33 HT_ rfl rfl ?_ ?_ ?_
                rotate_left
                ·intro w'
                 go_simp
                 with_reducible rfl
                rotate_left
                ·simp only [Act.put, sa, sz, ss, i64_w, i32_w]
                 rfl
                refine pp_ 28 55 (v := ?_) (a' := ?_) bq34 HT_ rfl rfl ?_ ?_ ?_
                rotate_left
                ·intro w'
                 go_simp
                 with_reducible rfl
                rotate_left
                ·simp only [Act.put, sa, sz, ss, i64_w, i32_w]
                 rfl
                refine pu_ 29 56 (a' := ?_) bq35 HT_ rfl rfl ?_ ?_
                rotate_left
                ·simp only [Act.put, sa, sz, ss, i64_w, i32_w]
                 rfl
                refine pu_ 30 57 (a' := ?_) bq36 HT_ rfl rfl ?_ ?_
                rotate_left
                ·simp only [Act.put, sa, sz, ss, i64_w, i32_w]
                 rfl
                refine pu_ 31 58 (a' := ?_) bq37 HT_ rfl rfl ?_ ?_
                rotate_left
                ·simp only [Act.put, sa, sz, ss, i64_w, i32_w]
                 rfl
                refine pu_ 32 59 (a' := ?_) bq38 HT_ rfl rfl ?_ ?_
                rotate_left
                ·simp only [Act.put, sa, sz, ss, i64_w, i32_w]
                 rfl
                refine pu_ 33 60 (a' := ?_) bq39 HT_ rfl rfl ?_ ?_
                rotate_left
                ·simp only [Act.put, sa, sz, ss, i64_w, i32_w]
                 rfl
                refine pu_ 34 61 (a' := ?_) bq40 HT_ rfl rfl ?_ ?_
                rotate_left
                ·simp only [Act.put, sa, sz, ss, i64_w, i32_w]
                 rfl
                refine pu_ 35 62 (a' := ?_) bq41 HT_ rfl rfl ?_ ?_
                rotate_left
                ·simp only [Act.put, sa, sz, ss, i64_w, i32_w]
                 rfl
                refine pp_ 36 63 (v := ?_) (a' := ?_) bq42 HT_ rfl rfl ?_ ?_ ?_
                rotate_left
                ·intro w'
                 go_simp
                 with_reducible rfl
                rotate_left
                ·simp only [Act.put, sa, sz, ss, i64_w, i32_w]
                 rfl
                refine pp_ 37 64 (v := ?_) (a' := ?_) bq43 HT_ rfl rfl ?_ ?_ ?_
                rotate_left
                ·intro w'
                 go_simp
                 with_reducible rfl
                rotate_left
                ·simp only [Act.put, sa, sz, ss, i64_w, i32_w]
                 rfl
                refine done_ (done_of HT_.out (by kernel_rfl)) ?_
                try go_wp2
                go_ret
                exact ⟨by first | rfl | (simp [errW_none, errW_some] <;> rfl) | (simp only [← hji13]; first | rfl | (simp [errW_none, errW_some] <;> rfl)) | (simp [*, errW_none, errW_some] <;> rfl), zb1 HB.out GE248.out⟩
              ·rw [if_neg c27] at H
               have c27b0 : ((rd l2 ((rd_T43 l0_1 (ji13)).f1)) == (wrap64 ((rd l2 a3) - 1))) = false := beq_eq_false_iff_ne.mpr c27
               have c27b1 : ((rd l2 ((rd_T43 l0_1 (ji13)).f1)) != (wrap64 ((rd l2 a3) - 1))) = true := bne_iff_ne.mpr c27
               have H' := Aside0.mk H
               clear H
               have p252 : 0 ≤ (x16_1 : Int) := oda
               have q252 : x16_1 < (t249.length : Int) := oda
               obtain ⟨ad252, e252, hx252_0⟩ := Kd.at_int (Kd.R_reads' HO_14.out).2.2 x16_1 p252 q252
               cases e252
               replace p252 := eq_true p252
               replace q252 := eq_true q252
               have hcz37_0 : wr.cell? ⟨gb248, 0, none⟩ = some (.slice A0_0 l0_0.length c0_0) := (blk_cell BK248.out 0).trans rfl
               have hcz37_1 : wr.cell? ⟨gb248, 1, none⟩ = some (.slice A0_1 l0_1.length c0_1) := (blk_cell BK248.out 1).trans rfl
               have hfz37_0 := blk_frozen BK248.out 0
               have hfz37_1 := blk_frozen BK248.out 1
               have p253 : 0 ≤ ((ji13) : Int) := oda
               have q253 : (ji13) < (l0_1.length : Int) := oda
               obtain ⟨ad253, e253, hx253_0, hx253_1⟩ := at_T43 HR0_1.out (ji13) p253 q253
               cases e253
               replace hx253_0 := zx HB.out hx253_0
               replace hx253_1 := zx HB.out hx253_1
               replace p253 := eq_true p253
               replace q253 := eq_true q253
               try go_wp2
               have n0_ := Aside0.mk (Kd.R_drew HO_14.out)
               have n1_ := Aside0.mk (blk_drew BK248.out)
               have n2_ := Aside0.mk (below_drew1 HB.out)
               clear HO_14
               clear BK248
               clear HB
               have HO_14 := n0_
               have BK248 := n1_
               have HB := n2_
               clear n0_ n1_ n2_
               have p255 : 0 ≤ (((rd_T43 l0_1 (ji13)).f1) : Int) := oda
               have q255 : ((rd_T43 l0_1 (ji13)).f1) < (l2.length : Int) := oda
               obtain ⟨ad255, e255, hx255_0⟩ := Kd.at_int HR2.out ((rd_T43 l0_1 (ji13)).f1) p255 q255
               have hw255_0 := hx255_0
               cases e255
               replace hx255_0 := zx HB.out hx255_0
               replace p255 := eq_true p255
               replace q255 := eq_true q255
               have p256 : 0 ≤ (((rd_T43 l0_1 (ji13)).f1) : Int) := oda
               have q256 : ((rd_T43 l0_1 (ji13)).f1) < (l2.length : Int) := oda
               obtain ⟨ad256, e256, hx256_0⟩ := Kd.at_int HR2.out ((rd_T43 l0_1 (ji13)).f1) p256 q256
               have hw256_0 := hx256_0
               obtain rfl : ad255 = ad256 := (by injection e256)
               replace hx256_0 := zx HB.out hx256_0
               replace p256 := eq_true p256
               replace q256 := eq_true q256
               have p257 : 0 ≤ (a3 : Int) := oda
               have q257 : a3 < (l2.length : Int) := oda
               obtain ⟨ad257, e257, hx257_0⟩ := Kd.at_int HR2.out a3 p257 q257
               have hw257_0 := hx257_0
               obtain rfl : ad255 = ad257 := (by injection e257)
               replace hx257_0 := zx HB.out hx257_0
               replace p257 := eq_true p257
               replace q257 := eq_true q257
               refine start_ (n := 38) (S := fun w' => w'.cell? (ad255.add (((rd_T43 l0_1 (ji13)).f1)).toNat) = some (.int .i64 (rd l2 ((rd_T43 l0_1 (ji13)).f1))) ∧ w'.cell? (ad255.add (((rd_T43 l0_1 (ji13)).f1)).toNat) = some (.int .i64 (rd l2 ((rd_T43 l0_1 (ji13)).f1))) ∧ w'.cell? (ad255.add (a3).toNat) = some (.int .i64 (rd l2 a3))) (ds := []) bq5 (by kernel_rfl) rfl rfl ⟨((HB.out.cell (World.block_lt_of_cell? w _ hw255_0)).trans hw255_0), ((HB.out.cell (World.block_lt_of_cell? w _ hw256_0)).trans hw256_0), ((HB.out.cell (World.block_lt_of_cell? w _ hw257_0)).trans hw257_0)⟩ (fun hHeld => ?_); refine with_tabW route_next.tab5 route_next.bits5 (fun HT_ HW_ => ?_)
               generalize wr.drew = w38 at HO_14 BK248 HB hx255_0 hx256_0 hx257_0 hHeld ⊢
               refine pp_ 0 27 (v := ?_) (a' := ?_) bq6 HT_ rfl rfl ?_ ?_ ?_
               rotate_left
               ·intro w'
                go_simp
                with_reducible rfl
               rotate_left
               ·simp only [Act.put, sa, sz, ss, i64_w, i32_w]
                rfl
               refine pp_ 1 28 (v := ?_) (a' := ?_) bq7 HT_ rfl rfl ?_ ?_ ?_
               rotate_left
               ·intro w'
                go_simp
                with_reducible rfl
               rotate_left
               ·simp only [Act.put, sa, sz, ss, i64_w, i32_w]
                rfl
               refine one_ (i := 2) (N := some 29) bq8 rfl rfl (one_of HT_.out (by kernel_rfl)) (by decide) (fun K hK => ?_)
               refine goes_ Try.func43 (by kernel_rfl) rfl #[.slice A1 l1.length c1, .int .i64 (rd t249 x16_1)] (by rfl) rfl rfl am ?_
               with_reducible refine (slices_Contains_int_int.calls k1 _ _ l1 (rd t249 x16_1) false _ ?side1 ?side2 A16.out).mono ?_
               (case side1 => exact zc HR1.out HB.out)
               (case side2 => exact HC1.out)
               rintro e w' ⟨rfl, ⟨nd, rfl⟩⟩
               refine ⟨_, rfl, ?_⟩
               refine hK.out _ _ ⟨((HB.out.cell (World.block_lt_of_cell? w _ hw255_0)).trans hw255_0), ((HB.out.cell (World.block_lt_of_cell? w _ hw256_0)).trans hw256_0), ((HB.out.cell (World.block_lt_of_cell? w _ hw257_0)).trans hw257_0)⟩ (fun hHeld => ?_)
               clear hK K
               refine norm_ (a' := ?_) ?_ ?_
               rotate_left
               ·show Act.put _ (some 29) _ = _
                simp only [Act.put, sa, sz, ss, i64_w, i32_w]
                rfl
               refine pp_ 3 30 (v := ?_) (a' := ?_) bq9 HT_ rfl rfl ?_ ?_ ?_
               rotate_left
               ·intro w'
                go_simp
                with_reducible rfl
               rotate_left
               ·simp only [Act.put, sa, sz, ss, i64_w, i32_w]
                rfl
               refine pp_ 4 31 (v := ?_) (a' := ?_) bq10 HT_ rfl rfl ?_ ?_ ?_
               rotate_left
               ·intro w'
                go_simp
                with_reducible rfl
               rotate_left
               ·simp only [Act.put, sa, sz, ss, i64_w, i32_w]
                rfl
               refine pp_ 5 32 (v := ?_) (a' := ?_) bq11 HT_ rfl rfl ?_ ?_ ?_
               rotate_left
               ·intro w'
                go_simp
                with_reducible rfl
               rotate_left
               ·simp only [Act.put, sa, sz, ss, i64_w, i32_w]
                rfl
               refine pp_ 6 33 (v := ?_) (a' := ?_) bq12 HT_ rfl rfl ?_ ?_ ?_
               rotate_left
               ·intro w'
                go_simp
                with_reducible rfl
               rotate_left
               ·simp only [Act.put, sa, sz, ss, i64_w, i32_w]
                rfl
               refine take_ (i := 7) (N := some 34) (v := ?_) (a' := ?_) bq13 rfl rfl (take_ofW HT_.out HW_.out (by kernel_rfl)) (fun _ _ _ h => h) (Or.inl ⟨by rfl, ?_⟩) hHeld ?_ ?_
               rotate_left
               ·rintro w' ⟨s0, s1, s2⟩
                go_simp
                with_reducible rfl
               rotate_left
               ·simp only [Act.put, sa, sz, ss, i64_w, i32_w]
                rfl
               refine pp_ 8 35 (v := ?_) (a' := ?_) bq14 HT_ rfl rfl ?_ ?_ ?_
               rotate_left
               ·intro w'
                go_simp
                with_reducible rfl
               rotate_left
               ·simp only [Act.put, sa, sz, ss, i64_w, i32_w]
                rfl
               refine pp_ 9 36 (v := ?_) (a' := ?_) bq15 HT_ rfl rfl ?_ ?_ ?_
               rotate_left
               ·intro w'
                go_simp
                with_reducible rfl
               rotate_left
               ·simp only [Act.put, sa, sz, ss, i64_w, i32_w]
                rfl
               refine pp_ 10 37 (v := ?_) (a' := ?_) bq16 HT_ rfl rfl ?_ ?_ ?_
               rotate_left
               ·intro w'
                go_simp
                with_reducible rfl
               rotate_left
               ·simp only [Act.put, sa, sz, ss, i64_w, i32_w]
                rfl
               refine pp_ 11 38 (v := ?_) (a' := ?_) bq17 HT_ rfl rfl ?_ ?_ ?_
               rotate_left
               ·intro w'
                go_simp
                with_reducible rfl
               rotate_left
               ·simp only [Act.put, sa, sz, ss, i64_w, i32_w]
                rfl
               refine pp_ 12 39 (v := ?_) (a' := ?_) bq18 HT_ rfl rfl ?_ ?_ ?_
               rotate_left
               ·intro w'
                go_simp
                with_reducible rfl
               rotate_left
               ·simp only [Act.put, sa, sz, ss, i64_w, i32_w]
                rfl
               refine pp_ 13 40 (v := ?_) (a' := ?_) bq19 HT_ rfl rfl ?_ ?_ ?_
               rotate_left
               ·intro w'
                go_simp
                with_reducible rfl
               rotate_left
               ·simp only [Act.put, sa, sz, ss, i64_w, i32_w]
                rfl
               refine pp_ 15 42 (v := ?_) (a' := ?_) bq44 HT_ rfl rfl ?_ ?_ ?_
               rotate_left
               ·intro w'
                go_simp
                with_reducible rfl
               rotate_left
               ·simp only [Act.put, sa, sz, ss, i64_w, i32_w]
                rfl
               refine pp_ 16 43 (v := ?_) (a' := ?_) bq45 HT_ rfl rfl ?_ ?_ ?_
               rotate_left
               ·intro w'
                go_simp
                with_reducible rfl
               rotate_left
               ·simp only [Act.put, sa, sz, ss, i64_w, i32_w]
                rfl
               refine pp_ 17 44 (v := ?_) (a' := ?_) bq46 HT_ rfl rfl ?_ ?_ ?_
               rotate_left
               ·intro w'
                go_simp
                with_reducible rfl
               rotate_left
               ·simp only [Act.put, sa, sz, ss, i64_w, i32_w]
                rfl
               refine take_ (i := 14) (N := some 41) (v := ?_) (a' := ?_) bq23 rfl rfl (take_ofW HT_.out HW_.out (by kernel_rfl)) (fun _ _ _ h => h) (Or.inl ⟨by rfl, ?_⟩) hHeld ?_ ?_
               rotate_left
               ·rintro w' ⟨s0, s1, s2⟩
                go_simp
                with_reducible rfl
               rotate_left
               ·simp only [Act.put, sa, sz, ss, i64_w, i32_w]
                rfl
               refine take_ (i := 18) (N := some 45) (v := ?_) (a' := ?_) bq24 rfl rfl (take_ofW HT_.out HW_.out (by kernel_rfl)) (fun _ _ _ h => h) (Or.inl ⟨by rfl, ?_⟩) hHeld ?_ ?_
               rotate_left
               ·rintro w' ⟨s0, s1, s2⟩
                go_simp
                with_reducible rfl
               rotate_left
               ·simp only [Act.put, sa, sz, ss, i64_w, i32_w]
                rfl
               refine pp_ 19 46 (v := ?_) (a' := ?_) bq25 HT_ rfl rfl ?_ ?_ ?_
               rotate_left
               ·intro w'
                go_simp
                with_reducible rfl
               rotate_left
               ·simp only [Act.put, sa, sz, ss, i64_w, i32_w]
                rfl
               refine pp_ 20 47 (v := ?_) (a' := ?_) bq26 HT_ rfl rfl ?_ ?_ ?_
               rotate_left
               ·intro w'
                go_simp
                with_reducible rfl
               rotate_left
               ·simp only [Act.put, sa, sz, ss, i64_w, i32_w]
                rfl
               refine pp_ 21 48 (v := ?_) (a' := ?_) bq27 HT_ rfl rfl ?_ ?_ ?_
               rotate_left
               ·intro w'
                go_simp
                with_reducible rfl
               rotate_left
               ·simp only [Act.put, sa, sz, ss, i64_w, i32_w]
                rfl
               refine pp_ 22 49 (v := ?_) (a' := ?_) bq28 HT_ rfl rfl ?_ ?_ ?_
               rotate_left
               ·intro w'
                go_simp
                with_reducible rfl
               rotate_left
               ·simp only [Act.put, sa, sz, ss, i64_w, i32_w]
                rfl
               refine pu_ 23 50 (a' := ?_) bq29 HT_ rfl rfl ?_ ?_
               rotate_left
               ·simp only [Act.put, sa, sz, ss, i64_w, i32_w]
                rfl
               refine pu_ 24 51 (a' := ?_) bq30 HT_ rfl rfl ?_ ?_
               rotate_left
               ·simp only [Act.put, sa, sz, ss, i64_w, i32_w]
                rfl
               refine pu_ 25 52 (a' := ?_) bq31 HT_ rfl rfl ?_ ?_
               rotate_left
               ·simp only [Act.put, sa, sz, ss, i64_w, i32_w]
                rfl
               refine pu_ 26 53 (a' := ?_) bq32 HT_ rfl rfl ?_ ?_
               rotate_left
               ·simp only [Act.put, sa, sz, ss, i64_w, i32_w]
                rfl
               refine pu_ 27 54 (a' := ?_) bq33 HT_ rfl rfl ?_ ?_
               rotate_left
               ·simp only [Act.put, sa, sz, ss, i64_w, i32_w]
                rfl
               refine pu_ 28 55 (a' := ?_) bq34 HT_ rfl rfl ?_ ?_
               rotate_left
               ·simp only [Act.put, sa, sz, ss, i64_w, i32_w]
                rfl
               refine pu_ 29 56 (a' := ?_) bq35 HT_ rfl rfl ?_ ?_
               rotate_left
               ·simp only [Act.put, sa, sz, ss, i64_w, i32_w]
                rfl
               refine pu_ 30 57 (a' := ?_) bq36 HT_ rfl rfl ?_ ?_
               rotate_left
               ·simp only [Act.put, sa, sz, ss, i64_w, i32_w]
                rfl
               refine pu_ 31 58 (a' := ?_) bq37 HT_ rfl rfl ?_ ?_
               rotate_left
               ·simp only [Act.put, sa, sz, ss, i64_w, i32_w]
                rfl
               refine pu_ 32 59 (a' := ?_) bq38 HT_ rfl rfl ?_ ?_
               rotate_left
               ·simp only [Act.put, sa, sz, ss, i64_w, i32_w]
                rfl
               refine pu_ 33 60 (a' := ?_) bq39 HT_ rfl rfl ?_ ?_
               rotate_left
               ·simp only [Act.put, sa, sz, ss, i64_w, i32_w]
                rfl
               refine pu_ 34 61 (a' := ?_) bq40 HT_ rfl rfl ?_ ?_
               rotate_left
               ·simp only [Act.put, sa, sz, ss, i64_w, i32_w]
                rfl
               refine pu_ 35 62 (a' := ?_) bq41 HT_ rfl rfl ?_ ?_
               rotate_left
               ·simp only [Act.put, sa, sz, ss, i64_w, i32_w]
                rfl
               refine pu_ 36 63 (a' := ?_) bq42 HT_ rfl rfl ?_ ?_
               rotate_left
               ·simp only [Act.put, sa, sz, ss, i64_w, i32_w]
                rfl
               refine pp_ 37 64 (v := ?_) (a' := ?_) bq43 HT_ rfl rfl ?_ ?_ ?_
               rotate_left
               ·intro w'
                go_simp
                with_reducible rfl
               rotate_left
               ·simp only [Act.put, sa, sz, ss, i64_w, i32_w]
                rfl
               refine done_ (done_of HT_.out (by kernel_rfl)) ?_
               try go_wp2
               go_roundg k1
               case measure => have := HK1.out; omega
               case rel => exact ⟨(wrap64 (x16_1 + 1)), rs, H', ⟨by have := HK1.out; omega⟩, ⟨zr HO_14.out⟩, ⟨zk BK248.out⟩, ⟨zb1 HB.out GE248.out⟩⟩
             ·rw [if_neg c26] at H
              exact absurd H (by simp)
            ·rw [if_neg c25] at H
             exact absurd H (by simp)
          ·rw [if_neg c21] at H
           exact absurd H (by simp)
         ·rw [if_neg c20] at H
          exact absurd H (by simp)
       ·rw [if_neg c15] at H
        exact absurd H (by simp)
      ·rw [if_neg c14] at H
       exact absurd H (by simp)
     ·rw [if_neg c12] at H
      exact absurd H (by simp)
    ·rw [if_neg c11] at H
     exact absurd H (by simp)
   ·rw [if_neg c10] at H
    have c10b0 : decide (x16_1 < (t249.length : Int)) = false := decide_eq_false c10
    clear c10
    obtain rfl := Option.some.inj H
    go_wp2
    go_ret
    exact ⟨by first | rfl | (simp [errW_none, errW_some] <;> rfl) | (simp [*, errW_none, errW_some] <;> rfl), zb1 HB.out GE248.out⟩

end Go.Proofs.Ytkdfohmceokchaa.PZoneJoined
