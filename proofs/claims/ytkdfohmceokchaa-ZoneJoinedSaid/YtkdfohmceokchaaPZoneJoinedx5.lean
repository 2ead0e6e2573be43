-- Written by a program of this session (wip/oprint): after the pattern of the kit's print, which does not take this law. -- trimmed
import Derived.Test.YtkdfohmceokchaaPZoneJoinedx0
import Derived.Test.YtkdfohmceokchaaPZoneJoinedx4
namespace Go.Proofs.Ytkdfohmceokchaa.PZoneJoined
open Go.RowKit Go.Proofs.YtkdfohmceokchaaW.PrintWords Go.Proofs.YtkdfohmceokchaaW.PrintLast Go.Proofs.YtkdfohmceokchaaW.PrintMore
attribute [local go_sem] max2_int min2_int max_two min_two max_three min_three max_four min_four   -- for this text's walks alone
set_option linter.unusedVariables false
set_option linter.unusedSimpArgs false

/-! ### zone_Zones: function 13 -/
def zone_Zones.l0 : Nat → Int → List Int → List (List Int) → Int → Int → List (S46) → List (S43) → Option (List Int × Int)
 | 0, _, _, _, _, _, _, _ => none
 | k + 1, x7, x8, x17, x18, x19, x146000, x146001 => if x19 < x18 then (if 0 ≤ x19 then (if x19 < (x17.length : Int) then (if 0 < ((rd_L1 x17 x19).length : Int) then ((zone_zoneOf.f x146000 x146001 (rd (rd_L1 x17 x19) 0)).bind fun t152 => (if x8.length < 17592186044416 then (zone_Zones.l0 k x7 (x8 ++ [t152]) x17 x18 (wrap64 (x19 + 1)) x146000 x146001) else (none))) else (none)) else (none)) else (none)) else (some (x8, x7))
def zone_Zones.f (k : Nat) (l0_0 : List (S46)) (l0_1 : List (S43)) (l1 : List Int) : Option (List Int × Int) := (zone_Pieces.f l0_0 l0_1 l1).bind fun bt146 => (zone_Zones.l0 k bt146.2 ([] : List Int) bt146.1 (bt146.1.length : Int) 0 l0_0 l0_1)
theorem zone_Zones.mono_l : ∀ k, (∀ y0 y1 y2 y3 y4 y5 y6, LeO (zone_Zones.l0 k y0 y1 y2 y3 y4 y5 y6) (zone_Zones.l0 (k + 1) y0 y1 y2 y3 y4 y5 y6))
 | 0 => fun _ _ _ _ _ _ _ r h => by simp [zone_Zones.l0] at h
 | k + 1 => by
  have ih0 := zone_Zones.mono_l k
  ·intro y0 y1 y2 y3 y4 y5 y6
   unfold zone_Zones.l0
   repeat' first
   | (with_reducible exact ih0 _ _ _ _ _ _ _)
   | (with_reducible exact LeO.refl _)
   | (with_reducible exact LeO.none _)
   | (with_reducible refine LeO.ite ?_ ?_)
   | (with_reducible refine LeO.bind ?_ (fun _ => ?_))
   | exact ih0 _ _ _ _ _ _ _
   | exact LeO.none _
   | refine LeO.ite ?_ ?_
   | refine LeO.bind ?_ (fun _ => ?_)
theorem zone_Zones.mono : ∀ a0 a1 a2 k, LeO (zone_Zones.f k a0 a1 a2) (zone_Zones.f (k + 1) a0 a1 a2) := by
 intro a0 a1 a2 k
 have ih0 := zone_Zones.mono_l k
 unfold zone_Zones.f
 repeat' first
   | (with_reducible exact ih0 _ _ _ _ _ _ _)
   | (with_reducible exact LeO.refl _)
   | (with_reducible exact LeO.none _)
   | (with_reducible refine LeO.ite ?_ ?_)
   | (with_reducible refine LeO.bind ?_ (fun _ => ?_))
   | exact ih0 _ _ _ _ _ _ _
   | exact LeO.none _
   | refine LeO.ite ?_ ?_
   | refine LeO.bind ?_ (fun _ => ?_)
def zone_Zones.T6 : Bool × List (List Nat × List Nat) := (true, [([], []), ([], []), ([], []), ([2], [2]), ([3], [3]), ([1, 4], [1, 4]), ([5], [5]), ([0, 6, 5], [0, 6]), ([7, 7, 0, 1, 2, 3, 4, 5, 6, 7], [0, 7])])
def zone_Zones.B6 : List Nat := [0, 0, 0, 4, 12, 30, 62, 127, 255]
theorem zone_Zones.tab6 : rtab .any (opsOf Try.f13 6) = zone_Zones.T6 := by kernel_rfl
theorem zone_Zones.bits6 : waitsOk zone_Zones.T6.2 zone_Zones.B6 = true := by kernel_rfl
set_option maxHeartbeats 8000000 in
set_option maxRecDepth 100000 in
theorem zone_Zones.calls (k : Nat) (A0_0 : Option Addr) (c0_0 : Nat) (l0_0 : List (S46)) (A0_1 : Option Addr) (c0_1 : Nat) (l0_1 : List (S43)) (A1 : Option Addr) (c1 : Nat) (l1 : List Int) (r1 : List Int) (r2 : Int) (w : World) (hr0_0 : Kd.C k46 w A0_0 l0_0.length l0_0) (hc0_0 : l0_0.length ≤ c0_0) (hr0_1 : Kd.C k43 w A0_1 l0_1.length l0_1) (hc0_1 : l0_1.length ≤ c0_1) (hr1 : Kd.C (Kd.int .i64) w A1 l1.length l1) (hc1 : l1.length ≤ c1) (h : zone_Zones.f k l0_0 l0_1 l1 = some (r1, r2)) :
  Calls Try.prog 13 #[.agg #[.slice A0_0 l0_0.length c0_0, .slice A0_1 l0_1.length c0_1], .slice A1 l1.length c1] w fun e w' => ∃ v0_ : Value, e = .returned (.tuple #[v0_, .int .i64 r2]) ∧ Kd.R (Kd.int .i64) 3 w' w.heap.size (fun _ => True) v0_ r1 ∧ Below w.heap.size w w' := by
 have hu25 := Try.underlying25
 have HR0_0 := Aside0.mk hr0_0
 have HC0_0 := Aside0.mk hc0_0
 clear hr0_0 hc0_0
 have HR0_1 := Aside0.mk hr0_1
 have HC0_1 := Aside0.mk hc0_1
 clear hr0_1 hc0_1
 have HR1 := Aside0.mk hr1
 have HC1 := Aside0.mk hc1
 clear hr1 hc1
 have HB := Aside0.mk (Below.refl w.heap.size w)
 have H : ((zone_Pieces.f l0_0 l0_1 l1).bind fun bt146 => (zone_Zones.l0 k bt146.2 ([] : List Int) bt146.1 (bt146.1.length : Int) 0 l0_0 l0_1)) = some (r1, r2) := h
 clear h
 replace H := Option.bind_eq_some_iff.mp H
 obtain ⟨⟨t146, t149⟩, A30, H⟩ := H
 replace H : (zone_Zones.l0 k t149 ([] : List Int) t146 (t146.length : Int) 0 l0_0 l0_1) = some (r1, r2) := H
 have A3 := Aside0.mk A30
 clear A30
 have H' := Aside0.mk H
 clear H
 go_enter Try.func13, Try.ntmps13
 go_wp2_with (first | ((with_reducible refine gate_dst (N := 2) rfl ?_); refine box_event ?hg (N := 2) ?hd (cs := #[.slice A0_0 l0_0.length c0_0, .slice A0_1 l0_1.length c0_1]) (t := 25) ?hr ?_; (case hd => rfl); (case hg => rfl); (case hr => first | (go_simp; done) | (go_simp; rfl)); intro gb145 hg w4 hbox hb; have n0_ := Aside0.mk (below_step (zb0 HB.out) hb); have n1_ := Aside0.mk (hbox); have n2_ := Aside0.mk ((by rw [hg]; exact (below_size (zb0 HB.out)) : w.heap.size ≤ gb145)); have n3_ := Aside0.mk ((by rw [hg]; exact (below_size (zb0 HB.out)) : w.heap.size ≤ gb145)); clear HB; have HB := n0_; have BK145 := n1_; have GW145 := n2_; have GE145 := n3_; clear n0_ n1_ n2_ n3_; clear hb hbox hg; have hcz5_0 : w4.cell? ⟨gb145, 0, none⟩ = some (.slice A0_0 l0_0.length c0_0) := (blk_cell BK145.out 0).trans rfl; have hcz5_1 : w4.cell? ⟨gb145, 1, none⟩ = some (.slice A0_1 l0_1.length c0_1) := (blk_cell BK145.out 1).trans rfl; have hfz5_0 := blk_frozen BK145.out 0; have hfz5_1 := blk_frozen BK145.out 1) | ((with_reducible refine gate_callee (f := 12) rfl ?_); refine goesL_ (some 14) rfl rfl Try.func12 (by kernel_rfl) rfl #[.agg #[.slice A0_0 l0_0.length c0_0, .slice A0_1 l0_1.length c0_1], .slice A1 l1.length c1] rfl am ?_; (with_reducible refine (zone_Pieces.calls _ _ l0_0 _ _ l0_1 _ _ l1 t146 t149 _ ?side1 ?side2 ?side3 ?side4 ?side5 ?side6 A3.out).mono ?_); (case side1 => exact zc HR0_0.out HB.out); (case side2 => exact HC0_0.out); (case side3 => exact zc HR0_1.out HB.out); (case side4 => exact HC0_1.out); (case side5 => exact zc HR1.out HB.out); (case side6 => exact HC1.out); rintro e w6 ⟨v147, rfl, ho0, hb⟩; refine ⟨_, rfl, ?_⟩; have n0_ := Aside0.mk (Kd.N_lower (Kd.N_mono (ok' := fun k_ => k_ ≠ gb145) ho0 (fun k_ hk_ => (Kd.freshB (g := gb145) (o := .cells #[.slice A0_0 l0_0.length c0_0, .slice A0_1 l0_1.length c0_1] 25 (0, 0)) (zk BK145.out) k_ hk_))) (below_size (zb1 HB.out GE145.out))); have n1_ := Aside0.mk (blk_below (g := gb145) (o := .cells #[.slice A0_0 l0_0.length c0_0, .slice A0_1 l0_1.length c0_1] 25 (0, 0)) (zk BK145.out) hb); have n2_ := Aside0.mk (below_step (zb1 HB.out GE145.out) hb); clear BK145; clear HB; have HO148 := n0_; have BK145 := n1_; have HB := n2_; clear n0_ n1_ n2_; (try clear hb); (try clear hb2); (try clear hk); (try clear hi); (try clear ho0); obtain ⟨Ao7, co7, eo7⟩ := Kd.N_slice HO148.out; subst eo7))
 go_loopg [8, 19] k (fun kq v8 v19 w' => ∃ (x8_1 : List Int) (x19_1 : Int), v19 = .int .i64 x19_1 ∧ Aside0 (zone_Zones.l0 kq t149 x8_1 t146 (t146.length : Int) x19_1 l0_0 l0_1 = some (r1, r2)) ∧ Aside0 (kq ≤ k) ∧ Aside0 (Kd.R (Kd.int .i64) 3 w' w.heap.size (fun _ => True) v8 x8_1) ∧ Aside0 (Kd.N (Kd.slice 3 (Kd.int .i64)) 26 w' w.heap.size (fun k_ => some k_ ≠ (v8 : Value).ownBlock ∧ k_ ≠ gb145) (.slice Ao7 t146.length co7) t146) ∧ Aside0 (w'.heap[gb145]? = some (.cells #[(.slice A0_0 l0_0.length c0_0), (.slice A0_1 l0_1.length c0_1)] 25 (0, 0))) ∧ Aside0 (Below w.heap.size w w'))
 case atStart => exact ⟨(([] : List Int)), (0), rs, H', ⟨Nat.le_refl _⟩, ⟨by first | exact Kd.R_nil _ _ _ _ _ | exact Kd.N_nil _ _ _ _ _ | exact Kd.V_nil _ _ _ _ _ | exact Kd.Q_nil _ _ _ _ _ | exact Kd.S_nil _ _ _ _ _⟩, ⟨by (with_reducible repeat (first | apply Kd.N_alloc | apply Kd.N_drewN | apply Kd.N_drew)); exact Kd.N_mono HO148.out (fun _ hk => ⟨(by simp [Value.ownBlock]), hk⟩)⟩, ⟨zk BK145.out⟩, ⟨zb1 HB.out GE145.out⟩⟩
 case round =>
  clear H'
  try clear c1
  try clear p2
  try clear hcz5_0
  try clear hcz5_1
  try clear hfz5_0
  try clear hfz5_1
  obtain ⟨x8_1, x19_1, rfl, HA, HK1, HO_8, HO_17, BK145, HB⟩ := hrel
  cases gk with
  | zero => exact absurd HA.out (by simp [zone_Zones.l0])
  | succ k1 =>
   have H := HA.out
   clear HA
   simp only [zone_Zones.l0] at H
   by_cases c8 : x19_1 < (t146.length : Int)
   ·rw [if_pos c8] at H
    have c8b0 : decide (x19_1 < (t146.length : Int)) = true := decide_eq_true c8
    clear c8
    by_cases c9 : 0 ≤ x19_1
    ·rw [if_pos c9] at H
     have c9b0 : decide (0 ≤ x19_1) = true := decide_eq_true c9
     clear c9
     by_cases c10 : x19_1 < (t146.length : Int)
     ·rw [if_pos c10] at H
      have c10b0 : decide (x19_1 < (t146.length : Int)) = true := decide_eq_true c10
      clear c10
      by_cases c11 : 0 < ((rd_L1 t146 x19_1).length : Int)
      ·rw [if_pos c11] at H
       have c11b0 : decide (0 < ((rd_L1 t146 x19_1).length : Int)) = true := decide_eq_true c11
       have c11b1 : decide (0 < (rd_L1 t146 x19_1).length) = true := decide_eq_true (by omega)
       clear c11
       replace H := Option.bind_eq_some_iff.mp H
       obtain ⟨t152, A120, H⟩ := H
       replace H : (if x8_1.length < 17592186044416 then (zone_Zones.l0 k1 t149 (x8_1 ++ [t152]) t146 (t146.length : Int) (wrap64 (x19_1 + 1)) l0_0 l0_1) else (none)) = some (r1, r2) := H
       have A12 := Aside0.mk A120
       clear A120
       by_cases c13 : x8_1.length < 17592186044416
       ·rw [if_pos c13] at H
        have LMc13 := Aside0.mk c13
        clear c13
        obtain ⟨y153, hy153⟩ : ∃ y_ : List Int, y_ = (x8_1 ++ [t152]) := ⟨_, rfl⟩
        replace H : (zone_Zones.l0 k1 t149 y153 t146 (t146.length : Int) (wrap64 (x19_1 + 1)) l0_0 l0_1) = some (r1, r2) := by first | (rw [hy153]; with_reducible exact H) | (have H2_ := (Option.bind_some _ _).symm.trans H; rw [hy153]; with_reducible exact H2_) | (have H2_ := (Option.bind_some _ _).symm.trans H; with_reducible exact H2_) | with_reducible exact H | (rw [hy153]; exact H) | exact H
        have Ny153 := Aside0.mk hy153
        clear hy153
        have H' := Aside0.mk H
        clear H
        have p150 : 0 ≤ (x19_1 : Int) := oda
        have q150 : x19_1 < (t146.length : Int) := oda
        obtain ⟨ad150, A150_0, c150_0, e150, hx150_0, hl150_0, hi150_0⟩ := at_L1 (Kd.N_reads' HO_17.out).2.2 x19_1 p150 q150
        cases e150
        obtain ⟨ce150, hce150, hMe150, hcc150⟩ := Kd.N_get HO_17.out [] x19_1 p150 (by first | exact q150 | exact oda | (have e_ := (Kd.N_reads' HO_17.out).1; omega))
        obtain ⟨ua150_0, uc150_0, rfl, ul150_0, ge150_0⟩ := Kd.FK_slice_open hMe150
        have hv150_0 := hcc150 0 _ rfl
        rw [Nat.add_zero, show ((Kd.slice 3 (Kd.int .i64))).sz = 1 from rfl, Nat.mul_one] at hv150_0
        replace hv150_0 := Option.some.inj (hv150_0.symm.trans hx150_0)
        injection hv150_0 with hva_ hvn_ hvc_
        rw [hva_] at ge150_0
        rw [hvc_] at ul150_0
        have HL150_0 := Aside0.mk (show Kd.V (Kd.int .i64) 3 _ w.heap.size _ _ (rd_L1 t146 x19_1) from Kd.V_mk ul150_0 ge150_0)
        clear hva_ hvn_ hvc_ ge150_0 ul150_0
        clear hcc150 hce150
        have HR150_0 := Aside0.mk hi150_0
        have HC150_0 := Aside0.mk hl150_0
        clear hi150_0 hl150_0
        replace p150 := eq_true p150
        replace q150 := eq_true q150
        try go_wp2
        have n0_ := Aside0.mk (Kd.R_drew HO_8.out)
        have n1_ := Aside0.mk (Kd.N_drew HO_17.out)
        have n2_ := Aside0.mk (Kd.V_drew HL150_0.out)
        have n3_ := Aside0.mk (blk_drew BK145.out)
        have n4_ := Aside0.mk (Kd.C_drew HR150_0.out)
        have n5_ := Aside0.mk (below_drew1 HB.out)
        clear HO_8
        clear HO_17
        clear HL150_0
        clear BK145
        clear HR150_0
        clear HB
        have HO_8 := n0_
        have HO_17 := n1_
        have HL150_0 := n2_
        have BK145 := n3_
        have HR150_0 := n4_
        have HB := n5_
        clear n0_ n1_ n2_ n3_ n4_ n5_
        have p151 : 0 ≤ (0 : Int) := (by omega)
        have q151 : 0 < ((rd_L1 t146 x19_1).length : Int) := oda
        obtain ⟨ad151, e151, hx151_0⟩ := Kd.at_int (by repeat (first | (with_reducible exact HR150_0.out) | (with_reducible refine Kd.C_alloc ?_ _) | (with_reducible refine Kd.C_drewN ?_ _) | (with_reducible refine Kd.C_drew ?_) | exact HR150_0.out)) 0 p151 q151
        cases e151
        have qi151 : (0 < (rd_L1 t146 x19_1).length) = True := eq_true (by omega)
        (try rw [show ((0 : Int)).toNat = 0 from rfl] at hx151_0)
        (try rw [Addr.add_zero'] at hx151_0)
        replace p151 := eq_true p151
        replace q151 := eq_true q151
        refine start_ (n := 9) (S := fun w' => w'.cell? ⟨gb145, 0, none⟩ = some (.slice A0_0 l0_0.length c0_0) ∧ w'.cell? ⟨gb145, 1, none⟩ = some (.slice A0_1 l0_1.length c0_1) ∧ w'.cell? ad151 = some (.int .i64 (rd (rd_L1 t146 x19_1) 0))) (ds := [6, 7]) bq0 (by kernel_rfl) rfl rfl ⟨(blk_cell BK145.out 0).trans rfl, (blk_cell BK145.out 1).trans rfl, hx151_0⟩ (fun hHeld => ?_); refine with_tabW zone_Zones.tab6 zone_Zones.bits6 (fun HT_ HW_ => ?_)
        generalize wr.drew = w14 at HO_8 HO_17 HL150_0 BK145 HR150_0 HB hx151_0 hHeld ⊢
        refine pp_ 0 23 (v := ?_) (a' := ?_) bq1 HT_ rfl rfl ?_ ?_ ?_
        rotate_left
        ·intro w'
         go_simp
         with_reducible rfl
        rotate_left
        ·simp only [Act.put, sa, sz, ss, i64_w, i32_w]
         rfl
        refine pp_ 2 25 (v := ?_) (a' := ?_) bq2 HT_ rfl rfl ?_ ?_ ?_
        rotate_left
        ·intro w'
         go_simp
         with_reducible rfl
        rotate_left
        ·simp only [Act.put, sa, sz, ss, i64_w, i32_w]
         rfl
        refine pp_ 3 26 (v := ?_) (a' := ?_) bq3 HT_ rfl rfl ?_ ?_ ?_
        rotate_left
        ·intro w'
         go_simp
         with_reducible rfl
        rotate_left
        ·simp only [Act.put, sa, sz, ss, i64_w, i32_w]
         rfl
        refine take_ (i := 1) (N := some 24) (v := ?_) (a' := ?_) bq4 rfl rfl (take_ofW HT_.out HW_.out (by kernel_rfl)) (fun _ _ _ h => h) (Or.inl ⟨by rfl, ?_⟩) hHeld ?_ ?_
        rotate_left
        ·rintro w' ⟨s0, s1, s2⟩
         go_simp
         with_reducible rfl
        rotate_left
        ·simp only [Act.put, sa, sz, ss, i64_w, i32_w]
         rfl
        refine take_ (i := 4) (N := some 27) (v := ?_) (a' := ?_) #[true, true, true, true, true, false, false, false, false] rfl rfl (take_ofW HT_.out HW_.out (by kernel_rfl)) (fun _ _ _ h => h) (Or.inl ⟨by rfl, ?_⟩) hHeld ?_ ?_
        rotate_left
        ·rintro w' ⟨s0, s1, s2⟩
         go_simp
         with_reducible rfl
        rotate_left
        ·simp only [Act.put, sa, sz, ss, i64_w, i32_w]
         rfl
        refine one_ (i := 5) (N := some 28) #[true, true, true, true, true, true, false, false, false] rfl rfl (one_of HT_.out (by kernel_rfl)) (by decide) (fun K hK => ?_)
        refine goes_ Try.func31 (by kernel_rfl) rfl #[.agg #[.slice A0_0 l0_0.length c0_0, .slice A0_1 l0_1.length c0_1], .int .i64 (rd (rd_L1 t146 x19_1) 0)] (by rfl) rfl rfl am ?_
        with_reducible refine (zone_zoneOf.calls _ _ l0_0 _ _ l0_1 (rd (rd_L1 t146 x19_1) 0) t152 _ ?side1 ?side2 ?side3 ?side4 A12.out).mono ?_
        (case side1 => exact zc HR0_0.out HB.out)
        (case side2 => exact HC0_0.out)
        (case side3 => exact zc HR0_1.out HB.out)
        (case side4 => exact HC0_1.out)
        rintro e w15 ⟨rfl, hb⟩
        have HS2_ := (hb.cell (World.block_lt_of_cell? _ _ (hHeld.2.2))).trans (hHeld.2.2)
        refine ⟨_, rfl, ?_⟩
        have n0_ := Aside0.mk (Kd.R_below (zr HO_8.out) hb)
        have n1_ := Aside0.mk (Kd.N_below (by (with_reducible repeat (first | apply Kd.N_alloc | apply Kd.N_drewN | apply Kd.N_drew)); exact HO_17.out) hb)
        have n2_ := Aside0.mk (Kd.V_below (by (with_reducible repeat (first | apply Kd.V_alloc | apply Kd.V_drewN | apply Kd.V_drew)); exact HL150_0.out) hb)
        have n3_ := Aside0.mk (blk_below (g := gb145) (o := .cells #[.slice A0_0 l0_0.length c0_0, .slice A0_1 l0_1.length c0_1] 25 (0, 0)) (zk BK145.out) hb)
        have n4_ := Aside0.mk (Kd.C_below (by repeat (first | (with_reducible exact HR150_0.out) | (with_reducible refine Kd.C_alloc ?_ _) | (with_reducible refine Kd.C_drewN ?_ _) | (with_reducible refine Kd.C_drew ?_) | exact HR150_0.out)) hb)
        have n5_ := Aside0.mk (below_step (zb1 HB.out GE145.out) hb)
        clear HO_8
        clear HO_17
        clear HL150_0
        clear BK145
        clear HR150_0
        clear HB
        have HO_8 := n0_
        have HO_17 := n1_
        have HL150_0 := n2_
        have BK145 := n3_
        have HR150_0 := n4_
        have HB := n5_
        clear n0_ n1_ n2_ n3_ n4_ n5_
        (try clear hb)
        (try clear hb2)
        (try clear hk)
        (try clear hi)
        refine hK.out _ _ ⟨(blk_cell BK145.out 0).trans rfl, (blk_cell BK145.out 1).trans rfl, HS2_⟩ (fun hHeld => ?_)
        clear hK K
        refine norm_ (a' := ?_) ?_ ?_
        rotate_left
        ·show Act.put _ (some 28) _ = _
         simp only [Act.put, sa, sz, ss, i64_w, i32_w]
         rfl
        refine last_ (i := 6) (N := some 29) #[true, true, true, true, true, true, true, false, false] rfl rfl (one_of HT_.out (by kernel_rfl)) (by decide) (fun K hK => ?_)
        refine value_ (w1 := ?_) (v := ?_) (by rfl) rfl ?_ ?_
        rotate_left 2
        ·go_simp
         constructor
         ·rfl
         ·rfl
        refine hK.out _ _ ?_
        clear hK K
        refine norm_ (a' := ?_) ?_ ?_
        rotate_left
        ·show Act.put _ (some 29) _ = _
         simp only [Act.put, sa, sz, ss, i64_w, i32_w]
         rfl
        refine last_ (i := 7) (N := some 30) #[true, true, true, true, true, true, true, true, false] rfl rfl (one_of HT_.out (by kernel_rfl)) (by decide) (fun K hK => ?_)
        refine Kd.R_append_step (Kd.int .i64) (w0 := w) w.heap.size (by rfl) (.tmp 23) (.tmp 29) 26 3 (.int .i64 0) 8 rfl Try.underlying26 info3 rfl (by decide) (by omega) u8 x8_1 t152 [.int .i64 t152] (fun _ => True) (fun _ => False) rfl rfl ?aP (fun _ hk => hk.elim) ?aF ?aO ?aB ?aS ?aL ?_
        (case aP => exact rfl)
        (case aB => exact (zb1 HB.out GE145.out))
        (case aF => exact (fun _ _ => trivial))
        (case aO => exact (zr HO_8.out))
        (case aS => exact (below_size (zb1 HB.out GE145.out)))
        (case aL => have := LMc13.out; omega)
        intro v154 w16 ho hb hg hat
        rw [← Ny153.out] at ho
        have n0_ := Aside0.mk (Kd.N_afterv (ok := (fun k_ => k_ ≠ gb145)) (by (with_reducible repeat (first | apply Kd.N_alloc | apply Kd.N_drewN | apply Kd.N_drew)); exact Kd.N_mono HO_17.out (fun _ hk => ⟨hk.2, hk.1⟩)) hg hat)
        have n1_ := Aside0.mk (blk_grown (g := gb145) (o := .cells #[.slice A0_0 l0_0.length c0_0, .slice A0_1 l0_1.length c0_1] 25 (0, 0)) (zk BK145.out) hg (Kd.R_ne HO_8.out BK145.out (by decide)))
        have n2_ := Aside0.mk (Kd.V_afterv (ok := (fun k_ => some k_ ≠ (.slice (some ad150) t146.length co7 : Value).ownBlock ∧ k_ ≠ gb145)) (by (with_reducible repeat (first | apply Kd.V_alloc | apply Kd.V_drewN | apply Kd.V_drew)); exact Kd.V_mono HL150_0.out (fun _ hk => ⟨⟨hk.2, hk.1.2⟩, hk.1.1⟩)) hg hat)
        have n3_ := Aside0.mk (hb)
        have n4_ := Aside0.mk (ho)
        clear HO_17
        clear BK145
        clear HL150_0
        clear HB
        clear HO_8
        have HO_17 := n0_
        have BK145 := n1_
        have HL150_0 := n2_
        have HB := n3_
        have HO155 := n4_
        clear n0_ n1_ n2_ n3_ n4_
        clear ho hb hg hat
        refine hK.out _ _ ?_
        clear hK K
        refine norm_ (a' := ?_) ?_ ?_
        rotate_left
        ·show Act.put _ (some 30) _ = _
         simp only [Act.put, sa, sz, ss, i64_w, i32_w]
         rfl
        refine pure_ (i := 8) (N := some 8) (v := ?_) (a' := ?_) #[true, true, true, true, true, true, true, true, true] rfl rfl (any_of HT_.out (by kernel_rfl)) (fun _ _ _ h => h) (Or.inl ⟨by rfl, ?_⟩) ?_ ?_
        rotate_left
        ·intro w'
         go_simp
         with_reducible rfl
        rotate_left
        ·simp only [Act.put, sa, sz, ss, i64_w, i32_w]
         rfl
        refine done_ (done_of HT_.out (by kernel_rfl)) ?_
        try go_wp2
        go_roundg k1
        case measure => have := HK1.out; omega
        case rel => exact ⟨(y153), (wrap64 (x19_1 + 1)), rs, H', ⟨by have := HK1.out; omega⟩, ⟨zr HO155.out⟩, ⟨by (with_reducible repeat (first | apply Kd.N_alloc | apply Kd.N_drewN | apply Kd.N_drew)); exact Kd.N_mono HO_17.out (fun _ hk => ⟨hk.2, hk.1⟩)⟩, ⟨zk BK145.out⟩, ⟨zb1 HB.out GE145.out⟩⟩
       ·rw [if_neg c13] at H
        exact absurd H (by simp)
      ·rw [if_neg c11] at H
       exact absurd H (by simp)
     ·rw [if_neg c10] at H
      exact absurd H (by simp)
    ·rw [if_neg c9] at H
     exact absurd H (by simp)
   ·rw [if_neg c8] at H
    have c8b0 : decide (x19_1 < (t146.length : Int)) = false := decide_eq_false c8
    clear c8
    simp only [Option.some.injEq, Prod.mk.injEq] at H
    obtain ⟨rfl, rfl⟩ := H
    go_wp2
    go_ret2
    exact ⟨_, by first | rfl | (simp [errW_none, errW_some] <;> rfl) | (simp [*, errW_none, errW_some] <;> rfl), by (with_reducible repeat (first | apply Kd.R_alloc | apply Kd.R_drewN | apply Kd.R_drew)); exact HO_8.out, zb1 HB.out GE145.out⟩

/-! ### stillageref06_Name: function 29 -/
mutual
def stillageref06_Name.j0 : Nat → ByteArray → Bool → Option (Bool)
 | 0, _, _ => none
 | k + 1, x0, x13 => if x13 = true then (some false) else (stillageref06_Name.l0 k x0 0)
def stillageref06_Name.l0 : Nat → ByteArray → Int → Option (Bool)
 | 0, _, _ => none
 | k + 1, x0, x3 => if x3 < (x0.size : Int) then (if 0 ≤ x3 then (if (bt x0 x3) ≥ 97 then (if (bt x0 x3) ≥ 48 then (if ((bt x0 x3) ≤ 122) then (stillageref06_Name.l0 k x0 (wrap64 (x3 + 1))) else (if x3 = 0 then (some false) else (if ((bt x0 x3) ≤ 57) then (stillageref06_Name.l0 k x0 (wrap64 (x3 + 1))) else (some false)))) else (if ((bt x0 x3) ≤ 122) then (stillageref06_Name.l0 k x0 (wrap64 (x3 + 1))) else (if x3 = 0 then (some false) else (some false)))) else (if (bt x0 x3) ≥ 48 then (if x3 = 0 then (some false) else (if ((bt x0 x3) ≤ 57) then (stillageref06_Name.l0 k x0 (wrap64 (x3 + 1))) else (some false))) else (if x3 = 0 then (some false) else (some false)))) else (none)) else (some true)
end
def stillageref06_Name.f (k : Nat) (a0 : ByteArray) : Option (Bool) := if (a0.size : Int) < 1 then (stillageref06_Name.j0 k a0 true) else (stillageref06_Name.j0 k a0 (decide ((a0.size : Int) > 8)))
theorem stillageref06_Name.mono_l : ∀ k, (∀ y0 y1, LeO (stillageref06_Name.j0 k y0 y1) (stillageref06_Name.j0 (k + 1) y0 y1)) ∧ (∀ y0 y1, LeO (stillageref06_Name.l0 k y0 y1) (stillageref06_Name.l0 (k + 1) y0 y1))
 | 0 => ⟨fun _ _ r h => by simp [stillageref06_Name.j0] at h, fun _ _ r h => by simp [stillageref06_Name.l0] at h⟩
 | k + 1 => by
  obtain ⟨ih0, ih1⟩ := stillageref06_Name.mono_l k
  refine ⟨?_, ?_⟩
  ·intro y0 y1
   unfold stillageref06_Name.j0
   repeat' first
   | (with_reducible exact ih0 _ _)
   | (with_reducible exact ih1 _ _)
   | (with_reducible exact LeO.refl _)
   | (with_reducible exact LeO.none _)
   | (with_reducible refine LeO.ite ?_ ?_)
   | (with_reducible refine LeO.bind ?_ (fun _ => ?_))
   | exact ih0 _ _
   | exact ih1 _ _
   | exact LeO.none _
   | refine LeO.ite ?_ ?_
   | refine LeO.bind ?_ (fun _ => ?_)
  ·intro y0 y1
   unfold stillageref06_Name.l0
   repeat' first
   | (with_reducible exact ih0 _ _)
   | (with_reducible exact ih1 _ _)
   | (with_reducible exact LeO.refl _)
   | (with_reducible exact LeO.none _)
   | (with_reducible refine LeO.ite ?_ ?_)
   | (with_reducible refine LeO.bind ?_ (fun _ => ?_))
   | exact ih0 _ _
   | exact ih1 _ _
   | exact LeO.none _
   | refine LeO.ite ?_ ?_
   | refine LeO.bind ?_ (fun _ => ?_)
theorem stillageref06_Name.mono : ∀ a0 k, LeO (stillageref06_Name.f k a0) (stillageref06_Name.f (k + 1) a0) := by
 intro a0 k
 obtain ⟨ih0, ih1⟩ := stillageref06_Name.mono_l k
 unfold stillageref06_Name.f
 repeat' first
   | (with_reducible exact ih0 _ _)
   | (with_reducible exact ih1 _ _)
   | (with_reducible exact LeO.refl _)
   | (with_reducible exact LeO.none _)
   | (with_reducible refine LeO.ite ?_ ?_)
   | (with_reducible refine LeO.bind ?_ (fun _ => ?_))
   | exact ih0 _ _
   | exact ih1 _ _
   | exact LeO.none _
   | refine LeO.ite ?_ ?_
   | refine LeO.bind ?_ (fun _ => ?_)
set_option maxHeartbeats 8000000 in
set_option maxRecDepth 100000 in
theorem stillageref06_Name.calls (k : Nat) (a0 : ByteArray) (r : Bool) (w : World) (h : stillageref06_Name.f k a0 = some r) :
  Calls Try.prog 29 #[.string a0] w fun e w' => e = .returned (.bool r) ∧ Drawn0 w w' := by
 have H : (if (a0.size : Int) < 1 then (stillageref06_Name.j0 k a0 true) else (stillageref06_Name.j0 k a0 (decide ((a0.size : Int) > 8)))) = some r := h
 clear h
 have HC2 := Aside0.mk H
 clear H
 go_enter Try.func29, Try.ntmps29
 go_upto_region 1 with (fail)
 go_cut [13] (fun v13 wc => ∃ (kq : Nat) (x13_1 : Bool), v13 = .bool x13_1 ∧ Aside0 (stillageref06_Name.j0 kq a0 x13_1 = some r) ∧ Aside0 (kq ≤ k) ∧ Drawn0 w wc)
 case first =>
  have H := HC2.out
  clear HC2
  by_cases c3 : (a0.size : Int) < 1
  ·rw [if_pos c3] at H
   have c3b0 : decide ((a0.size : Int) < 1) = true := decide_eq_true c3
   have c3b1 : decide (a0.size < 1) = true := decide_eq_true (by omega)
   clear c3
   (first | rw [c3b0] | (simp only [i64_w, i32_w]; rw [c3b0]) | skip)
   have H' := Aside0.mk H
   clear H
   go_wp2
   go_meet
   case rel => exact ⟨_, (true), rs, H', ⟨by first | omega | exact Nat.le_refl _⟩, by repeat (first | exact Drawn0.refl _ | apply Drawn0.step)⟩
  ·rw [if_neg c3] at H
   have c3b0 : decide ((a0.size : Int) < 1) = false := decide_eq_false c3
   have c3b1 : decide (a0.size < 1) = false := decide_eq_false (by omega)
   clear c3
   (first | rw [c3b0] | (simp only [i64_w, i32_w]; rw [c3b0]) | skip)
   have H' := Aside0.mk H
   clear H
   go_wp2
   go_meet
   case rel => exact ⟨_, (decide ((a0.size : Int) > 8)), rs, H', ⟨by first | omega | exact Nat.le_refl _⟩, by repeat (first | exact Drawn0.refl _ | apply Drawn0.step)⟩
 case rest =>
  clear HC2
  try clear c2
  try clear p2
  try clear c3
  try clear c3b0
  try clear c3b1
  obtain ⟨kq, x13_1, rfl, HA, HJ1, ⟨mc1, rfl⟩⟩ := hcut
  cases kq with
  | zero => exact absurd HA.out (by simp [stillageref06_Name.j0])
  | succ kj1 =>
   have H := HA.out
   clear HA
   simp only [stillageref06_Name.j0] at H
   by_cases c4 : x13_1 = true
   ·subst c4
    have H1 : (some false) = some r := by rw [if_pos rfl] at H; exact H
    clear H
    have H := H1
    clear H1
    obtain rfl := Option.some.inj H
    go_wp2
    go_ret
    exact ⟨by first | rfl | (simp; done) | (simp [*]; done), by repeat (first | exact Drawn0.refl _ | apply Drawn0.step)⟩
   ·replace c4 := Bool.eq_false_iff.mpr c4
    subst c4
    have H1 : (stillageref06_Name.l0 kj1 a0 0) = some r := by rw [if_neg (show ¬ (false = true) by decide)] at H; exact H
    clear H
    have H := H1
    clear H1
    have H' := Aside0.mk H
    clear H
    go_wp2
    go_loopg [3] kj1 (fun kq v3 w' => ∃ (x3_2 : Int), v3 = .int .i64 x3_2 ∧ Aside0 (stillageref06_Name.l0 kq a0 x3_2 = some r) ∧ Aside0 (kq ≤ kj1) ∧ Drawn0 w w')
    case atStart => exact ⟨(0), rs, H', ⟨Nat.le_refl _⟩, by repeat (first | exact Drawn0.refl _ | apply Drawn0.step)⟩
    case round =>
     clear H'
     try clear c1
     try clear c2
     try clear p2
     try clear c3
     try clear c3b0
     try clear c3b1
     try clear c4
     try clear p2
     obtain ⟨x3_2, rfl, HA, HK2, ⟨m2, rfl⟩⟩ := hrel
     cases gk with
     | zero => exact absurd HA.out (by simp [stillageref06_Name.l0])
     | succ k2 =>
      have H := HA.out
      clear HA
      simp only [stillageref06_Name.l0] at H
      by_cases c5 : x3_2 < (a0.size : Int)
      ·rw [if_pos c5] at H
       have c5b0 : decide (x3_2 < (a0.size : Int)) = true := decide_eq_true c5
       clear c5
       by_cases c6 : 0 ≤ x3_2
       ·rw [if_pos c6] at H
        have c6b0 : decide (0 ≤ x3_2) = true := decide_eq_true c6
        clear c6
        by_cases c8 : (bt a0 x3_2) ≥ 97
        ·rw [if_pos c8] at H
         have c8b0 : decide (97 ≤ (bt a0 x3_2)) = true := decide_eq_true c8
         clear c8
         by_cases c11 : (bt a0 x3_2) ≥ 48
         ·rw [if_pos c11] at H
          have c11b0 : decide (48 ≤ (bt a0 x3_2)) = true := decide_eq_true c11
          clear c11
          by_cases c13 : ((bt a0 x3_2) ≤ 122)
          ·rw [if_pos c13] at H
           have c13b0 : decide ((bt a0 x3_2) ≤ 122) = true := decide_eq_true c13
           clear c13
           have H' := Aside0.mk H
           clear H
           have p7 : 0 ≤ (x3_2 : Int) := oda
           have q7 : x3_2 < (a0.size : Int) := oda
           have hx7 := bt_at a0 x3_2
           replace p7 := eq_true p7
           replace q7 := eq_true q7
           have p9 : 0 ≤ (x3_2 : Int) := oda
           have q9 : x3_2 < (a0.size : Int) := oda
           have hx9 := bt_at a0 x3_2
           replace p9 := eq_true p9
           replace q9 := eq_true q9
           have p10 : 0 ≤ (x3_2 : Int) := oda
           have q10 : x3_2 < (a0.size : Int) := oda
           have hx10 := bt_at a0 x3_2
           replace p10 := eq_true p10
           replace q10 := eq_true q10
           have p12 : 0 ≤ (x3_2 : Int) := oda
           have q12 : x3_2 < (a0.size : Int) := oda
           have hx12 := bt_at a0 x3_2
           replace p12 := eq_true p12
           replace q12 := eq_true q12
           go_wp2
           go_roundg k2
           case measure => have := HJ1.out; have := HK2.out; omega
           case rel => exact ⟨(wrap64 (x3_2 + 1)), rs, H', ⟨by have := HJ1.out; have := HK2.out; omega⟩, by repeat (first | exact Drawn0.refl _ | apply Drawn0.step)⟩
          ·rw [if_neg c13] at H
           have c13b0 : decide ((bt a0 x3_2) ≤ 122) = false := decide_eq_false c13
           clear c13
           by_cases c14 : x3_2 = 0
           ·rw [if_pos c14] at H
            have c14b0 : (x3_2 == 0) = true := beq_iff_eq.mpr c14
            have c14b1 : (x3_2 != 0) = false := bne_eq_false_iff_eq.mpr c14
            clear c14
            obtain rfl := Option.some.inj H
            have p7 : 0 ≤ (x3_2 : Int) := oda
            have q7 : x3_2 < (a0.size : Int) := oda
            have hx7 := bt_at a0 x3_2
            replace p7 := eq_true p7
            replace q7 := eq_true q7
            have p9 : 0 ≤ (x3_2 : Int) := oda
            have q9 : x3_2 < (a0.size : Int) := oda
            have hx9 := bt_at a0 x3_2
            replace p9 := eq_true p9
            replace q9 := eq_true q9
            have p10 : 0 ≤ (x3_2 : Int) := oda
            have q10 : x3_2 < (a0.size : Int) := oda
            have hx10 := bt_at a0 x3_2
            replace p10 := eq_true p10
            replace q10 := eq_true q10
            have p12 : 0 ≤ (x3_2 : Int) := oda
            have q12 : x3_2 < (a0.size : Int) := oda
            have hx12 := bt_at a0 x3_2
            replace p12 := eq_true p12
            replace q12 := eq_true q12
            go_wp2
            go_ret
            exact ⟨by first | rfl | (simp; done) | (simp [*]; done), by repeat (first | exact Drawn0.refl _ | apply Drawn0.step)⟩
           ·rw [if_neg c14] at H
            have c14b0 : (x3_2 == 0) = false := beq_eq_false_iff_ne.mpr c14
            have c14b1 : (x3_2 != 0) = true := bne_iff_ne.mpr c14
            by_cases c15 : ((bt a0 x3_2) ≤ 57)
            ·rw [if_pos c15] at H
             have c15b0 : decide ((bt a0 x3_2) ≤ 57) = true := decide_eq_true c15
             clear c15
             have H' := Aside0.mk H
             clear H
             have p7 : 0 ≤ (x3_2 : Int) := oda
             have q7 : x3_2 < (a0.size : Int) := oda
             have hx7 := bt_at a0 x3_2
             replace p7 := eq_true p7
             replace q7 := eq_true q7
             have p9 : 0 ≤ (x3_2 : Int) := oda
             have q9 : x3_2 < (a0.size : Int) := oda
             have hx9 := bt_at a0 x3_2
             replace p9 := eq_true p9
             replace q9 := eq_true q9
             have p10 : 0 ≤ (x3_2 : Int) := oda
             have q10 : x3_2 < (a0.size : Int) := oda
             have hx10 := bt_at a0 x3_2
             replace p10 := eq_true p10
             replace q10 := eq_true q10
             have p12 : 0 ≤ (x3_2 : Int) := oda
             have q12 : x3_2 < (a0.size : Int) := oda
             have hx12 := bt_at a0 x3_2
             replace p12 := eq_true p12
             replace q12 := eq_true q12
             go_wp2
             go_roundg k2
             case measure => have := HJ1.out; have := HK2.out; omega
             case rel => exact ⟨(wrap64 (x3_2 + 1)), rs, H', ⟨by have := HJ1.out; have := HK2.out; omega⟩, by repeat (first | exact Drawn0.refl _ | apply Drawn0.step)⟩
            ·rw [if_neg c15] at H
             have c15b0 : decide ((bt a0 x3_2) ≤ 57) = false := decide_eq_false c15
             clear c15
             obtain rfl := Option.some.inj H
             have p7 : 0 ≤ (x3_2 : Int) := oda
             have q7 : x3_2 < (a0.size : Int) := oda
             have hx7 := bt_at a0 x3_2
             replace p7 := eq_true p7
             replace q7 := eq_true q7
             have p9 : 0 ≤ (x3_2 : Int) := oda
             have q9 : x3_2 < (a0.size : Int) := oda
             have hx9 := bt_at a0 x3_2
             replace p9 := eq_true p9
             replace q9 := eq_true q9
             have p10 : 0 ≤ (x3_2 : Int) := oda
             have q10 : x3_2 < (a0.size : Int) := oda
             have hx10 := bt_at a0 x3_2
             replace p10 := eq_true p10
             replace q10 := eq_true q10
             have p12 : 0 ≤ (x3_2 : Int) := oda
             have q12 : x3_2 < (a0.size : Int) := oda
             have hx12 := bt_at a0 x3_2
             replace p12 := eq_true p12
             replace q12 := eq_true q12
             go_wp2
             go_ret
             exact ⟨by first | rfl | (simp; done) | (simp [*]; done), by repeat (first | exact Drawn0.refl _ | apply Drawn0.step)⟩
         ·rw [if_neg c11] at H
          have c11b0 : decide (48 ≤ (bt a0 x3_2)) = false := decide_eq_false c11
          clear c11
          by_cases c16 : ((bt a0 x3_2) ≤ 122)
          ·rw [if_pos c16] at H
           have c16b0 : decide ((bt a0 x3_2) ≤ 122) = true := decide_eq_true c16
           clear c16
           have H' := Aside0.mk H
           clear H
           have p7 : 0 ≤ (x3_2 : Int) := oda
           have q7 : x3_2 < (a0.size : Int) := oda
           have hx7 := bt_at a0 x3_2
           replace p7 := eq_true p7
           replace q7 := eq_true q7
           have p9 : 0 ≤ (x3_2 : Int) := oda
           have q9 : x3_2 < (a0.size : Int) := oda
           have hx9 := bt_at a0 x3_2
           replace p9 := eq_true p9
           replace q9 := eq_true q9
           have p10 : 0 ≤ (x3_2 : Int) := oda
           have q10 : x3_2 < (a0.size : Int) := oda
           have hx10 := bt_at a0 x3_2
           replace p10 := eq_true p10
           replace q10 := eq_true q10
           go_wp2
           go_roundg k2
           case measure => have := HJ1.out; have := HK2.out; omega
           case rel => exact ⟨(wrap64 (x3_2 + 1)), rs, H', ⟨by have := HJ1.out; have := HK2.out; omega⟩, by repeat (first | exact Drawn0.refl _ | apply Drawn0.step)⟩
          ·rw [if_neg c16] at H
           have c16b0 : decide ((bt a0 x3_2) ≤ 122) = false := decide_eq_false c16
           clear c16
           by_cases c17 : x3_2 = 0
           ·rw [if_pos c17] at H
            have c17b0 : (x3_2 == 0) = true := beq_iff_eq.mpr c17
            have c17b1 : (x3_2 != 0) = false := bne_eq_false_iff_eq.mpr c17
            clear c17
            obtain rfl := Option.some.inj H
            have p7 : 0 ≤ (x3_2 : Int) := oda
            have q7 : x3_2 < (a0.size : Int) := oda
            have hx7 := bt_at a0 x3_2
            replace p7 := eq_true p7
            replace q7 := eq_true q7
            have p9 : 0 ≤ (x3_2 : Int) := oda
            have q9 : x3_2 < (a0.size : Int) := oda
            have hx9 := bt_at a0 x3_2
            replace p9 := eq_true p9
            replace q9 := eq_true q9
            have p10 : 0 ≤ (x3_2 : Int) := oda
            have q10 : x3_2 < (a0.size : Int) := oda
            have hx10 := bt_at a0 x3_2
            replace p10 := eq_true p10
            replace q10 := eq_true q10
            go_wp2
            go_ret
            exact ⟨by first | rfl | (simp; done) | (simp [*]; done), by repeat (first | exact Drawn0.refl _ | apply Drawn0.step)⟩
           ·rw [if_neg c17] at H
            have c17b0 : (x3_2 == 0) = false := beq_eq_false_iff_ne.mpr c17
            have c17b1 : (x3_2 != 0) = true := bne_iff_ne.mpr c17
            obtain rfl := Option.some.inj H
            have p7 : 0 ≤ (x3_2 : Int) := oda
            have q7 : x3_2 < (a0.size : Int) := oda
            have hx7 := bt_at a0 x3_2
            replace p7 := eq_true p7
            replace q7 := eq_true q7
            have p9 : 0 ≤ (x3_2 : Int) := oda
            have q9 : x3_2 < (a0.size : Int) := oda
            have hx9 := bt_at a0 x3_2
            replace p9 := eq_true p9
            replace q9 := eq_true q9
            have p10 : 0 ≤ (x3_2 : Int) := oda
            have q10 : x3_2 < (a0.size : Int) := oda
            have hx10 := bt_at a0 x3_2
            replace p10 := eq_true p10
            replace q10 := eq_true q10
            go_wp2
            go_ret
            exact ⟨by first | rfl | (simp; done) | (simp [*]; done), by repeat (first | exact Drawn0.refl _ | apply Drawn0.step)⟩
        ·rw [if_neg c8] at H
         have c8b0 : decide (97 ≤ (bt a0 x3_2)) = false := decide_eq_false c8
         clear c8
         by_cases c19 : (bt a0 x3_2) ≥ 48
         ·rw [if_pos c19] at H
          have c19b0 : decide (48 ≤ (bt a0 x3_2)) = true := decide_eq_true c19
          clear c19
          by_cases c21 : x3_2 = 0
          ·rw [if_pos c21] at H
           have c21b0 : (x3_2 == 0) = true := beq_iff_eq.mpr c21
           have c21b1 : (x3_2 != 0) = false := bne_eq_false_iff_eq.mpr c21
           clear c21
           obtain rfl := Option.some.inj H
           have p7 : 0 ≤ (x3_2 : Int) := oda
           have q7 : x3_2 < (a0.size : Int) := oda
           have hx7 := bt_at a0 x3_2
           replace p7 := eq_true p7
           replace q7 := eq_true q7
           have p18 : 0 ≤ (x3_2 : Int) := oda
           have q18 : x3_2 < (a0.size : Int) := oda
           have hx18 := bt_at a0 x3_2
           replace p18 := eq_true p18
           replace q18 := eq_true q18
           have p20 : 0 ≤ (x3_2 : Int) := oda
           have q20 : x3_2 < (a0.size : Int) := oda
           have hx20 := bt_at a0 x3_2
           replace p20 := eq_true p20
           replace q20 := eq_true q20
           go_wp2
           go_ret
           exact ⟨by first | rfl | (simp; done) | (simp [*]; done), by repeat (first | exact Drawn0.refl _ | apply Drawn0.step)⟩
          ·rw [if_neg c21] at H
           have c21b0 : (x3_2 == 0) = false := beq_eq_false_iff_ne.mpr c21
           have c21b1 : (x3_2 != 0) = true := bne_iff_ne.mpr c21
           by_cases c22 : ((bt a0 x3_2) ≤ 57)
           ·rw [if_pos c22] at H
            have c22b0 : decide ((bt a0 x3_2) ≤ 57) = true := decide_eq_true c22
            clear c22
            have H' := Aside0.mk H
            clear H
            have p7 : 0 ≤ (x3_2 : Int) := oda
            have q7 : x3_2 < (a0.size : Int) := oda
            have hx7 := bt_at a0 x3_2
            replace p7 := eq_true p7
            replace q7 := eq_true q7
            have p18 : 0 ≤ (x3_2 : Int) := oda
            have q18 : x3_2 < (a0.size : Int) := oda
            have hx18 := bt_at a0 x3_2
            replace p18 := eq_true p18
            replace q18 := eq_true q18
            have p20 : 0 ≤ (x3_2 : Int) := oda
            have q20 : x3_2 < (a0.size : Int) := oda
            have hx20 := bt_at a0 x3_2
            replace p20 := eq_true p20
            replace q20 := eq_true q20
            go_wp2
            go_roundg k2
            case measure => have := HJ1.out; have := HK2.out; omega
            case rel => exact ⟨(wrap64 (x3_2 + 1)), rs, H', ⟨by have := HJ1.out; have := HK2.out; omega⟩, by repeat (first | exact Drawn0.refl _ | apply Drawn0.step)⟩
           ·rw [if_neg c22] at H
            have c22b0 : decide ((bt a0 x3_2) ≤ 57) = false := decide_eq_false c22
            clear c22
            obtain rfl := Option.some.inj H
            have p7 : 0 ≤ (x3_2 : Int) := oda
            have q7 : x3_2 < (a0.size : Int) := oda
            have hx7 := bt_at a0 x3_2
            replace p7 := eq_true p7
            replace q7 := eq_true q7
            have p18 : 0 ≤ (x3_2 : Int) := oda
            have q18 : x3_2 < (a0.size : Int) := oda
            have hx18 := bt_at a0 x3_2
            replace p18 := eq_true p18
            replace q18 := eq_true q18
            have p20 : 0 ≤ (x3_2 : Int) := oda
            have q20 : x3_2 < (a0.size : Int) := oda
            have hx20 := bt_at a0 x3_2
            replace p20 := eq_true p20
            replace q20 := eq_true q20
            go_wp2
            go_ret
            exact ⟨by first | rfl | (simp; done) | (simp [*]; done), by repeat (first | exact Drawn0.refl _ | apply Drawn0.step)⟩
         ·rw [if_neg c19] at H
          have c19b0 : decide (48 ≤ (bt a0 x3_2)) = false := decide_eq_false c19
          clear c19
          by_cases c23 : x3_2 = 0
          ·rw [if_pos c23] at H
           have c23b0 : (x3_2 == 0) = true := beq_iff_eq.mpr c23
           have c23b1 : (x3_2 != 0) = false := bne_eq_false_iff_eq.mpr c23
           clear c23
           obtain rfl := Option.some.inj H
           have p7 : 0 ≤ (x3_2 : Int) := oda
           have q7 : x3_2 < (a0.size : Int) := oda
           have hx7 := bt_at a0 x3_2
           replace p7 := eq_true p7
           replace q7 := eq_true q7
           have p18 : 0 ≤ (x3_2 : Int) := oda
           have q18 : x3_2 < (a0.size : Int) := oda
           have hx18 := bt_at a0 x3_2
           replace p18 := eq_true p18
           replace q18 := eq_true q18
           go_wp2
           go_ret
           exact ⟨by first | rfl | (simp; done) | (simp [*]; done), by repeat (first | exact Drawn0.refl _ | apply Drawn0.step)⟩
          ·rw [if_neg c23] at H
           have c23b0 : (x3_2 == 0) = false := beq_eq_false_iff_ne.mpr c23
           have c23b1 : (x3_2 != 0) = true := bne_iff_ne.mpr c23
           obtain rfl := Option.some.inj H
           have p7 : 0 ≤ (x3_2 : Int) := oda
           have q7 : x3_2 < (a0.size : Int) := oda
           have hx7 := bt_at a0 x3_2
           replace p7 := eq_true p7
           replace q7 := eq_true q7
           have p18 : 0 ≤ (x3_2 : Int) := oda
           have q18 : x3_2 < (a0.size : Int) := oda
           have hx18 := bt_at a0 x3_2
           replace p18 := eq_true p18
           replace q18 := eq_true q18
           go_wp2
           go_ret
           exact ⟨by first | rfl | (simp; done) | (simp [*]; done), by repeat (first | exact Drawn0.refl _ | apply Drawn0.step)⟩
       ·rw [if_neg c6] at H
        exact absurd H (by simp)
      ·rw [if_neg c5] at H
       have c5b0 : decide (x3_2 < (a0.size : Int)) = false := decide_eq_false c5
       clear c5
       obtain rfl := Option.some.inj H
       go_wp2
       go_ret
       exact ⟨by first | rfl | (simp; done) | (simp [*]; done), by repeat (first | exact Drawn0.refl _ | apply Drawn0.step)⟩

end Go.Proofs.Ytkdfohmceokchaa.PZoneJoined
