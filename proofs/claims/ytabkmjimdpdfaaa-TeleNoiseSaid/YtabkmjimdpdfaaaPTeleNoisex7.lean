-- Written by a program of this session (wip/oprint): after the pattern of the kit's print, which does not take this law.
import Derived.Test.YtabkmjimdpdfaaaPTeleNoisex0
import Derived.Test.YtabkmjimdpdfaaaPTeleNoisex1
import Derived.Test.YtabkmjimdpdfaaaPTeleNoisex3
import Derived.Test.YtabkmjimdpdfaaaPTeleNoisex4
import Derived.Test.YtabkmjimdpdfaaaPTeleNoisex6
namespace Go.Proofs.Ytabkmjimdpdfaaa.PTeleNoise
open Go.RowKit Go.Proofs.YtabkmjimdpdfaaaW.PrintWords Go.Proofs.YtabkmjimdpdfaaaW.PrintLast Go.Proofs.YtabkmjimdpdfaaaW.PrintMore
attribute [local go_sem] max2_int min2_int max_two min_two max_three min_three max_four min_four   -- for this text's walks alone
set_option linter.unusedVariables false
set_option linter.unusedSimpArgs false

attribute [local go_sem high] eqA24
/-! ### stillagelaw02_TeleNoise: function 10 -/
mutual
def stillagelaw02_TeleNoise.j0 : Nat → List Int → Int → Bool → Int → Int → Int → Int → Int → Option (Bool)
  | 0, _, _, _, _, _, _, _, _ => none
  | k + 1, x0, x2, x20, x209000, x209001, x209002, x209003, x209004 => if x20 = true then ((stillagelaw02_awake.f k).bind fun t210 => (some t210)) else ((some (([] : List Int) : List Int)).bind fun y211 => (if y211.length + x0.length < 140737488355328 then ((some (y211 ++ x0 : List Int)).bind fun y214 => (stillagelaw02_TeleNoise.l0 k x2 y214 (y214.length : Int) 0 x209000 x209001 x209002 x209003 x209004)) else (none)))
def stillagelaw02_TeleNoise.l0 : Nat → Int → List Int → Int → Int → Int → Int → Int → Int → Int → Option (Bool)
  | 0, _, _, _, _, _, _, _, _, _ => none
  | k + 1, x2, x7, x26, x27, x209000, x209001, x209002, x209003, x209004 => if x27 < x26 then (if 0 ≤ x27 then (if x27 < (x7.length : Int) then (if (rd x7 x27) = 165 then (stillagelaw02_TeleNoise.l0 k x2 (x7.set (x27 : Int).toNat 0) x26 (wrap64 (x27 + 1)) x209000 x209001 x209002 x209003 x209004) else (stillagelaw02_TeleNoise.l0 k x2 x7 x26 (wrap64 (x27 + 1)) x209000 x209001 x209002 x209003 x209004)) else (none)) else (none)) else ((tele_Split.f k x7).bind fun bt219 => (if (bt219.1.length : Int) = 0 then (if (wrap64 (bt219.2.2 + (bt219.2.1.length : Int))) = (x7.length : Int) then (stillagelaw02_TeleNoise.j2 k x2 x7 ((bt219.2.1.length : Int) != (mn (x7.length : Int) 11)) x209000 x209001 x209002 x209003 x209004) else (stillagelaw02_TeleNoise.j2 k x2 x7 true x209000 x209001 x209002 x209003 x209004)) else (stillagelaw02_TeleNoise.j2 k x2 x7 true x209000 x209001 x209002 x209003 x209004)))
def stillagelaw02_TeleNoise.j2 : Nat → Int → List Int → Bool → Int → Int → Int → Int → Int → Option (Bool)
  | 0, _, _, _, _, _, _, _, _ => none
  | k + 1, x2, x7, x64, x209000, x209001, x209002, x209003, x209004 => if x64 = true then (some false) else ((tele_Encode.f k x209000 x209001 x209002 x209003 x209004).bind fun bt226 => (if bt226.2 = 0 then (if (IntKind.u64.wrap (wrap64 ((x7.length : Int) + 1))) = 0 then (none) else ((some (([] : List Int) : List Int)).bind fun y230 => (if 0 ≤ (wrap64 (Int.tmod (IntKind.u64.wrap (x2)) (IntKind.u64.wrap (wrap64 ((x7.length : Int) + 1))))) then (if (wrap64 (Int.tmod (IntKind.u64.wrap (x2)) (IntKind.u64.wrap (wrap64 ((x7.length : Int) + 1))))) ≤ (x7.length : Int) then ((some (x7.take ((wrap64 (Int.tmod (IntKind.u64.wrap (x2)) (IntKind.u64.wrap (wrap64 ((x7.length : Int) + 1))))) : Int).toNat : List Int)).bind fun y233 => (if y230.length + y233.length < 140737488355328 then ((some (y230 ++ y233 : List Int)).bind fun y237 => (if y237.length + bt226.1.length < 140737488355328 then ((some (y237 ++ bt226.1 : List Int)).bind fun y240 => ((some (x7.drop ((wrap64 (Int.tmod (IntKind.u64.wrap (x2)) (IntKind.u64.wrap (wrap64 ((x7.length : Int) + 1))))) : Int).toNat : List Int)).bind fun y243 => (if y240.length + y243.length < 140737488355328 then ((tele_Split.f k (y240 ++ y243)).bind fun bt250 => (if (bt250.1.length : Int) = 1 then (if 0 < (bt250.1.length : Int) then (if (((rd_T24 bt250.1 0).f0) == x209000 && (((rd_T24 bt250.1 0).f1) == x209001 && (((rd_T24 bt250.1 0).f2) == x209002 && (((rd_T24 bt250.1 0).f3) == x209003 && (((rd_T24 bt250.1 0).f4) == x209004))))) = true then (some ((wrap64 (bt250.2.2 + (bt250.2.1.length : Int))) == (x7.length : Int))) else (some false)) else (none)) else (some false))) else (none)))) else (none))) else (none))) else (none)) else (none)))) else (some true)))
end
def stillagelaw02_TeleNoise.f (k : Nat) (l0 : List Int) (a1_0 : Int) (a1_1 : Int) (a1_2 : Int) (a1_3 : Int) (a1_4 : Int) (a2 : Int) : Option (Bool) := (stillagelaw02_awake.f k).bind fun t209 => (if t209 = true then (stillagelaw02_TeleNoise.j0 k l0 a2 (decide ((l0.length : Int) > 500)) a1_0 a1_1 a1_2 a1_3 a1_4) else (stillagelaw02_TeleNoise.j0 k l0 a2 true a1_0 a1_1 a1_2 a1_3 a1_4))
theorem stillagelaw02_TeleNoise.mono_l : ∀ k, (∀ y0 y1 y2 y3 y4 y5 y6 y7, LeO (stillagelaw02_TeleNoise.j0 k y0 y1 y2 y3 y4 y5 y6 y7) (stillagelaw02_TeleNoise.j0 (k + 1) y0 y1 y2 y3 y4 y5 y6 y7)) ∧ (∀ y0 y1 y2 y3 y4 y5 y6 y7 y8, LeO (stillagelaw02_TeleNoise.l0 k y0 y1 y2 y3 y4 y5 y6 y7 y8) (stillagelaw02_TeleNoise.l0 (k + 1) y0 y1 y2 y3 y4 y5 y6 y7 y8)) ∧ (∀ y0 y1 y2 y3 y4 y5 y6 y7, LeO (stillagelaw02_TeleNoise.j2 k y0 y1 y2 y3 y4 y5 y6 y7) (stillagelaw02_TeleNoise.j2 (k + 1) y0 y1 y2 y3 y4 y5 y6 y7))
  | 0 => ⟨fun _ _ _ _ _ _ _ _ r h => by simp [stillagelaw02_TeleNoise.j0] at h, fun _ _ _ _ _ _ _ _ _ r h => by simp [stillagelaw02_TeleNoise.l0] at h, fun _ _ _ _ _ _ _ _ r h => by simp [stillagelaw02_TeleNoise.j2] at h⟩
  | k + 1 => by
    obtain ⟨ih0, ih1, ih2⟩ := stillagelaw02_TeleNoise.mono_l k
    refine ⟨?_, ?_, ?_⟩
    · intro y0 y1 y2 y3 y4 y5 y6 y7
      unfold stillagelaw02_TeleNoise.j0
      repeat' first
      | (with_reducible exact ih0 _ _ _ _ _ _ _ _)
      | (with_reducible exact ih1 _ _ _ _ _ _ _ _ _)
      | (with_reducible exact ih2 _ _ _ _ _ _ _ _)
      | (with_reducible exact stillagelaw02_awake.mono _)
      | (with_reducible exact tele_Encode.mono _ _ _ _ _ _)
      | (with_reducible exact tele_Split.mono _ _)
      | (with_reducible exact LeO.refl _)
      | (with_reducible exact LeO.none _)
      | (with_reducible refine LeO.ite ?_ ?_)
      | (with_reducible refine LeO.bind ?_ (fun _ => ?_))
      | exact ih0 _ _ _ _ _ _ _ _
      | exact ih1 _ _ _ _ _ _ _ _ _
      | exact ih2 _ _ _ _ _ _ _ _
      | exact stillagelaw02_awake.mono _
      | exact tele_Encode.mono _ _ _ _ _ _
      | exact tele_Split.mono _ _
      | exact LeO.none _
      | refine LeO.ite ?_ ?_
      | refine LeO.bind ?_ (fun _ => ?_)
    · intro y0 y1 y2 y3 y4 y5 y6 y7 y8
      unfold stillagelaw02_TeleNoise.l0
      repeat' first
      | (with_reducible exact ih0 _ _ _ _ _ _ _ _)
      | (with_reducible exact ih1 _ _ _ _ _ _ _ _ _)
      | (with_reducible exact ih2 _ _ _ _ _ _ _ _)
      | (with_reducible exact stillagelaw02_awake.mono _)
      | (with_reducible exact tele_Encode.mono _ _ _ _ _ _)
      | (with_reducible exact tele_Split.mono _ _)
      | (with_reducible exact LeO.refl _)
      | (with_reducible exact LeO.none _)
      | (with_reducible refine LeO.ite ?_ ?_)
      | (with_reducible refine LeO.bind ?_ (fun _ => ?_))
      | exact ih0 _ _ _ _ _ _ _ _
      | exact ih1 _ _ _ _ _ _ _ _ _
      | exact ih2 _ _ _ _ _ _ _ _
      | exact stillagelaw02_awake.mono _
      | exact tele_Encode.mono _ _ _ _ _ _
      | exact tele_Split.mono _ _
      | exact LeO.none _
      | refine LeO.ite ?_ ?_
      | refine LeO.bind ?_ (fun _ => ?_)
    · intro y0 y1 y2 y3 y4 y5 y6 y7
      unfold stillagelaw02_TeleNoise.j2
      repeat' first
      | (with_reducible exact ih0 _ _ _ _ _ _ _ _)
      | (with_reducible exact ih1 _ _ _ _ _ _ _ _ _)
      | (with_reducible exact ih2 _ _ _ _ _ _ _ _)
      | (with_reducible exact stillagelaw02_awake.mono _)
      | (with_reducible exact tele_Encode.mono _ _ _ _ _ _)
      | (with_reducible exact tele_Split.mono _ _)
      | (with_reducible exact LeO.refl _)
      | (with_reducible exact LeO.none _)
      | (with_reducible refine LeO.ite ?_ ?_)
      | (with_reducible refine LeO.bind ?_ (fun _ => ?_))
      | exact ih0 _ _ _ _ _ _ _ _
      | exact ih1 _ _ _ _ _ _ _ _ _
      | exact ih2 _ _ _ _ _ _ _ _
      | exact stillagelaw02_awake.mono _
      | exact tele_Encode.mono _ _ _ _ _ _
      | exact tele_Split.mono _ _
      | exact LeO.none _
      | refine LeO.ite ?_ ?_
      | refine LeO.bind ?_ (fun _ => ?_)
theorem stillagelaw02_TeleNoise.mono : ∀ a0 a1 a2 a3 a4 a5 a6 k, LeO (stillagelaw02_TeleNoise.f k a0 a1 a2 a3 a4 a5 a6) (stillagelaw02_TeleNoise.f (k + 1) a0 a1 a2 a3 a4 a5 a6) := by
  intro a0 a1 a2 a3 a4 a5 a6 k
  obtain ⟨ih0, ih1, ih2⟩ := stillagelaw02_TeleNoise.mono_l k
  unfold stillagelaw02_TeleNoise.f
  repeat' first
      | (with_reducible exact ih0 _ _ _ _ _ _ _ _)
      | (with_reducible exact ih1 _ _ _ _ _ _ _ _ _)
      | (with_reducible exact ih2 _ _ _ _ _ _ _ _)
      | (with_reducible exact stillagelaw02_awake.mono _)
      | (with_reducible exact tele_Encode.mono _ _ _ _ _ _)
      | (with_reducible exact tele_Split.mono _ _)
      | (with_reducible exact LeO.refl _)
      | (with_reducible exact LeO.none _)
      | (with_reducible refine LeO.ite ?_ ?_)
      | (with_reducible refine LeO.bind ?_ (fun _ => ?_))
      | exact ih0 _ _ _ _ _ _ _ _
      | exact ih1 _ _ _ _ _ _ _ _ _
      | exact ih2 _ _ _ _ _ _ _ _
      | exact stillagelaw02_awake.mono _
      | exact tele_Encode.mono _ _ _ _ _ _
      | exact tele_Split.mono _ _
      | exact LeO.none _
      | refine LeO.ite ?_ ?_
      | refine LeO.bind ?_ (fun _ => ?_)
def stillagelaw02_TeleNoise.T17 : Bool × List (List Nat × List Nat) := (true, [([], []), ([], []), ([], []), ([1, 2], [1, 2]), ([0, 3], [0, 3]), ([], []), ([4, 5, 4], [4, 5]), ([], []), ([], []), ([7, 8], [7, 8]), ([6, 9, 6], [6, 9]), ([10, 10], [10]), ([11], [11]), ([12], [12]), ([12], [12]), ([12], [12]), ([13, 11, 0, 1, 2, 3, 4, 5, 6, 7, 8, 9, 10, 11, 12, 13], [13]), ([14, 16, 0, 1, 2, 3, 4, 5, 6, 7, 8, 9, 10, 11, 12, 13, 14, 16], [14]), ([15, 17, 0, 1, 2, 3, 4, 5, 6, 7, 8, 9, 10, 11, 12, 13, 14, 15, 16, 17], [15])])
def stillagelaw02_TeleNoise.B17 : List Nat := [0, 0, 0, 6, 15, 0, 63, 0, 0, 384, 1023, 2047, 4095, 8191, 8191, 8191, 16383, 98303, 262143]
theorem stillagelaw02_TeleNoise.tab17 : rtab .any (opsOf Try.f10 17) = stillagelaw02_TeleNoise.T17 := by kernel_rfl
theorem stillagelaw02_TeleNoise.bits17 : waitsOk stillagelaw02_TeleNoise.T17.2 stillagelaw02_TeleNoise.B17 = true := by kernel_rfl
def stillagelaw02_TeleNoise.T18 : Bool × List (List Nat × List Nat) := (true, [([], []), ([0], [0]), ([1], [1]), ([2], [2]), ([3], [3]), ([4, 3], [3, 4]), ([5, 3], [3, 5]), ([3], [3]), ([6, 7, 3], [3, 6, 7]), ([3, 8], [3, 8]), ([9, 3], [9]), ([10], [10]), ([10], [10]), ([12, 10], [10, 12]), ([11, 13, 10], [10, 11, 13]), ([10], [10]), ([15, 10], [10, 15]), ([14, 16, 10], [10, 14, 16]), ([10, 17], [10, 17]), ([18, 10, 0, 1, 2, 3, 4, 5, 6, 7, 8, 9, 10, 11, 12, 13, 14, 15, 16, 17, 18], [18])])
def stillagelaw02_TeleNoise.B18 : List Nat := [0, 1, 3, 7, 15, 31, 63, 15, 255, 511, 1023, 2047, 2047, 6143, 16383, 2047, 34815, 131071, 262143, 524287]
theorem stillagelaw02_TeleNoise.tab18 : rtab .any (opsOf Try.f10 18) = stillagelaw02_TeleNoise.T18 := by kernel_rfl
theorem stillagelaw02_TeleNoise.bits18 : waitsOk stillagelaw02_TeleNoise.T18.2 stillagelaw02_TeleNoise.B18 = true := by kernel_rfl
set_option maxHeartbeats 8000000 in
set_option maxRecDepth 100000 in
theorem stillagelaw02_TeleNoise.calls (k : Nat) (A0 : Option Addr) (c0 : Nat) (l0 : List Int) (a1_0 : Int) (a1_1 : Int) (a1_2 : Int) (a1_3 : Int) (a1_4 : Int) (a2 : Int) (r : Bool) (w : World) (hr0 : Kd.C (Kd.int .u8) w A0 l0.length l0) (hc0 : l0.length ≤ c0) (h : stillagelaw02_TeleNoise.f k l0 a1_0 a1_1 a1_2 a1_3 a1_4 a2 = some r) :
    Calls Try.prog 10 #[.slice A0 l0.length c0, .agg #[.int .u8 a1_0, .int .u16 a1_1, .int .u16 a1_2, .int .u16 a1_3, .int .u16 a1_4], .int .i64 a2] w fun e w' => e = .returned (.bool r) ∧ Below w.heap.size w w' := by
  have hu24 := Try.underlying24
  have HR0 := Aside0.mk hr0
  have HC0 := Aside0.mk hc0
  clear hr0 hc0
  have HB := Aside0.mk (Below.refl w.heap.size w)
  have H : ((stillagelaw02_awake.f k).bind fun t209 => (if t209 = true then (stillagelaw02_TeleNoise.j0 k l0 a2 (decide ((l0.length : Int) > 500)) a1_0 a1_1 a1_2 a1_3 a1_4) else (stillagelaw02_TeleNoise.j0 k l0 a2 true a1_0 a1_1 a1_2 a1_3 a1_4))) = some r := h
  clear h
  have HC4 := Aside0.mk H
  clear H
  go_enter Try.func10, Try.ntmps10
  go_upto_region 1 with (first | ((with_reducible refine gate_dst (N := 4) rfl ?_); (try (refine gate_guard (by rfl) ?_; dsimp only)); refine box_event ?hg (N := 4) ?hd (cs := #[.int .u8 a1_0, .int .u16 a1_1, .int .u16 a1_2, .int .u16 a1_3, .int .u16 a1_4]) (t := 24) ?hr ?_; (case hd => rfl); (case hg => rfl); (case hr => first | (go_simp; done) | (go_simp; rfl)); intro gb208 hg w5 hbox hb; have n0_ := Aside0.mk (below_step (by repeat (first | (with_reducible first | exact HB.out | apply below_alloc | apply pw_below_drewN | apply below_drew1) | exact HB.out)) hb); have n1_ := Aside0.mk (hbox); have n2_ := Aside0.mk ((by rw [hg]; exact (below_size (by repeat (first | (with_reducible first | exact HB.out | apply below_alloc | apply pw_below_drewN | apply below_drew1) | exact HB.out))) : w.heap.size ≤ gb208)); have n3_ := Aside0.mk ((by rw [hg]; exact (below_size (by repeat (first | (with_reducible first | exact HB.out | apply below_alloc | apply pw_below_drewN | apply below_drew1) | exact HB.out))) : w.heap.size ≤ gb208)); clear HB; have HB := n0_; have BK208 := n1_; have GW208 := n2_; have GE208 := n3_; clear n0_ n1_ n2_ n3_; clear hb hbox hg))
  (try simp only [Act.put, List.setIfInBounds_toArray, List.set_cons_zero, List.set_cons_succ])
  go_cut [20] (fun v20 wc => ∃ (kq : Nat) (x20_3 : Bool), v20 = .bool x20_3 ∧ Aside0 (stillagelaw02_TeleNoise.j0 kq l0 a2 x20_3 a1_0 a1_1 a1_2 a1_3 a1_4 = some r) ∧ Aside0 (kq ≤ k) ∧ Aside0 (wc.heap[gb208]? = some (.cells #[.int .u8 a1_0, .int .u16 a1_1, .int .u16 a1_2, .int .u16 a1_3, .int .u16 a1_4] 24 (0, 0))) ∧ Aside0 (Below w.heap.size w wc))
  case first =>
    have H := HC4.out
    clear HC4
    replace H := Option.bind_eq_some_iff.mp H
    obtain ⟨t209, A60, H⟩ := H
    replace H : (if t209 = true then (stillagelaw02_TeleNoise.j0 k l0 a2 (decide ((l0.length : Int) > 500)) a1_0 a1_1 a1_2 a1_3 a1_4) else (stillagelaw02_TeleNoise.j0 k l0 a2 true a1_0 a1_1 a1_2 a1_3 a1_4)) = some r := H
    have A6 := Aside0.mk A60
    clear A60
    by_cases c7 : t209 = true
    · subst c7
      have H1 : (stillagelaw02_TeleNoise.j0 k l0 a2 (decide ((l0.length : Int) > 500)) a1_0 a1_1 a1_2 a1_3 a1_4) = some r := by rw [if_pos rfl] at H; exact H
      clear H
      have H := H1
      clear H1
      have H' := Aside0.mk H
      clear H
      go_wp2_with (first | ((with_reducible refine gate_callee (f := 11) rfl ?_); refine goesL_ (some 14) rfl rfl Try.func11 (by kernel_rfl) rfl #[] rfl (by (try simp only [List.map_toArray, List.map_cons, List.map_nil]); first | done | rfl | (simp only [List.length_drop, List.length_take]; rfl)) ?_; (with_reducible refine (stillagelaw02_awake.calls k  true _ A6.out).mono ?_); rintro e w8 ⟨rfl, hb⟩; refine ⟨_, rfl, ?_⟩; have n0_ := Aside0.mk (blk_below (g := gb208) (o := .cells #[.int .u8 a1_0, .int .u16 a1_1, .int .u16 a1_2, .int .u16 a1_3, .int .u16 a1_4] 24 (0, 0)) (by (with_reducible repeat (first | refine blk_drewN ?_ _ | refine blk_drew ?_ | refine blk_alloc ?_ _)); exact BK208.out) hb); have n1_ := Aside0.mk (below_step (by repeat (first | (with_reducible first | exact HB.out | apply below_alloc | apply pw_below_drewN | apply below_drew1 | refine below_set ?_ GE208.out) | exact HB.out)) hb); clear BK208; clear HB; have BK208 := n0_; have HB := n1_; clear n0_ n1_; (try clear hb); (try clear hb2); (try clear hk); (try clear hi)))
      go_meet
      case rel => exact ⟨_, (decide ((l0.length : Int) > 500)), (by first | rfl | (simp; done) | (simp [*]; done)), H', ⟨by first | omega | exact Nat.le_refl _⟩, ⟨by (with_reducible repeat (first | refine blk_drewN ?_ _ | refine blk_drew ?_ | refine blk_alloc ?_ _)); exact BK208.out⟩, ⟨by repeat (first | (with_reducible first | exact HB.out | apply below_alloc | apply pw_below_drewN | apply below_drew1 | refine below_set ?_ GE208.out) | exact HB.out)⟩⟩
    · replace c7 := Bool.eq_false_iff.mpr c7
      subst c7
      have H1 : (stillagelaw02_TeleNoise.j0 k l0 a2 true a1_0 a1_1 a1_2 a1_3 a1_4) = some r := by rw [if_neg (show ¬ (false = true) by decide)] at H; exact H
      clear H
      have H := H1
      clear H1
      have H' := Aside0.mk H
      clear H
      go_wp2_with (first | ((with_reducible refine gate_callee (f := 11) rfl ?_); refine goesL_ (some 14) rfl rfl Try.func11 (by kernel_rfl) rfl #[] rfl (by (try simp only [List.map_toArray, List.map_cons, List.map_nil]); first | done | rfl | (simp only [List.length_drop, List.length_take]; rfl)) ?_; (with_reducible refine (stillagelaw02_awake.calls k  false _ A6.out).mono ?_); rintro e w9 ⟨rfl, hb⟩; refine ⟨_, rfl, ?_⟩; have n0_ := Aside0.mk (blk_below (g := gb208) (o := .cells #[.int .u8 a1_0, .int .u16 a1_1, .int .u16 a1_2, .int .u16 a1_3, .int .u16 a1_4] 24 (0, 0)) (by (with_reducible repeat (first | refine blk_drewN ?_ _ | refine blk_drew ?_ | refine blk_alloc ?_ _)); exact BK208.out) hb); have n1_ := Aside0.mk (below_step (by repeat (first | (with_reducible first | exact HB.out | apply below_alloc | apply pw_below_drewN | apply below_drew1 | refine below_set ?_ GE208.out) | exact HB.out)) hb); clear BK208; clear HB; have BK208 := n0_; have HB := n1_; clear n0_ n1_; (try clear hb); (try clear hb2); (try clear hk); (try clear hi)))
      go_meet
      case rel => exact ⟨_, (true), (by first | rfl | (simp; done) | (simp [*]; done)), H', ⟨by first | omega | exact Nat.le_refl _⟩, ⟨by (with_reducible repeat (first | refine blk_drewN ?_ _ | refine blk_drew ?_ | refine blk_alloc ?_ _)); exact BK208.out⟩, ⟨by repeat (first | (with_reducible first | exact HB.out | apply below_alloc | apply pw_below_drewN | apply below_drew1 | refine below_set ?_ GE208.out) | exact HB.out)⟩⟩
  case rest =>
    clear HC4
    try clear c1
    try clear p2
    try clear c7
    obtain ⟨kq, x20_3, rfl, HA, HJ3, BK208, HB⟩ := hcut
    cases kq with
    | zero => exact absurd HA.out (by simp [stillagelaw02_TeleNoise.j0])
    | succ kj3 =>
      have H := HA.out
      clear HA
      simp only [stillagelaw02_TeleNoise.j0] at H
      by_cases c10 : x20_3 = true
      · subst c10
        have H1 : ((stillagelaw02_awake.f kj3).bind fun t210 => (some t210)) = some r := by rw [if_pos rfl] at H; exact H
        clear H
        have H := H1
        clear H1
        replace H := Option.bind_eq_some_iff.mp H
        obtain ⟨t210, A110, H⟩ := H
        replace H : (some t210) = some r := H
        have A11 := Aside0.mk A110
        clear A110
        obtain rfl := Option.some.inj H
        go_wp2_with (first | ((with_reducible refine gate_callee (f := 11) rfl ?_); refine goesL_ (some 21) rfl rfl Try.func11 (by kernel_rfl) rfl #[] rfl (by (try simp only [List.map_toArray, List.map_cons, List.map_nil]); first | done | rfl | (simp only [List.length_drop, List.length_take]; rfl)) ?_; (with_reducible refine (stillagelaw02_awake.calls kj3  t210 _ A11.out).mono ?_); rintro e w12 ⟨rfl, hb⟩; refine ⟨_, rfl, ?_⟩; have n0_ := Aside0.mk (blk_below (g := gb208) (o := .cells #[.int .u8 a1_0, .int .u16 a1_1, .int .u16 a1_2, .int .u16 a1_3, .int .u16 a1_4] 24 (0, 0)) (by (with_reducible repeat (first | refine blk_drewN ?_ _ | refine blk_drew ?_ | refine blk_alloc ?_ _)); exact BK208.out) hb); have n1_ := Aside0.mk (below_step (by repeat (first | (with_reducible first | exact HB.out | apply below_alloc | apply pw_below_drewN | apply below_drew1 | refine below_set ?_ GE208.out) | exact HB.out)) hb); clear BK208; clear HB; have BK208 := n0_; have HB := n1_; clear n0_ n1_; (try clear hb); (try clear hb2); (try clear hk); (try clear hi)))
        go_ret
        exact ⟨by first | rfl | (simp [errW_none, errW_some] <;> rfl) | (simp [*, errW_none, errW_some] <;> rfl), by repeat (first | (with_reducible first | exact HB.out | apply below_alloc | apply pw_below_drewN | apply below_drew1 | refine below_set ?_ GE208.out) | exact HB.out)⟩
      · replace c10 := Bool.eq_false_iff.mpr c10
        subst c10
        have H1 : ((some (([] : List Int) : List Int)).bind fun y211 => (if y211.length + l0.length < 140737488355328 then ((some (y211 ++ l0 : List Int)).bind fun y214 => (stillagelaw02_TeleNoise.l0 kj3 a2 y214 (y214.length : Int) 0 a1_0 a1_1 a1_2 a1_3 a1_4)) else (none))) = some r := by rw [if_neg (show ¬ (false = true) by decide)] at H; exact H
        clear H
        have H := H1
        clear H1
        obtain ⟨y211, hy211⟩ : ∃ y_ : List Int, y_ = (([] : List Int)) := ⟨_, rfl⟩
        replace H : (if y211.length + l0.length < 140737488355328 then ((some (y211 ++ l0 : List Int)).bind fun y214 => (stillagelaw02_TeleNoise.l0 kj3 a2 y214 (y214.length : Int) 0 a1_0 a1_1 a1_2 a1_3 a1_4)) else (none)) = some r := by first | (rw [hy211]; with_reducible exact H) | (have H2_ := (Option.bind_some _ _).symm.trans H; rw [hy211]; with_reducible exact H2_) | (have H2_ := (Option.bind_some _ _).symm.trans H; with_reducible exact H2_) | with_reducible exact H | (rw [hy211]; exact H) | exact H
        have Ny211 := Aside0.mk hy211
        clear hy211
        by_cases c13 : y211.length + l0.length < 140737488355328
        · rw [if_pos c13] at H
          have LMc13 := Aside0.mk c13
          clear c13
          obtain ⟨y214, hy214⟩ : ∃ y_ : List Int, y_ = (y211 ++ l0) := ⟨_, rfl⟩
          replace H : (stillagelaw02_TeleNoise.l0 kj3 a2 y214 (y214.length : Int) 0 a1_0 a1_1 a1_2 a1_3 a1_4) = some r := by first | (rw [hy214]; with_reducible exact H) | (have H2_ := (Option.bind_some _ _).symm.trans H; rw [hy214]; with_reducible exact H2_) | (have H2_ := (Option.bind_some _ _).symm.trans H; with_reducible exact H2_) | with_reducible exact H | (rw [hy214]; exact H) | exact H
          have Ny214 := Aside0.mk hy214
          clear hy214
          have H' := Aside0.mk H
          clear H
          go_wp2_with (first | ((with_reducible refine gate_dst (N := 22) rfl ?_); (try (refine gate_guard (by rfl) ?_; dsimp only)); refine Kd.R_lit (Kd.int .u8) _ 5 ?hg (N := 22) ?hd (xs := ([] : List Int)) (inner := []) (ok := fun _ => True) (okp := fun _ => True) ?hr ?hp (fun _ hk => hk) trivial (Below.refl _ _) (Nat.le_refl _) (by simp) ?_; (case hd => rfl); (case hg => rfl); (case hr => first | (go_simp; done) | (go_simp; rfl)); (case hp => exact (Reps.none _ _)); intro v212 w14 ho15 hb hg_ hnew_; clear hg_ hnew_; (first | rw [← Ny211.out] at ho15 | (simp only [Int.reduceToNat] at ho15; rw [← Ny211.out] at ho15)); have n0_ := Aside0.mk (Kd.R_lower ho15 (below_size (by repeat (first | (with_reducible first | exact HB.out | apply below_alloc | apply pw_below_drewN | apply below_drew1 | refine below_set ?_ GE208.out) | exact HB.out)))); have n1_ := Aside0.mk (blk_below (g := gb208) (o := .cells #[.int .u8 a1_0, .int .u16 a1_1, .int .u16 a1_2, .int .u16 a1_3, .int .u16 a1_4] 24 (0, 0)) (by (with_reducible repeat (first | refine blk_drewN ?_ _ | refine blk_drew ?_ | refine blk_alloc ?_ _)); exact BK208.out) hb); have n2_ := Aside0.mk (below_step (by repeat (first | (with_reducible first | exact HB.out | apply below_alloc | apply pw_below_drewN | apply below_drew1 | refine below_set ?_ GE208.out) | exact HB.out)) hb); clear BK208; clear HB; have HO213 := n0_; have BK208 := n1_; have HB := n2_; clear n0_ n1_ n2_; clear hb ho15) | ((with_reducible refine gate_builtin (b := .append) (xs := #[.tmp 22, .tmp 23]) rfl ?_); (try (refine gate_guard (by rfl) ?_; dsimp only)); at_builtin; refine Kd.R_append_rows (Kd.int .u8) (w0 := w) w.heap.size rfl (.tmp 22) (.tmp 23) 26 5 (.int .u8 0) 1 rfl Try.underlying26 info5 rfl (by decide) (by omega) v212 y211 l0 _ _ _ (fun _ => True) (fun _ => False) rfl rfl ?aO ?aR (fun _ _ h => h) (fun _ h => h.elim) ?aF ?aB ?aS ?aL ?_; (case aR => repeat (first | exact (Kd.C_below HR0.out HB.out) | (with_reducible refine Kd.C_alloc ?_ _) | (with_reducible refine Kd.C_drewN ?_ _) | (with_reducible refine Kd.C_drew ?_))); (case aB => exact (by repeat (first | (with_reducible first | exact HB.out | apply below_alloc | apply pw_below_drewN | apply below_drew1 | refine below_set ?_ GE208.out) | exact HB.out))); (case aF => exact (fun _ _ => trivial)); (case aO => exact (by (with_reducible repeat (first | apply Kd.R_alloc | apply Kd.R_drewN | apply Kd.R_drew)); exact HO213.out)); (case aS => exact (below_size (by repeat (first | (with_reducible first | exact HB.out | apply below_alloc | apply pw_below_drewN | apply below_drew1 | refine below_set ?_ GE208.out) | exact HB.out)))); (case aL => have := LMc13.out; omega); intro v215 w16 ho hb hg hat; rw [← Ny214.out] at ho; have n0_ := Aside0.mk (blk_grown (g := gb208) (o := .cells #[.int .u8 a1_0, .int .u16 a1_1, .int .u16 a1_2, .int .u16 a1_3, .int .u16 a1_4] 24 (0, 0)) (by (with_reducible repeat (first | refine blk_drewN ?_ _ | refine blk_drew ?_ | refine blk_alloc ?_ _)); exact BK208.out) hg (Kd.R_ne HO213.out BK208.out (by decide))); have n1_ := Aside0.mk (hb); have n2_ := Aside0.mk (ho); clear BK208; clear HB; clear HO213; have BK208 := n0_; have HB := n1_; have HO216 := n2_; clear n0_ n1_ n2_; clear ho hb hg hat; obtain ⟨Ao17, co17, eo17⟩ := Kd.R_slice HO216.out; subst eo17))
          go_loopg [27] kj3 (fun kq v27 w' => ∃ (x7_2 : List Int) (x27_2 : Int), v27 = .int .i64 x27_2 ∧ Aside0 (stillagelaw02_TeleNoise.l0 kq a2 x7_2 (y214.length : Int) x27_2 a1_0 a1_1 a1_2 a1_3 a1_4 = some r) ∧ Aside0 (kq ≤ kj3) ∧ Aside0 (Kd.R (Kd.int .u8) 5 w' w.heap.size (fun _ => True) (.slice Ao17 y214.length co17) x7_2) ∧ Aside0 (w'.heap[gb208]? = some (.cells #[.int .u8 a1_0, .int .u16 a1_1, .int .u16 a1_2, .int .u16 a1_3, .int .u16 a1_4] 24 (0, 0))) ∧ Aside0 (Below w.heap.size w w'))
          case atStart => exact ⟨(y214), (0), (by first | rfl | (simp; done) | (simp [*]; done)), H', ⟨Nat.le_refl _⟩, ⟨by (with_reducible repeat (first | apply Kd.R_alloc | apply Kd.R_drewN | apply Kd.R_drew)); exact HO216.out⟩, ⟨by (with_reducible repeat (first | refine blk_drewN ?_ _ | refine blk_drew ?_ | refine blk_alloc ?_ _)); exact BK208.out⟩, ⟨by repeat (first | (with_reducible first | exact HB.out | apply below_alloc | apply pw_below_drewN | apply below_drew1 | refine below_set ?_ GE208.out) | exact HB.out)⟩⟩
          case round =>
            clear H'
            try clear c1
            try clear p2
            try clear c7
            try clear c10
            try clear c11
            try clear c13
            try clear p2
            obtain ⟨x7_2, x27_2, rfl, HA, HK2, HO_7, BK208, HB⟩ := hrel
            have hl7_2 := (Kd.R_reads' HO_7.out).1
            rw [hl7_2] at HO_7
            (try simp only [hl7_2])
            (try simp only [hl7_2] at BK208)
            cases gk with
            | zero => exact absurd HA.out (by simp [stillagelaw02_TeleNoise.l0])
            | succ k2 =>
              have H := HA.out
              clear HA
              simp only [stillagelaw02_TeleNoise.l0] at H
              by_cases c18 : x27_2 < (y214.length : Int)
              · rw [if_pos c18] at H
                have c18b0 : decide (x27_2 < (y214.length : Int)) = true := decide_eq_true c18
                (try (have c18z0 := c18b0; simp only [hl7_2] at c18z0))
                clear c18
                by_cases c19 : 0 ≤ x27_2
                · rw [if_pos c19] at H
                  have c19b0 : decide (0 ≤ x27_2) = true := decide_eq_true c19
                  clear c19
                  by_cases c20 : x27_2 < (x7_2.length : Int)
                  · rw [if_pos c20] at H
                    have c20b0 : decide (x27_2 < (x7_2.length : Int)) = true := decide_eq_true c20
                    (try (have c20z0 := c20b0; simp only [hl7_2] at c20z0))
                    clear c20
                    by_cases c21 : (rd x7_2 x27_2) = 165
                    · rw [if_pos c21] at H
                      have c21b0 : ((rd x7_2 x27_2) == 165) = true := beq_iff_eq.mpr c21
                      have c21b1 : ((rd x7_2 x27_2) != 165) = false := bne_eq_false_iff_eq.mpr c21
                      clear c21
                      obtain ⟨y218, hy218⟩ : ∃ y_ : List Int, y_ = (x7_2.set (x27_2 : Int).toNat 0) := ⟨_, rfl⟩
                      replace H : (stillagelaw02_TeleNoise.l0 k2 a2 y218 (y214.length : Int) (wrap64 (x27_2 + 1)) a1_0 a1_1 a1_2 a1_3 a1_4) = some r := by first | (rw [hy218]; with_reducible exact H) | (have H2_ := (Option.bind_some _ _).symm.trans H; rw [hy218]; with_reducible exact H2_) | (have H2_ := (Option.bind_some _ _).symm.trans H; with_reducible exact H2_) | with_reducible exact H | (rw [hy218]; exact H) | exact H
                      have Ny218 := Aside0.mk hy218
                      clear hy218
                      have H' := Aside0.mk H
                      clear H
                      have p217 : 0 ≤ (x27_2 : Int) := of_decide_eq_true (by first | (with_reducible assumption) | assumption)
                      have q217 : x27_2 < (x7_2.length : Int) := of_decide_eq_true (by first | (with_reducible assumption) | assumption)
                      obtain ⟨ad217, e217, hx217_0⟩ := Kd.at_int (Kd.R_reads' HO_7.out).2.2 x27_2 p217 q217
                      cases e217
                      replace p217 := eq_true p217
                      replace q217 := eq_true q217
                      have p22 : 0 ≤ (x27_2 : Int) := of_decide_eq_true (by first | (with_reducible assumption) | assumption)
                      have q22 : (x27_2 : Int) < ((x7_2.length : Int) : Int) := of_decide_eq_true (by first | (with_reducible assumption) | assumption)
                      obtain ⟨go22, co22, eo22, gb22, gl22, cl22, HG22⟩ := Kd.R_form HO_7.out (by omega)
                      (first | cases eo22 | (injection eo22 with ea_ en_ ec_; (first | subst ea_ | (injection ea_ with ea_; subst ea_)); subst ec_; clear en_))
                      have GB22 := Aside0.mk gb22
                      have GG22 := Aside0.mk HG22
                      clear gb22 gl22 HG22
                      (first | simp only [add_plain] at hx217_0 | skip)
                      obtain ⟨hx22_0, hf22_0⟩ := Kd.R_celln 0 HO_7.out (x27_2 : Int) p22 q22
                      replace p22 := eq_true p22
                      replace q22 := eq_true q22
                      have HP23 := Kd.R_putg HO_7.out (x27_2 : Int) 0
                      go_wp2_with (first | ((with_reducible refine gate_store (t := 5) (p := 37) rfl ?_); refine store_event (t := 5) (p := 37) (v := ?vo_w24) (w1 := (wr.setCell ⟨go22, (x27_2 : Int).toNat, none⟩ (.int .u8 0))) ?hg ?ho ?hn ?hr ?_; (case ho => rfl); (case hg => rfl); (case hn => rfl); (case hr => first | (go_simp; done) | (go_simp; rfl)); intro w24 hw; have hg : wr.grownBy w24 (some go22) := (by rw [hw]; exact HP23.2); have hp_ : Kd.R (Kd.int .u8) 5 w24 w.heap.size (fun _ => True) (.slice (some ⟨go22, 0, none⟩) x7_2.length co17) y218 := (by rw [hw, Ny218.out]; exact HP23.1); clear HP23; have n0_ := Aside0.mk (hp_); have n1_ := Aside0.mk (blk_grown (g := gb208) (o := .cells #[.int .u8 a1_0, .int .u16 a1_1, .int .u16 a1_2, .int .u16 a1_3, .int .u16 a1_4] 24 (0, 0)) (by (with_reducible repeat (first | refine blk_drewN ?_ _ | refine blk_drew ?_ | refine blk_alloc ?_ _)); exact BK208.out) hg (Kd.R_ne HO_7.out BK208.out (by decide))); have n2_ := Aside0.mk ((by rw [hw]; exact below_set (HB.out) GB22.out : Below w.heap.size w w24)); clear HO_7; clear BK208; clear HB; have HO_7 := n0_; have BK208 := n1_; have HB := n2_; clear n0_ n1_ n2_; clear hg hw hp_))
                      (try simp only [← hl7_2])
                      go_roundg k2
                      case measure => have := HJ3.out; have := HK2.out; omega
                      case rel => exact ⟨(y218), (wrap64 (x27_2 + 1)), (by first | rfl | (simp; done) | (simp [*]; done)), H', ⟨by have := HJ3.out; have := HK2.out; omega⟩, ⟨by (try simp only [hl7_2]); (with_reducible repeat (first | apply Kd.R_alloc | apply Kd.R_drewN | apply Kd.R_drew)); exact HO_7.out⟩, ⟨by (try simp only [hl7_2]); (with_reducible repeat (first | refine blk_drewN ?_ _ | refine blk_drew ?_ | refine blk_alloc ?_ _)); exact BK208.out⟩, ⟨by repeat (first | (with_reducible first | exact HB.out | apply below_alloc | apply pw_below_drewN | apply below_drew1 | refine below_set ?_ GE208.out) | exact HB.out)⟩⟩
                    · rw [if_neg c21] at H
                      have c21b0 : ((rd x7_2 x27_2) == 165) = false := beq_eq_false_iff_ne.mpr c21
                      have c21b1 : ((rd x7_2 x27_2) != 165) = true := bne_iff_ne.mpr c21
                      have H' := Aside0.mk H
                      clear H
                      have p217 : 0 ≤ (x27_2 : Int) := of_decide_eq_true (by first | (with_reducible assumption) | assumption)
                      have q217 : x27_2 < (x7_2.length : Int) := of_decide_eq_true (by first | (with_reducible assumption) | assumption)
                      obtain ⟨ad217, e217, hx217_0⟩ := Kd.at_int (Kd.R_reads' HO_7.out).2.2 x27_2 p217 q217
                      cases e217
                      replace p217 := eq_true p217
                      replace q217 := eq_true q217
                      go_wp2
                      (try simp only [← hl7_2])
                      go_roundg k2
                      case measure => have := HJ3.out; have := HK2.out; omega
                      case rel => exact ⟨(x7_2), (wrap64 (x27_2 + 1)), (by first | rfl | (simp; done) | (simp [*]; done)), H', ⟨by have := HJ3.out; have := HK2.out; omega⟩, ⟨by (try simp only [hl7_2]); (with_reducible repeat (first | apply Kd.R_alloc | apply Kd.R_drewN | apply Kd.R_drew)); exact HO_7.out⟩, ⟨by (try simp only [hl7_2]); (with_reducible repeat (first | refine blk_drewN ?_ _ | refine blk_drew ?_ | refine blk_alloc ?_ _)); exact BK208.out⟩, ⟨by repeat (first | (with_reducible first | exact HB.out | apply below_alloc | apply pw_below_drewN | apply below_drew1 | refine below_set ?_ GE208.out) | exact HB.out)⟩⟩
                  · rw [if_neg c20] at H
                    exact absurd H (by simp)
                · rw [if_neg c19] at H
                  exact absurd H (by simp)
              · rw [if_neg c18] at H
                have c18b0 : decide (x27_2 < (y214.length : Int)) = false := decide_eq_false c18
                (try (have c18z0 := c18b0; simp only [hl7_2] at c18z0))
                clear c18
                replace H := Option.bind_eq_some_iff.mp H
                obtain ⟨⟨t219, t222, t225⟩, A250, H⟩ := H
                replace H : (if (t219.length : Int) = 0 then (if (wrap64 (t225 + (t222.length : Int))) = (x7_2.length : Int) then (stillagelaw02_TeleNoise.j2 k2 a2 x7_2 ((t222.length : Int) != (mn (x7_2.length : Int) 11)) a1_0 a1_1 a1_2 a1_3 a1_4) else (stillagelaw02_TeleNoise.j2 k2 a2 x7_2 true a1_0 a1_1 a1_2 a1_3 a1_4)) else (stillagelaw02_TeleNoise.j2 k2 a2 x7_2 true a1_0 a1_1 a1_2 a1_3 a1_4)) = some r := H
                have A25 := Aside0.mk A250
                clear A250
                have HC26 := Aside0.mk H
                clear H
                go_upto_region 11 with (first | ((with_reducible refine gate_callee (f := 19) rfl ?_); refine goesL_ (some 41) rfl rfl Try.func19 (by kernel_rfl) rfl #[.slice Ao17 x7_2.length co17] rfl (by (try simp only [List.map_toArray, List.map_cons, List.map_nil]); first | done | rfl | (simp only [List.length_drop, List.length_take]; rfl)) ?_; (with_reducible refine (tele_Split.calls k2 (fun k_ => some k_ = (.slice Ao17 x7_2.length co17 : Value).ownBlock) _ _ x7_2 t219 t222 t225 _ ?side1 A25.out).mono ?_); (case side1 => exact Kd.R_V (Kd.R_tight rfl (Kd.R_types (HO_7.out) BK208.out (by decide)))); rintro e w27 ⟨v220, v223, rfl, ho0, ho1, hb⟩; refine ⟨_, rfl, ?_⟩; have n0_ := Aside0.mk (Kd.R_elder' (by (with_reducible repeat (first | apply Kd.R_alloc | apply Kd.R_drewN | apply Kd.R_drew)); exact HO_7.out) (Kd.R_base ho1) hb); have n1_ := Aside0.mk (Kd.R_lower (Kd.R_newB (Kd.R_mono (ok' := fun k_ => True) ho0 (fun _ hk_ => trivial)) (g := gb208) (o := .cells #[.int .u8 a1_0, .int .u16 a1_1, .int .u16 a1_2, .int .u16 a1_3, .int .u16 a1_4] 24 (0, 0)) (by (with_reducible repeat (first | refine blk_drewN ?_ _ | refine blk_drew ?_ | refine blk_alloc ?_ _)); exact BK208.out)) (below_size (by repeat (first | (with_reducible first | exact HB.out | apply below_alloc | apply pw_below_drewN | apply below_drew1 | refine below_set ?_ GE208.out) | exact HB.out)))); have n2_ := Aside0.mk (Kd.R_lower (Kd.R_new' (Kd.R_mono (ok' := fun k_ => True) ho1 (fun _ hk_ => trivial)) (Kd.R_lt (by (with_reducible repeat (first | apply Kd.R_alloc | apply Kd.R_drewN | apply Kd.R_drew)); exact HO_7.out))) (below_size (by repeat (first | (with_reducible first | exact HB.out | apply below_alloc | apply pw_below_drewN | apply below_drew1 | refine below_set ?_ GE208.out) | exact HB.out)))); have n3_ := Aside0.mk (blk_below (g := gb208) (o := .cells #[.int .u8 a1_0, .int .u16 a1_1, .int .u16 a1_2, .int .u16 a1_3, .int .u16 a1_4] 24 (0, 0)) (by (with_reducible repeat (first | refine blk_drewN ?_ _ | refine blk_drew ?_ | refine blk_alloc ?_ _)); exact BK208.out) hb); have n4_ := Aside0.mk (below_step (by repeat (first | (with_reducible first | exact HB.out | apply below_alloc | apply pw_below_drewN | apply below_drew1 | refine below_set ?_ GE208.out) | exact HB.out)) hb); clear HO_7; clear BK208; clear HB; have HO_7 := n0_; have HO221 := n1_; have HO224 := n2_; have BK208 := n3_; have HB := n4_; clear n0_ n1_ n2_ n3_ n4_; (try clear hb); (try clear hb2); (try clear hk); (try clear hi); (try clear ho0); (try clear ho1)))
                (try simp only [Act.put, List.setIfInBounds_toArray, List.set_cons_zero, List.set_cons_succ])
                go_cut [64] (fun v64 wc => ∃ (kq : Nat) (x64_25 : Bool), v64 = .bool x64_25 ∧ Aside0 (stillagelaw02_TeleNoise.j2 kq a2 x7_2 x64_25 a1_0 a1_1 a1_2 a1_3 a1_4 = some r) ∧ Aside0 (kq ≤ k2) ∧ Aside0 (Kd.R (Kd.int .u8) 5 wc w.heap.size (fun _ => True) (.slice Ao17 x7_2.length co17) x7_2) ∧ Aside0 (wc.heap[gb208]? = some (.cells #[.int .u8 a1_0, .int .u16 a1_1, .int .u16 a1_2, .int .u16 a1_3, .int .u16 a1_4] 24 (0, 0))) ∧ Aside0 (Below w.heap.size w wc))
                case first =>
                  have H := HC26.out
                  clear HC26
                  by_cases c28 : (t219.length : Int) = 0
                  · rw [if_pos c28] at H
                    have c28b0 : ((t219.length : Int) == 0) = true := beq_iff_eq.mpr c28
                    have c28b1 : ((t219.length : Int) != 0) = false := bne_eq_false_iff_eq.mpr c28
                    (try (have c28z0 := c28b0; simp only [hl7_2] at c28z0))
                    (try (have c28z1 := c28b1; simp only [hl7_2] at c28z1))
                    clear c28
                    (first | rw [c28b0] | (simp only [i64_w, i32_w]; rw [c28b0]) | skip)
                    by_cases c29 : (wrap64 (t225 + (t222.length : Int))) = (x7_2.length : Int)
                    · rw [if_pos c29] at H
                      have c29b0 : ((wrap64 (t225 + (t222.length : Int))) == (x7_2.length : Int)) = true := beq_iff_eq.mpr c29
                      have c29b1 : ((wrap64 (t225 + (t222.length : Int))) != (x7_2.length : Int)) = false := bne_eq_false_iff_eq.mpr c29
                      (try (have c29z0 := c29b0; simp only [hl7_2] at c29z0))
                      (try (have c29z1 := c29b1; simp only [hl7_2] at c29z1))
                      clear c29
                      obtain ⟨ji30, hji30⟩ : ∃ j_ : Int, (mn (x7_2.length : Int) 11) = j_ := ⟨_, rfl⟩
                      replace H : (stillagelaw02_TeleNoise.j2 k2 a2 x7_2 ((t222.length : Int) != (ji30)) a1_0 a1_1 a1_2 a1_3 a1_4) = some r := by first | (rw [hji30] at H; exact H) | (simp only [hji30] at H ⊢; exact H)
                      have hji30_ : (if 11 < (x7_2.length : Int) then 11 else (x7_2.length : Int)) = ji30 := hji30
                      (try (have hji30N := hji30_; simp only [Int.ofNat_lt] at hji30N))
                      have H' := Aside0.mk H
                      clear H
                      obtain ⟨Ao31, co31, eo31⟩ := Kd.R_slice HO221.out
                      subst eo31
                      obtain ⟨Ao32, co32, eo32⟩ := Kd.R_slice HO224.out
                      subst eo32
                      go_wp2
                      go_meet
                      case rel => exact ⟨_, (((t222.length : Int) != (ji30))), (by first | rfl | (simp; done) | (simp only [← hji30] <;> (first | rfl | simp)) | (simp [*]; done)), H', ⟨by have := HJ3.out; have := HK2.out; first | omega | exact Nat.le_refl _⟩, ⟨by (try simp only [hl7_2]); (with_reducible repeat (first | apply Kd.R_alloc | apply Kd.R_drewN | apply Kd.R_drew)); exact Kd.R_mono HO_7.out (fun _ hk => trivial)⟩, ⟨by (try simp only [hl7_2]); (with_reducible repeat (first | refine blk_drewN ?_ _ | refine blk_drew ?_ | refine blk_alloc ?_ _)); exact BK208.out⟩, ⟨by repeat (first | (with_reducible first | exact HB.out | apply below_alloc | apply pw_below_drewN | apply below_drew1 | refine below_set ?_ GE208.out) | exact HB.out)⟩⟩
                    · rw [if_neg c29] at H
                      have c29b0 : ((wrap64 (t225 + (t222.length : Int))) == (x7_2.length : Int)) = false := beq_eq_false_iff_ne.mpr c29
                      have c29b1 : ((wrap64 (t225 + (t222.length : Int))) != (x7_2.length : Int)) = true := bne_iff_ne.mpr c29
                      (try (have c29z0 := c29b0; simp only [hl7_2] at c29z0))
                      (try (have c29z1 := c29b1; simp only [hl7_2] at c29z1))
                      have H' := Aside0.mk H
                      clear H
                      obtain ⟨Ao33, co33, eo33⟩ := Kd.R_slice HO221.out
                      subst eo33
                      obtain ⟨Ao34, co34, eo34⟩ := Kd.R_slice HO224.out
                      subst eo34
                      go_wp2
                      go_meet
                      case rel => exact ⟨_, (true), (by first | rfl | (simp; done) | (simp [*]; done)), H', ⟨by have := HJ3.out; have := HK2.out; first | omega | exact Nat.le_refl _⟩, ⟨by (try simp only [hl7_2]); (with_reducible repeat (first | apply Kd.R_alloc | apply Kd.R_drewN | apply Kd.R_drew)); exact Kd.R_mono HO_7.out (fun _ hk => trivial)⟩, ⟨by (try simp only [hl7_2]); (with_reducible repeat (first | refine blk_drewN ?_ _ | refine blk_drew ?_ | refine blk_alloc ?_ _)); exact BK208.out⟩, ⟨by repeat (first | (with_reducible first | exact HB.out | apply below_alloc | apply pw_below_drewN | apply below_drew1 | refine below_set ?_ GE208.out) | exact HB.out)⟩⟩
                  · rw [if_neg c28] at H
                    have c28b0 : ((t219.length : Int) == 0) = false := beq_eq_false_iff_ne.mpr c28
                    have c28b1 : ((t219.length : Int) != 0) = true := bne_iff_ne.mpr c28
                    have c28b2 : ¬ (t219 = []) := fun h_ => c28 (by rw [h_]; rfl)
                    (try (have c28z0 := c28b0; simp only [hl7_2] at c28z0))
                    (try (have c28z1 := c28b1; simp only [hl7_2] at c28z1))
                    (try (have c28z2 := c28b2; simp only [hl7_2] at c28z2))
                    (first | rw [c28b0] | (simp only [i64_w, i32_w]; rw [c28b0]) | skip)
                    have H' := Aside0.mk H
                    clear H
                    obtain ⟨Ao35, co35, eo35⟩ := Kd.R_slice HO221.out
                    subst eo35
                    go_wp2
                    go_meet
                    case rel => exact ⟨_, (true), (by first | rfl | (simp; done) | (simp [*]; done)), H', ⟨by have := HJ3.out; have := HK2.out; first | omega | exact Nat.le_refl _⟩, ⟨by (try simp only [hl7_2]); (with_reducible repeat (first | apply Kd.R_alloc | apply Kd.R_drewN | apply Kd.R_drew)); exact Kd.R_mono HO_7.out (fun _ hk => trivial)⟩, ⟨by (try simp only [hl7_2]); (with_reducible repeat (first | refine blk_drewN ?_ _ | refine blk_drew ?_ | refine blk_alloc ?_ _)); exact BK208.out⟩, ⟨by repeat (first | (with_reducible first | exact HB.out | apply below_alloc | apply pw_below_drewN | apply below_drew1 | refine below_set ?_ GE208.out) | exact HB.out)⟩⟩
                case rest =>
                  clear HC26
                  try clear c1
                  try clear c2
                  try clear p2
                  try clear q2
                  try clear hx2
                  try clear p6
                  try clear c7
                  try clear c10
                  try clear c11
                  try clear c13
                  try clear c18
                  try clear c18b0
                  try clear c19
                  try clear c19b0
                  try clear c20
                  try clear c20b0
                  try clear c21
                  try clear c21b0
                  try clear c21b1
                  try clear p21
                  try clear q21
                  try clear hx21
                  try clear p22
                  try clear q22
                  try clear hx22
                  try clear hf22
                  try clear c28
                  try clear c28b0
                  try clear c28b1
                  try clear c28b2
                  try clear c29
                  try clear c29b0
                  try clear c29b1
                  try clear hx217_0
                  try clear hx22_0
                  try clear p2
                  try clear p217
                  try clear p22
                  try clear q217
                  try clear q22
                  obtain ⟨kq, x64_25, rfl, HA, HJ25, HO_7, BK208, HB⟩ := hcut
                  cases kq with
                  | zero => exact absurd HA.out (by simp [stillagelaw02_TeleNoise.j2])
                  | succ kj25 =>
                    have H := HA.out
                    clear HA
                    simp only [stillagelaw02_TeleNoise.j2] at H
                    by_cases c36 : x64_25 = true
                    · subst c36
                      have H1 : (some false) = some r := by rw [if_pos rfl] at H; exact H
                      clear H
                      have H := H1
                      clear H1
                      obtain rfl := Option.some.inj H
                      go_wp2
                      go_ret
                      exact ⟨by first | rfl | (simp [errW_none, errW_some] <;> rfl) | (simp [*, errW_none, errW_some] <;> rfl), by repeat (first | (with_reducible first | exact HB.out | apply below_alloc | apply pw_below_drewN | apply below_drew1 | refine below_set ?_ GE208.out) | exact HB.out)⟩
                    · replace c36 := Bool.eq_false_iff.mpr c36
                      subst c36
                      have H1 : ((tele_Encode.f kj25 a1_0 a1_1 a1_2 a1_3 a1_4).bind fun bt226 => (if bt226.2 = 0 then (if (IntKind.u64.wrap (wrap64 ((x7_2.length : Int) + 1))) = 0 then (none) else ((some (([] : List Int) : List Int)).bind fun y230 => (if 0 ≤ (wrap64 (Int.tmod (IntKind.u64.wrap (a2)) (IntKind.u64.wrap (wrap64 ((x7_2.length : Int) + 1))))) then (if (wrap64 (Int.tmod (IntKind.u64.wrap (a2)) (IntKind.u64.wrap (wrap64 ((x7_2.length : Int) + 1))))) ≤ (x7_2.length : Int) then ((some (x7_2.take ((wrap64 (Int.tmod (IntKind.u64.wrap (a2)) (IntKind.u64.wrap (wrap64 ((x7_2.length : Int) + 1))))) : Int).toNat : List Int)).bind fun y233 => (if y230.length + y233.length < 140737488355328 then ((some (y230 ++ y233 : List Int)).bind fun y237 => (if y237.length + bt226.1.length < 140737488355328 then ((some (y237 ++ bt226.1 : List Int)).bind fun y240 => ((some (x7_2.drop ((wrap64 (Int.tmod (IntKind.u64.wrap (a2)) (IntKind.u64.wrap (wrap64 ((x7_2.length : Int) + 1))))) : Int).toNat : List Int)).bind fun y243 => (if y240.length + y243.length < 140737488355328 then ((tele_Split.f kj25 (y240 ++ y243)).bind fun bt250 => (if (bt250.1.length : Int) = 1 then (if 0 < (bt250.1.length : Int) then (if (((rd_T24 bt250.1 0).f0) == a1_0 && (((rd_T24 bt250.1 0).f1) == a1_1 && (((rd_T24 bt250.1 0).f2) == a1_2 && (((rd_T24 bt250.1 0).f3) == a1_3 && (((rd_T24 bt250.1 0).f4) == a1_4))))) = true then (some ((wrap64 (bt250.2.2 + (bt250.2.1.length : Int))) == (x7_2.length : Int))) else (some false)) else (none)) else (some false))) else (none)))) else (none))) else (none))) else (none)) else (none)))) else (some true))) = some r := by rw [if_neg (show ¬ (false = true) by decide)] at H; exact H
                      clear H
                      have H := H1
                      clear H1
                      replace H := Option.bind_eq_some_iff.mp H
                      obtain ⟨⟨t226, t229⟩, A370, H⟩ := H
                      replace H : (if t229 = 0 then (if (IntKind.u64.wrap (wrap64 ((x7_2.length : Int) + 1))) = 0 then (none) else ((some (([] : List Int) : List Int)).bind fun y230 => (if 0 ≤ (wrap64 (Int.tmod (IntKind.u64.wrap (a2)) (IntKind.u64.wrap (wrap64 ((x7_2.length : Int) + 1))))) then (if (wrap64 (Int.tmod (IntKind.u64.wrap (a2)) (IntKind.u64.wrap (wrap64 ((x7_2.length : Int) + 1))))) ≤ (x7_2.length : Int) then ((some (x7_2.take ((wrap64 (Int.tmod (IntKind.u64.wrap (a2)) (IntKind.u64.wrap (wrap64 ((x7_2.length : Int) + 1))))) : Int).toNat : List Int)).bind fun y233 => (if y230.length + y233.length < 140737488355328 then ((some (y230 ++ y233 : List Int)).bind fun y237 => (if y237.length + t226.length < 140737488355328 then ((some (y237 ++ t226 : List Int)).bind fun y240 => ((some (x7_2.drop ((wrap64 (Int.tmod (IntKind.u64.wrap (a2)) (IntKind.u64.wrap (wrap64 ((x7_2.length : Int) + 1))))) : Int).toNat : List Int)).bind fun y243 => (if y240.length + y243.length < 140737488355328 then ((tele_Split.f kj25 (y240 ++ y243)).bind fun bt250 => (if (bt250.1.length : Int) = 1 then (if 0 < (bt250.1.length : Int) then (if (((rd_T24 bt250.1 0).f0) == a1_0 && (((rd_T24 bt250.1 0).f1) == a1_1 && (((rd_T24 bt250.1 0).f2) == a1_2 && (((rd_T24 bt250.1 0).f3) == a1_3 && (((rd_T24 bt250.1 0).f4) == a1_4))))) = true then (some ((wrap64 (bt250.2.2 + (bt250.2.1.length : Int))) == (x7_2.length : Int))) else (some false)) else (none)) else (some false))) else (none)))) else (none))) else (none))) else (none)) else (none)))) else (some true)) = some r := H
                      have A37 := Aside0.mk A370
                      clear A370
                      by_cases c38 : t229 = 0
                      · rw [if_pos c38] at H
                        have c38b0 : (t229 == 0) = true := beq_iff_eq.mpr c38
                        have c38b1 : (t229 != 0) = false := bne_eq_false_iff_eq.mpr c38
                        clear c38
                        by_cases c39 : (IntKind.u64.wrap (wrap64 ((x7_2.length : Int) + 1))) = 0
                        · rw [if_pos c39] at H
                          exact absurd H (by simp)
                        · rw [if_neg c39] at H
                          have c39b0 : ((IntKind.u64.wrap (wrap64 ((x7_2.length : Int) + 1))) == 0) = false := beq_eq_false_iff_ne.mpr c39
                          have c39b1 : ((IntKind.u64.wrap (wrap64 ((x7_2.length : Int) + 1))) != 0) = true := bne_iff_ne.mpr c39
                          (try (have c39z0 := c39b0; simp only [hl7_2] at c39z0))
                          (try (have c39z1 := c39b1; simp only [hl7_2] at c39z1))
                          obtain ⟨y230, hy230⟩ : ∃ y_ : List Int, y_ = (([] : List Int)) := ⟨_, rfl⟩
                          replace H : (if 0 ≤ (wrap64 (Int.tmod (IntKind.u64.wrap (a2)) (IntKind.u64.wrap (wrap64 ((x7_2.length : Int) + 1))))) then (if (wrap64 (Int.tmod (IntKind.u64.wrap (a2)) (IntKind.u64.wrap (wrap64 ((x7_2.length : Int) + 1))))) ≤ (x7_2.length : Int) then ((some (x7_2.take ((wrap64 (Int.tmod (IntKind.u64.wrap (a2)) (IntKind.u64.wrap (wrap64 ((x7_2.length : Int) + 1))))) : Int).toNat : List Int)).bind fun y233 => (if y230.length + y233.length < 140737488355328 then ((some (y230 ++ y233 : List Int)).bind fun y237 => (if y237.length + t226.length < 140737488355328 then ((some (y237 ++ t226 : List Int)).bind fun y240 => ((some (x7_2.drop ((wrap64 (Int.tmod (IntKind.u64.wrap (a2)) (IntKind.u64.wrap (wrap64 ((x7_2.length : Int) + 1))))) : Int).toNat : List Int)).bind fun y243 => (if y240.length + y243.length < 140737488355328 then ((tele_Split.f kj25 (y240 ++ y243)).bind fun bt250 => (if (bt250.1.length : Int) = 1 then (if 0 < (bt250.1.length : Int) then (if (((rd_T24 bt250.1 0).f0) == a1_0 && (((rd_T24 bt250.1 0).f1) == a1_1 && (((rd_T24 bt250.1 0).f2) == a1_2 && (((rd_T24 bt250.1 0).f3) == a1_3 && (((rd_T24 bt250.1 0).f4) == a1_4))))) = true then (some ((wrap64 (bt250.2.2 + (bt250.2.1.length : Int))) == (x7_2.length : Int))) else (some false)) else (none)) else (some false))) else (none)))) else (none))) else (none))) else (none)) else (none)) = some r := by first | (rw [hy230]; with_reducible exact H) | (have H2_ := (Option.bind_some _ _).symm.trans H; rw [hy230]; with_reducible exact H2_) | (have H2_ := (Option.bind_some _ _).symm.trans H; with_reducible exact H2_) | with_reducible exact H | (rw [hy230]; exact H) | exact H
                          have Ny230 := Aside0.mk hy230
                          clear hy230
                          obtain ⟨ji40, hji40⟩ : ∃ j_ : Int, (wrap64 (Int.tmod (IntKind.u64.wrap (a2)) (IntKind.u64.wrap (wrap64 ((x7_2.length : Int) + 1))))) = j_ := ⟨_, rfl⟩
                          replace H : (if 0 ≤ (ji40) then (if (ji40) ≤ (x7_2.length : Int) then ((some (x7_2.take ((ji40) : Int).toNat : List Int)).bind fun y233 => (if y230.length + y233.length < 140737488355328 then ((some (y230 ++ y233 : List Int)).bind fun y237 => (if y237.length + t226.length < 140737488355328 then ((some (y237 ++ t226 : List Int)).bind fun y240 => ((some (x7_2.drop ((ji40) : Int).toNat : List Int)).bind fun y243 => (if y240.length + y243.length < 140737488355328 then ((tele_Split.f kj25 (y240 ++ y243)).bind fun bt250 => (if (bt250.1.length : Int) = 1 then (if 0 < (bt250.1.length : Int) then (if (((rd_T24 bt250.1 0).f0) == a1_0 && (((rd_T24 bt250.1 0).f1) == a1_1 && (((rd_T24 bt250.1 0).f2) == a1_2 && (((rd_T24 bt250.1 0).f3) == a1_3 && (((rd_T24 bt250.1 0).f4) == a1_4))))) = true then (some ((wrap64 (bt250.2.2 + (bt250.2.1.length : Int))) == (x7_2.length : Int))) else (some false)) else (none)) else (some false))) else (none)))) else (none))) else (none))) else (none)) else (none)) = some r := by first | (rw [hji40] at H; exact H) | (simp only [hji40] at H ⊢; exact H)
                          (try rw [hji40] at A37)
                          have hji40w : (IntKind.i64.wrap (Int.tmod (IntKind.u64.wrap (a2)) (IntKind.u64.wrap (wrap64 ((x7_2.length : Int) + 1))))) = ji40 := (i64_w _).trans hji40
                          by_cases c41 : 0 ≤ (ji40)
                          · rw [if_pos c41] at H
                            have c41b0 := eq_true c41
                            have c41b1 : decide (0 ≤ (ji40)) = true := decide_eq_true c41
                            clear c41
                            by_cases c42 : (ji40) ≤ (x7_2.length : Int)
                            · rw [if_pos c42] at H
                              have c42b0 := eq_true c42
                              have c42b1 : decide ((ji40) ≤ (x7_2.length : Int)) = true := decide_eq_true c42
                              clear c42
                              obtain ⟨y233, hy233⟩ : ∃ y_ : List Int, y_ = (x7_2.take ((ji40) : Int).toNat) := ⟨_, rfl⟩
                              replace H : (if y230.length + y233.length < 140737488355328 then ((some (y230 ++ y233 : List Int)).bind fun y237 => (if y237.length + t226.length < 140737488355328 then ((some (y237 ++ t226 : List Int)).bind fun y240 => ((some (x7_2.drop ((ji40) : Int).toNat : List Int)).bind fun y243 => (if y240.length + y243.length < 140737488355328 then ((tele_Split.f kj25 (y240 ++ y243)).bind fun bt250 => (if (bt250.1.length : Int) = 1 then (if 0 < (bt250.1.length : Int) then (if (((rd_T24 bt250.1 0).f0) == a1_0 && (((rd_T24 bt250.1 0).f1) == a1_1 && (((rd_T24 bt250.1 0).f2) == a1_2 && (((rd_T24 bt250.1 0).f3) == a1_3 && (((rd_T24 bt250.1 0).f4) == a1_4))))) = true then (some ((wrap64 (bt250.2.2 + (bt250.2.1.length : Int))) == (x7_2.length : Int))) else (some false)) else (none)) else (some false))) else (none)))) else (none))) else (none)) = some r := by first | (rw [hy233]; with_reducible exact H) | (have H2_ := (Option.bind_some _ _).symm.trans H; rw [hy233]; with_reducible exact H2_) | (have H2_ := (Option.bind_some _ _).symm.trans H; with_reducible exact H2_) | with_reducible exact H | (rw [hy233]; exact H) | exact H
                              have Ny233 := Aside0.mk hy233
                              clear hy233
                              by_cases c43 : y230.length + y233.length < 140737488355328
                              · rw [if_pos c43] at H
                                have LMc43 := Aside0.mk c43
                                clear c43
                                obtain ⟨y237, hy237⟩ : ∃ y_ : List Int, y_ = (y230 ++ y233) := ⟨_, rfl⟩
                                replace H : (if y237.length + t226.length < 140737488355328 then ((some (y237 ++ t226 : List Int)).bind fun y240 => ((some (x7_2.drop ((ji40) : Int).toNat : List Int)).bind fun y243 => (if y240.length + y243.length < 140737488355328 then ((tele_Split.f kj25 (y240 ++ y243)).bind fun bt250 => (if (bt250.1.length : Int) = 1 then (if 0 < (bt250.1.length : Int) then (if (((rd_T24 bt250.1 0).f0) == a1_0 && (((rd_T24 bt250.1 0).f1) == a1_1 && (((rd_T24 bt250.1 0).f2) == a1_2 && (((rd_T24 bt250.1 0).f3) == a1_3 && (((rd_T24 bt250.1 0).f4) == a1_4))))) = true then (some ((wrap64 (bt250.2.2 + (bt250.2.1.length : Int))) == (x7_2.length : Int))) else (some false)) else (none)) else (some false))) else (none)))) else (none)) = some r := by first | (rw [hy237]; with_reducible exact H) | (have H2_ := (Option.bind_some _ _).symm.trans H; rw [hy237]; with_reducible exact H2_) | (have H2_ := (Option.bind_some _ _).symm.trans H; with_reducible exact H2_) | with_reducible exact H | (rw [hy237]; exact H) | exact H
                                have Ny237 := Aside0.mk hy237
                                clear hy237
                                by_cases c44 : y237.length + t226.length < 140737488355328
                                · rw [if_pos c44] at H
                                  have LMc44 := Aside0.mk c44
                                  clear c44
                                  obtain ⟨y240, hy240⟩ : ∃ y_ : List Int, y_ = (y237 ++ t226) := ⟨_, rfl⟩
                                  replace H : ((some (x7_2.drop ((ji40) : Int).toNat : List Int)).bind fun y243 => (if y240.length + y243.length < 140737488355328 then ((tele_Split.f kj25 (y240 ++ y243)).bind fun bt250 => (if (bt250.1.length : Int) = 1 then (if 0 < (bt250.1.length : Int) then (if (((rd_T24 bt250.1 0).f0) == a1_0 && (((rd_T24 bt250.1 0).f1) == a1_1 && (((rd_T24 bt250.1 0).f2) == a1_2 && (((rd_T24 bt250.1 0).f3) == a1_3 && (((rd_T24 bt250.1 0).f4) == a1_4))))) = true then (some ((wrap64 (bt250.2.2 + (bt250.2.1.length : Int))) == (x7_2.length : Int))) else (some false)) else (none)) else (some false))) else (none))) = some r := by first | (rw [hy240]; with_reducible exact H) | (have H2_ := (Option.bind_some _ _).symm.trans H; rw [hy240]; with_reducible exact H2_) | (have H2_ := (Option.bind_some _ _).symm.trans H; with_reducible exact H2_) | with_reducible exact H | (rw [hy240]; exact H) | exact H
                                  have Ny240 := Aside0.mk hy240
                                  clear hy240
                                  have c45b0 := eq_true (of_decide_eq_true (by first | (with_reducible assumption) | assumption) : 0 ≤ (ji40))
                                  have c46b0 := eq_true (of_decide_eq_true (by first | (with_reducible assumption) | assumption) : (ji40) ≤ (x7_2.length : Int))
                                  obtain ⟨y243, hy243⟩ : ∃ y_ : List Int, y_ = (x7_2.drop ((ji40) : Int).toNat) := ⟨_, rfl⟩
                                  replace H : (if y240.length + y243.length < 140737488355328 then ((tele_Split.f kj25 (y240 ++ y243)).bind fun bt250 => (if (bt250.1.length : Int) = 1 then (if 0 < (bt250.1.length : Int) then (if (((rd_T24 bt250.1 0).f0) == a1_0 && (((rd_T24 bt250.1 0).f1) == a1_1 && (((rd_T24 bt250.1 0).f2) == a1_2 && (((rd_T24 bt250.1 0).f3) == a1_3 && (((rd_T24 bt250.1 0).f4) == a1_4))))) = true then (some ((wrap64 (bt250.2.2 + (bt250.2.1.length : Int))) == (x7_2.length : Int))) else (some false)) else (none)) else (some false))) else (none)) = some r := by first | (rw [hy243]; with_reducible exact H) | (have H2_ := (Option.bind_some _ _).symm.trans H; rw [hy243]; with_reducible exact H2_) | (have H2_ := (Option.bind_some _ _).symm.trans H; with_reducible exact H2_) | with_reducible exact H | (rw [hy243]; exact H) | exact H
                                  have Ny243 := Aside0.mk hy243
                                  clear hy243
                                  by_cases c47 : y240.length + y243.length < 140737488355328
                                  · rw [if_pos c47] at H
                                    have LMc47 := Aside0.mk c47
                                    clear c47
                                    obtain ⟨y247, hy247⟩ : ∃ y_ : List Int, y_ = (y240 ++ y243) := ⟨_, rfl⟩
                                    replace H : ((tele_Split.f kj25 y247).bind fun bt250 => (if (bt250.1.length : Int) = 1 then (if 0 < (bt250.1.length : Int) then (if (((rd_T24 bt250.1 0).f0) == a1_0 && (((rd_T24 bt250.1 0).f1) == a1_1 && (((rd_T24 bt250.1 0).f2) == a1_2 && (((rd_T24 bt250.1 0).f3) == a1_3 && (((rd_T24 bt250.1 0).f4) == a1_4))))) = true then (some ((wrap64 (bt250.2.2 + (bt250.2.1.length : Int))) == (x7_2.length : Int))) else (some false)) else (none)) else (some false))) = some r := by first | (rw [hy247]; with_reducible exact H) | (have H2_ := (Option.bind_some _ _).symm.trans H; rw [hy247]; with_reducible exact H2_) | (have H2_ := (Option.bind_some _ _).symm.trans H; with_reducible exact H2_) | with_reducible exact H | (rw [hy247]; exact H) | exact H
                                    have Ny247 := Aside0.mk hy247
                                    clear hy247
                                    replace H := Option.bind_eq_some_iff.mp H
                                    obtain ⟨⟨t250, t253, t256⟩, A480, H⟩ := H
                                    replace H : (if (t250.length : Int) = 1 then (if 0 < (t250.length : Int) then (if (((rd_T24 t250 0).f0) == a1_0 && (((rd_T24 t250 0).f1) == a1_1 && (((rd_T24 t250 0).f2) == a1_2 && (((rd_T24 t250 0).f3) == a1_3 && (((rd_T24 t250 0).f4) == a1_4))))) = true then (some ((wrap64 (t256 + (t253.length : Int))) == (x7_2.length : Int))) else (some false)) else (none)) else (some false)) = some r := H
                                    have A48 := Aside0.mk A480
                                    clear A480
                                    by_cases c49 : (t250.length : Int) = 1
                                    · rw [if_pos c49] at H
                                      have c49b0 : ((t250.length : Int) == 1) = true := beq_iff_eq.mpr c49
                                      have c49b1 : ((t250.length : Int) != 1) = false := bne_eq_false_iff_eq.mpr c49
                                      (try (have c49z0 := c49b0; simp only [hl7_2] at c49z0))
                                      (try (have c49z1 := c49b1; simp only [hl7_2] at c49z1))
                                      clear c49
                                      by_cases c50 : 0 < (t250.length : Int)
                                      · rw [if_pos c50] at H
                                        have c50b0 : decide (0 < (t250.length : Int)) = true := decide_eq_true c50
                                        have c50b1 : decide (0 < t250.length) = true := decide_eq_true (by omega)
                                        (try (have c50z0 := c50b0; simp only [hl7_2] at c50z0))
                                        (try (have c50z1 := c50b1; simp only [hl7_2] at c50z1))
                                        clear c50
                                        by_cases c51 : (((rd_T24 t250 0).f0) == a1_0 && (((rd_T24 t250 0).f1) == a1_1 && (((rd_T24 t250 0).f2) == a1_2 && (((rd_T24 t250 0).f3) == a1_3 && (((rd_T24 t250 0).f4) == a1_4))))) = true
                                        · rw [if_pos c51] at H
                                          have c51b0 : (((rd_T24 t250 0).f0) == a1_0 && (((rd_T24 t250 0).f1) == a1_1 && (((rd_T24 t250 0).f2) == a1_2 && (((rd_T24 t250 0).f3) == a1_3 && (((rd_T24 t250 0).f4) == a1_4))))) = true := c51
                                          (try (have c51b1 : decide (((rd_T24 t250 0).f0) = a1_0 && (((rd_T24 t250 0).f1) == a1_1 && (((rd_T24 t250 0).f2) == a1_2 && (((rd_T24 t250 0).f3) == a1_3 && (((rd_T24 t250 0).f4) == a1_4))))) = true := by simpa using c51))
                                          (try (have c51b2 : (((rd_T24 t250 0).f0) == a1_0 && (((rd_T24 t250 0).f1) == a1_1 && (((rd_T24 t250 0).f2) == a1_2 && (((rd_T24 t250 0).f3) == a1_3 && (((rd_T24 t250 0).f4) == a1_4))))) = true := by simpa using c51))
                                          clear c51
                                          obtain rfl := Option.some.inj H
                                          have hcz52_0 : wc.cell? ⟨gb208, 0, none⟩ = some (.int .u8 a1_0) := (blk_cell BK208.out 0).trans rfl
                                          have hcz52_1 : wc.cell? ⟨gb208, 1, none⟩ = some (.int .u16 a1_1) := (blk_cell BK208.out 1).trans rfl
                                          have hcz52_2 : wc.cell? ⟨gb208, 2, none⟩ = some (.int .u16 a1_2) := (blk_cell BK208.out 2).trans rfl
                                          have hcz52_3 : wc.cell? ⟨gb208, 3, none⟩ = some (.int .u16 a1_3) := (blk_cell BK208.out 3).trans rfl
                                          have hcz52_4 : wc.cell? ⟨gb208, 4, none⟩ = some (.int .u16 a1_4) := (blk_cell BK208.out 4).trans rfl
                                          have hfz52_0 := blk_frozen BK208.out 0
                                          have hfz52_1 := blk_frozen BK208.out 1
                                          have hfz52_2 := blk_frozen BK208.out 2
                                          have hfz52_3 := blk_frozen BK208.out 3
                                          have hfz52_4 := blk_frozen BK208.out 4
                                          try go_wp2_with (first | ((with_reducible refine gate_callee (f := 12) rfl ?_); refine goesL_ (some 67) rfl rfl Try.func12 (by kernel_rfl) rfl #[.agg #[.int .u8 a1_0, .int .u16 a1_1, .int .u16 a1_2, .int .u16 a1_3, .int .u16 a1_4]] rfl (by (try simp only [List.map_toArray, List.map_cons, List.map_nil]); first | done | rfl | (simp only [List.length_drop, List.length_take]; rfl)) ?_; (with_reducible refine (tele_Encode.calls kj25 a1_0 a1_1 a1_2 a1_3 a1_4 t226 t229 _ A37.out).mono ?_); rintro e w53 ⟨v227, rfl, ho0, hb⟩; refine ⟨_, rfl, ?_⟩; have n0_ := Aside0.mk (Kd.R_elder' (by (with_reducible repeat (first | apply Kd.R_alloc | apply Kd.R_drewN | apply Kd.R_drew)); exact HO_7.out) (Kd.R_base ho0) hb); have n1_ := Aside0.mk (Kd.R_lower (Kd.R_new' ho0 (Kd.R_lt (by (with_reducible repeat (first | apply Kd.R_alloc | apply Kd.R_drewN | apply Kd.R_drew)); exact HO_7.out))) (below_size (by repeat (first | (with_reducible first | exact HB.out | apply below_alloc | apply pw_below_drewN | apply below_drew1 | refine below_set ?_ GE208.out) | exact HB.out)))); have n2_ := Aside0.mk (blk_below (g := gb208) (o := .cells #[.int .u8 a1_0, .int .u16 a1_1, .int .u16 a1_2, .int .u16 a1_3, .int .u16 a1_4] 24 (0, 0)) (by (with_reducible repeat (first | refine blk_drewN ?_ _ | refine blk_drew ?_ | refine blk_alloc ?_ _)); exact BK208.out) hb); have n3_ := Aside0.mk (below_step (by repeat (first | (with_reducible first | exact HB.out | apply below_alloc | apply pw_below_drewN | apply below_drew1 | refine below_set ?_ GE208.out) | exact HB.out)) hb); clear HO_7; clear BK208; clear HB; have HO_7 := n0_; have HO228 := n1_; have BK208 := n2_; have HB := n3_; clear n0_ n1_ n2_ n3_; (try clear hb); (try clear hb2); (try clear hk); (try clear hi); (try clear ho0)))
                                          have n0_ := Aside0.mk (Kd.R_drew HO_7.out)
                                          have n1_ := Aside0.mk (Kd.R_drew HO228.out)
                                          have n2_ := Aside0.mk (blk_drew BK208.out)
                                          have n3_ := Aside0.mk (below_drew1 HB.out)
                                          clear HO_7
                                          clear HO228
                                          clear BK208
                                          clear HB
                                          have HO_7 := n0_
                                          have HO228 := n1_
                                          have BK208 := n2_
                                          have HB := n3_
                                          clear n0_ n1_ n2_ n3_
                                          have q55 : ((ji40) : Int) ≤ ((x7_2.length : Int) : Int) := of_decide_eq_true (by first | (with_reducible assumption) | assumption)
                                          obtain ⟨i055, hi055, _, hsz55, _⟩ := info_parts info5
                                          have hroom55 : x7_2.length ≤ co17 := (Kd.R_reads' HO_7.out).2.1
                                          have hC55 : Kd.C (Kd.int .u8) _ Ao17 x7_2.length x7_2 := (Kd.R_reads' HO_7.out).2.2
                                          have hcut55 := cut_to (P := Try.prog) 26 5 .i64 Try.underlying26 hi055 Ao17 x7_2.length co17 (ji40) (of_decide_eq_true (by first | (with_reducible assumption) | assumption)) q55 hroom55
                                          have hr55 := Kd.C_take (m := ((ji40) : Int).toNat) hC55 (by omega)
                                          have hy55 : y233.length = ((ji40) : Int).toNat := (by rw [Ny233.out, List.length_take]; omega)
                                          rw [← Ny233.out] at hr55
                                          rw [← hy55] at hcut55
                                          have HR236 := Aside0.mk hr55
                                          have HC236 := Aside0.mk (show y233.length ≤ co17 from by omega)
                                          clear hr55 hC55 hroom55 hi055 hsz55
                                          have KY55 := Aside0.mk hy55
                                          clear hy55
                                          have KL55 := Aside0.mk (show ((ji40) : Int).toNat ≤ x7_2.length from by omega)
                                          replace q55 := eq_true q55
                                          have q56 : ((ji40) : Int) ≤ ((x7_2.length : Int) : Int) := of_decide_eq_true (by first | (with_reducible assumption) | assumption)
                                          obtain ⟨i056, hi056, _, hsz56, _⟩ := info_parts info5
                                          have hroom56 : x7_2.length ≤ co17 := (Kd.R_reads' HO_7.out).2.1
                                          have hC56 : Kd.C (Kd.int .u8) _ Ao17 x7_2.length x7_2 := (Kd.R_reads' HO_7.out).2.2
                                          have q056 : (0 : Int) ≤ ((ji40) : Int) := of_decide_eq_true (by first | (with_reducible assumption) | assumption)
                                          have hcut56 := cut_from (P := Try.prog) 26 5 .i64 Try.underlying26 hi056 1 hsz56 Ao17 x7_2.length co17 (ji40) q056 q56
                                          have hr56 := Kd.C_drop (m := ((ji40) : Int).toNat) (c := co17) hC56 (by omega) hroom56
                                          obtain ⟨A56, hA56⟩ : ∃ A1, A1 = (if co17 = ((ji40) : Int).toNat then Ao17 else (Ao17 : Option Addr).map (·.add (((ji40) : Int).toNat * 1))) := ⟨_, rfl⟩
                                          obtain ⟨c56, hc56⟩ : ∃ c1, c1 = co17 - ((ji40) : Int).toNat := ⟨_, rfl⟩
                                          have hy56 : y243.length = x7_2.length - ((ji40) : Int).toNat := (by rw [Ny243.out, List.length_drop] <;> omega)
                                          rw [show (x7_2).drop ((ji40) : Int).toNat = y243 from Ny243.out.symm] at hr56
                                          replace hr56 : Kd.C (Kd.int .u8) _ A56 y243.length y243 := (by rw [hA56]; exact hr56)
                                          rw [← hy56, ← hA56, ← hc56] at hcut56
                                          have HR246 := Aside0.mk hr56
                                          have HC246 := Aside0.mk (show y243.length ≤ c56 from by rw [hy56, hc56]; exact Nat.sub_le_sub_right hroom56 _)
                                          clear hr56 hC56 hroom56 hi056 hsz56 hc56
                                          have KY56 := Aside0.mk hy56
                                          have KA56 := Aside0.mk hA56
                                          clear hy56 hA56
                                          have KL56 := Aside0.mk (show ((ji40) : Int).toNat ≤ x7_2.length from by omega)
                                          replace q56 := eq_true q56
                                          refine start_ (n := 19) (S := fun w' => True) (ds := []) #[false, false, false, false, false, false, false, false, false, false, false, false, false, false, false, false, false, false, false] (by kernel_rfl) rfl rfl trivial (fun hHeld => ?_); refine with_tabW stillagelaw02_TeleNoise.tab17 stillagelaw02_TeleNoise.bits17 (fun HT_ HW_ => ?_)
                                          generalize w53.drew = w54 at HO_7 HO228 BK208 HB HR236 HR246 hHeld ⊢
                                          refine pure_ (i := 1) (N := some 82) (v := ?_) (a' := ?_) #[false, true, false, false, false, false, false, false, false, false, false, false, false, false, false, false, false, false, false] rfl rfl (any_of HT_.out (by kernel_rfl)) (fun _ _ _ h => h) (Or.inl ⟨by rfl, ?_⟩) ?_ ?_
                                          rotate_left
                                          · intro w'
                                            go_simp
                                            with_reducible rfl
                                          rotate_left
                                          · simp only [Act.put, List.setIfInBounds_toArray, List.set_cons_zero, List.set_cons_succ, i64_w, i32_w]
                                            rfl
                                          refine pure_ (i := 2) (N := some 83) (v := ?_) (a' := ?_) #[false, true, true, false, false, false, false, false, false, false, false, false, false, false, false, false, false, false, false] rfl rfl (any_of HT_.out (by kernel_rfl)) (fun _ _ _ h => h) (Or.inl ⟨by rfl, ?_⟩) ?_ ?_
                                          rotate_left
                                          · intro w'
                                            go_simp
                                            with_reducible rfl
                                          rotate_left
                                          · simp only [Act.put, List.setIfInBounds_toArray, List.set_cons_zero, List.set_cons_succ, i64_w, i32_w]
                                            rfl
                                          refine pure_ (i := 3) (N := some 84) (v := ?_) (a' := ?_) #[false, true, true, true, false, false, false, false, false, false, false, false, false, false, false, false, false, false, false] rfl rfl (any_of HT_.out (by kernel_rfl)) (fun _ _ _ h => h) (Or.inl ⟨by rfl, ?_⟩) ?_ ?_
                                          rotate_left
                                          · intro w'
                                            go_simp
                                            with_reducible rfl
                                          rotate_left
                                          · simp only [Act.put, List.setIfInBounds_toArray, List.set_cons_zero, List.set_cons_succ, i64_w, i32_w]
                                            rfl
                                          refine pure_ (i := 5) (N := some 86) (v := ?_) (a' := ?_) #[false, true, true, true, false, true, false, false, false, false, false, false, false, false, false, false, false, false, false] rfl rfl (any_of HT_.out (by kernel_rfl)) (fun _ _ _ h => h) (Or.inl ⟨by rfl, ?_⟩) ?_ ?_
                                          rotate_left
                                          · intro w'
                                            go_simp
                                            with_reducible rfl
                                          rotate_left
                                          · simp only [Act.put, List.setIfInBounds_toArray, List.set_cons_zero, List.set_cons_succ, i64_w, i32_w]
                                            rfl
                                          refine pure_ (i := 7) (N := some 88) (v := ?_) (a' := ?_) #[false, true, true, true, false, true, false, true, false, false, false, false, false, false, false, false, false, false, false] rfl rfl (any_of HT_.out (by kernel_rfl)) (fun _ _ _ h => h) (Or.inl ⟨by rfl, ?_⟩) ?_ ?_
                                          rotate_left
                                          · intro w'
                                            go_simp
                                            with_reducible rfl
                                          rotate_left
                                          · simp only [Act.put, List.setIfInBounds_toArray, List.set_cons_zero, List.set_cons_succ, i64_w, i32_w]
                                            rfl
                                          refine pure_ (i := 8) (N := some 89) (v := ?_) (a' := ?_) #[false, true, true, true, false, true, false, true, true, false, false, false, false, false, false, false, false, false, false] rfl rfl (any_of HT_.out (by kernel_rfl)) (fun _ _ _ h => h) (Or.inl ⟨by rfl, ?_⟩) ?_ ?_
                                          rotate_left
                                          · intro w'
                                            go_simp
                                            with_reducible rfl
                                          rotate_left
                                          · simp only [Act.put, List.setIfInBounds_toArray, List.set_cons_zero, List.set_cons_succ, i64_w, i32_w]
                                            rfl
                                          refine pure_ (i := 9) (N := some 90) (v := ?_) (a' := ?_) #[false, true, true, true, false, true, false, true, true, true, false, false, false, false, false, false, false, false, false] rfl rfl (any_of HT_.out (by kernel_rfl)) (fun _ _ _ h => h) (Or.inl ⟨by rfl, ?_⟩) ?_ ?_
                                          rotate_left
                                          · intro w'
                                            go_simp
                                            with_reducible rfl
                                          rotate_left
                                          · simp only [Act.put, List.setIfInBounds_toArray, List.set_cons_zero, List.set_cons_succ, i64_w, i32_w]
                                            rfl
                                          refine one_ (i := 0) (N := some 81) #[true, true, true, true, false, true, false, true, true, true, false, false, false, false, false, false, false, false, false] rfl rfl (one_of HT_.out (by kernel_rfl)) (by decide) (fun K hK => ?_)
                                          refine Kd.R_lit_step (Kd.int .u8) _ 5 ?hg (N := 81) ?hd (xs := ([] : List Int)) (inner := []) (ok := fun _ => True) (okp := fun _ => True) ?hr ?hp (fun _ hk => hk) trivial (Below.refl _ _) (Nat.le_refl _) (by simp) ?_; (case hd => rfl); (case hg => rfl); (case hr => first | (go_simp; done) | (go_simp; rfl)); (case hp => exact (Reps.none _ _))
                                          intro v231 w57 ho58 hb hg_ hnew_
                                          clear hg_ hnew_
                                          (first | rw [← Ny230.out] at ho58 | (simp only [Int.reduceToNat] at ho58; rw [← Ny230.out] at ho58))
                                          have n0_ := Aside0.mk (Kd.R_elder' (by (with_reducible repeat (first | apply Kd.R_alloc | apply Kd.R_drewN | apply Kd.R_drew)); exact HO_7.out) (Kd.R_base ho58) hb)
                                          have n1_ := Aside0.mk (Kd.R_elder' (by (with_reducible repeat (first | apply Kd.R_alloc | apply Kd.R_drewN | apply Kd.R_drew)); exact HO228.out) (Kd.R_base ho58) hb)
                                          have n2_ := Aside0.mk (Kd.R_lower (Kd.R_new' (Kd.R_new' ho58 (Kd.R_lt (by (with_reducible repeat (first | apply Kd.R_alloc | apply Kd.R_drewN | apply Kd.R_drew)); exact HO_7.out))) (Kd.R_lt (by (with_reducible repeat (first | apply Kd.R_alloc | apply Kd.R_drewN | apply Kd.R_drew)); exact HO228.out))) (below_size (by repeat (first | (with_reducible first | exact HB.out | apply below_alloc | apply pw_below_drewN | apply below_drew1 | refine below_set ?_ GE208.out) | exact HB.out))))
                                          have n3_ := Aside0.mk (blk_below (g := gb208) (o := .cells #[.int .u8 a1_0, .int .u16 a1_1, .int .u16 a1_2, .int .u16 a1_3, .int .u16 a1_4] 24 (0, 0)) (by (with_reducible repeat (first | refine blk_drewN ?_ _ | refine blk_drew ?_ | refine blk_alloc ?_ _)); exact BK208.out) hb)
                                          have n4_ := Aside0.mk (Kd.C_below (by repeat (first | (with_reducible exact HR236.out) | (with_reducible refine Kd.C_alloc ?_ _) | (with_reducible refine Kd.C_drewN ?_ _) | (with_reducible refine Kd.C_drew ?_) | exact HR236.out)) hb)
                                          have n5_ := Aside0.mk (Kd.C_below (by repeat (first | (with_reducible exact HR246.out) | (with_reducible refine Kd.C_alloc ?_ _) | (with_reducible refine Kd.C_drewN ?_ _) | (with_reducible refine Kd.C_drew ?_) | exact HR246.out)) hb)
                                          have n6_ := Aside0.mk (below_step (by repeat (first | (with_reducible first | exact HB.out | apply below_alloc | apply pw_below_drewN | apply below_drew1 | refine below_set ?_ GE208.out) | exact HB.out)) hb)
                                          clear HO_7
                                          clear HO228
                                          clear BK208
                                          clear HR236
                                          clear HR246
                                          clear HB
                                          have HO_7 := n0_
                                          have HO228 := n1_
                                          have HO232 := n2_
                                          have BK208 := n3_
                                          have HR236 := n4_
                                          have HR246 := n5_
                                          have HB := n6_
                                          clear n0_ n1_ n2_ n3_ n4_ n5_ n6_
                                          clear hb ho58
                                          refine hK.out _ _ trivial (fun hHeld => ?_)
                                          clear hK K
                                          refine norm_ (a' := ?_) ?_ ?_
                                          rotate_left
                                          · show Act.put _ (some 81) _ = _
                                            simp only [Act.put, List.setIfInBounds_toArray, List.set_cons_zero, List.set_cons_succ, i64_w, i32_w]
                                            rfl
                                          refine one_ (i := 4) (N := some 85) #[true, true, true, true, true, true, false, true, true, true, false, false, false, false, false, false, false, false, false] rfl rfl (one_of HT_.out (by kernel_rfl)) (by decide) (fun K hK => ?_)
                                          refine Kd.R_append_rows_step (Kd.int .u8) (w0 := w) w.heap.size (by rfl) (.tmp 81) (.tmp 84) 26 5 (.int .u8 0) 1 rfl Try.underlying26 info5 rfl (by decide) (by omega) v231 y230 y233 _ _ _ (fun k_ => some k_ ≠ (.slice Ao17 x7_2.length co17 : Value).ownBlock ∧ some k_ ≠ (v227 : Value).ownBlock) (fun _ => False) rfl rfl ?aO ?aR (fun _ _ h => h) (fun _ h => h.elim) ?aF ?aB ?aS ?aL ?_
                                          (case aR => repeat (first | exact (by repeat (first | (with_reducible exact HR236.out) | (with_reducible refine Kd.C_alloc ?_ _) | (with_reducible refine Kd.C_drewN ?_ _) | (with_reducible refine Kd.C_drew ?_) | exact HR236.out)) | (with_reducible refine Kd.C_alloc ?_ _) | (with_reducible refine Kd.C_drewN ?_ _) | (with_reducible refine Kd.C_drew ?_)))
                                          (case aB => exact (by repeat (first | (with_reducible first | exact HB.out | apply below_alloc | apply pw_below_drewN | apply below_drew1 | refine below_set ?_ GE208.out) | exact HB.out)))
                                          (case aF => exact (fun k_ hk => ⟨Kd.fresh' (Kd.R_lt (by (with_reducible repeat (first | apply Kd.R_alloc | apply Kd.R_drewN | apply Kd.R_drew)); exact HO_7.out)) k_ hk, Kd.fresh' (Kd.R_lt (by (with_reducible repeat (first | apply Kd.R_alloc | apply Kd.R_drewN | apply Kd.R_drew)); exact HO228.out)) k_ hk⟩))
                                          (case aO => exact (by (with_reducible repeat (first | apply Kd.R_alloc | apply Kd.R_drewN | apply Kd.R_drew)); exact Kd.R_mono HO232.out (fun _ hk => ⟨hk.1.2, hk.2⟩)))
                                          (case aS => exact (below_size (by repeat (first | (with_reducible first | exact HB.out | apply below_alloc | apply pw_below_drewN | apply below_drew1 | refine below_set ?_ GE208.out) | exact HB.out))))
                                          (case aL => have := LMc43.out; omega)
                                          intro v238 w59 ho hb hg hat
                                          rw [← Ny237.out] at ho
                                          have n0_ := Aside0.mk (Kd.R_after (ok := (fun k_ => some k_ ≠ (v227 : Value).ownBlock)) (by (with_reducible repeat (first | apply Kd.R_alloc | apply Kd.R_drewN | apply Kd.R_drew)); exact Kd.R_mono HO_7.out (fun _ hk => ⟨hk.1.2, hk.2⟩)) hg hat)
                                          have n1_ := Aside0.mk (blk_grown (g := gb208) (o := .cells #[.int .u8 a1_0, .int .u16 a1_1, .int .u16 a1_2, .int .u16 a1_3, .int .u16 a1_4] 24 (0, 0)) (by (with_reducible repeat (first | refine blk_drewN ?_ _ | refine blk_drew ?_ | refine blk_alloc ?_ _)); exact BK208.out) hg (Kd.R_ne HO232.out BK208.out (by decide)))
                                          have n2_ := Aside0.mk (Kd.R_after (ok := (fun k_ => some k_ ≠ (.slice Ao17 x7_2.length co17 : Value).ownBlock)) (by (with_reducible repeat (first | apply Kd.R_alloc | apply Kd.R_drewN | apply Kd.R_drew)); exact Kd.R_mono HO228.out (fun _ hk => ⟨hk.1.2, hk.2⟩)) hg hat)
                                          have n3_ := Aside0.mk (hb)
                                          have n4_ := Aside0.mk ((show Kd.C (Kd.int .u8) w59 Ao17 y233.length y233 from by rw [Ny233.out]; exact Kd.C_take (m := ((ji40) : Int).toNat) ((Kd.R_reads' (Kd.R_after (ok := (fun k_ => some k_ ≠ (v227 : Value).ownBlock)) (by (with_reducible repeat (first | apply Kd.R_alloc | apply Kd.R_drewN | apply Kd.R_drew)); exact Kd.R_mono HO_7.out (fun _ hk => ⟨hk.1.2, hk.2⟩)) hg hat)).2.2) KL55.out))
                                          have n5_ := Aside0.mk ((show Kd.C (Kd.int .u8) w59 A56 y243.length y243 from by rw [Ny243.out, KA56.out]; exact Kd.C_drop (m := ((ji40) : Int).toNat) (c := co17) ((Kd.R_reads' (Kd.R_after (ok := (fun k_ => some k_ ≠ (v227 : Value).ownBlock)) (by (with_reducible repeat (first | apply Kd.R_alloc | apply Kd.R_drewN | apply Kd.R_drew)); exact Kd.R_mono HO_7.out (fun _ hk => ⟨hk.1.2, hk.2⟩)) hg hat)).2.2) KL56.out ((Kd.R_reads' (Kd.R_after (ok := (fun k_ => some k_ ≠ (v227 : Value).ownBlock)) (by (with_reducible repeat (first | apply Kd.R_alloc | apply Kd.R_drewN | apply Kd.R_drew)); exact Kd.R_mono HO_7.out (fun _ hk => ⟨hk.1.2, hk.2⟩)) hg hat)).2.1)))
                                          have n6_ := Aside0.mk (ho)
                                          clear HO_7
                                          clear BK208
                                          clear HO228
                                          clear HB
                                          clear HR236
                                          clear HR246
                                          clear HO232
                                          have HO_7 := n0_
                                          have BK208 := n1_
                                          have HO228 := n2_
                                          have HB := n3_
                                          have HR236 := n4_
                                          have HR246 := n5_
                                          have HO239 := n6_
                                          clear n0_ n1_ n2_ n3_ n4_ n5_ n6_
                                          clear ho hb hg hat
                                          obtain ⟨Ao61, co61, eo61⟩ := Kd.R_slice HO228.out
                                          (first | subst eo61 | (injection eo61 with f1_ f2_ f3_; have f4_ := f1_.symm; have f5_ := f3_.symm; clear f1_ f2_ f3_; subst f4_; subst f5_))
                                          refine hK.out _ _ trivial (fun hHeld => ?_)
                                          clear hK K
                                          refine norm_ (a' := ?_) ?_ ?_
                                          rotate_left
                                          · show Act.put _ (some 85) _ = _
                                            simp only [Act.put, List.setIfInBounds_toArray, List.set_cons_zero, List.set_cons_succ, i64_w, i32_w]
                                            rfl
                                          refine one_ (i := 6) (N := some 87) #[true, true, true, true, true, true, true, true, true, true, false, false, false, false, false, false, false, false, false] rfl rfl (one_of HT_.out (by kernel_rfl)) (by decide) (fun K hK => ?_)
                                          refine Kd.R_append_rows_step (Kd.int .u8) (w0 := w) w.heap.size (by rfl) (.tmp 85) (.tmp 86) 26 5 (.int .u8 0) 1 rfl Try.underlying26 info5 rfl (by decide) (by omega) v238 y237 t226 _ _ _ (fun k_ => some k_ ≠ (.slice Ao17 x7_2.length co17 : Value).ownBlock ∧ some k_ ≠ (.slice Ao61 t226.length co61 : Value).ownBlock) (fun _ => False) rfl rfl ?aO ?aR (fun _ _ h => h) (fun _ h => h.elim) ?aF ?aB ?aS ?aL ?_
                                          (case aR => repeat (first | exact (Kd.R_reads' HO228.out).2.2 | (with_reducible refine Kd.C_alloc ?_ _) | (with_reducible refine Kd.C_drewN ?_ _) | (with_reducible refine Kd.C_drew ?_)))
                                          (case aB => exact (by repeat (first | (with_reducible first | exact HB.out | apply below_alloc | apply pw_below_drewN | apply below_drew1 | refine below_set ?_ GE208.out) | exact HB.out)))
                                          (case aF => exact (fun k_ hk => ⟨Kd.fresh' (Kd.R_lt (by (with_reducible repeat (first | apply Kd.R_alloc | apply Kd.R_drewN | apply Kd.R_drew)); exact HO_7.out)) k_ hk, Kd.fresh' (Kd.R_lt (by (with_reducible repeat (first | apply Kd.R_alloc | apply Kd.R_drewN | apply Kd.R_drew)); exact HO228.out)) k_ hk⟩))
                                          (case aO => exact (by (with_reducible repeat (first | apply Kd.R_alloc | apply Kd.R_drewN | apply Kd.R_drew)); exact HO239.out))
                                          (case aS => exact (below_size (by repeat (first | (with_reducible first | exact HB.out | apply below_alloc | apply pw_below_drewN | apply below_drew1 | refine below_set ?_ GE208.out) | exact HB.out))))
                                          (case aL => have := LMc44.out; omega)
                                          intro v241 w60 ho hb hg hat
                                          rw [← Ny240.out] at ho
                                          have n0_ := Aside0.mk (Kd.R_after (ok := (fun k_ => some k_ ≠ (.slice Ao61 t226.length co61 : Value).ownBlock)) (by (with_reducible repeat (first | apply Kd.R_alloc | apply Kd.R_drewN | apply Kd.R_drew)); exact HO_7.out) hg hat)
                                          have n1_ := Aside0.mk (blk_grown (g := gb208) (o := .cells #[.int .u8 a1_0, .int .u16 a1_1, .int .u16 a1_2, .int .u16 a1_3, .int .u16 a1_4] 24 (0, 0)) (by (with_reducible repeat (first | refine blk_drewN ?_ _ | refine blk_drew ?_ | refine blk_alloc ?_ _)); exact BK208.out) hg (Kd.R_ne HO239.out BK208.out (by decide)))
                                          have n2_ := Aside0.mk (Kd.R_after (ok := (fun k_ => some k_ ≠ (.slice Ao17 x7_2.length co17 : Value).ownBlock)) (by (with_reducible repeat (first | apply Kd.R_alloc | apply Kd.R_drewN | apply Kd.R_drew)); exact HO228.out) hg hat)
                                          have n3_ := Aside0.mk (hb)
                                          have n4_ := Aside0.mk ((show Kd.C (Kd.int .u8) w60 Ao17 y233.length y233 from by rw [Ny233.out]; exact Kd.C_take (m := ((ji40) : Int).toNat) ((Kd.R_reads' (Kd.R_after (ok := (fun k_ => some k_ ≠ (.slice Ao61 t226.length co61 : Value).ownBlock)) (by (with_reducible repeat (first | apply Kd.R_alloc | apply Kd.R_drewN | apply Kd.R_drew)); exact HO_7.out) hg hat)).2.2) KL55.out))
                                          have n5_ := Aside0.mk ((show Kd.C (Kd.int .u8) w60 A56 y243.length y243 from by rw [Ny243.out, KA56.out]; exact Kd.C_drop (m := ((ji40) : Int).toNat) (c := co17) ((Kd.R_reads' (Kd.R_after (ok := (fun k_ => some k_ ≠ (.slice Ao61 t226.length co61 : Value).ownBlock)) (by (with_reducible repeat (first | apply Kd.R_alloc | apply Kd.R_drewN | apply Kd.R_drew)); exact HO_7.out) hg hat)).2.2) KL56.out ((Kd.R_reads' (Kd.R_after (ok := (fun k_ => some k_ ≠ (.slice Ao61 t226.length co61 : Value).ownBlock)) (by (with_reducible repeat (first | apply Kd.R_alloc | apply Kd.R_drewN | apply Kd.R_drew)); exact HO_7.out) hg hat)).2.1)))
                                          have n6_ := Aside0.mk (ho)
                                          clear HO_7
                                          clear BK208
                                          clear HO228
                                          clear HB
                                          clear HR236
                                          clear HR246
                                          clear HO239
                                          have HO_7 := n0_
                                          have BK208 := n1_
                                          have HO228 := n2_
                                          have HB := n3_
                                          have HR236 := n4_
                                          have HR246 := n5_
                                          have HO242 := n6_
                                          clear n0_ n1_ n2_ n3_ n4_ n5_ n6_
                                          clear ho hb hg hat
                                          refine hK.out _ _ trivial (fun hHeld => ?_)
                                          clear hK K
                                          refine norm_ (a' := ?_) ?_ ?_
                                          rotate_left
                                          · show Act.put _ (some 87) _ = _
                                            simp only [Act.put, List.setIfInBounds_toArray, List.set_cons_zero, List.set_cons_succ, i64_w, i32_w]
                                            rfl
                                          refine one_ (i := 10) (N := some 91) #[true, true, true, true, true, true, true, true, true, true, true, false, false, false, false, false, false, false, false] rfl rfl (one_of HT_.out (by kernel_rfl)) (by decide) (fun K hK => ?_)
                                          refine Kd.R_append_rows_step (Kd.int .u8) (w0 := w) w.heap.size (by rfl) (.tmp 87) (.tmp 90) 26 5 (.int .u8 0) 1 rfl Try.underlying26 info5 rfl (by decide) (by omega) v241 y240 y243 _ _ _ (fun k_ => some k_ ≠ (.slice Ao17 x7_2.length co17 : Value).ownBlock ∧ some k_ ≠ (.slice Ao61 t226.length co61 : Value).ownBlock) (fun _ => False) rfl rfl ?aO ?aR (fun _ _ h => h) (fun _ h => h.elim) ?aF ?aB ?aS ?aL ?_
                                          (case aR => repeat (first | exact (by repeat (first | (with_reducible exact HR246.out) | (with_reducible refine Kd.C_alloc ?_ _) | (with_reducible refine Kd.C_drewN ?_ _) | (with_reducible refine Kd.C_drew ?_) | exact HR246.out)) | (with_reducible refine Kd.C_alloc ?_ _) | (with_reducible refine Kd.C_drewN ?_ _) | (with_reducible refine Kd.C_drew ?_)))
                                          (case aB => exact (by repeat (first | (with_reducible first | exact HB.out | apply below_alloc | apply pw_below_drewN | apply below_drew1 | refine below_set ?_ GE208.out) | exact HB.out)))
                                          (case aF => exact (fun k_ hk => ⟨Kd.fresh' (Kd.R_lt (by (with_reducible repeat (first | apply Kd.R_alloc | apply Kd.R_drewN | apply Kd.R_drew)); exact HO_7.out)) k_ hk, Kd.fresh' (Kd.R_lt (by (with_reducible repeat (first | apply Kd.R_alloc | apply Kd.R_drewN | apply Kd.R_drew)); exact HO228.out)) k_ hk⟩))
                                          (case aO => exact (by (with_reducible repeat (first | apply Kd.R_alloc | apply Kd.R_drewN | apply Kd.R_drew)); exact HO242.out))
                                          (case aS => exact (below_size (by repeat (first | (with_reducible first | exact HB.out | apply below_alloc | apply pw_below_drewN | apply below_drew1 | refine below_set ?_ GE208.out) | exact HB.out))))
                                          (case aL => have := LMc47.out; omega)
                                          intro v248 w62 ho hb hg hat
                                          rw [← Ny247.out] at ho
                                          have n0_ := Aside0.mk (Kd.R_after (ok := (fun k_ => some k_ ≠ (.slice Ao61 t226.length co61 : Value).ownBlock)) (by (with_reducible repeat (first | apply Kd.R_alloc | apply Kd.R_drewN | apply Kd.R_drew)); exact HO_7.out) hg hat)
                                          have n1_ := Aside0.mk (blk_grown (g := gb208) (o := .cells #[.int .u8 a1_0, .int .u16 a1_1, .int .u16 a1_2, .int .u16 a1_3, .int .u16 a1_4] 24 (0, 0)) (by (with_reducible repeat (first | refine blk_drewN ?_ _ | refine blk_drew ?_ | refine blk_alloc ?_ _)); exact BK208.out) hg (Kd.R_ne HO242.out BK208.out (by decide)))
                                          have n2_ := Aside0.mk (Kd.R_after (ok := (fun k_ => some k_ ≠ (.slice Ao17 x7_2.length co17 : Value).ownBlock)) (by (with_reducible repeat (first | apply Kd.R_alloc | apply Kd.R_drewN | apply Kd.R_drew)); exact HO228.out) hg hat)
                                          have n3_ := Aside0.mk (hb)
                                          have n4_ := Aside0.mk ((show Kd.C (Kd.int .u8) w62 Ao17 y233.length y233 from by rw [Ny233.out]; exact Kd.C_take (m := ((ji40) : Int).toNat) ((Kd.R_reads' (Kd.R_after (ok := (fun k_ => some k_ ≠ (.slice Ao61 t226.length co61 : Value).ownBlock)) (by (with_reducible repeat (first | apply Kd.R_alloc | apply Kd.R_drewN | apply Kd.R_drew)); exact HO_7.out) hg hat)).2.2) KL55.out))
                                          have n5_ := Aside0.mk ((show Kd.C (Kd.int .u8) w62 A56 y243.length y243 from by rw [Ny243.out, KA56.out]; exact Kd.C_drop (m := ((ji40) : Int).toNat) (c := co17) ((Kd.R_reads' (Kd.R_after (ok := (fun k_ => some k_ ≠ (.slice Ao61 t226.length co61 : Value).ownBlock)) (by (with_reducible repeat (first | apply Kd.R_alloc | apply Kd.R_drewN | apply Kd.R_drew)); exact HO_7.out) hg hat)).2.2) KL56.out ((Kd.R_reads' (Kd.R_after (ok := (fun k_ => some k_ ≠ (.slice Ao61 t226.length co61 : Value).ownBlock)) (by (with_reducible repeat (first | apply Kd.R_alloc | apply Kd.R_drewN | apply Kd.R_drew)); exact HO_7.out) hg hat)).2.1)))
                                          have n6_ := Aside0.mk (ho)
                                          clear HO_7
                                          clear BK208
                                          clear HO228
                                          clear HB
                                          clear HR236
                                          clear HR246
                                          clear HO242
                                          have HO_7 := n0_
                                          have BK208 := n1_
                                          have HO228 := n2_
                                          have HB := n3_
                                          have HR236 := n4_
                                          have HR246 := n5_
                                          have HO249 := n6_
                                          clear n0_ n1_ n2_ n3_ n4_ n5_ n6_
                                          clear ho hb hg hat
                                          obtain ⟨Ao63, co63, eo63⟩ := Kd.R_slice HO249.out
                                          (first | subst eo63 | (injection eo63 with f1_ f2_ f3_; have f4_ := f1_.symm; have f5_ := f3_.symm; clear f1_ f2_ f3_; subst f4_; subst f5_))
                                          refine hK.out _ _ trivial (fun hHeld => ?_)
                                          clear hK K
                                          refine norm_ (a' := ?_) ?_ ?_
                                          rotate_left
                                          · show Act.put _ (some 91) _ = _
                                            simp only [Act.put, List.setIfInBounds_toArray, List.set_cons_zero, List.set_cons_succ, i64_w, i32_w]
                                            rfl
                                          refine one_ (i := 11) (N := some 92) #[true, true, true, true, true, true, true, true, true, true, true, true, false, false, false, false, false, false, false] rfl rfl (one_of HT_.out (by kernel_rfl)) (by decide) (fun K hK => ?_)
                                          refine goes_ Try.func19 (by kernel_rfl) rfl #[.slice Ao63 y247.length co63] (by rfl) rfl rfl (by (try simp only [List.map_toArray, List.map_cons, List.map_nil]); first | done | rfl | (simp only [List.length_drop, List.length_take]; rfl)) ?_
                                          with_reducible refine (tele_Split.calls kj25 (fun k_ => some k_ = (.slice Ao63 y247.length co63 : Value).ownBlock) _ _ y247 t250 t253 t256 _ ?side1 A48.out).mono ?_
                                          (case side1 => exact Kd.R_V (Kd.R_tight rfl (Kd.R_types (HO249.out) BK208.out (by decide))))
                                          rintro e w64 ⟨v251, v254, rfl, ho0, ho1, hb⟩
                                          refine ⟨_, rfl, ?_⟩
                                          have n0_ := Aside0.mk (Kd.R_elder' (by (with_reducible repeat (first | apply Kd.R_alloc | apply Kd.R_drewN | apply Kd.R_drew)); exact HO_7.out) (Kd.R_base ho1) hb)
                                          have n1_ := Aside0.mk (Kd.R_elder' (by (with_reducible repeat (first | apply Kd.R_alloc | apply Kd.R_drewN | apply Kd.R_drew)); exact HO228.out) (Kd.R_base ho1) hb)
                                          have n2_ := Aside0.mk (Kd.R_elder' (by (with_reducible repeat (first | apply Kd.R_alloc | apply Kd.R_drewN | apply Kd.R_drew)); exact HO249.out) (Kd.R_base ho1) hb)
                                          have n3_ := Aside0.mk (Kd.R_lower (Kd.R_newB (Kd.R_mono (ok' := fun k_ => True) ho0 (fun _ hk_ => trivial)) (g := gb208) (o := .cells #[.int .u8 a1_0, .int .u16 a1_1, .int .u16 a1_2, .int .u16 a1_3, .int .u16 a1_4] 24 (0, 0)) (by (with_reducible repeat (first | refine blk_drewN ?_ _ | refine blk_drew ?_ | refine blk_alloc ?_ _)); exact BK208.out)) (below_size (by repeat (first | (with_reducible first | exact HB.out | apply below_alloc | apply pw_below_drewN | apply below_drew1 | refine below_set ?_ GE208.out) | exact HB.out))))
                                          have n4_ := Aside0.mk (Kd.R_lower (Kd.R_new' (Kd.R_new' (Kd.R_new' (Kd.R_mono (ok' := fun k_ => True) ho1 (fun _ hk_ => trivial)) (Kd.R_lt (by (with_reducible repeat (first | apply Kd.R_alloc | apply Kd.R_drewN | apply Kd.R_drew)); exact HO_7.out))) (Kd.R_lt (by (with_reducible repeat (first | apply Kd.R_alloc | apply Kd.R_drewN | apply Kd.R_drew)); exact HO228.out))) (Kd.R_lt (by (with_reducible repeat (first | apply Kd.R_alloc | apply Kd.R_drewN | apply Kd.R_drew)); exact HO249.out))) (below_size (by repeat (first | (with_reducible first | exact HB.out | apply below_alloc | apply pw_below_drewN | apply below_drew1 | refine below_set ?_ GE208.out) | exact HB.out))))
                                          have n5_ := Aside0.mk (blk_below (g := gb208) (o := .cells #[.int .u8 a1_0, .int .u16 a1_1, .int .u16 a1_2, .int .u16 a1_3, .int .u16 a1_4] 24 (0, 0)) (by (with_reducible repeat (first | refine blk_drewN ?_ _ | refine blk_drew ?_ | refine blk_alloc ?_ _)); exact BK208.out) hb)
                                          have n6_ := Aside0.mk (Kd.C_below (by repeat (first | (with_reducible exact HR236.out) | (with_reducible refine Kd.C_alloc ?_ _) | (with_reducible refine Kd.C_drewN ?_ _) | (with_reducible refine Kd.C_drew ?_) | exact HR236.out)) hb)
                                          have n7_ := Aside0.mk (Kd.C_below (by repeat (first | (with_reducible exact HR246.out) | (with_reducible refine Kd.C_alloc ?_ _) | (with_reducible refine Kd.C_drewN ?_ _) | (with_reducible refine Kd.C_drew ?_) | exact HR246.out)) hb)
                                          have n8_ := Aside0.mk (below_step (by repeat (first | (with_reducible first | exact HB.out | apply below_alloc | apply pw_below_drewN | apply below_drew1 | refine below_set ?_ GE208.out) | exact HB.out)) hb)
                                          clear HO_7
                                          clear HO228
                                          clear HO249
                                          clear BK208
                                          clear HR236
                                          clear HR246
                                          clear HB
                                          have HO_7 := n0_
                                          have HO228 := n1_
                                          have HO249 := n2_
                                          have HO252 := n3_
                                          have HO255 := n4_
                                          have BK208 := n5_
                                          have HR236 := n6_
                                          have HR246 := n7_
                                          have HB := n8_
                                          clear n0_ n1_ n2_ n3_ n4_ n5_ n6_ n7_ n8_
                                          (try clear hb)
                                          (try clear hb2)
                                          (try clear hk)
                                          (try clear hi)
                                          (try clear ho0)
                                          (try clear ho1)
                                          refine hK.out _ _ trivial (fun hHeld => ?_)
                                          clear hK K
                                          refine norm_ (a' := ?_) ?_ ?_
                                          rotate_left
                                          · show Act.put _ (some 92) _ = _
                                            simp only [Act.put, List.setIfInBounds_toArray, List.set_cons_zero, List.set_cons_succ, i64_w, i32_w]
                                            rfl
                                          refine pure_ (i := 12) (N := some 80) (v := ?_) (a' := ?_) #[true, true, true, true, true, true, true, true, true, true, true, true, true, false, false, false, false, false, false] rfl rfl (any_of HT_.out (by kernel_rfl)) (fun _ _ _ h => h) (Or.inl ⟨by rfl, ?_⟩) ?_ ?_
                                          rotate_left
                                          · intro w'
                                            go_simp
                                            with_reducible rfl
                                          rotate_left
                                          · simp only [Act.put, List.setIfInBounds_toArray, List.set_cons_zero, List.set_cons_succ, i64_w, i32_w]
                                            rfl
                                          refine pure_ (i := 13) (N := some 93) (v := ?_) (a' := ?_) #[true, true, true, true, true, true, true, true, true, true, true, true, true, true, false, false, false, false, false] rfl rfl (any_of HT_.out (by kernel_rfl)) (fun _ _ _ h => h) (Or.inl ⟨by rfl, ?_⟩) ?_ ?_
                                          rotate_left
                                          · intro w'
                                            go_simp
                                            with_reducible rfl
                                          rotate_left
                                          · simp only [Act.put, List.setIfInBounds_toArray, List.set_cons_zero, List.set_cons_succ, i64_w, i32_w]
                                            rfl
                                          refine pure_ (i := 14) (N := some 94) (v := ?_) (a' := ?_) #[true, true, true, true, true, true, true, true, true, true, true, true, true, true, true, false, false, false, false] rfl rfl (any_of HT_.out (by kernel_rfl)) (fun _ _ _ h => h) (Or.inl ⟨by rfl, ?_⟩) ?_ ?_
                                          rotate_left
                                          · intro w'
                                            go_simp
                                            with_reducible rfl
                                          rotate_left
                                          · simp only [Act.put, List.setIfInBounds_toArray, List.set_cons_zero, List.set_cons_succ, i64_w, i32_w]
                                            rfl
                                          refine pure_ (i := 15) (N := some 95) (v := ?_) (a' := ?_) #[true, true, true, true, true, true, true, true, true, true, true, true, true, true, true, true, false, false, false] rfl rfl (any_of HT_.out (by kernel_rfl)) (fun _ _ _ h => h) (Or.inl ⟨by rfl, ?_⟩) ?_ ?_
                                          rotate_left
                                          · intro w'
                                            go_simp
                                            with_reducible rfl
                                          rotate_left
                                          · simp only [Act.put, List.setIfInBounds_toArray, List.set_cons_zero, List.set_cons_succ, i64_w, i32_w]
                                            rfl
                                          refine pure_ (i := 16) (N := some 9) (v := ?_) (a' := ?_) #[true, true, true, true, true, true, true, true, true, true, true, true, true, true, true, true, true, false, false] rfl rfl (any_of HT_.out (by kernel_rfl)) (fun _ _ _ h => h) (Or.inl ⟨by rfl, ?_⟩) ?_ ?_
                                          rotate_left
                                          · intro w'
                                            go_simp
                                            with_reducible rfl
                                          rotate_left
                                          · simp only [Act.put, List.setIfInBounds_toArray, List.set_cons_zero, List.set_cons_succ, i64_w, i32_w]
                                            rfl
                                          refine pure_ (i := 17) (N := some 10) (v := ?_) (a' := ?_) #[true, true, true, true, true, true, true, true, true, true, true, true, true, true, true, true, true, true, false] rfl rfl (any_of HT_.out (by kernel_rfl)) (fun _ _ _ h => h) (Or.inl ⟨by rfl, ?_⟩) ?_ ?_
                                          rotate_left
                                          · intro w'
                                            go_simp
                                            with_reducible rfl
                                          rotate_left
                                          · simp only [Act.put, List.setIfInBounds_toArray, List.set_cons_zero, List.set_cons_succ, i64_w, i32_w]
                                            rfl
                                          refine pure_ (i := 18) (N := some 11) (v := ?_) (a' := ?_) #[true, true, true, true, true, true, true, true, true, true, true, true, true, true, true, true, true, true, true] rfl rfl (any_of HT_.out (by kernel_rfl)) (fun _ _ _ h => h) (Or.inl ⟨by rfl, ?_⟩) ?_ ?_
                                          rotate_left
                                          · intro w'
                                            go_simp
                                            with_reducible rfl
                                          rotate_left
                                          · simp only [Act.put, List.setIfInBounds_toArray, List.set_cons_zero, List.set_cons_succ, i64_w, i32_w]
                                            rfl
                                          refine done_ (done_of HT_.out (by kernel_rfl)) ?_
                                          try go_wp2
                                          have n0_ := Aside0.mk (Kd.R_drew HO_7.out)
                                          have n1_ := Aside0.mk (Kd.R_drew HO228.out)
                                          have n2_ := Aside0.mk (Kd.R_drew HO249.out)
                                          have n3_ := Aside0.mk (Kd.R_drew HO252.out)
                                          have n4_ := Aside0.mk (Kd.R_drew HO255.out)
                                          have n5_ := Aside0.mk (blk_drew BK208.out)
                                          have n6_ := Aside0.mk (Kd.C_drew HR236.out)
                                          have n7_ := Aside0.mk (Kd.C_drew HR246.out)
                                          have n8_ := Aside0.mk (below_drew1 HB.out)
                                          clear HO_7
                                          clear HO228
                                          clear HO249
                                          clear HO252
                                          clear HO255
                                          clear BK208
                                          clear HR236
                                          clear HR246
                                          clear HB
                                          have HO_7 := n0_
                                          have HO228 := n1_
                                          have HO249 := n2_
                                          have HO252 := n3_
                                          have HO255 := n4_
                                          have BK208 := n5_
                                          have HR236 := n6_
                                          have HR246 := n7_
                                          have HB := n8_
                                          clear n0_ n1_ n2_ n3_ n4_ n5_ n6_ n7_ n8_
                                          obtain ⟨Ao66, co66, eo66⟩ := Kd.R_slice HO252.out
                                          (first | subst eo66 | (injection eo66 with f1_ f2_ f3_; have f4_ := f1_.symm; have f5_ := f3_.symm; clear f1_ f2_ f3_; subst f4_; subst f5_))
                                          have p257 : 0 ≤ (0 : Int) := (by omega)
                                          have q257 : 0 < (t250.length : Int) := of_decide_eq_true (by first | (with_reducible assumption) | assumption)
                                          obtain ⟨ad257, e257, hx257_0, hx257_1, hx257_2, hx257_3, hx257_4⟩ := at_T24 (Kd.R_reads' HO252.out).2.2 0 p257 q257
                                          cases e257
                                          have qi257 : (0 < t250.length) = True := eq_true (by omega)
                                          (try rw [show ((0 : Int)).toNat = 0 from rfl] at hx257_0)
                                          (try rw [show 0 * 5 = 0 from rfl] at hx257_0)
                                          (try rw [Addr.add_zero'] at hx257_0)
                                          (try rw [show ((0 : Int)).toNat = 0 from rfl] at hx257_1)
                                          (try rw [show 0 * 5 = 0 from rfl] at hx257_1)
                                          (try rw [Addr.add_zero'] at hx257_1)
                                          (try rw [show ((0 : Int)).toNat = 0 from rfl] at hx257_2)
                                          (try rw [show 0 * 5 = 0 from rfl] at hx257_2)
                                          (try rw [Addr.add_zero'] at hx257_2)
                                          (try rw [show ((0 : Int)).toNat = 0 from rfl] at hx257_3)
                                          (try rw [show 0 * 5 = 0 from rfl] at hx257_3)
                                          (try rw [Addr.add_zero'] at hx257_3)
                                          (try rw [show ((0 : Int)).toNat = 0 from rfl] at hx257_4)
                                          (try rw [show 0 * 5 = 0 from rfl] at hx257_4)
                                          (try rw [Addr.add_zero'] at hx257_4)
                                          replace p257 := eq_true p257
                                          replace q257 := eq_true q257
                                          obtain ⟨Ao67, co67, eo67⟩ := Kd.R_slice HO255.out
                                          (first | subst eo67 | (injection eo67 with f1_ f2_ f3_; have f4_ := f1_.symm; have f5_ := f3_.symm; clear f1_ f2_ f3_; subst f4_; subst f5_))
                                          refine start_ (n := 20) (S := fun w' => w'.cell? ⟨gb208, 0, none⟩ = some (.int .u8 a1_0) ∧ w'.cell? ⟨gb208, 1, none⟩ = some (.int .u16 a1_1) ∧ w'.cell? ⟨gb208, 2, none⟩ = some (.int .u16 a1_2) ∧ w'.cell? ⟨gb208, 3, none⟩ = some (.int .u16 a1_3) ∧ w'.cell? ⟨gb208, 4, none⟩ = some (.int .u16 a1_4) ∧ w'.cell? ad257 = some (.int .u8 ((rd_T24 t250 0).f0)) ∧ w'.cell? ⟨ad257.block, ad257.off + 1, none⟩ = some (.int .u16 ((rd_T24 t250 0).f1)) ∧ w'.cell? ⟨ad257.block, ad257.off + 2, none⟩ = some (.int .u16 ((rd_T24 t250 0).f2)) ∧ w'.cell? ⟨ad257.block, ad257.off + 3, none⟩ = some (.int .u16 ((rd_T24 t250 0).f3)) ∧ w'.cell? ⟨ad257.block, ad257.off + 4, none⟩ = some (.int .u16 ((rd_T24 t250 0).f4))) (ds := []) #[false, false, false, false, false, false, false, false, false, false, false, false, false, false, false, false, false, false, false, false] (by kernel_rfl) rfl rfl ⟨(blk_cell BK208.out 0).trans rfl, (blk_cell BK208.out 1).trans rfl, (blk_cell BK208.out 2).trans rfl, (blk_cell BK208.out 3).trans rfl, (blk_cell BK208.out 4).trans rfl, hx257_0, hx257_1, hx257_2, hx257_3, hx257_4⟩ (fun hHeld => ?_); refine with_tabW stillagelaw02_TeleNoise.tab18 stillagelaw02_TeleNoise.bits18 (fun HT_ HW_ => ?_)
                                          generalize w64.drew = w65 at HO_7 HO228 HO249 HO252 HO255 BK208 HR236 HR246 HB hx257_0 hx257_1 hx257_2 hx257_3 hx257_4 hHeld ⊢
                                          refine pure_ (i := 0) (N := some 96) (v := ?_) (a' := ?_) #[true, false, false, false, false, false, false, false, false, false, false, false, false, false, false, false, false, false, false, false] rfl rfl (any_of HT_.out (by kernel_rfl)) (fun _ _ _ h => h) (Or.inl ⟨by rfl, ?_⟩) ?_ ?_
                                          rotate_left
                                          · intro w'
                                            go_simp
                                            with_reducible rfl
                                          rotate_left
                                          · simp only [Act.put, List.setIfInBounds_toArray, List.set_cons_zero, List.set_cons_succ, i64_w, i32_w]
                                            rfl
                                          refine pure_ (i := 1) (N := some 97) (v := ?_) (a' := ?_) #[true, true, false, false, false, false, false, false, false, false, false, false, false, false, false, false, false, false, false, false] rfl rfl (any_of HT_.out (by kernel_rfl)) (fun _ _ _ h => h) (Or.inl ⟨by rfl, ?_⟩) ?_ ?_
                                          rotate_left
                                          · intro w'
                                            go_simp
                                            with_reducible rfl
                                          rotate_left
                                          · simp only [Act.put, List.setIfInBounds_toArray, List.set_cons_zero, List.set_cons_succ, i64_w, i32_w]
                                            rfl
                                          refine pure_ (i := 2) (N := some 98) (v := ?_) (a' := ?_) #[true, true, true, false, false, false, false, false, false, false, false, false, false, false, false, false, false, false, false, false] rfl rfl (any_of HT_.out (by kernel_rfl)) (fun _ _ _ h => h) (Or.inl ⟨by rfl, ?_⟩) ?_ ?_
                                          rotate_left
                                          · intro w'
                                            go_simp
                                            with_reducible rfl
                                          rotate_left
                                          · simp only [Act.put, List.setIfInBounds_toArray, List.set_cons_zero, List.set_cons_succ, i64_w, i32_w]
                                            rfl
                                          refine pure_ (i := 3) (N := some 99) (v := ?_) (a' := ?_) #[true, true, true, true, false, false, false, false, false, false, false, false, false, false, false, false, false, false, false, false] rfl rfl (any_of HT_.out (by kernel_rfl)) (fun _ _ _ h => h) (Or.inl ⟨by rfl, ?_⟩) ?_ ?_
                                          rotate_left
                                          · intro w'
                                            go_simp
                                            with_reducible rfl
                                          rotate_left
                                          · simp only [Act.put, List.setIfInBounds_toArray, List.set_cons_zero, List.set_cons_succ, i64_w, i32_w]
                                            rfl
                                          refine pure_ (i := 4) (N := some 100) (v := ?_) (a' := ?_) #[true, true, true, true, true, false, false, false, false, false, false, false, false, false, false, false, false, false, false, false] rfl rfl (any_of HT_.out (by kernel_rfl)) (fun _ _ _ h => h) (Or.inl ⟨by rfl, ?_⟩) ?_ ?_
                                          rotate_left
                                          · intro w'
                                            go_simp
                                            with_reducible rfl
                                          rotate_left
                                          · simp only [Act.put, List.setIfInBounds_toArray, List.set_cons_zero, List.set_cons_succ, i64_w, i32_w]
                                            rfl
                                          refine pure_ (i := 5) (N := some 101) (v := ?_) (a' := ?_) #[true, true, true, true, true, true, false, false, false, false, false, false, false, false, false, false, false, false, false, false] rfl rfl (any_of HT_.out (by kernel_rfl)) (fun _ _ _ h => h) (Or.inl ⟨by rfl, ?_⟩) ?_ ?_
                                          rotate_left
                                          · intro w'
                                            go_simp
                                            with_reducible rfl
                                          rotate_left
                                          · simp only [Act.put, List.setIfInBounds_toArray, List.set_cons_zero, List.set_cons_succ, i64_w, i32_w]
                                            rfl
                                          refine take_ (i := 6) (N := some 102) (v := ?_) (a' := ?_) #[true, true, true, true, true, true, true, false, false, false, false, false, false, false, false, false, false, false, false, false] rfl rfl (take_ofW HT_.out HW_.out (by kernel_rfl)) (fun _ _ _ h => h) (Or.inl ⟨by rfl, ?_⟩) hHeld ?_ ?_
                                          rotate_left
                                          · rintro w' ⟨s0, s1, s2, s3, s4, s5, s6, s7, s8, s9⟩
                                            go_simp
                                            with_reducible rfl
                                          rotate_left
                                          · simp only [Act.put, List.setIfInBounds_toArray, List.set_cons_zero, List.set_cons_succ, i64_w, i32_w]
                                            rfl
                                          refine take_ (i := 7) (N := some 103) (v := ?_) (a' := ?_) #[true, true, true, true, true, true, true, true, false, false, false, false, false, false, false, false, false, false, false, false] rfl rfl (take_ofW HT_.out HW_.out (by kernel_rfl)) (fun _ _ _ h => h) (Or.inl ⟨by rfl, ?_⟩) hHeld ?_ ?_
                                          rotate_left
                                          · rintro w' ⟨s0, s1, s2, s3, s4, s5, s6, s7, s8, s9⟩
                                            go_simp
                                            with_reducible rfl
                                          rotate_left
                                          · simp only [Act.put, List.setIfInBounds_toArray, List.set_cons_zero, List.set_cons_succ, i64_w, i32_w]
                                            rfl
                                          refine pure_ (i := 8) (N := some 104) (v := ?_) (a' := ?_) #[true, true, true, true, true, true, true, true, true, false, false, false, false, false, false, false, false, false, false, false] rfl rfl (any_of HT_.out (by kernel_rfl)) (fun _ _ _ h => h) (Or.inl ⟨by rfl, ?_⟩) ?_ ?_
                                          rotate_left
                                          · intro w'
                                            go_simp
                                            with_reducible rfl
                                          rotate_left
                                          · simp only [Act.put, List.setIfInBounds_toArray, List.set_cons_zero, List.set_cons_succ, i64_w, i32_w]
                                            rfl
                                          refine pure_ (i := 9) (N := some 105) (v := ?_) (a' := ?_) #[true, true, true, true, true, true, true, true, true, true, false, false, false, false, false, false, false, false, false, false] rfl rfl (any_of HT_.out (by kernel_rfl)) (fun _ _ _ h => h) (Or.inl ⟨by rfl, ?_⟩) ?_ ?_
                                          rotate_left
                                          · intro w'
                                            go_simp
                                            with_reducible rfl
                                          rotate_left
                                          · simp only [Act.put, List.setIfInBounds_toArray, List.set_cons_zero, List.set_cons_succ, i64_w, i32_w]
                                            rfl
                                          refine pure_ (i := 10) (N := some 106) (v := ?_) (a' := ?_) #[true, true, true, true, true, true, true, true, true, true, true, false, false, false, false, false, false, false, false, false] rfl rfl (any_of HT_.out (by kernel_rfl)) (fun _ _ _ h => h) (Or.inl ⟨by rfl, ?_⟩) ?_ ?_
                                          rotate_left
                                          · intro w'
                                            go_simp
                                            with_reducible rfl
                                          rotate_left
                                          · simp only [Act.put, List.setIfInBounds_toArray, List.set_cons_zero, List.set_cons_succ, i64_w, i32_w]
                                            rfl
                                          refine pure_ (i := 11) (N := some 107) (v := ?_) (a' := ?_) #[true, true, true, true, true, true, true, true, true, true, true, true, false, false, false, false, false, false, false, false] rfl rfl (any_of HT_.out (by kernel_rfl)) (fun _ _ _ h => h) (Or.inl ⟨by rfl, ?_⟩) ?_ ?_
                                          rotate_left
                                          · intro w'
                                            go_simp
                                            with_reducible rfl
                                          rotate_left
                                          · simp only [Act.put, List.setIfInBounds_toArray, List.set_cons_zero, List.set_cons_succ, i64_w, i32_w]
                                            rfl
                                          refine pure_ (i := 12) (N := some 108) (v := ?_) (a' := ?_) #[true, true, true, true, true, true, true, true, true, true, true, true, true, false, false, false, false, false, false, false] rfl rfl (any_of HT_.out (by kernel_rfl)) (fun _ _ _ h => h) (Or.inl ⟨by rfl, ?_⟩) ?_ ?_
                                          rotate_left
                                          · intro w'
                                            go_simp
                                            with_reducible rfl
                                          rotate_left
                                          · simp only [Act.put, List.setIfInBounds_toArray, List.set_cons_zero, List.set_cons_succ, i64_w, i32_w]
                                            rfl
                                          refine pure_ (i := 13) (N := some 109) (v := ?_) (a' := ?_) #[true, true, true, true, true, true, true, true, true, true, true, true, true, true, false, false, false, false, false, false] rfl rfl (any_of HT_.out (by kernel_rfl)) (fun _ _ _ h => h) (Or.inl ⟨by rfl, ?_⟩) ?_ ?_
                                          rotate_left
                                          · intro w'
                                            go_simp
                                            with_reducible rfl
                                          rotate_left
                                          · simp only [Act.put, List.setIfInBounds_toArray, List.set_cons_zero, List.set_cons_succ, i64_w, i32_w]
                                            rfl
                                          refine pure_ (i := 14) (N := some 110) (v := ?_) (a' := ?_) #[true, true, true, true, true, true, true, true, true, true, true, true, true, true, true, false, false, false, false, false] rfl rfl (any_of HT_.out (by kernel_rfl)) (fun _ _ _ h => h) (Or.inl ⟨by rfl, ?_⟩) ?_ ?_
                                          rotate_left
                                          · intro w'
                                            go_simp
                                            with_reducible rfl
                                          rotate_left
                                          · simp only [Act.put, List.setIfInBounds_toArray, List.set_cons_zero, List.set_cons_succ, i64_w, i32_w]
                                            rfl
                                          refine pure_ (i := 15) (N := some 111) (v := ?_) (a' := ?_) #[true, true, true, true, true, true, true, true, true, true, true, true, true, true, true, true, false, false, false, false] rfl rfl (any_of HT_.out (by kernel_rfl)) (fun _ _ _ h => h) (Or.inl ⟨by rfl, ?_⟩) ?_ ?_
                                          rotate_left
                                          · intro w'
                                            go_simp
                                            with_reducible rfl
                                          rotate_left
                                          · simp only [Act.put, List.setIfInBounds_toArray, List.set_cons_zero, List.set_cons_succ, i64_w, i32_w]
                                            rfl
                                          refine pure_ (i := 16) (N := some 112) (v := ?_) (a' := ?_) #[true, true, true, true, true, true, true, true, true, true, true, true, true, true, true, true, true, false, false, false] rfl rfl (any_of HT_.out (by kernel_rfl)) (fun _ _ _ h => h) (Or.inl ⟨by rfl, ?_⟩) ?_ ?_
                                          rotate_left
                                          · intro w'
                                            go_simp
                                            with_reducible rfl
                                          rotate_left
                                          · simp only [Act.put, List.setIfInBounds_toArray, List.set_cons_zero, List.set_cons_succ, i64_w, i32_w]
                                            rfl
                                          refine pure_ (i := 17) (N := some 113) (v := ?_) (a' := ?_) #[true, true, true, true, true, true, true, true, true, true, true, true, true, true, true, true, true, true, false, false] rfl rfl (any_of HT_.out (by kernel_rfl)) (fun _ _ _ h => h) (Or.inl ⟨by rfl, ?_⟩) ?_ ?_
                                          rotate_left
                                          · intro w'
                                            go_simp
                                            with_reducible rfl
                                          rotate_left
                                          · simp only [Act.put, List.setIfInBounds_toArray, List.set_cons_zero, List.set_cons_succ, i64_w, i32_w]
                                            rfl
                                          refine pure_ (i := 18) (N := some 114) (v := ?_) (a' := ?_) #[true, true, true, true, true, true, true, true, true, true, true, true, true, true, true, true, true, true, true, false] rfl rfl (any_of HT_.out (by kernel_rfl)) (fun _ _ _ h => h) (Or.inl ⟨by rfl, ?_⟩) ?_ ?_
                                          rotate_left
                                          · intro w'
                                            go_simp
                                            with_reducible rfl
                                          rotate_left
                                          · simp only [Act.put, List.setIfInBounds_toArray, List.set_cons_zero, List.set_cons_succ, i64_w, i32_w]
                                            rfl
                                          refine pure_ (i := 19) (N := some 6) (v := ?_) (a' := ?_) #[true, true, true, true, true, true, true, true, true, true, true, true, true, true, true, true, true, true, true, true] rfl rfl (any_of HT_.out (by kernel_rfl)) (fun _ _ _ h => h) (Or.inl ⟨by rfl, ?_⟩) ?_ ?_
                                          rotate_left
                                          · intro w'
                                            go_simp
                                            with_reducible rfl
                                          rotate_left
                                          · simp only [Act.put, List.setIfInBounds_toArray, List.set_cons_zero, List.set_cons_succ, i64_w, i32_w]
                                            rfl
                                          refine done_ (done_of HT_.out (by kernel_rfl)) ?_
                                          try go_wp2
                                          go_ret
                                          exact ⟨by first | rfl | (simp [errW_none, errW_some] <;> rfl) | (simp only [← hji40]; first | rfl | (simp [errW_none, errW_some] <;> rfl)) | (simp [*, errW_none, errW_some] <;> rfl), by repeat (first | (with_reducible first | exact HB.out | apply below_alloc | apply pw_below_drewN | apply below_drew1 | refine below_set ?_ GE208.out) | exact HB.out)⟩
                                        · rw [if_neg c51] at H
                                          have c51b0 : (((rd_T24 t250 0).f0) == a1_0 && (((rd_T24 t250 0).f1) == a1_1 && (((rd_T24 t250 0).f2) == a1_2 && (((rd_T24 t250 0).f3) == a1_3 && (((rd_T24 t250 0).f4) == a1_4))))) = false := by simpa using c51
                                          (try (have c51b1 : decide (((rd_T24 t250 0).f0) = a1_0 && (((rd_T24 t250 0).f1) == a1_1 && (((rd_T24 t250 0).f2) == a1_2 && (((rd_T24 t250 0).f3) == a1_3 && (((rd_T24 t250 0).f4) == a1_4))))) = false := by simpa using c51))
                                          (try (have c51b2 : (((rd_T24 t250 0).f0) == a1_0 && (((rd_T24 t250 0).f1) == a1_1 && (((rd_T24 t250 0).f2) == a1_2 && (((rd_T24 t250 0).f3) == a1_3 && (((rd_T24 t250 0).f4) == a1_4))))) = false := by simpa using c51))
                                          (try (have c51b3 : ¬ (((rd_T24 t250 0).f0) = a1_0 && (((rd_T24 t250 0).f1) == a1_1 && (((rd_T24 t250 0).f2) == a1_2 && (((rd_T24 t250 0).f3) == a1_3 && (((rd_T24 t250 0).f4) == a1_4))))) := by simpa using c51))
                                          clear c51
                                          obtain rfl := Option.some.inj H
                                          have hcz68_0 : wc.cell? ⟨gb208, 0, none⟩ = some (.int .u8 a1_0) := (blk_cell BK208.out 0).trans rfl
                                          have hcz68_1 : wc.cell? ⟨gb208, 1, none⟩ = some (.int .u16 a1_1) := (blk_cell BK208.out 1).trans rfl
                                          have hcz68_2 : wc.cell? ⟨gb208, 2, none⟩ = some (.int .u16 a1_2) := (blk_cell BK208.out 2).trans rfl
                                          have hcz68_3 : wc.cell? ⟨gb208, 3, none⟩ = some (.int .u16 a1_3) := (blk_cell BK208.out 3).trans rfl
                                          have hcz68_4 : wc.cell? ⟨gb208, 4, none⟩ = some (.int .u16 a1_4) := (blk_cell BK208.out 4).trans rfl
                                          have hfz68_0 := blk_frozen BK208.out 0
                                          have hfz68_1 := blk_frozen BK208.out 1
                                          have hfz68_2 := blk_frozen BK208.out 2
                                          have hfz68_3 := blk_frozen BK208.out 3
                                          have hfz68_4 := blk_frozen BK208.out 4
                                          try go_wp2_with (first | ((with_reducible refine gate_callee (f := 12) rfl ?_); refine goesL_ (some 67) rfl rfl Try.func12 (by kernel_rfl) rfl #[.agg #[.int .u8 a1_0, .int .u16 a1_1, .int .u16 a1_2, .int .u16 a1_3, .int .u16 a1_4]] rfl (by (try simp only [List.map_toArray, List.map_cons, List.map_nil]); first | done | rfl | (simp only [List.length_drop, List.length_take]; rfl)) ?_; (with_reducible refine (tele_Encode.calls kj25 a1_0 a1_1 a1_2 a1_3 a1_4 t226 t229 _ A37.out).mono ?_); rintro e w69 ⟨v227, rfl, ho0, hb⟩; refine ⟨_, rfl, ?_⟩; have n0_ := Aside0.mk (Kd.R_elder' (by (with_reducible repeat (first | apply Kd.R_alloc | apply Kd.R_drewN | apply Kd.R_drew)); exact HO_7.out) (Kd.R_base ho0) hb); have n1_ := Aside0.mk (Kd.R_lower (Kd.R_new' ho0 (Kd.R_lt (by (with_reducible repeat (first | apply Kd.R_alloc | apply Kd.R_drewN | apply Kd.R_drew)); exact HO_7.out))) (below_size (by repeat (first | (with_reducible first | exact HB.out | apply below_alloc | apply pw_below_drewN | apply below_drew1 | refine below_set ?_ GE208.out) | exact HB.out)))); have n2_ := Aside0.mk (blk_below (g := gb208) (o := .cells #[.int .u8 a1_0, .int .u16 a1_1, .int .u16 a1_2, .int .u16 a1_3, .int .u16 a1_4] 24 (0, 0)) (by (with_reducible repeat (first | refine blk_drewN ?_ _ | refine blk_drew ?_ | refine blk_alloc ?_ _)); exact BK208.out) hb); have n3_ := Aside0.mk (below_step (by repeat (first | (with_reducible first | exact HB.out | apply below_alloc | apply pw_below_drewN | apply below_drew1 | refine below_set ?_ GE208.out) | exact HB.out)) hb); clear HO_7; clear BK208; clear HB; have HO_7 := n0_; have HO228 := n1_; have BK208 := n2_; have HB := n3_; clear n0_ n1_ n2_ n3_; (try clear hb); (try clear hb2); (try clear hk); (try clear hi); (try clear ho0)))
                                          have n0_ := Aside0.mk (Kd.R_drew HO_7.out)
                                          have n1_ := Aside0.mk (Kd.R_drew HO228.out)
                                          have n2_ := Aside0.mk (blk_drew BK208.out)
                                          have n3_ := Aside0.mk (below_drew1 HB.out)
                                          clear HO_7
                                          clear HO228
                                          clear BK208
                                          clear HB
                                          have HO_7 := n0_
                                          have HO228 := n1_
                                          have BK208 := n2_
                                          have HB := n3_
                                          clear n0_ n1_ n2_ n3_
                                          have q71 : ((ji40) : Int) ≤ ((x7_2.length : Int) : Int) := of_decide_eq_true (by first | (with_reducible assumption) | assumption)
                                          obtain ⟨i071, hi071, _, hsz71, _⟩ := info_parts info5
                                          have hroom71 : x7_2.length ≤ co17 := (Kd.R_reads' HO_7.out).2.1
                                          have hC71 : Kd.C (Kd.int .u8) _ Ao17 x7_2.length x7_2 := (Kd.R_reads' HO_7.out).2.2
                                          have hcut71 := cut_to (P := Try.prog) 26 5 .i64 Try.underlying26 hi071 Ao17 x7_2.length co17 (ji40) (of_decide_eq_true (by first | (with_reducible assumption) | assumption)) q71 hroom71
                                          have hr71 := Kd.C_take (m := ((ji40) : Int).toNat) hC71 (by omega)
                                          have hy71 : y233.length = ((ji40) : Int).toNat := (by rw [Ny233.out, List.length_take]; omega)
                                          rw [← Ny233.out] at hr71
                                          rw [← hy71] at hcut71
                                          have HR236 := Aside0.mk hr71
                                          have HC236 := Aside0.mk (show y233.length ≤ co17 from by omega)
                                          clear hr71 hC71 hroom71 hi071 hsz71
                                          have KY71 := Aside0.mk hy71
                                          clear hy71
                                          have KL71 := Aside0.mk (show ((ji40) : Int).toNat ≤ x7_2.length from by omega)
                                          replace q71 := eq_true q71
                                          have q72 : ((ji40) : Int) ≤ ((x7_2.length : Int) : Int) := of_decide_eq_true (by first | (with_reducible assumption) | assumption)
                                          obtain ⟨i072, hi072, _, hsz72, _⟩ := info_parts info5
                                          have hroom72 : x7_2.length ≤ co17 := (Kd.R_reads' HO_7.out).2.1
                                          have hC72 : Kd.C (Kd.int .u8) _ Ao17 x7_2.length x7_2 := (Kd.R_reads' HO_7.out).2.2
                                          have q072 : (0 : Int) ≤ ((ji40) : Int) := of_decide_eq_true (by first | (with_reducible assumption) | assumption)
                                          have hcut72 := cut_from (P := Try.prog) 26 5 .i64 Try.underlying26 hi072 1 hsz72 Ao17 x7_2.length co17 (ji40) q072 q72
                                          have hr72 := Kd.C_drop (m := ((ji40) : Int).toNat) (c := co17) hC72 (by omega) hroom72
                                          obtain ⟨A72, hA72⟩ : ∃ A1, A1 = (if co17 = ((ji40) : Int).toNat then Ao17 else (Ao17 : Option Addr).map (·.add (((ji40) : Int).toNat * 1))) := ⟨_, rfl⟩
                                          obtain ⟨c72, hc72⟩ : ∃ c1, c1 = co17 - ((ji40) : Int).toNat := ⟨_, rfl⟩
                                          have hy72 : y243.length = x7_2.length - ((ji40) : Int).toNat := (by rw [Ny243.out, List.length_drop] <;> omega)
                                          rw [show (x7_2).drop ((ji40) : Int).toNat = y243 from Ny243.out.symm] at hr72
                                          replace hr72 : Kd.C (Kd.int .u8) _ A72 y243.length y243 := (by rw [hA72]; exact hr72)
                                          rw [← hy72, ← hA72, ← hc72] at hcut72
                                          have HR246 := Aside0.mk hr72
                                          have HC246 := Aside0.mk (show y243.length ≤ c72 from by rw [hy72, hc72]; exact Nat.sub_le_sub_right hroom72 _)
                                          clear hr72 hC72 hroom72 hi072 hsz72 hc72
                                          have KY72 := Aside0.mk hy72
                                          have KA72 := Aside0.mk hA72
                                          clear hy72 hA72
                                          have KL72 := Aside0.mk (show ((ji40) : Int).toNat ≤ x7_2.length from by omega)
                                          replace q72 := eq_true q72
                                          refine start_ (n := 19) (S := fun w' => True) (ds := []) #[false, false, false, false, false, false, false, false, false, false, false, false, false, false, false, false, false, false, false] (by kernel_rfl) rfl rfl trivial (fun hHeld => ?_); refine with_tabW stillagelaw02_TeleNoise.tab17 stillagelaw02_TeleNoise.bits17 (fun HT_ HW_ => ?_)
                                          generalize w69.drew = w70 at HO_7 HO228 BK208 HB HR236 HR246 hHeld ⊢
                                          refine pure_ (i := 1) (N := some 82) (v := ?_) (a' := ?_) #[false, true, false, false, false, false, false, false, false, false, false, false, false, false, false, false, false, false, false] rfl rfl (any_of HT_.out (by kernel_rfl)) (fun _ _ _ h => h) (Or.inl ⟨by rfl, ?_⟩) ?_ ?_
                                          rotate_left
                                          · intro w'
                                            go_simp
                                            with_reducible rfl
                                          rotate_left
                                          · simp only [Act.put, List.setIfInBounds_toArray, List.set_cons_zero, List.set_cons_succ, i64_w, i32_w]
                                            rfl
                                          refine pure_ (i := 2) (N := some 83) (v := ?_) (a' := ?_) #[false, true, true, false, false, false, false, false, false, false, false, false, false, false, false, false, false, false, false] rfl rfl (any_of HT_.out (by kernel_rfl)) (fun _ _ _ h => h) (Or.inl ⟨by rfl, ?_⟩) ?_ ?_
                                          rotate_left
                                          · intro w'
                                            go_simp
                                            with_reducible rfl
                                          rotate_left
                                          · simp only [Act.put, List.setIfInBounds_toArray, List.set_cons_zero, List.set_cons_succ, i64_w, i32_w]
                                            rfl
                                          refine pure_ (i := 3) (N := some 84) (v := ?_) (a' := ?_) #[false, true, true, true, false, false, false, false, false, false, false, false, false, false, false, false, false, false, false] rfl rfl (any_of HT_.out (by kernel_rfl)) (fun _ _ _ h => h) (Or.inl ⟨by rfl, ?_⟩) ?_ ?_
                                          rotate_left
                                          · intro w'
                                            go_simp
                                            with_reducible rfl
                                          rotate_left
                                          · simp only [Act.put, List.setIfInBounds_toArray, List.set_cons_zero, List.set_cons_succ, i64_w, i32_w]
                                            rfl
                                          refine pure_ (i := 5) (N := some 86) (v := ?_) (a' := ?_) #[false, true, true, true, false, true, false, false, false, false, false, false, false, false, false, false, false, false, false] rfl rfl (any_of HT_.out (by kernel_rfl)) (fun _ _ _ h => h) (Or.inl ⟨by rfl, ?_⟩) ?_ ?_
                                          rotate_left
                                          · intro w'
                                            go_simp
                                            with_reducible rfl
                                          rotate_left
                                          · simp only [Act.put, List.setIfInBounds_toArray, List.set_cons_zero, List.set_cons_succ, i64_w, i32_w]
                                            rfl
                                          refine pure_ (i := 7) (N := some 88) (v := ?_) (a' := ?_) #[false, true, true, true, false, true, false, true, false, false, false, false, false, false, false, false, false, false, false] rfl rfl (any_of HT_.out (by kernel_rfl)) (fun _ _ _ h => h) (Or.inl ⟨by rfl, ?_⟩) ?_ ?_
                                          rotate_left
                                          · intro w'
                                            go_simp
                                            with_reducible rfl
                                          rotate_left
                                          · simp only [Act.put, List.setIfInBounds_toArray, List.set_cons_zero, List.set_cons_succ, i64_w, i32_w]
                                            rfl
                                          refine pure_ (i := 8) (N := some 89) (v := ?_) (a' := ?_) #[false, true, true, true, false, true, false, true, true, false, false, false, false, false, false, false, false, false, false] rfl rfl (any_of HT_.out (by kernel_rfl)) (fun _ _ _ h => h) (Or.inl ⟨by rfl, ?_⟩) ?_ ?_
                                          rotate_left
                                          · intro w'
                                            go_simp
                                            with_reducible rfl
                                          rotate_left
                                          · simp only [Act.put, List.setIfInBounds_toArray, List.set_cons_zero, List.set_cons_succ, i64_w, i32_w]
                                            rfl
                                          refine pure_ (i := 9) (N := some 90) (v := ?_) (a' := ?_) #[false, true, true, true, false, true, false, true, true, true, false, false, false, false, false, false, false, false, false] rfl rfl (any_of HT_.out (by kernel_rfl)) (fun _ _ _ h => h) (Or.inl ⟨by rfl, ?_⟩) ?_ ?_
                                          rotate_left
                                          · intro w'
                                            go_simp
                                            with_reducible rfl
                                          rotate_left
                                          · simp only [Act.put, List.setIfInBounds_toArray, List.set_cons_zero, List.set_cons_succ, i64_w, i32_w]
                                            rfl
                                          refine one_ (i := 0) (N := some 81) #[true, true, true, true, false, true, false, true, true, true, false, false, false, false, false, false, false, false, false] rfl rfl (one_of HT_.out (by kernel_rfl)) (by decide) (fun K hK => ?_)
                                          refine Kd.R_lit_step (Kd.int .u8) _ 5 ?hg (N := 81) ?hd (xs := ([] : List Int)) (inner := []) (ok := fun _ => True) (okp := fun _ => True) ?hr ?hp (fun _ hk => hk) trivial (Below.refl _ _) (Nat.le_refl _) (by simp) ?_; (case hd => rfl); (case hg => rfl); (case hr => first | (go_simp; done) | (go_simp; rfl)); (case hp => exact (Reps.none _ _))
                                          intro v231 w73 ho74 hb hg_ hnew_
                                          clear hg_ hnew_
                                          (first | rw [← Ny230.out] at ho74 | (simp only [Int.reduceToNat] at ho74; rw [← Ny230.out] at ho74))
                                          have n0_ := Aside0.mk (Kd.R_elder' (by (with_reducible repeat (first | apply Kd.R_alloc | apply Kd.R_drewN | apply Kd.R_drew)); exact HO_7.out) (Kd.R_base ho74) hb)
                                          have n1_ := Aside0.mk (Kd.R_elder' (by (with_reducible repeat (first | apply Kd.R_alloc | apply Kd.R_drewN | apply Kd.R_drew)); exact HO228.out) (Kd.R_base ho74) hb)
                                          have n2_ := Aside0.mk (Kd.R_lower (Kd.R_new' (Kd.R_new' ho74 (Kd.R_lt (by (with_reducible repeat (first | apply Kd.R_alloc | apply Kd.R_drewN | apply Kd.R_drew)); exact HO_7.out))) (Kd.R_lt (by (with_reducible repeat (first | apply Kd.R_alloc | apply Kd.R_drewN | apply Kd.R_drew)); exact HO228.out))) (below_size (by repeat (first | (with_reducible first | exact HB.out | apply below_alloc | apply pw_below_drewN | apply below_drew1 | refine below_set ?_ GE208.out) | exact HB.out))))
                                          have n3_ := Aside0.mk (blk_below (g := gb208) (o := .cells #[.int .u8 a1_0, .int .u16 a1_1, .int .u16 a1_2, .int .u16 a1_3, .int .u16 a1_4] 24 (0, 0)) (by (with_reducible repeat (first | refine blk_drewN ?_ _ | refine blk_drew ?_ | refine blk_alloc ?_ _)); exact BK208.out) hb)
                                          have n4_ := Aside0.mk (Kd.C_below (by repeat (first | (with_reducible exact HR236.out) | (with_reducible refine Kd.C_alloc ?_ _) | (with_reducible refine Kd.C_drewN ?_ _) | (with_reducible refine Kd.C_drew ?_) | exact HR236.out)) hb)
                                          have n5_ := Aside0.mk (Kd.C_below (by repeat (first | (with_reducible exact HR246.out) | (with_reducible refine Kd.C_alloc ?_ _) | (with_reducible refine Kd.C_drewN ?_ _) | (with_reducible refine Kd.C_drew ?_) | exact HR246.out)) hb)
                                          have n6_ := Aside0.mk (below_step (by repeat (first | (with_reducible first | exact HB.out | apply below_alloc | apply pw_below_drewN | apply below_drew1 | refine below_set ?_ GE208.out) | exact HB.out)) hb)
                                          clear HO_7
                                          clear HO228
                                          clear BK208
                                          clear HR236
                                          clear HR246
                                          clear HB
                                          have HO_7 := n0_
                                          have HO228 := n1_
                                          have HO232 := n2_
                                          have BK208 := n3_
                                          have HR236 := n4_
                                          have HR246 := n5_
                                          have HB := n6_
                                          clear n0_ n1_ n2_ n3_ n4_ n5_ n6_
                                          clear hb ho74
                                          refine hK.out _ _ trivial (fun hHeld => ?_)
                                          clear hK K
                                          refine norm_ (a' := ?_) ?_ ?_
                                          rotate_left
                                          · show Act.put _ (some 81) _ = _
                                            simp only [Act.put, List.setIfInBounds_toArray, List.set_cons_zero, List.set_cons_succ, i64_w, i32_w]
                                            rfl
                                          refine one_ (i := 4) (N := some 85) #[true, true, true, true, true, true, false, true, true, true, false, false, false, false, false, false, false, false, false] rfl rfl (one_of HT_.out (by kernel_rfl)) (by decide) (fun K hK => ?_)
                                          refine Kd.R_append_rows_step (Kd.int .u8) (w0 := w) w.heap.size (by rfl) (.tmp 81) (.tmp 84) 26 5 (.int .u8 0) 1 rfl Try.underlying26 info5 rfl (by decide) (by omega) v231 y230 y233 _ _ _ (fun k_ => some k_ ≠ (.slice Ao17 x7_2.length co17 : Value).ownBlock ∧ some k_ ≠ (v227 : Value).ownBlock) (fun _ => False) rfl rfl ?aO ?aR (fun _ _ h => h) (fun _ h => h.elim) ?aF ?aB ?aS ?aL ?_
                                          (case aR => repeat (first | exact (by repeat (first | (with_reducible exact HR236.out) | (with_reducible refine Kd.C_alloc ?_ _) | (with_reducible refine Kd.C_drewN ?_ _) | (with_reducible refine Kd.C_drew ?_) | exact HR236.out)) | (with_reducible refine Kd.C_alloc ?_ _) | (with_reducible refine Kd.C_drewN ?_ _) | (with_reducible refine Kd.C_drew ?_)))
                                          (case aB => exact (by repeat (first | (with_reducible first | exact HB.out | apply below_alloc | apply pw_below_drewN | apply below_drew1 | refine below_set ?_ GE208.out) | exact HB.out)))
                                          (case aF => exact (fun k_ hk => ⟨Kd.fresh' (Kd.R_lt (by (with_reducible repeat (first | apply Kd.R_alloc | apply Kd.R_drewN | apply Kd.R_drew)); exact HO_7.out)) k_ hk, Kd.fresh' (Kd.R_lt (by (with_reducible repeat (first | apply Kd.R_alloc | apply Kd.R_drewN | apply Kd.R_drew)); exact HO228.out)) k_ hk⟩))
                                          (case aO => exact (by (with_reducible repeat (first | apply Kd.R_alloc | apply Kd.R_drewN | apply Kd.R_drew)); exact Kd.R_mono HO232.out (fun _ hk => ⟨hk.1.2, hk.2⟩)))
                                          (case aS => exact (below_size (by repeat (first | (with_reducible first | exact HB.out | apply below_alloc | apply pw_below_drewN | apply below_drew1 | refine below_set ?_ GE208.out) | exact HB.out))))
                                          (case aL => have := LMc43.out; omega)
                                          intro v238 w75 ho hb hg hat
                                          rw [← Ny237.out] at ho
                                          have n0_ := Aside0.mk (Kd.R_after (ok := (fun k_ => some k_ ≠ (v227 : Value).ownBlock)) (by (with_reducible repeat (first | apply Kd.R_alloc | apply Kd.R_drewN | apply Kd.R_drew)); exact Kd.R_mono HO_7.out (fun _ hk => ⟨hk.1.2, hk.2⟩)) hg hat)
                                          have n1_ := Aside0.mk (blk_grown (g := gb208) (o := .cells #[.int .u8 a1_0, .int .u16 a1_1, .int .u16 a1_2, .int .u16 a1_3, .int .u16 a1_4] 24 (0, 0)) (by (with_reducible repeat (first | refine blk_drewN ?_ _ | refine blk_drew ?_ | refine blk_alloc ?_ _)); exact BK208.out) hg (Kd.R_ne HO232.out BK208.out (by decide)))
                                          have n2_ := Aside0.mk (Kd.R_after (ok := (fun k_ => some k_ ≠ (.slice Ao17 x7_2.length co17 : Value).ownBlock)) (by (with_reducible repeat (first | apply Kd.R_alloc | apply Kd.R_drewN | apply Kd.R_drew)); exact Kd.R_mono HO228.out (fun _ hk => ⟨hk.1.2, hk.2⟩)) hg hat)
                                          have n3_ := Aside0.mk (hb)
                                          have n4_ := Aside0.mk ((show Kd.C (Kd.int .u8) w75 Ao17 y233.length y233 from by rw [Ny233.out]; exact Kd.C_take (m := ((ji40) : Int).toNat) ((Kd.R_reads' (Kd.R_after (ok := (fun k_ => some k_ ≠ (v227 : Value).ownBlock)) (by (with_reducible repeat (first | apply Kd.R_alloc | apply Kd.R_drewN | apply Kd.R_drew)); exact Kd.R_mono HO_7.out (fun _ hk => ⟨hk.1.2, hk.2⟩)) hg hat)).2.2) KL71.out))
                                          have n5_ := Aside0.mk ((show Kd.C (Kd.int .u8) w75 A72 y243.length y243 from by rw [Ny243.out, KA72.out]; exact Kd.C_drop (m := ((ji40) : Int).toNat) (c := co17) ((Kd.R_reads' (Kd.R_after (ok := (fun k_ => some k_ ≠ (v227 : Value).ownBlock)) (by (with_reducible repeat (first | apply Kd.R_alloc | apply Kd.R_drewN | apply Kd.R_drew)); exact Kd.R_mono HO_7.out (fun _ hk => ⟨hk.1.2, hk.2⟩)) hg hat)).2.2) KL72.out ((Kd.R_reads' (Kd.R_after (ok := (fun k_ => some k_ ≠ (v227 : Value).ownBlock)) (by (with_reducible repeat (first | apply Kd.R_alloc | apply Kd.R_drewN | apply Kd.R_drew)); exact Kd.R_mono HO_7.out (fun _ hk => ⟨hk.1.2, hk.2⟩)) hg hat)).2.1)))
                                          have n6_ := Aside0.mk (ho)
                                          clear HO_7
                                          clear BK208
                                          clear HO228
                                          clear HB
                                          clear HR236
                                          clear HR246
                                          clear HO232
                                          have HO_7 := n0_
                                          have BK208 := n1_
                                          have HO228 := n2_
                                          have HB := n3_
                                          have HR236 := n4_
                                          have HR246 := n5_
                                          have HO239 := n6_
                                          clear n0_ n1_ n2_ n3_ n4_ n5_ n6_
                                          clear ho hb hg hat
                                          obtain ⟨Ao77, co77, eo77⟩ := Kd.R_slice HO228.out
                                          (first | subst eo77 | (injection eo77 with f1_ f2_ f3_; have f4_ := f1_.symm; have f5_ := f3_.symm; clear f1_ f2_ f3_; subst f4_; subst f5_))
                                          refine hK.out _ _ trivial (fun hHeld => ?_)
                                          clear hK K
                                          refine norm_ (a' := ?_) ?_ ?_
                                          rotate_left
                                          · show Act.put _ (some 85) _ = _
                                            simp only [Act.put, List.setIfInBounds_toArray, List.set_cons_zero, List.set_cons_succ, i64_w, i32_w]
                                            rfl
                                          refine one_ (i := 6) (N := some 87) #[true, true, true, true, true, true, true, true, true, true, false, false, false, false, false, false, false, false, false] rfl rfl (one_of HT_.out (by kernel_rfl)) (by decide) (fun K hK => ?_)
                                          refine Kd.R_append_rows_step (Kd.int .u8) (w0 := w) w.heap.size (by rfl) (.tmp 85) (.tmp 86) 26 5 (.int .u8 0) 1 rfl Try.underlying26 info5 rfl (by decide) (by omega) v238 y237 t226 _ _ _ (fun k_ => some k_ ≠ (.slice Ao17 x7_2.length co17 : Value).ownBlock ∧ some k_ ≠ (.slice Ao77 t226.length co77 : Value).ownBlock) (fun _ => False) rfl rfl ?aO ?aR (fun _ _ h => h) (fun _ h => h.elim) ?aF ?aB ?aS ?aL ?_
                                          (case aR => repeat (first | exact (Kd.R_reads' HO228.out).2.2 | (with_reducible refine Kd.C_alloc ?_ _) | (with_reducible refine Kd.C_drewN ?_ _) | (with_reducible refine Kd.C_drew ?_)))
                                          (case aB => exact (by repeat (first | (with_reducible first | exact HB.out | apply below_alloc | apply pw_below_drewN | apply below_drew1 | refine below_set ?_ GE208.out) | exact HB.out)))
                                          (case aF => exact (fun k_ hk => ⟨Kd.fresh' (Kd.R_lt (by (with_reducible repeat (first | apply Kd.R_alloc | apply Kd.R_drewN | apply Kd.R_drew)); exact HO_7.out)) k_ hk, Kd.fresh' (Kd.R_lt (by (with_reducible repeat (first | apply Kd.R_alloc | apply Kd.R_drewN | apply Kd.R_drew)); exact HO228.out)) k_ hk⟩))
                                          (case aO => exact (by (with_reducible repeat (first | apply Kd.R_alloc | apply Kd.R_drewN | apply Kd.R_drew)); exact HO239.out))
                                          (case aS => exact (below_size (by repeat (first | (with_reducible first | exact HB.out | apply below_alloc | apply pw_below_drewN | apply below_drew1 | refine below_set ?_ GE208.out) | exact HB.out))))
                                          (case aL => have := LMc44.out; omega)
                                          intro v241 w76 ho hb hg hat
                                          rw [← Ny240.out] at ho
                                          have n0_ := Aside0.mk (Kd.R_after (ok := (fun k_ => some k_ ≠ (.slice Ao77 t226.length co77 : Value).ownBlock)) (by (with_reducible repeat (first | apply Kd.R_alloc | apply Kd.R_drewN | apply Kd.R_drew)); exact HO_7.out) hg hat)
                                          have n1_ := Aside0.mk (blk_grown (g := gb208) (o := .cells #[.int .u8 a1_0, .int .u16 a1_1, .int .u16 a1_2, .int .u16 a1_3, .int .u16 a1_4] 24 (0, 0)) (by (with_reducible repeat (first | refine blk_drewN ?_ _ | refine blk_drew ?_ | refine blk_alloc ?_ _)); exact BK208.out) hg (Kd.R_ne HO239.out BK208.out (by decide)))
                                          have n2_ := Aside0.mk (Kd.R_after (ok := (fun k_ => some k_ ≠ (.slice Ao17 x7_2.length co17 : Value).ownBlock)) (by (with_reducible repeat (first | apply Kd.R_alloc | apply Kd.R_drewN | apply Kd.R_drew)); exact HO228.out) hg hat)
                                          have n3_ := Aside0.mk (hb)
                                          have n4_ := Aside0.mk ((show Kd.C (Kd.int .u8) w76 Ao17 y233.length y233 from by rw [Ny233.out]; exact Kd.C_take (m := ((ji40) : Int).toNat) ((Kd.R_reads' (Kd.R_after (ok := (fun k_ => some k_ ≠ (.slice Ao77 t226.length co77 : Value).ownBlock)) (by (with_reducible repeat (first | apply Kd.R_alloc | apply Kd.R_drewN | apply Kd.R_drew)); exact HO_7.out) hg hat)).2.2) KL71.out))
                                          have n5_ := Aside0.mk ((show Kd.C (Kd.int .u8) w76 A72 y243.length y243 from by rw [Ny243.out, KA72.out]; exact Kd.C_drop (m := ((ji40) : Int).toNat) (c := co17) ((Kd.R_reads' (Kd.R_after (ok := (fun k_ => some k_ ≠ (.slice Ao77 t226.length co77 : Value).ownBlock)) (by (with_reducible repeat (first | apply Kd.R_alloc | apply Kd.R_drewN | apply Kd.R_drew)); exact HO_7.out) hg hat)).2.2) KL72.out ((Kd.R_reads' (Kd.R_after (ok := (fun k_ => some k_ ≠ (.slice Ao77 t226.length co77 : Value).ownBlock)) (by (with_reducible repeat (first | apply Kd.R_alloc | apply Kd.R_drewN | apply Kd.R_drew)); exact HO_7.out) hg hat)).2.1)))
                                          have n6_ := Aside0.mk (ho)
                                          clear HO_7
                                          clear BK208
                                          clear HO228
                                          clear HB
                                          clear HR236
                                          clear HR246
                                          clear HO239
                                          have HO_7 := n0_
                                          have BK208 := n1_
                                          have HO228 := n2_
                                          have HB := n3_
                                          have HR236 := n4_
                                          have HR246 := n5_
                                          have HO242 := n6_
                                          clear n0_ n1_ n2_ n3_ n4_ n5_ n6_
                                          clear ho hb hg hat
                                          refine hK.out _ _ trivial (fun hHeld => ?_)
                                          clear hK K
                                          refine norm_ (a' := ?_) ?_ ?_
                                          rotate_left
                                          · show Act.put _ (some 87) _ = _
                                            simp only [Act.put, List.setIfInBounds_toArray, List.set_cons_zero, List.set_cons_succ, i64_w, i32_w]
                                            rfl
                                          refine one_ (i := 10) (N := some 91) #[true, true, true, true, true, true, true, true, true, true, true, false, false, false, false, false, false, false, false] rfl rfl (one_of HT_.out (by kernel_rfl)) (by decide) (fun K hK => ?_)
                                          refine Kd.R_append_rows_step (Kd.int .u8) (w0 := w) w.heap.size (by rfl) (.tmp 87) (.tmp 90) 26 5 (.int .u8 0) 1 rfl Try.underlying26 info5 rfl (by decide) (by omega) v241 y240 y243 _ _ _ (fun k_ => some k_ ≠ (.slice Ao17 x7_2.length co17 : Value).ownBlock ∧ some k_ ≠ (.slice Ao77 t226.length co77 : Value).ownBlock) (fun _ => False) rfl rfl ?aO ?aR (fun _ _ h => h) (fun _ h => h.elim) ?aF ?aB ?aS ?aL ?_
                                          (case aR => repeat (first | exact (by repeat (first | (with_reducible exact HR246.out) | (with_reducible refine Kd.C_alloc ?_ _) | (with_reducible refine Kd.C_drewN ?_ _) | (with_reducible refine Kd.C_drew ?_) | exact HR246.out)) | (with_reducible refine Kd.C_alloc ?_ _) | (with_reducible refine Kd.C_drewN ?_ _) | (with_reducible refine Kd.C_drew ?_)))
                                          (case aB => exact (by repeat (first | (with_reducible first | exact HB.out | apply below_alloc | apply pw_below_drewN | apply below_drew1 | refine below_set ?_ GE208.out) | exact HB.out)))
                                          (case aF => exact (fun k_ hk => ⟨Kd.fresh' (Kd.R_lt (by (with_reducible repeat (first | apply Kd.R_alloc | apply Kd.R_drewN | apply Kd.R_drew)); exact HO_7.out)) k_ hk, Kd.fresh' (Kd.R_lt (by (with_reducible repeat (first | apply Kd.R_alloc | apply Kd.R_drewN | apply Kd.R_drew)); exact HO228.out)) k_ hk⟩))
                                          (case aO => exact (by (with_reducible repeat (first | apply Kd.R_alloc | apply Kd.R_drewN | apply Kd.R_drew)); exact HO242.out))
                                          (case aS => exact (below_size (by repeat (first | (with_reducible first | exact HB.out | apply below_alloc | apply pw_below_drewN | apply below_drew1 | refine below_set ?_ GE208.out) | exact HB.out))))
                                          (case aL => have := LMc47.out; omega)
                                          intro v248 w78 ho hb hg hat
                                          rw [← Ny247.out] at ho
                                          have n0_ := Aside0.mk (Kd.R_after (ok := (fun k_ => some k_ ≠ (.slice Ao77 t226.length co77 : Value).ownBlock)) (by (with_reducible repeat (first | apply Kd.R_alloc | apply Kd.R_drewN | apply Kd.R_drew)); exact HO_7.out) hg hat)
                                          have n1_ := Aside0.mk (blk_grown (g := gb208) (o := .cells #[.int .u8 a1_0, .int .u16 a1_1, .int .u16 a1_2, .int .u16 a1_3, .int .u16 a1_4] 24 (0, 0)) (by (with_reducible repeat (first | refine blk_drewN ?_ _ | refine blk_drew ?_ | refine blk_alloc ?_ _)); exact BK208.out) hg (Kd.R_ne HO242.out BK208.out (by decide)))
                                          have n2_ := Aside0.mk (Kd.R_after (ok := (fun k_ => some k_ ≠ (.slice Ao17 x7_2.length co17 : Value).ownBlock)) (by (with_reducible repeat (first | apply Kd.R_alloc | apply Kd.R_drewN | apply Kd.R_drew)); exact HO228.out) hg hat)
                                          have n3_ := Aside0.mk (hb)
                                          have n4_ := Aside0.mk ((show Kd.C (Kd.int .u8) w78 Ao17 y233.length y233 from by rw [Ny233.out]; exact Kd.C_take (m := ((ji40) : Int).toNat) ((Kd.R_reads' (Kd.R_after (ok := (fun k_ => some k_ ≠ (.slice Ao77 t226.length co77 : Value).ownBlock)) (by (with_reducible repeat (first | apply Kd.R_alloc | apply Kd.R_drewN | apply Kd.R_drew)); exact HO_7.out) hg hat)).2.2) KL71.out))
                                          have n5_ := Aside0.mk ((show Kd.C (Kd.int .u8) w78 A72 y243.length y243 from by rw [Ny243.out, KA72.out]; exact Kd.C_drop (m := ((ji40) : Int).toNat) (c := co17) ((Kd.R_reads' (Kd.R_after (ok := (fun k_ => some k_ ≠ (.slice Ao77 t226.length co77 : Value).ownBlock)) (by (with_reducible repeat (first | apply Kd.R_alloc | apply Kd.R_drewN | apply Kd.R_drew)); exact HO_7.out) hg hat)).2.2) KL72.out ((Kd.R_reads' (Kd.R_after (ok := (fun k_ => some k_ ≠ (.slice Ao77 t226.length co77 : Value).ownBlock)) (by (with_reducible repeat (first | apply Kd.R_alloc | apply Kd.R_drewN | apply Kd.R_drew)); exact HO_7.out) hg hat)).2.1)))
                                          have n6_ := Aside0.mk (ho)
                                          clear HO_7
                                          clear BK208
                                          clear HO228
                                          clear HB
                                          clear HR236
                                          clear HR246
                                          clear HO242
                                          have HO_7 := n0_
                                          have BK208 := n1_
                                          have HO228 := n2_
                                          have HB := n3_
                                          have HR236 := n4_
                                          have HR246 := n5_
                                          have HO249 := n6_
                                          clear n0_ n1_ n2_ n3_ n4_ n5_ n6_
                                          clear ho hb hg hat
                                          obtain ⟨Ao79, co79, eo79⟩ := Kd.R_slice HO249.out
                                          (first | subst eo79 | (injection eo79 with f1_ f2_ f3_; have f4_ := f1_.symm; have f5_ := f3_.symm; clear f1_ f2_ f3_; subst f4_; subst f5_))
                                          refine hK.out _ _ trivial (fun hHeld => ?_)
                                          clear hK K
                                          refine norm_ (a' := ?_) ?_ ?_
                                          rotate_left
                                          · show Act.put _ (some 91) _ = _
                                            simp only [Act.put, List.setIfInBounds_toArray, List.set_cons_zero, List.set_cons_succ, i64_w, i32_w]
                                            rfl
                                          refine one_ (i := 11) (N := some 92) #[true, true, true, true, true, true, true, true, true, true, true, true, false, false, false, false, false, false, false] rfl rfl (one_of HT_.out (by kernel_rfl)) (by decide) (fun K hK => ?_)
                                          refine goes_ Try.func19 (by kernel_rfl) rfl #[.slice Ao79 y247.length co79] (by rfl) rfl rfl (by (try simp only [List.map_toArray, List.map_cons, List.map_nil]); first | done | rfl | (simp only [List.length_drop, List.length_take]; rfl)) ?_
                                          with_reducible refine (tele_Split.calls kj25 (fun k_ => some k_ = (.slice Ao79 y247.length co79 : Value).ownBlock) _ _ y247 t250 t253 t256 _ ?side1 A48.out).mono ?_
                                          (case side1 => exact Kd.R_V (Kd.R_tight rfl (Kd.R_types (HO249.out) BK208.out (by decide))))
                                          rintro e w80 ⟨v251, v254, rfl, ho0, ho1, hb⟩
                                          refine ⟨_, rfl, ?_⟩
                                          have n0_ := Aside0.mk (Kd.R_elder' (by (with_reducible repeat (first | apply Kd.R_alloc | apply Kd.R_drewN | apply Kd.R_drew)); exact HO_7.out) (Kd.R_base ho1) hb)
                                          have n1_ := Aside0.mk (Kd.R_elder' (by (with_reducible repeat (first | apply Kd.R_alloc | apply Kd.R_drewN | apply Kd.R_drew)); exact HO228.out) (Kd.R_base ho1) hb)
                                          have n2_ := Aside0.mk (Kd.R_elder' (by (with_reducible repeat (first | apply Kd.R_alloc | apply Kd.R_drewN | apply Kd.R_drew)); exact HO249.out) (Kd.R_base ho1) hb)
                                          have n3_ := Aside0.mk (Kd.R_lower (Kd.R_newB (Kd.R_mono (ok' := fun k_ => True) ho0 (fun _ hk_ => trivial)) (g := gb208) (o := .cells #[.int .u8 a1_0, .int .u16 a1_1, .int .u16 a1_2, .int .u16 a1_3, .int .u16 a1_4] 24 (0, 0)) (by (with_reducible repeat (first | refine blk_drewN ?_ _ | refine blk_drew ?_ | refine blk_alloc ?_ _)); exact BK208.out)) (below_size (by repeat (first | (with_reducible first | exact HB.out | apply below_alloc | apply pw_below_drewN | apply below_drew1 | refine below_set ?_ GE208.out) | exact HB.out))))
                                          have n4_ := Aside0.mk (Kd.R_lower (Kd.R_new' (Kd.R_new' (Kd.R_new' (Kd.R_mono (ok' := fun k_ => True) ho1 (fun _ hk_ => trivial)) (Kd.R_lt (by (with_reducible repeat (first | apply Kd.R_alloc | apply Kd.R_drewN | apply Kd.R_drew)); exact HO_7.out))) (Kd.R_lt (by (with_reducible repeat (first | apply Kd.R_alloc | apply Kd.R_drewN | apply Kd.R_drew)); exact HO228.out))) (Kd.R_lt (by (with_reducible repeat (first | apply Kd.R_alloc | apply Kd.R_drewN | apply Kd.R_drew)); exact HO249.out))) (below_size (by repeat (first | (with_reducible first | exact HB.out | apply below_alloc | apply pw_below_drewN | apply below_drew1 | refine below_set ?_ GE208.out) | exact HB.out))))
                                          have n5_ := Aside0.mk (blk_below (g := gb208) (o := .cells #[.int .u8 a1_0, .int .u16 a1_1, .int .u16 a1_2, .int .u16 a1_3, .int .u16 a1_4] 24 (0, 0)) (by (with_reducible repeat (first | refine blk_drewN ?_ _ | refine blk_drew ?_ | refine blk_alloc ?_ _)); exact BK208.out) hb)
                                          have n6_ := Aside0.mk (Kd.C_below (by repeat (first | (with_reducible exact HR236.out) | (with_reducible refine Kd.C_alloc ?_ _) | (with_reducible refine Kd.C_drewN ?_ _) | (with_reducible refine Kd.C_drew ?_) | exact HR236.out)) hb)
                                          have n7_ := Aside0.mk (Kd.C_below (by repeat (first | (with_reducible exact HR246.out) | (with_reducible refine Kd.C_alloc ?_ _) | (with_reducible refine Kd.C_drewN ?_ _) | (with_reducible refine Kd.C_drew ?_) | exact HR246.out)) hb)
                                          have n8_ := Aside0.mk (below_step (by repeat (first | (with_reducible first | exact HB.out | apply below_alloc | apply pw_below_drewN | apply below_drew1 | refine below_set ?_ GE208.out) | exact HB.out)) hb)
                                          clear HO_7
                                          clear HO228
                                          clear HO249
                                          clear BK208
                                          clear HR236
                                          clear HR246
                                          clear HB
                                          have HO_7 := n0_
                                          have HO228 := n1_
                                          have HO249 := n2_
                                          have HO252 := n3_
                                          have HO255 := n4_
                                          have BK208 := n5_
                                          have HR236 := n6_
                                          have HR246 := n7_
                                          have HB := n8_
                                          clear n0_ n1_ n2_ n3_ n4_ n5_ n6_ n7_ n8_
                                          (try clear hb)
                                          (try clear hb2)
                                          (try clear hk)
                                          (try clear hi)
                                          (try clear ho0)
                                          (try clear ho1)
                                          refine hK.out _ _ trivial (fun hHeld => ?_)
                                          clear hK K
                                          refine norm_ (a' := ?_) ?_ ?_
                                          rotate_left
                                          · show Act.put _ (some 92) _ = _
                                            simp only [Act.put, List.setIfInBounds_toArray, List.set_cons_zero, List.set_cons_succ, i64_w, i32_w]
                                            rfl
                                          refine pure_ (i := 12) (N := some 80) (v := ?_) (a' := ?_) #[true, true, true, true, true, true, true, true, true, true, true, true, true, false, false, false, false, false, false] rfl rfl (any_of HT_.out (by kernel_rfl)) (fun _ _ _ h => h) (Or.inl ⟨by rfl, ?_⟩) ?_ ?_
                                          rotate_left
                                          · intro w'
                                            go_simp
                                            with_reducible rfl
                                          rotate_left
                                          · simp only [Act.put, List.setIfInBounds_toArray, List.set_cons_zero, List.set_cons_succ, i64_w, i32_w]
                                            rfl
                                          refine pure_ (i := 13) (N := some 93) (v := ?_) (a' := ?_) #[true, true, true, true, true, true, true, true, true, true, true, true, true, true, false, false, false, false, false] rfl rfl (any_of HT_.out (by kernel_rfl)) (fun _ _ _ h => h) (Or.inl ⟨by rfl, ?_⟩) ?_ ?_
                                          rotate_left
                                          · intro w'
                                            go_simp
                                            with_reducible rfl
                                          rotate_left
                                          · simp only [Act.put, List.setIfInBounds_toArray, List.set_cons_zero, List.set_cons_succ, i64_w, i32_w]
                                            rfl
                                          refine pure_ (i := 14) (N := some 94) (v := ?_) (a' := ?_) #[true, true, true, true, true, true, true, true, true, true, true, true, true, true, true, false, false, false, false] rfl rfl (any_of HT_.out (by kernel_rfl)) (fun _ _ _ h => h) (Or.inl ⟨by rfl, ?_⟩) ?_ ?_
                                          rotate_left
                                          · intro w'
                                            go_simp
                                            with_reducible rfl
                                          rotate_left
                                          · simp only [Act.put, List.setIfInBounds_toArray, List.set_cons_zero, List.set_cons_succ, i64_w, i32_w]
                                            rfl
                                          refine pure_ (i := 15) (N := some 95) (v := ?_) (a' := ?_) #[true, true, true, true, true, true, true, true, true, true, true, true, true, true, true, true, false, false, false] rfl rfl (any_of HT_.out (by kernel_rfl)) (fun _ _ _ h => h) (Or.inl ⟨by rfl, ?_⟩) ?_ ?_
                                          rotate_left
                                          · intro w'
                                            go_simp
                                            with_reducible rfl
                                          rotate_left
                                          · simp only [Act.put, List.setIfInBounds_toArray, List.set_cons_zero, List.set_cons_succ, i64_w, i32_w]
                                            rfl
                                          refine pure_ (i := 16) (N := some 9) (v := ?_) (a' := ?_) #[true, true, true, true, true, true, true, true, true, true, true, true, true, true, true, true, true, false, false] rfl rfl (any_of HT_.out (by kernel_rfl)) (fun _ _ _ h => h) (Or.inl ⟨by rfl, ?_⟩) ?_ ?_
                                          rotate_left
                                          · intro w'
                                            go_simp
                                            with_reducible rfl
                                          rotate_left
                                          · simp only [Act.put, List.setIfInBounds_toArray, List.set_cons_zero, List.set_cons_succ, i64_w, i32_w]
                                            rfl
                                          refine pure_ (i := 17) (N := some 10) (v := ?_) (a' := ?_) #[true, true, true, true, true, true, true, true, true, true, true, true, true, true, true, true, true, true, false] rfl rfl (any_of HT_.out (by kernel_rfl)) (fun _ _ _ h => h) (Or.inl ⟨by rfl, ?_⟩) ?_ ?_
                                          rotate_left
                                          · intro w'
                                            go_simp
                                            with_reducible rfl
                                          rotate_left
                                          · simp only [Act.put, List.setIfInBounds_toArray, List.set_cons_zero, List.set_cons_succ, i64_w, i32_w]
                                            rfl
                                          refine pure_ (i := 18) (N := some 11) (v := ?_) (a' := ?_) #[true, true, true, true, true, true, true, true, true, true, true, true, true, true, true, true, true, true, true] rfl rfl (any_of HT_.out (by kernel_rfl)) (fun _ _ _ h => h) (Or.inl ⟨by rfl, ?_⟩) ?_ ?_
                                          rotate_left
                                          · intro w'
                                            go_simp
                                            with_reducible rfl
                                          rotate_left
                                          · simp only [Act.put, List.setIfInBounds_toArray, List.set_cons_zero, List.set_cons_succ, i64_w, i32_w]
                                            rfl
                                          refine done_ (done_of HT_.out (by kernel_rfl)) ?_
                                          try go_wp2
                                          have n0_ := Aside0.mk (Kd.R_drew HO_7.out)
                                          have n1_ := Aside0.mk (Kd.R_drew HO228.out)
                                          have n2_ := Aside0.mk (Kd.R_drew HO249.out)
                                          have n3_ := Aside0.mk (Kd.R_drew HO252.out)
                                          have n4_ := Aside0.mk (Kd.R_drew HO255.out)
                                          have n5_ := Aside0.mk (blk_drew BK208.out)
                                          have n6_ := Aside0.mk (Kd.C_drew HR236.out)
                                          have n7_ := Aside0.mk (Kd.C_drew HR246.out)
                                          have n8_ := Aside0.mk (below_drew1 HB.out)
                                          clear HO_7
                                          clear HO228
                                          clear HO249
                                          clear HO252
                                          clear HO255
                                          clear BK208
                                          clear HR236
                                          clear HR246
                                          clear HB
                                          have HO_7 := n0_
                                          have HO228 := n1_
                                          have HO249 := n2_
                                          have HO252 := n3_
                                          have HO255 := n4_
                                          have BK208 := n5_
                                          have HR236 := n6_
                                          have HR246 := n7_
                                          have HB := n8_
                                          clear n0_ n1_ n2_ n3_ n4_ n5_ n6_ n7_ n8_
                                          obtain ⟨Ao82, co82, eo82⟩ := Kd.R_slice HO252.out
                                          (first | subst eo82 | (injection eo82 with f1_ f2_ f3_; have f4_ := f1_.symm; have f5_ := f3_.symm; clear f1_ f2_ f3_; subst f4_; subst f5_))
                                          have p257 : 0 ≤ (0 : Int) := (by omega)
                                          have q257 : 0 < (t250.length : Int) := of_decide_eq_true (by first | (with_reducible assumption) | assumption)
                                          obtain ⟨ad257, e257, hx257_0, hx257_1, hx257_2, hx257_3, hx257_4⟩ := at_T24 (Kd.R_reads' HO252.out).2.2 0 p257 q257
                                          cases e257
                                          have qi257 : (0 < t250.length) = True := eq_true (by omega)
                                          (try rw [show ((0 : Int)).toNat = 0 from rfl] at hx257_0)
                                          (try rw [show 0 * 5 = 0 from rfl] at hx257_0)
                                          (try rw [Addr.add_zero'] at hx257_0)
                                          (try rw [show ((0 : Int)).toNat = 0 from rfl] at hx257_1)
                                          (try rw [show 0 * 5 = 0 from rfl] at hx257_1)
                                          (try rw [Addr.add_zero'] at hx257_1)
                                          (try rw [show ((0 : Int)).toNat = 0 from rfl] at hx257_2)
                                          (try rw [show 0 * 5 = 0 from rfl] at hx257_2)
                                          (try rw [Addr.add_zero'] at hx257_2)
                                          (try rw [show ((0 : Int)).toNat = 0 from rfl] at hx257_3)
                                          (try rw [show 0 * 5 = 0 from rfl] at hx257_3)
                                          (try rw [Addr.add_zero'] at hx257_3)
                                          (try rw [show ((0 : Int)).toNat = 0 from rfl] at hx257_4)
                                          (try rw [show 0 * 5 = 0 from rfl] at hx257_4)
                                          (try rw [Addr.add_zero'] at hx257_4)
                                          replace p257 := eq_true p257
                                          replace q257 := eq_true q257
                                          refine start_ (n := 20) (S := fun w' => w'.cell? ⟨gb208, 0, none⟩ = some (.int .u8 a1_0) ∧ w'.cell? ⟨gb208, 1, none⟩ = some (.int .u16 a1_1) ∧ w'.cell? ⟨gb208, 2, none⟩ = some (.int .u16 a1_2) ∧ w'.cell? ⟨gb208, 3, none⟩ = some (.int .u16 a1_3) ∧ w'.cell? ⟨gb208, 4, none⟩ = some (.int .u16 a1_4) ∧ w'.cell? ad257 = some (.int .u8 ((rd_T24 t250 0).f0)) ∧ w'.cell? ⟨ad257.block, ad257.off + 1, none⟩ = some (.int .u16 ((rd_T24 t250 0).f1)) ∧ w'.cell? ⟨ad257.block, ad257.off + 2, none⟩ = some (.int .u16 ((rd_T24 t250 0).f2)) ∧ w'.cell? ⟨ad257.block, ad257.off + 3, none⟩ = some (.int .u16 ((rd_T24 t250 0).f3)) ∧ w'.cell? ⟨ad257.block, ad257.off + 4, none⟩ = some (.int .u16 ((rd_T24 t250 0).f4))) (ds := []) #[false, false, false, false, false, false, false, false, false, false, false, false, false, false, false, false, false, false, false, false] (by kernel_rfl) rfl rfl ⟨(blk_cell BK208.out 0).trans rfl, (blk_cell BK208.out 1).trans rfl, (blk_cell BK208.out 2).trans rfl, (blk_cell BK208.out 3).trans rfl, (blk_cell BK208.out 4).trans rfl, hx257_0, hx257_1, hx257_2, hx257_3, hx257_4⟩ (fun hHeld => ?_); refine with_tabW stillagelaw02_TeleNoise.tab18 stillagelaw02_TeleNoise.bits18 (fun HT_ HW_ => ?_)
                                          generalize w80.drew = w81 at HO_7 HO228 HO249 HO252 HO255 BK208 HR236 HR246 HB hx257_0 hx257_1 hx257_2 hx257_3 hx257_4 hHeld ⊢
                                          refine pure_ (i := 0) (N := some 96) (v := ?_) (a' := ?_) #[true, false, false, false, false, false, false, false, false, false, false, false, false, false, false, false, false, false, false, false] rfl rfl (any_of HT_.out (by kernel_rfl)) (fun _ _ _ h => h) (Or.inl ⟨by rfl, ?_⟩) ?_ ?_
                                          rotate_left
                                          · intro w'
                                            go_simp
                                            with_reducible rfl
                                          rotate_left
                                          · simp only [Act.put, List.setIfInBounds_toArray, List.set_cons_zero, List.set_cons_succ, i64_w, i32_w]
                                            rfl
                                          refine pure_ (i := 1) (N := some 97) (v := ?_) (a' := ?_) #[true, true, false, false, false, false, false, false, false, false, false, false, false, false, false, false, false, false, false, false] rfl rfl (any_of HT_.out (by kernel_rfl)) (fun _ _ _ h => h) (Or.inl ⟨by rfl, ?_⟩) ?_ ?_
                                          rotate_left
                                          · intro w'
                                            go_simp
                                            with_reducible rfl
                                          rotate_left
                                          · simp only [Act.put, List.setIfInBounds_toArray, List.set_cons_zero, List.set_cons_succ, i64_w, i32_w]
                                            rfl
                                          refine pure_ (i := 2) (N := some 98) (v := ?_) (a' := ?_) #[true, true, true, false, false, false, false, false, false, false, false, false, false, false, false, false, false, false, false, false] rfl rfl (any_of HT_.out (by kernel_rfl)) (fun _ _ _ h => h) (Or.inl ⟨by rfl, ?_⟩) ?_ ?_
                                          rotate_left
                                          · intro w'
                                            go_simp
                                            with_reducible rfl
                                          rotate_left
                                          · simp only [Act.put, List.setIfInBounds_toArray, List.set_cons_zero, List.set_cons_succ, i64_w, i32_w]
                                            rfl
                                          refine pure_ (i := 3) (N := some 99) (v := ?_) (a' := ?_) #[true, true, true, true, false, false, false, false, false, false, false, false, false, false, false, false, false, false, false, false] rfl rfl (any_of HT_.out (by kernel_rfl)) (fun _ _ _ h => h) (Or.inl ⟨by rfl, ?_⟩) ?_ ?_
                                          rotate_left
                                          · intro w'
                                            go_simp
                                            with_reducible rfl
                                          rotate_left
                                          · simp only [Act.put, List.setIfInBounds_toArray, List.set_cons_zero, List.set_cons_succ, i64_w, i32_w]
                                            rfl
                                          refine pure_ (i := 4) (N := some 100) (v := ?_) (a' := ?_) #[true, true, true, true, true, false, false, false, false, false, false, false, false, false, false, false, false, false, false, false] rfl rfl (any_of HT_.out (by kernel_rfl)) (fun _ _ _ h => h) (Or.inl ⟨by rfl, ?_⟩) ?_ ?_
                                          rotate_left
                                          · intro w'
                                            go_simp
                                            with_reducible rfl
                                          rotate_left
                                          · simp only [Act.put, List.setIfInBounds_toArray, List.set_cons_zero, List.set_cons_succ, i64_w, i32_w]
                                            rfl
                                          refine pure_ (i := 5) (N := some 101) (v := ?_) (a' := ?_) #[true, true, true, true, true, true, false, false, false, false, false, false, false, false, false, false, false, false, false, false] rfl rfl (any_of HT_.out (by kernel_rfl)) (fun _ _ _ h => h) (Or.inl ⟨by rfl, ?_⟩) ?_ ?_
                                          rotate_left
                                          · intro w'
                                            go_simp
                                            with_reducible rfl
                                          rotate_left
                                          · simp only [Act.put, List.setIfInBounds_toArray, List.set_cons_zero, List.set_cons_succ, i64_w, i32_w]
                                            rfl
                                          refine take_ (i := 6) (N := some 102) (v := ?_) (a' := ?_) #[true, true, true, true, true, true, true, false, false, false, false, false, false, false, false, false, false, false, false, false] rfl rfl (take_ofW HT_.out HW_.out (by kernel_rfl)) (fun _ _ _ h => h) (Or.inl ⟨by rfl, ?_⟩) hHeld ?_ ?_
                                          rotate_left
                                          · rintro w' ⟨s0, s1, s2, s3, s4, s5, s6, s7, s8, s9⟩
                                            go_simp
                                            with_reducible rfl
                                          rotate_left
                                          · simp only [Act.put, List.setIfInBounds_toArray, List.set_cons_zero, List.set_cons_succ, i64_w, i32_w]
                                            rfl
                                          refine take_ (i := 7) (N := some 103) (v := ?_) (a' := ?_) #[true, true, true, true, true, true, true, true, false, false, false, false, false, false, false, false, false, false, false, false] rfl rfl (take_ofW HT_.out HW_.out (by kernel_rfl)) (fun _ _ _ h => h) (Or.inl ⟨by rfl, ?_⟩) hHeld ?_ ?_
                                          rotate_left
                                          · rintro w' ⟨s0, s1, s2, s3, s4, s5, s6, s7, s8, s9⟩
                                            go_simp
                                            with_reducible rfl
                                          rotate_left
                                          · simp only [Act.put, List.setIfInBounds_toArray, List.set_cons_zero, List.set_cons_succ, i64_w, i32_w]
                                            rfl
                                          refine pure_ (i := 8) (N := some 104) (v := ?_) (a' := ?_) #[true, true, true, true, true, true, true, true, true, false, false, false, false, false, false, false, false, false, false, false] rfl rfl (any_of HT_.out (by kernel_rfl)) (fun _ _ _ h => h) (Or.inl ⟨by rfl, ?_⟩) ?_ ?_
                                          rotate_left
                                          · intro w'
                                            go_simp
                                            with_reducible rfl
                                          rotate_left
                                          · simp only [Act.put, List.setIfInBounds_toArray, List.set_cons_zero, List.set_cons_succ, i64_w, i32_w]
                                            rfl
                                          refine pure_ (i := 9) (N := some 105) (v := ?_) (a' := ?_) #[true, true, true, true, true, true, true, true, true, true, false, false, false, false, false, false, false, false, false, false] rfl rfl (any_of HT_.out (by kernel_rfl)) (fun _ _ _ h => h) (Or.inl ⟨by rfl, ?_⟩) ?_ ?_
                                          rotate_left
                                          · intro w'
                                            go_simp
                                            with_reducible rfl
                                          rotate_left
                                          · simp only [Act.put, List.setIfInBounds_toArray, List.set_cons_zero, List.set_cons_succ, i64_w, i32_w]
                                            rfl
                                          refine pure_ (i := 10) (N := some 106) (v := ?_) (a' := ?_) #[true, true, true, true, true, true, true, true, true, true, true, false, false, false, false, false, false, false, false, false] rfl rfl (any_of HT_.out (by kernel_rfl)) (fun _ _ _ h => h) (Or.inl ⟨by rfl, ?_⟩) ?_ ?_
                                          rotate_left
                                          · intro w'
                                            go_simp
                                            with_reducible rfl
                                          rotate_left
                                          · simp only [Act.put, List.setIfInBounds_toArray, List.set_cons_zero, List.set_cons_succ, i64_w, i32_w]
                                            rfl
                                          refine pure_ (i := 11) (N := some 107) (v := undef) (a' := ?_) #[true, true, true, true, true, true, true, true, true, true, true, true, false, false, false, false, false, false, false, false] rfl rfl (any_of HT_.out (by kernel_rfl)) (fun _ _ _ h => h) (Or.inr ⟨by rfl, rfl⟩) ?_ ?_
                                          rotate_left
                                          · simp only [Act.put, List.setIfInBounds_toArray, List.set_cons_zero, List.set_cons_succ, i64_w, i32_w]
                                            rfl
                                          refine pure_ (i := 12) (N := some 108) (v := undef) (a' := ?_) #[true, true, true, true, true, true, true, true, true, true, true, true, true, false, false, false, false, false, false, false] rfl rfl (any_of HT_.out (by kernel_rfl)) (fun _ _ _ h => h) (Or.inr ⟨by rfl, rfl⟩) ?_ ?_
                                          rotate_left
                                          · simp only [Act.put, List.setIfInBounds_toArray, List.set_cons_zero, List.set_cons_succ, i64_w, i32_w]
                                            rfl
                                          refine pure_ (i := 13) (N := some 109) (v := undef) (a' := ?_) #[true, true, true, true, true, true, true, true, true, true, true, true, true, true, false, false, false, false, false, false] rfl rfl (any_of HT_.out (by kernel_rfl)) (fun _ _ _ h => h) (Or.inr ⟨by rfl, rfl⟩) ?_ ?_
                                          rotate_left
                                          · simp only [Act.put, List.setIfInBounds_toArray, List.set_cons_zero, List.set_cons_succ, i64_w, i32_w]
                                            rfl
                                          refine pure_ (i := 14) (N := some 110) (v := undef) (a' := ?_) #[true, true, true, true, true, true, true, true, true, true, true, true, true, true, true, false, false, false, false, false] rfl rfl (any_of HT_.out (by kernel_rfl)) (fun _ _ _ h => h) (Or.inr ⟨by rfl, rfl⟩) ?_ ?_
                                          rotate_left
                                          · simp only [Act.put, List.setIfInBounds_toArray, List.set_cons_zero, List.set_cons_succ, i64_w, i32_w]
                                            rfl
                                          refine pure_ (i := 15) (N := some 111) (v := undef) (a' := ?_) #[true, true, true, true, true, true, true, true, true, true, true, true, true, true, true, true, false, false, false, false] rfl rfl (any_of HT_.out (by kernel_rfl)) (fun _ _ _ h => h) (Or.inr ⟨by rfl, rfl⟩) ?_ ?_
                                          rotate_left
                                          · simp only [Act.put, List.setIfInBounds_toArray, List.set_cons_zero, List.set_cons_succ, i64_w, i32_w]
                                            rfl
                                          refine pure_ (i := 16) (N := some 112) (v := undef) (a' := ?_) #[true, true, true, true, true, true, true, true, true, true, true, true, true, true, true, true, true, false, false, false] rfl rfl (any_of HT_.out (by kernel_rfl)) (fun _ _ _ h => h) (Or.inr ⟨by rfl, rfl⟩) ?_ ?_
                                          rotate_left
                                          · simp only [Act.put, List.setIfInBounds_toArray, List.set_cons_zero, List.set_cons_succ, i64_w, i32_w]
                                            rfl
                                          refine pure_ (i := 17) (N := some 113) (v := undef) (a' := ?_) #[true, true, true, true, true, true, true, true, true, true, true, true, true, true, true, true, true, true, false, false] rfl rfl (any_of HT_.out (by kernel_rfl)) (fun _ _ _ h => h) (Or.inr ⟨by rfl, rfl⟩) ?_ ?_
                                          rotate_left
                                          · simp only [Act.put, List.setIfInBounds_toArray, List.set_cons_zero, List.set_cons_succ, i64_w, i32_w]
                                            rfl
                                          refine pure_ (i := 18) (N := some 114) (v := ?_) (a' := ?_) #[true, true, true, true, true, true, true, true, true, true, true, true, true, true, true, true, true, true, true, false] rfl rfl (any_of HT_.out (by kernel_rfl)) (fun _ _ _ h => h) (Or.inl ⟨by rfl, ?_⟩) ?_ ?_
                                          rotate_left
                                          · intro w'
                                            go_simp
                                            with_reducible rfl
                                          rotate_left
                                          · simp only [Act.put, List.setIfInBounds_toArray, List.set_cons_zero, List.set_cons_succ, i64_w, i32_w]
                                            rfl
                                          refine pure_ (i := 19) (N := some 6) (v := ?_) (a' := ?_) #[true, true, true, true, true, true, true, true, true, true, true, true, true, true, true, true, true, true, true, true] rfl rfl (any_of HT_.out (by kernel_rfl)) (fun _ _ _ h => h) (Or.inl ⟨by rfl, ?_⟩) ?_ ?_
                                          rotate_left
                                          · intro w'
                                            go_simp
                                            with_reducible rfl
                                          rotate_left
                                          · simp only [Act.put, List.setIfInBounds_toArray, List.set_cons_zero, List.set_cons_succ, i64_w, i32_w]
                                            rfl
                                          refine done_ (done_of HT_.out (by kernel_rfl)) ?_
                                          try go_wp2
                                          go_ret
                                          exact ⟨by first | rfl | (simp [errW_none, errW_some] <;> rfl) | (simp only [← hji40]; first | rfl | (simp [errW_none, errW_some] <;> rfl)) | (simp [*, errW_none, errW_some] <;> rfl), by repeat (first | (with_reducible first | exact HB.out | apply below_alloc | apply pw_below_drewN | apply below_drew1 | refine below_set ?_ GE208.out) | exact HB.out)⟩
                                      · rw [if_neg c50] at H
                                        exact absurd H (by simp)
                                    · rw [if_neg c49] at H
                                      have c49b0 : ((t250.length : Int) == 1) = false := beq_eq_false_iff_ne.mpr c49
                                      have c49b1 : ((t250.length : Int) != 1) = true := bne_iff_ne.mpr c49
                                      (try (have c49z0 := c49b0; simp only [hl7_2] at c49z0))
                                      (try (have c49z1 := c49b1; simp only [hl7_2] at c49z1))
                                      obtain rfl := Option.some.inj H
                                      have hcz83_0 : wc.cell? ⟨gb208, 0, none⟩ = some (.int .u8 a1_0) := (blk_cell BK208.out 0).trans rfl
                                      have hcz83_1 : wc.cell? ⟨gb208, 1, none⟩ = some (.int .u16 a1_1) := (blk_cell BK208.out 1).trans rfl
                                      have hcz83_2 : wc.cell? ⟨gb208, 2, none⟩ = some (.int .u16 a1_2) := (blk_cell BK208.out 2).trans rfl
                                      have hcz83_3 : wc.cell? ⟨gb208, 3, none⟩ = some (.int .u16 a1_3) := (blk_cell BK208.out 3).trans rfl
                                      have hcz83_4 : wc.cell? ⟨gb208, 4, none⟩ = some (.int .u16 a1_4) := (blk_cell BK208.out 4).trans rfl
                                      have hfz83_0 := blk_frozen BK208.out 0
                                      have hfz83_1 := blk_frozen BK208.out 1
                                      have hfz83_2 := blk_frozen BK208.out 2
                                      have hfz83_3 := blk_frozen BK208.out 3
                                      have hfz83_4 := blk_frozen BK208.out 4
                                      try go_wp2_with (first | ((with_reducible refine gate_callee (f := 12) rfl ?_); refine goesL_ (some 67) rfl rfl Try.func12 (by kernel_rfl) rfl #[.agg #[.int .u8 a1_0, .int .u16 a1_1, .int .u16 a1_2, .int .u16 a1_3, .int .u16 a1_4]] rfl (by (try simp only [List.map_toArray, List.map_cons, List.map_nil]); first | done | rfl | (simp only [List.length_drop, List.length_take]; rfl)) ?_; (with_reducible refine (tele_Encode.calls kj25 a1_0 a1_1 a1_2 a1_3 a1_4 t226 t229 _ A37.out).mono ?_); rintro e w84 ⟨v227, rfl, ho0, hb⟩; refine ⟨_, rfl, ?_⟩; have n0_ := Aside0.mk (Kd.R_elder' (by (with_reducible repeat (first | apply Kd.R_alloc | apply Kd.R_drewN | apply Kd.R_drew)); exact HO_7.out) (Kd.R_base ho0) hb); have n1_ := Aside0.mk (Kd.R_lower (Kd.R_new' ho0 (Kd.R_lt (by (with_reducible repeat (first | apply Kd.R_alloc | apply Kd.R_drewN | apply Kd.R_drew)); exact HO_7.out))) (below_size (by repeat (first | (with_reducible first | exact HB.out | apply below_alloc | apply pw_below_drewN | apply below_drew1 | refine below_set ?_ GE208.out) | exact HB.out)))); have n2_ := Aside0.mk (blk_below (g := gb208) (o := .cells #[.int .u8 a1_0, .int .u16 a1_1, .int .u16 a1_2, .int .u16 a1_3, .int .u16 a1_4] 24 (0, 0)) (by (with_reducible repeat (first | refine blk_drewN ?_ _ | refine blk_drew ?_ | refine blk_alloc ?_ _)); exact BK208.out) hb); have n3_ := Aside0.mk (below_step (by repeat (first | (with_reducible first | exact HB.out | apply below_alloc | apply pw_below_drewN | apply below_drew1 | refine below_set ?_ GE208.out) | exact HB.out)) hb); clear HO_7; clear BK208; clear HB; have HO_7 := n0_; have HO228 := n1_; have BK208 := n2_; have HB := n3_; clear n0_ n1_ n2_ n3_; (try clear hb); (try clear hb2); (try clear hk); (try clear hi); (try clear ho0)))
                                      have n0_ := Aside0.mk (Kd.R_drew HO_7.out)
                                      have n1_ := Aside0.mk (Kd.R_drew HO228.out)
                                      have n2_ := Aside0.mk (blk_drew BK208.out)
                                      have n3_ := Aside0.mk (below_drew1 HB.out)
                                      clear HO_7
                                      clear HO228
                                      clear BK208
                                      clear HB
                                      have HO_7 := n0_
                                      have HO228 := n1_
                                      have BK208 := n2_
                                      have HB := n3_
                                      clear n0_ n1_ n2_ n3_
                                      have q86 : ((ji40) : Int) ≤ ((x7_2.length : Int) : Int) := of_decide_eq_true (by first | (with_reducible assumption) | assumption)
                                      obtain ⟨i086, hi086, _, hsz86, _⟩ := info_parts info5
                                      have hroom86 : x7_2.length ≤ co17 := (Kd.R_reads' HO_7.out).2.1
                                      have hC86 : Kd.C (Kd.int .u8) _ Ao17 x7_2.length x7_2 := (Kd.R_reads' HO_7.out).2.2
                                      have hcut86 := cut_to (P := Try.prog) 26 5 .i64 Try.underlying26 hi086 Ao17 x7_2.length co17 (ji40) (of_decide_eq_true (by first | (with_reducible assumption) | assumption)) q86 hroom86
                                      have hr86 := Kd.C_take (m := ((ji40) : Int).toNat) hC86 (by omega)
                                      have hy86 : y233.length = ((ji40) : Int).toNat := (by rw [Ny233.out, List.length_take]; omega)
                                      rw [← Ny233.out] at hr86
                                      rw [← hy86] at hcut86
                                      have HR236 := Aside0.mk hr86
                                      have HC236 := Aside0.mk (show y233.length ≤ co17 from by omega)
                                      clear hr86 hC86 hroom86 hi086 hsz86
                                      have KY86 := Aside0.mk hy86
                                      clear hy86
                                      have KL86 := Aside0.mk (show ((ji40) : Int).toNat ≤ x7_2.length from by omega)
                                      replace q86 := eq_true q86
                                      have q87 : ((ji40) : Int) ≤ ((x7_2.length : Int) : Int) := of_decide_eq_true (by first | (with_reducible assumption) | assumption)
                                      obtain ⟨i087, hi087, _, hsz87, _⟩ := info_parts info5
                                      have hroom87 : x7_2.length ≤ co17 := (Kd.R_reads' HO_7.out).2.1
                                      have hC87 : Kd.C (Kd.int .u8) _ Ao17 x7_2.length x7_2 := (Kd.R_reads' HO_7.out).2.2
                                      have q087 : (0 : Int) ≤ ((ji40) : Int) := of_decide_eq_true (by first | (with_reducible assumption) | assumption)
                                      have hcut87 := cut_from (P := Try.prog) 26 5 .i64 Try.underlying26 hi087 1 hsz87 Ao17 x7_2.length co17 (ji40) q087 q87
                                      have hr87 := Kd.C_drop (m := ((ji40) : Int).toNat) (c := co17) hC87 (by omega) hroom87
                                      obtain ⟨A87, hA87⟩ : ∃ A1, A1 = (if co17 = ((ji40) : Int).toNat then Ao17 else (Ao17 : Option Addr).map (·.add (((ji40) : Int).toNat * 1))) := ⟨_, rfl⟩
                                      obtain ⟨c87, hc87⟩ : ∃ c1, c1 = co17 - ((ji40) : Int).toNat := ⟨_, rfl⟩
                                      have hy87 : y243.length = x7_2.length - ((ji40) : Int).toNat := (by rw [Ny243.out, List.length_drop] <;> omega)
                                      rw [show (x7_2).drop ((ji40) : Int).toNat = y243 from Ny243.out.symm] at hr87
                                      replace hr87 : Kd.C (Kd.int .u8) _ A87 y243.length y243 := (by rw [hA87]; exact hr87)
                                      rw [← hy87, ← hA87, ← hc87] at hcut87
                                      have HR246 := Aside0.mk hr87
                                      have HC246 := Aside0.mk (show y243.length ≤ c87 from by rw [hy87, hc87]; exact Nat.sub_le_sub_right hroom87 _)
                                      clear hr87 hC87 hroom87 hi087 hsz87 hc87
                                      have KY87 := Aside0.mk hy87
                                      have KA87 := Aside0.mk hA87
                                      clear hy87 hA87
                                      have KL87 := Aside0.mk (show ((ji40) : Int).toNat ≤ x7_2.length from by omega)
                                      replace q87 := eq_true q87
                                      refine start_ (n := 19) (S := fun w' => True) (ds := []) #[false, false, false, false, false, false, false, false, false, false, false, false, false, false, false, false, false, false, false] (by kernel_rfl) rfl rfl trivial (fun hHeld => ?_); refine with_tabW stillagelaw02_TeleNoise.tab17 stillagelaw02_TeleNoise.bits17 (fun HT_ HW_ => ?_)
                                      generalize w84.drew = w85 at HO_7 HO228 BK208 HB HR236 HR246 hHeld ⊢
                                      refine pure_ (i := 1) (N := some 82) (v := ?_) (a' := ?_) #[false, true, false, false, false, false, false, false, false, false, false, false, false, false, false, false, false, false, false] rfl rfl (any_of HT_.out (by kernel_rfl)) (fun _ _ _ h => h) (Or.inl ⟨by rfl, ?_⟩) ?_ ?_
                                      rotate_left
                                      · intro w'
                                        go_simp
                                        with_reducible rfl
                                      rotate_left
                                      · simp only [Act.put, List.setIfInBounds_toArray, List.set_cons_zero, List.set_cons_succ, i64_w, i32_w]
                                        rfl
                                      refine pure_ (i := 2) (N := some 83) (v := ?_) (a' := ?_) #[false, true, true, false, false, false, false, false, false, false, false, false, false, false, false, false, false, false, false] rfl rfl (any_of HT_.out (by kernel_rfl)) (fun _ _ _ h => h) (Or.inl ⟨by rfl, ?_⟩) ?_ ?_
                                      rotate_left
                                      · intro w'
                                        go_simp
                                        with_reducible rfl
                                      rotate_left
                                      · simp only [Act.put, List.setIfInBounds_toArray, List.set_cons_zero, List.set_cons_succ, i64_w, i32_w]
                                        rfl
                                      refine pure_ (i := 3) (N := some 84) (v := ?_) (a' := ?_) #[false, true, true, true, false, false, false, false, false, false, false, false, false, false, false, false, false, false, false] rfl rfl (any_of HT_.out (by kernel_rfl)) (fun _ _ _ h => h) (Or.inl ⟨by rfl, ?_⟩) ?_ ?_
                                      rotate_left
                                      · intro w'
                                        go_simp
                                        with_reducible rfl
                                      rotate_left
                                      · simp only [Act.put, List.setIfInBounds_toArray, List.set_cons_zero, List.set_cons_succ, i64_w, i32_w]
                                        rfl
                                      refine pure_ (i := 5) (N := some 86) (v := ?_) (a' := ?_) #[false, true, true, true, false, true, false, false, false, false, false, false, false, false, false, false, false, false, false] rfl rfl (any_of HT_.out (by kernel_rfl)) (fun _ _ _ h => h) (Or.inl ⟨by rfl, ?_⟩) ?_ ?_
                                      rotate_left
                                      · intro w'
                                        go_simp
                                        with_reducible rfl
                                      rotate_left
                                      · simp only [Act.put, List.setIfInBounds_toArray, List.set_cons_zero, List.set_cons_succ, i64_w, i32_w]
                                        rfl
                                      refine pure_ (i := 7) (N := some 88) (v := ?_) (a' := ?_) #[false, true, true, true, false, true, false, true, false, false, false, false, false, false, false, false, false, false, false] rfl rfl (any_of HT_.out (by kernel_rfl)) (fun _ _ _ h => h) (Or.inl ⟨by rfl, ?_⟩) ?_ ?_
                                      rotate_left
                                      · intro w'
                                        go_simp
                                        with_reducible rfl
                                      rotate_left
                                      · simp only [Act.put, List.setIfInBounds_toArray, List.set_cons_zero, List.set_cons_succ, i64_w, i32_w]
                                        rfl
                                      refine pure_ (i := 8) (N := some 89) (v := ?_) (a' := ?_) #[false, true, true, true, false, true, false, true, true, false, false, false, false, false, false, false, false, false, false] rfl rfl (any_of HT_.out (by kernel_rfl)) (fun _ _ _ h => h) (Or.inl ⟨by rfl, ?_⟩) ?_ ?_
                                      rotate_left
                                      · intro w'
                                        go_simp
                                        with_reducible rfl
                                      rotate_left
                                      · simp only [Act.put, List.setIfInBounds_toArray, List.set_cons_zero, List.set_cons_succ, i64_w, i32_w]
                                        rfl
                                      refine pure_ (i := 9) (N := some 90) (v := ?_) (a' := ?_) #[false, true, true, true, false, true, false, true, true, true, false, false, false, false, false, false, false, false, false] rfl rfl (any_of HT_.out (by kernel_rfl)) (fun _ _ _ h => h) (Or.inl ⟨by rfl, ?_⟩) ?_ ?_
                                      rotate_left
                                      · intro w'
                                        go_simp
                                        with_reducible rfl
                                      rotate_left
                                      · simp only [Act.put, List.setIfInBounds_toArray, List.set_cons_zero, List.set_cons_succ, i64_w, i32_w]
                                        rfl
                                      refine one_ (i := 0) (N := some 81) #[true, true, true, true, false, true, false, true, true, true, false, false, false, false, false, false, false, false, false] rfl rfl (one_of HT_.out (by kernel_rfl)) (by decide) (fun K hK => ?_)
                                      refine Kd.R_lit_step (Kd.int .u8) _ 5 ?hg (N := 81) ?hd (xs := ([] : List Int)) (inner := []) (ok := fun _ => True) (okp := fun _ => True) ?hr ?hp (fun _ hk => hk) trivial (Below.refl _ _) (Nat.le_refl _) (by simp) ?_; (case hd => rfl); (case hg => rfl); (case hr => first | (go_simp; done) | (go_simp; rfl)); (case hp => exact (Reps.none _ _))
                                      intro v231 w88 ho89 hb hg_ hnew_
                                      clear hg_ hnew_
                                      (first | rw [← Ny230.out] at ho89 | (simp only [Int.reduceToNat] at ho89; rw [← Ny230.out] at ho89))
                                      have n0_ := Aside0.mk (Kd.R_elder' (by (with_reducible repeat (first | apply Kd.R_alloc | apply Kd.R_drewN | apply Kd.R_drew)); exact HO_7.out) (Kd.R_base ho89) hb)
                                      have n1_ := Aside0.mk (Kd.R_elder' (by (with_reducible repeat (first | apply Kd.R_alloc | apply Kd.R_drewN | apply Kd.R_drew)); exact HO228.out) (Kd.R_base ho89) hb)
                                      have n2_ := Aside0.mk (Kd.R_lower (Kd.R_new' (Kd.R_new' ho89 (Kd.R_lt (by (with_reducible repeat (first | apply Kd.R_alloc | apply Kd.R_drewN | apply Kd.R_drew)); exact HO_7.out))) (Kd.R_lt (by (with_reducible repeat (first | apply Kd.R_alloc | apply Kd.R_drewN | apply Kd.R_drew)); exact HO228.out))) (below_size (by repeat (first | (with_reducible first | exact HB.out | apply below_alloc | apply pw_below_drewN | apply below_drew1 | refine below_set ?_ GE208.out) | exact HB.out))))
                                      have n3_ := Aside0.mk (blk_below (g := gb208) (o := .cells #[.int .u8 a1_0, .int .u16 a1_1, .int .u16 a1_2, .int .u16 a1_3, .int .u16 a1_4] 24 (0, 0)) (by (with_reducible repeat (first | refine blk_drewN ?_ _ | refine blk_drew ?_ | refine blk_alloc ?_ _)); exact BK208.out) hb)
                                      have n4_ := Aside0.mk (Kd.C_below (by repeat (first | (with_reducible exact HR236.out) | (with_reducible refine Kd.C_alloc ?_ _) | (with_reducible refine Kd.C_drewN ?_ _) | (with_reducible refine Kd.C_drew ?_) | exact HR236.out)) hb)
                                      have n5_ := Aside0.mk (Kd.C_below (by repeat (first | (with_reducible exact HR246.out) | (with_reducible refine Kd.C_alloc ?_ _) | (with_reducible refine Kd.C_drewN ?_ _) | (with_reducible refine Kd.C_drew ?_) | exact HR246.out)) hb)
                                      have n6_ := Aside0.mk (below_step (by repeat (first | (with_reducible first | exact HB.out | apply below_alloc | apply pw_below_drewN | apply below_drew1 | refine below_set ?_ GE208.out) | exact HB.out)) hb)
                                      clear HO_7
                                      clear HO228
                                      clear BK208
                                      clear HR236
                                      clear HR246
                                      clear HB
                                      have HO_7 := n0_
                                      have HO228 := n1_
                                      have HO232 := n2_
                                      have BK208 := n3_
                                      have HR236 := n4_
                                      have HR246 := n5_
                                      have HB := n6_
                                      clear n0_ n1_ n2_ n3_ n4_ n5_ n6_
                                      clear hb ho89
                                      refine hK.out _ _ trivial (fun hHeld => ?_)
                                      clear hK K
                                      refine norm_ (a' := ?_) ?_ ?_
                                      rotate_left
                                      · show Act.put _ (some 81) _ = _
                                        simp only [Act.put, List.setIfInBounds_toArray, List.set_cons_zero, List.set_cons_succ, i64_w, i32_w]
                                        rfl
                                      refine one_ (i := 4) (N := some 85) #[true, true, true, true, true, true, false, true, true, true, false, false, false, false, false, false, false, false, false] rfl rfl (one_of HT_.out (by kernel_rfl)) (by decide) (fun K hK => ?_)
                                      refine Kd.R_append_rows_step (Kd.int .u8) (w0 := w) w.heap.size (by rfl) (.tmp 81) (.tmp 84) 26 5 (.int .u8 0) 1 rfl Try.underlying26 info5 rfl (by decide) (by omega) v231 y230 y233 _ _ _ (fun k_ => some k_ ≠ (.slice Ao17 x7_2.length co17 : Value).ownBlock ∧ some k_ ≠ (v227 : Value).ownBlock) (fun _ => False) rfl rfl ?aO ?aR (fun _ _ h => h) (fun _ h => h.elim) ?aF ?aB ?aS ?aL ?_
                                      (case aR => repeat (first | exact (by repeat (first | (with_reducible exact HR236.out) | (with_reducible refine Kd.C_alloc ?_ _) | (with_reducible refine Kd.C_drewN ?_ _) | (with_reducible refine Kd.C_drew ?_) | exact HR236.out)) | (with_reducible refine Kd.C_alloc ?_ _) | (with_reducible refine Kd.C_drewN ?_ _) | (with_reducible refine Kd.C_drew ?_)))
                                      (case aB => exact (by repeat (first | (with_reducible first | exact HB.out | apply below_alloc | apply pw_below_drewN | apply below_drew1 | refine below_set ?_ GE208.out) | exact HB.out)))
                                      (case aF => exact (fun k_ hk => ⟨Kd.fresh' (Kd.R_lt (by (with_reducible repeat (first | apply Kd.R_alloc | apply Kd.R_drewN | apply Kd.R_drew)); exact HO_7.out)) k_ hk, Kd.fresh' (Kd.R_lt (by (with_reducible repeat (first | apply Kd.R_alloc | apply Kd.R_drewN | apply Kd.R_drew)); exact HO228.out)) k_ hk⟩))
                                      (case aO => exact (by (with_reducible repeat (first | apply Kd.R_alloc | apply Kd.R_drewN | apply Kd.R_drew)); exact Kd.R_mono HO232.out (fun _ hk => ⟨hk.1.2, hk.2⟩)))
                                      (case aS => exact (below_size (by repeat (first | (with_reducible first | exact HB.out | apply below_alloc | apply pw_below_drewN | apply below_drew1 | refine below_set ?_ GE208.out) | exact HB.out))))
                                      (case aL => have := LMc43.out; omega)
                                      intro v238 w90 ho hb hg hat
                                      rw [← Ny237.out] at ho
                                      have n0_ := Aside0.mk (Kd.R_after (ok := (fun k_ => some k_ ≠ (v227 : Value).ownBlock)) (by (with_reducible repeat (first | apply Kd.R_alloc | apply Kd.R_drewN | apply Kd.R_drew)); exact Kd.R_mono HO_7.out (fun _ hk => ⟨hk.1.2, hk.2⟩)) hg hat)
                                      have n1_ := Aside0.mk (blk_grown (g := gb208) (o := .cells #[.int .u8 a1_0, .int .u16 a1_1, .int .u16 a1_2, .int .u16 a1_3, .int .u16 a1_4] 24 (0, 0)) (by (with_reducible repeat (first | refine blk_drewN ?_ _ | refine blk_drew ?_ | refine blk_alloc ?_ _)); exact BK208.out) hg (Kd.R_ne HO232.out BK208.out (by decide)))
                                      have n2_ := Aside0.mk (Kd.R_after (ok := (fun k_ => some k_ ≠ (.slice Ao17 x7_2.length co17 : Value).ownBlock)) (by (with_reducible repeat (first | apply Kd.R_alloc | apply Kd.R_drewN | apply Kd.R_drew)); exact Kd.R_mono HO228.out (fun _ hk => ⟨hk.1.2, hk.2⟩)) hg hat)
                                      have n3_ := Aside0.mk (hb)
                                      have n4_ := Aside0.mk ((show Kd.C (Kd.int .u8) w90 Ao17 y233.length y233 from by rw [Ny233.out]; exact Kd.C_take (m := ((ji40) : Int).toNat) ((Kd.R_reads' (Kd.R_after (ok := (fun k_ => some k_ ≠ (v227 : Value).ownBlock)) (by (with_reducible repeat (first | apply Kd.R_alloc | apply Kd.R_drewN | apply Kd.R_drew)); exact Kd.R_mono HO_7.out (fun _ hk => ⟨hk.1.2, hk.2⟩)) hg hat)).2.2) KL86.out))
                                      have n5_ := Aside0.mk ((show Kd.C (Kd.int .u8) w90 A87 y243.length y243 from by rw [Ny243.out, KA87.out]; exact Kd.C_drop (m := ((ji40) : Int).toNat) (c := co17) ((Kd.R_reads' (Kd.R_after (ok := (fun k_ => some k_ ≠ (v227 : Value).ownBlock)) (by (with_reducible repeat (first | apply Kd.R_alloc | apply Kd.R_drewN | apply Kd.R_drew)); exact Kd.R_mono HO_7.out (fun _ hk => ⟨hk.1.2, hk.2⟩)) hg hat)).2.2) KL87.out ((Kd.R_reads' (Kd.R_after (ok := (fun k_ => some k_ ≠ (v227 : Value).ownBlock)) (by (with_reducible repeat (first | apply Kd.R_alloc | apply Kd.R_drewN | apply Kd.R_drew)); exact Kd.R_mono HO_7.out (fun _ hk => ⟨hk.1.2, hk.2⟩)) hg hat)).2.1)))
                                      have n6_ := Aside0.mk (ho)
                                      clear HO_7
                                      clear BK208
                                      clear HO228
                                      clear HB
                                      clear HR236
                                      clear HR246
                                      clear HO232
                                      have HO_7 := n0_
                                      have BK208 := n1_
                                      have HO228 := n2_
                                      have HB := n3_
                                      have HR236 := n4_
                                      have HR246 := n5_
                                      have HO239 := n6_
                                      clear n0_ n1_ n2_ n3_ n4_ n5_ n6_
                                      clear ho hb hg hat
                                      obtain ⟨Ao92, co92, eo92⟩ := Kd.R_slice HO228.out
                                      (first | subst eo92 | (injection eo92 with f1_ f2_ f3_; have f4_ := f1_.symm; have f5_ := f3_.symm; clear f1_ f2_ f3_; subst f4_; subst f5_))
                                      refine hK.out _ _ trivial (fun hHeld => ?_)
                                      clear hK K
                                      refine norm_ (a' := ?_) ?_ ?_
                                      rotate_left
                                      · show Act.put _ (some 85) _ = _
                                        simp only [Act.put, List.setIfInBounds_toArray, List.set_cons_zero, List.set_cons_succ, i64_w, i32_w]
                                        rfl
                                      refine one_ (i := 6) (N := some 87) #[true, true, true, true, true, true, true, true, true, true, false, false, false, false, false, false, false, false, false] rfl rfl (one_of HT_.out (by kernel_rfl)) (by decide) (fun K hK => ?_)
                                      refine Kd.R_append_rows_step (Kd.int .u8) (w0 := w) w.heap.size (by rfl) (.tmp 85) (.tmp 86) 26 5 (.int .u8 0) 1 rfl Try.underlying26 info5 rfl (by decide) (by omega) v238 y237 t226 _ _ _ (fun k_ => some k_ ≠ (.slice Ao17 x7_2.length co17 : Value).ownBlock ∧ some k_ ≠ (.slice Ao92 t226.length co92 : Value).ownBlock) (fun _ => False) rfl rfl ?aO ?aR (fun _ _ h => h) (fun _ h => h.elim) ?aF ?aB ?aS ?aL ?_
                                      (case aR => repeat (first | exact (Kd.R_reads' HO228.out).2.2 | (with_reducible refine Kd.C_alloc ?_ _) | (with_reducible refine Kd.C_drewN ?_ _) | (with_reducible refine Kd.C_drew ?_)))
                                      (case aB => exact (by repeat (first | (with_reducible first | exact HB.out | apply below_alloc | apply pw_below_drewN | apply below_drew1 | refine below_set ?_ GE208.out) | exact HB.out)))
                                      (case aF => exact (fun k_ hk => ⟨Kd.fresh' (Kd.R_lt (by (with_reducible repeat (first | apply Kd.R_alloc | apply Kd.R_drewN | apply Kd.R_drew)); exact HO_7.out)) k_ hk, Kd.fresh' (Kd.R_lt (by (with_reducible repeat (first | apply Kd.R_alloc | apply Kd.R_drewN | apply Kd.R_drew)); exact HO228.out)) k_ hk⟩))
                                      (case aO => exact (by (with_reducible repeat (first | apply Kd.R_alloc | apply Kd.R_drewN | apply Kd.R_drew)); exact HO239.out))
                                      (case aS => exact (below_size (by repeat (first | (with_reducible first | exact HB.out | apply below_alloc | apply pw_below_drewN | apply below_drew1 | refine below_set ?_ GE208.out) | exact HB.out))))
                                      (case aL => have := LMc44.out; omega)
                                      intro v241 w91 ho hb hg hat
                                      rw [← Ny240.out] at ho
                                      have n0_ := Aside0.mk (Kd.R_after (ok := (fun k_ => some k_ ≠ (.slice Ao92 t226.length co92 : Value).ownBlock)) (by (with_reducible repeat (first | apply Kd.R_alloc | apply Kd.R_drewN | apply Kd.R_drew)); exact HO_7.out) hg hat)
                                      have n1_ := Aside0.mk (blk_grown (g := gb208) (o := .cells #[.int .u8 a1_0, .int .u16 a1_1, .int .u16 a1_2, .int .u16 a1_3, .int .u16 a1_4] 24 (0, 0)) (by (with_reducible repeat (first | refine blk_drewN ?_ _ | refine blk_drew ?_ | refine blk_alloc ?_ _)); exact BK208.out) hg (Kd.R_ne HO239.out BK208.out (by decide)))
                                      have n2_ := Aside0.mk (Kd.R_after (ok := (fun k_ => some k_ ≠ (.slice Ao17 x7_2.length co17 : Value).ownBlock)) (by (with_reducible repeat (first | apply Kd.R_alloc | apply Kd.R_drewN | apply Kd.R_drew)); exact HO228.out) hg hat)
                                      have n3_ := Aside0.mk (hb)
                                      have n4_ := Aside0.mk ((show Kd.C (Kd.int .u8) w91 Ao17 y233.length y233 from by rw [Ny233.out]; exact Kd.C_take (m := ((ji40) : Int).toNat) ((Kd.R_reads' (Kd.R_after (ok := (fun k_ => some k_ ≠ (.slice Ao92 t226.length co92 : Value).ownBlock)) (by (with_reducible repeat (first | apply Kd.R_alloc | apply Kd.R_drewN | apply Kd.R_drew)); exact HO_7.out) hg hat)).2.2) KL86.out))
                                      have n5_ := Aside0.mk ((show Kd.C (Kd.int .u8) w91 A87 y243.length y243 from by rw [Ny243.out, KA87.out]; exact Kd.C_drop (m := ((ji40) : Int).toNat) (c := co17) ((Kd.R_reads' (Kd.R_after (ok := (fun k_ => some k_ ≠ (.slice Ao92 t226.length co92 : Value).ownBlock)) (by (with_reducible repeat (first | apply Kd.R_alloc | apply Kd.R_drewN | apply Kd.R_drew)); exact HO_7.out) hg hat)).2.2) KL87.out ((Kd.R_reads' (Kd.R_after (ok := (fun k_ => some k_ ≠ (.slice Ao92 t226.length co92 : Value).ownBlock)) (by (with_reducible repeat (first | apply Kd.R_alloc | apply Kd.R_drewN | apply Kd.R_drew)); exact HO_7.out) hg hat)).2.1)))
                                      have n6_ := Aside0.mk (ho)
                                      clear HO_7
                                      clear BK208
                                      clear HO228
                                      clear HB
                                      clear HR236
                                      clear HR246
                                      clear HO239
                                      have HO_7 := n0_
                                      have BK208 := n1_
                                      have HO228 := n2_
                                      have HB := n3_
                                      have HR236 := n4_
                                      have HR246 := n5_
                                      have HO242 := n6_
                                      clear n0_ n1_ n2_ n3_ n4_ n5_ n6_
                                      clear ho hb hg hat
                                      refine hK.out _ _ trivial (fun hHeld => ?_)
                                      clear hK K
                                      refine norm_ (a' := ?_) ?_ ?_
                                      rotate_left
                                      · show Act.put _ (some 87) _ = _
                                        simp only [Act.put, List.setIfInBounds_toArray, List.set_cons_zero, List.set_cons_succ, i64_w, i32_w]
                                        rfl
                                      refine one_ (i := 10) (N := some 91) #[true, true, true, true, true, true, true, true, true, true, true, false, false, false, false, false, false, false, false] rfl rfl (one_of HT_.out (by kernel_rfl)) (by decide) (fun K hK => ?_)
                                      refine Kd.R_append_rows_step (Kd.int .u8) (w0 := w) w.heap.size (by rfl) (.tmp 87) (.tmp 90) 26 5 (.int .u8 0) 1 rfl Try.underlying26 info5 rfl (by decide) (by omega) v241 y240 y243 _ _ _ (fun k_ => some k_ ≠ (.slice Ao17 x7_2.length co17 : Value).ownBlock ∧ some k_ ≠ (.slice Ao92 t226.length co92 : Value).ownBlock) (fun _ => False) rfl rfl ?aO ?aR (fun _ _ h => h) (fun _ h => h.elim) ?aF ?aB ?aS ?aL ?_
                                      (case aR => repeat (first | exact (by repeat (first | (with_reducible exact HR246.out) | (with_reducible refine Kd.C_alloc ?_ _) | (with_reducible refine Kd.C_drewN ?_ _) | (with_reducible refine Kd.C_drew ?_) | exact HR246.out)) | (with_reducible refine Kd.C_alloc ?_ _) | (with_reducible refine Kd.C_drewN ?_ _) | (with_reducible refine Kd.C_drew ?_)))
                                      (case aB => exact (by repeat (first | (with_reducible first | exact HB.out | apply below_alloc | apply pw_below_drewN | apply below_drew1 | refine below_set ?_ GE208.out) | exact HB.out)))
                                      (case aF => exact (fun k_ hk => ⟨Kd.fresh' (Kd.R_lt (by (with_reducible repeat (first | apply Kd.R_alloc | apply Kd.R_drewN | apply Kd.R_drew)); exact HO_7.out)) k_ hk, Kd.fresh' (Kd.R_lt (by (with_reducible repeat (first | apply Kd.R_alloc | apply Kd.R_drewN | apply Kd.R_drew)); exact HO228.out)) k_ hk⟩))
                                      (case aO => exact (by (with_reducible repeat (first | apply Kd.R_alloc | apply Kd.R_drewN | apply Kd.R_drew)); exact HO242.out))
                                      (case aS => exact (below_size (by repeat (first | (with_reducible first | exact HB.out | apply below_alloc | apply pw_below_drewN | apply below_drew1 | refine below_set ?_ GE208.out) | exact HB.out))))
                                      (case aL => have := LMc47.out; omega)
                                      intro v248 w93 ho hb hg hat
                                      rw [← Ny247.out] at ho
                                      have n0_ := Aside0.mk (Kd.R_after (ok := (fun k_ => some k_ ≠ (.slice Ao92 t226.length co92 : Value).ownBlock)) (by (with_reducible repeat (first | apply Kd.R_alloc | apply Kd.R_drewN | apply Kd.R_drew)); exact HO_7.out) hg hat)
                                      have n1_ := Aside0.mk (blk_grown (g := gb208) (o := .cells #[.int .u8 a1_0, .int .u16 a1_1, .int .u16 a1_2, .int .u16 a1_3, .int .u16 a1_4] 24 (0, 0)) (by (with_reducible repeat (first | refine blk_drewN ?_ _ | refine blk_drew ?_ | refine blk_alloc ?_ _)); exact BK208.out) hg (Kd.R_ne HO242.out BK208.out (by decide)))
                                      have n2_ := Aside0.mk (Kd.R_after (ok := (fun k_ => some k_ ≠ (.slice Ao17 x7_2.length co17 : Value).ownBlock)) (by (with_reducible repeat (first | apply Kd.R_alloc | apply Kd.R_drewN | apply Kd.R_drew)); exact HO228.out) hg hat)
                                      have n3_ := Aside0.mk (hb)
                                      have n4_ := Aside0.mk ((show Kd.C (Kd.int .u8) w93 Ao17 y233.length y233 from by rw [Ny233.out]; exact Kd.C_take (m := ((ji40) : Int).toNat) ((Kd.R_reads' (Kd.R_after (ok := (fun k_ => some k_ ≠ (.slice Ao92 t226.length co92 : Value).ownBlock)) (by (with_reducible repeat (first | apply Kd.R_alloc | apply Kd.R_drewN | apply Kd.R_drew)); exact HO_7.out) hg hat)).2.2) KL86.out))
                                      have n5_ := Aside0.mk ((show Kd.C (Kd.int .u8) w93 A87 y243.length y243 from by rw [Ny243.out, KA87.out]; exact Kd.C_drop (m := ((ji40) : Int).toNat) (c := co17) ((Kd.R_reads' (Kd.R_after (ok := (fun k_ => some k_ ≠ (.slice Ao92 t226.length co92 : Value).ownBlock)) (by (with_reducible repeat (first | apply Kd.R_alloc | apply Kd.R_drewN | apply Kd.R_drew)); exact HO_7.out) hg hat)).2.2) KL87.out ((Kd.R_reads' (Kd.R_after (ok := (fun k_ => some k_ ≠ (.slice Ao92 t226.length co92 : Value).ownBlock)) (by (with_reducible repeat (first | apply Kd.R_alloc | apply Kd.R_drewN | apply Kd.R_drew)); exact HO_7.out) hg hat)).2.1)))
                                      have n6_ := Aside0.mk (ho)
                                      clear HO_7
                                      clear BK208
                                      clear HO228
                                      clear HB
                                      clear HR236
                                      clear HR246
                                      clear HO242
                                      have HO_7 := n0_
                                      have BK208 := n1_
                                      have HO228 := n2_
                                      have HB := n3_
                                      have HR236 := n4_
                                      have HR246 := n5_
                                      have HO249 := n6_
                                      clear n0_ n1_ n2_ n3_ n4_ n5_ n6_
                                      clear ho hb hg hat
                                      obtain ⟨Ao94, co94, eo94⟩ := Kd.R_slice HO249.out
                                      (first | subst eo94 | (injection eo94 with f1_ f2_ f3_; have f4_ := f1_.symm; have f5_ := f3_.symm; clear f1_ f2_ f3_; subst f4_; subst f5_))
                                      refine hK.out _ _ trivial (fun hHeld => ?_)
                                      clear hK K
                                      refine norm_ (a' := ?_) ?_ ?_
                                      rotate_left
                                      · show Act.put _ (some 91) _ = _
                                        simp only [Act.put, List.setIfInBounds_toArray, List.set_cons_zero, List.set_cons_succ, i64_w, i32_w]
                                        rfl
                                      refine one_ (i := 11) (N := some 92) #[true, true, true, true, true, true, true, true, true, true, true, true, false, false, false, false, false, false, false] rfl rfl (one_of HT_.out (by kernel_rfl)) (by decide) (fun K hK => ?_)
                                      refine goes_ Try.func19 (by kernel_rfl) rfl #[.slice Ao94 y247.length co94] (by rfl) rfl rfl (by (try simp only [List.map_toArray, List.map_cons, List.map_nil]); first | done | rfl | (simp only [List.length_drop, List.length_take]; rfl)) ?_
                                      with_reducible refine (tele_Split.calls kj25 (fun k_ => some k_ = (.slice Ao94 y247.length co94 : Value).ownBlock) _ _ y247 t250 t253 t256 _ ?side1 A48.out).mono ?_
                                      (case side1 => exact Kd.R_V (Kd.R_tight rfl (Kd.R_types (HO249.out) BK208.out (by decide))))
                                      rintro e w95 ⟨v251, v254, rfl, ho0, ho1, hb⟩
                                      refine ⟨_, rfl, ?_⟩
                                      have n0_ := Aside0.mk (Kd.R_elder' (by (with_reducible repeat (first | apply Kd.R_alloc | apply Kd.R_drewN | apply Kd.R_drew)); exact HO_7.out) (Kd.R_base ho1) hb)
                                      have n1_ := Aside0.mk (Kd.R_elder' (by (with_reducible repeat (first | apply Kd.R_alloc | apply Kd.R_drewN | apply Kd.R_drew)); exact HO228.out) (Kd.R_base ho1) hb)
                                      have n2_ := Aside0.mk (Kd.R_elder' (by (with_reducible repeat (first | apply Kd.R_alloc | apply Kd.R_drewN | apply Kd.R_drew)); exact HO249.out) (Kd.R_base ho1) hb)
                                      have n3_ := Aside0.mk (Kd.R_lower (Kd.R_newB (Kd.R_mono (ok' := fun k_ => True) ho0 (fun _ hk_ => trivial)) (g := gb208) (o := .cells #[.int .u8 a1_0, .int .u16 a1_1, .int .u16 a1_2, .int .u16 a1_3, .int .u16 a1_4] 24 (0, 0)) (by (with_reducible repeat (first | refine blk_drewN ?_ _ | refine blk_drew ?_ | refine blk_alloc ?_ _)); exact BK208.out)) (below_size (by repeat (first | (with_reducible first | exact HB.out | apply below_alloc | apply pw_below_drewN | apply below_drew1 | refine below_set ?_ GE208.out) | exact HB.out))))
                                      have n4_ := Aside0.mk (Kd.R_lower (Kd.R_new' (Kd.R_new' (Kd.R_new' (Kd.R_mono (ok' := fun k_ => True) ho1 (fun _ hk_ => trivial)) (Kd.R_lt (by (with_reducible repeat (first | apply Kd.R_alloc | apply Kd.R_drewN | apply Kd.R_drew)); exact HO_7.out))) (Kd.R_lt (by (with_reducible repeat (first | apply Kd.R_alloc | apply Kd.R_drewN | apply Kd.R_drew)); exact HO228.out))) (Kd.R_lt (by (with_reducible repeat (first | apply Kd.R_alloc | apply Kd.R_drewN | apply Kd.R_drew)); exact HO249.out))) (below_size (by repeat (first | (with_reducible first | exact HB.out | apply below_alloc | apply pw_below_drewN | apply below_drew1 | refine below_set ?_ GE208.out) | exact HB.out))))
                                      have n5_ := Aside0.mk (blk_below (g := gb208) (o := .cells #[.int .u8 a1_0, .int .u16 a1_1, .int .u16 a1_2, .int .u16 a1_3, .int .u16 a1_4] 24 (0, 0)) (by (with_reducible repeat (first | refine blk_drewN ?_ _ | refine blk_drew ?_ | refine blk_alloc ?_ _)); exact BK208.out) hb)
                                      have n6_ := Aside0.mk (Kd.C_below (by repeat (first | (with_reducible exact HR236.out) | (with_reducible refine Kd.C_alloc ?_ _) | (with_reducible refine Kd.C_drewN ?_ _) | (with_reducible refine Kd.C_drew ?_) | exact HR236.out)) hb)
                                      have n7_ := Aside0.mk (Kd.C_below (by repeat (first | (with_reducible exact HR246.out) | (with_reducible refine Kd.C_alloc ?_ _) | (with_reducible refine Kd.C_drewN ?_ _) | (with_reducible refine Kd.C_drew ?_) | exact HR246.out)) hb)
                                      have n8_ := Aside0.mk (below_step (by repeat (first | (with_reducible first | exact HB.out | apply below_alloc | apply pw_below_drewN | apply below_drew1 | refine below_set ?_ GE208.out) | exact HB.out)) hb)
                                      clear HO_7
                                      clear HO228
                                      clear HO249
                                      clear BK208
                                      clear HR236
                                      clear HR246
                                      clear HB
                                      have HO_7 := n0_
                                      have HO228 := n1_
                                      have HO249 := n2_
                                      have HO252 := n3_
                                      have HO255 := n4_
                                      have BK208 := n5_
                                      have HR236 := n6_
                                      have HR246 := n7_
                                      have HB := n8_
                                      clear n0_ n1_ n2_ n3_ n4_ n5_ n6_ n7_ n8_
                                      (try clear hb)
                                      (try clear hb2)
                                      (try clear hk)
                                      (try clear hi)
                                      (try clear ho0)
                                      (try clear ho1)
                                      refine hK.out _ _ trivial (fun hHeld => ?_)
                                      clear hK K
                                      refine norm_ (a' := ?_) ?_ ?_
                                      rotate_left
                                      · show Act.put _ (some 92) _ = _
                                        simp only [Act.put, List.setIfInBounds_toArray, List.set_cons_zero, List.set_cons_succ, i64_w, i32_w]
                                        rfl
                                      refine pure_ (i := 12) (N := some 80) (v := ?_) (a' := ?_) #[true, true, true, true, true, true, true, true, true, true, true, true, true, false, false, false, false, false, false] rfl rfl (any_of HT_.out (by kernel_rfl)) (fun _ _ _ h => h) (Or.inl ⟨by rfl, ?_⟩) ?_ ?_
                                      rotate_left
                                      · intro w'
                                        go_simp
                                        with_reducible rfl
                                      rotate_left
                                      · simp only [Act.put, List.setIfInBounds_toArray, List.set_cons_zero, List.set_cons_succ, i64_w, i32_w]
                                        rfl
                                      refine pure_ (i := 13) (N := some 93) (v := ?_) (a' := ?_) #[true, true, true, true, true, true, true, true, true, true, true, true, true, true, false, false, false, false, false] rfl rfl (any_of HT_.out (by kernel_rfl)) (fun _ _ _ h => h) (Or.inl ⟨by rfl, ?_⟩) ?_ ?_
                                      rotate_left
                                      · intro w'
                                        go_simp
                                        with_reducible rfl
                                      rotate_left
                                      · simp only [Act.put, List.setIfInBounds_toArray, List.set_cons_zero, List.set_cons_succ, i64_w, i32_w]
                                        rfl
                                      refine pure_ (i := 14) (N := some 94) (v := ?_) (a' := ?_) #[true, true, true, true, true, true, true, true, true, true, true, true, true, true, true, false, false, false, false] rfl rfl (any_of HT_.out (by kernel_rfl)) (fun _ _ _ h => h) (Or.inl ⟨by rfl, ?_⟩) ?_ ?_
                                      rotate_left
                                      · intro w'
                                        go_simp
                                        with_reducible rfl
                                      rotate_left
                                      · simp only [Act.put, List.setIfInBounds_toArray, List.set_cons_zero, List.set_cons_succ, i64_w, i32_w]
                                        rfl
                                      refine pure_ (i := 15) (N := some 95) (v := ?_) (a' := ?_) #[true, true, true, true, true, true, true, true, true, true, true, true, true, true, true, true, false, false, false] rfl rfl (any_of HT_.out (by kernel_rfl)) (fun _ _ _ h => h) (Or.inl ⟨by rfl, ?_⟩) ?_ ?_
                                      rotate_left
                                      · intro w'
                                        go_simp
                                        with_reducible rfl
                                      rotate_left
                                      · simp only [Act.put, List.setIfInBounds_toArray, List.set_cons_zero, List.set_cons_succ, i64_w, i32_w]
                                        rfl
                                      refine pure_ (i := 16) (N := some 9) (v := ?_) (a' := ?_) #[true, true, true, true, true, true, true, true, true, true, true, true, true, true, true, true, true, false, false] rfl rfl (any_of HT_.out (by kernel_rfl)) (fun _ _ _ h => h) (Or.inl ⟨by rfl, ?_⟩) ?_ ?_
                                      rotate_left
                                      · intro w'
                                        go_simp
                                        with_reducible rfl
                                      rotate_left
                                      · simp only [Act.put, List.setIfInBounds_toArray, List.set_cons_zero, List.set_cons_succ, i64_w, i32_w]
                                        rfl
                                      refine pure_ (i := 17) (N := some 10) (v := ?_) (a' := ?_) #[true, true, true, true, true, true, true, true, true, true, true, true, true, true, true, true, true, true, false] rfl rfl (any_of HT_.out (by kernel_rfl)) (fun _ _ _ h => h) (Or.inl ⟨by rfl, ?_⟩) ?_ ?_
                                      rotate_left
                                      · intro w'
                                        go_simp
                                        with_reducible rfl
                                      rotate_left
                                      · simp only [Act.put, List.setIfInBounds_toArray, List.set_cons_zero, List.set_cons_succ, i64_w, i32_w]
                                        rfl
                                      refine pure_ (i := 18) (N := some 11) (v := ?_) (a' := ?_) #[true, true, true, true, true, true, true, true, true, true, true, true, true, true, true, true, true, true, true] rfl rfl (any_of HT_.out (by kernel_rfl)) (fun _ _ _ h => h) (Or.inl ⟨by rfl, ?_⟩) ?_ ?_
                                      rotate_left
                                      · intro w'
                                        go_simp
                                        with_reducible rfl
                                      rotate_left
                                      · simp only [Act.put, List.setIfInBounds_toArray, List.set_cons_zero, List.set_cons_succ, i64_w, i32_w]
                                        rfl
                                      refine done_ (done_of HT_.out (by kernel_rfl)) ?_
                                      try go_wp2
                                      have n0_ := Aside0.mk (Kd.R_drew HO_7.out)
                                      have n1_ := Aside0.mk (Kd.R_drew HO228.out)
                                      have n2_ := Aside0.mk (Kd.R_drew HO249.out)
                                      have n3_ := Aside0.mk (Kd.R_drew HO252.out)
                                      have n4_ := Aside0.mk (Kd.R_drew HO255.out)
                                      have n5_ := Aside0.mk (blk_drew BK208.out)
                                      have n6_ := Aside0.mk (Kd.C_drew HR236.out)
                                      have n7_ := Aside0.mk (Kd.C_drew HR246.out)
                                      have n8_ := Aside0.mk (below_drew1 HB.out)
                                      clear HO_7
                                      clear HO228
                                      clear HO249
                                      clear HO252
                                      clear HO255
                                      clear BK208
                                      clear HR236
                                      clear HR246
                                      clear HB
                                      have HO_7 := n0_
                                      have HO228 := n1_
                                      have HO249 := n2_
                                      have HO252 := n3_
                                      have HO255 := n4_
                                      have BK208 := n5_
                                      have HR236 := n6_
                                      have HR246 := n7_
                                      have HB := n8_
                                      clear n0_ n1_ n2_ n3_ n4_ n5_ n6_ n7_ n8_
                                      obtain ⟨Ao97, co97, eo97⟩ := Kd.R_slice HO252.out
                                      (first | subst eo97 | (injection eo97 with f1_ f2_ f3_; have f4_ := f1_.symm; have f5_ := f3_.symm; clear f1_ f2_ f3_; subst f4_; subst f5_))
                                      refine start_ (n := 20) (S := fun w' => True) (ds := []) #[false, false, false, false, false, false, false, false, false, false, false, false, false, false, false, false, false, false, false, false] (by kernel_rfl) rfl rfl trivial (fun hHeld => ?_); refine with_tabW stillagelaw02_TeleNoise.tab18 stillagelaw02_TeleNoise.bits18 (fun HT_ HW_ => ?_)
                                      generalize w95.drew = w96 at HO_7 HO228 HO249 HO252 HO255 BK208 HR236 HR246 HB hHeld ⊢
                                      refine pure_ (i := 0) (N := some 96) (v := ?_) (a' := ?_) #[true, false, false, false, false, false, false, false, false, false, false, false, false, false, false, false, false, false, false, false] rfl rfl (any_of HT_.out (by kernel_rfl)) (fun _ _ _ h => h) (Or.inl ⟨by rfl, ?_⟩) ?_ ?_
                                      rotate_left
                                      · intro w'
                                        go_simp
                                        with_reducible rfl
                                      rotate_left
                                      · simp only [Act.put, List.setIfInBounds_toArray, List.set_cons_zero, List.set_cons_succ, i64_w, i32_w]
                                        rfl
                                      refine pure_ (i := 1) (N := some 97) (v := ?_) (a' := ?_) #[true, true, false, false, false, false, false, false, false, false, false, false, false, false, false, false, false, false, false, false] rfl rfl (any_of HT_.out (by kernel_rfl)) (fun _ _ _ h => h) (Or.inl ⟨by rfl, ?_⟩) ?_ ?_
                                      rotate_left
                                      · intro w'
                                        go_simp
                                        with_reducible rfl
                                      rotate_left
                                      · simp only [Act.put, List.setIfInBounds_toArray, List.set_cons_zero, List.set_cons_succ, i64_w, i32_w]
                                        rfl
                                      refine pure_ (i := 2) (N := some 98) (v := ?_) (a' := ?_) #[true, true, true, false, false, false, false, false, false, false, false, false, false, false, false, false, false, false, false, false] rfl rfl (any_of HT_.out (by kernel_rfl)) (fun _ _ _ h => h) (Or.inl ⟨by rfl, ?_⟩) ?_ ?_
                                      rotate_left
                                      · intro w'
                                        go_simp
                                        with_reducible rfl
                                      rotate_left
                                      · simp only [Act.put, List.setIfInBounds_toArray, List.set_cons_zero, List.set_cons_succ, i64_w, i32_w]
                                        rfl
                                      refine pure_ (i := 3) (N := some 99) (v := ?_) (a' := ?_) #[true, true, true, true, false, false, false, false, false, false, false, false, false, false, false, false, false, false, false, false] rfl rfl (any_of HT_.out (by kernel_rfl)) (fun _ _ _ h => h) (Or.inl ⟨by rfl, ?_⟩) ?_ ?_
                                      rotate_left
                                      · intro w'
                                        go_simp
                                        with_reducible rfl
                                      rotate_left
                                      · simp only [Act.put, List.setIfInBounds_toArray, List.set_cons_zero, List.set_cons_succ, i64_w, i32_w]
                                        rfl
                                      refine pure_ (i := 4) (N := some 100) (v := undef) (a' := ?_) #[true, true, true, true, true, false, false, false, false, false, false, false, false, false, false, false, false, false, false, false] rfl rfl (any_of HT_.out (by kernel_rfl)) (fun _ _ _ h => h) (Or.inr ⟨by rfl, rfl⟩) ?_ ?_
                                      rotate_left
                                      · simp only [Act.put, List.setIfInBounds_toArray, List.set_cons_zero, List.set_cons_succ, i64_w, i32_w]
                                        rfl
                                      refine pure_ (i := 5) (N := some 101) (v := undef) (a' := ?_) #[true, true, true, true, true, true, false, false, false, false, false, false, false, false, false, false, false, false, false, false] rfl rfl (any_of HT_.out (by kernel_rfl)) (fun _ _ _ h => h) (Or.inr ⟨by rfl, rfl⟩) ?_ ?_
                                      rotate_left
                                      · simp only [Act.put, List.setIfInBounds_toArray, List.set_cons_zero, List.set_cons_succ, i64_w, i32_w]
                                        rfl
                                      refine pure_ (i := 6) (N := some 102) (v := undef) (a' := ?_) #[true, true, true, true, true, true, true, false, false, false, false, false, false, false, false, false, false, false, false, false] rfl rfl (any_of HT_.out (by kernel_rfl)) (fun _ _ _ h => h) (Or.inr ⟨by rfl, rfl⟩) ?_ ?_
                                      rotate_left
                                      · simp only [Act.put, List.setIfInBounds_toArray, List.set_cons_zero, List.set_cons_succ, i64_w, i32_w]
                                        rfl
                                      refine pure_ (i := 7) (N := some 103) (v := undef) (a' := ?_) #[true, true, true, true, true, true, true, true, false, false, false, false, false, false, false, false, false, false, false, false] rfl rfl (any_of HT_.out (by kernel_rfl)) (fun _ _ _ h => h) (Or.inr ⟨by rfl, rfl⟩) ?_ ?_
                                      rotate_left
                                      · simp only [Act.put, List.setIfInBounds_toArray, List.set_cons_zero, List.set_cons_succ, i64_w, i32_w]
                                        rfl
                                      refine pure_ (i := 8) (N := some 104) (v := undef) (a' := ?_) #[true, true, true, true, true, true, true, true, true, false, false, false, false, false, false, false, false, false, false, false] rfl rfl (any_of HT_.out (by kernel_rfl)) (fun _ _ _ h => h) (Or.inr ⟨by rfl, rfl⟩) ?_ ?_
                                      rotate_left
                                      · simp only [Act.put, List.setIfInBounds_toArray, List.set_cons_zero, List.set_cons_succ, i64_w, i32_w]
                                        rfl
                                      refine pure_ (i := 9) (N := some 105) (v := ?_) (a' := ?_) #[true, true, true, true, true, true, true, true, true, true, false, false, false, false, false, false, false, false, false, false] rfl rfl (any_of HT_.out (by kernel_rfl)) (fun _ _ _ h => h) (Or.inl ⟨by rfl, ?_⟩) ?_ ?_
                                      rotate_left
                                      · intro w'
                                        go_simp
                                        with_reducible rfl
                                      rotate_left
                                      · simp only [Act.put, List.setIfInBounds_toArray, List.set_cons_zero, List.set_cons_succ, i64_w, i32_w]
                                        rfl
                                      refine pure_ (i := 10) (N := some 106) (v := ?_) (a' := ?_) #[true, true, true, true, true, true, true, true, true, true, true, false, false, false, false, false, false, false, false, false] rfl rfl (any_of HT_.out (by kernel_rfl)) (fun _ _ _ h => h) (Or.inl ⟨by rfl, ?_⟩) ?_ ?_
                                      rotate_left
                                      · intro w'
                                        go_simp
                                        with_reducible rfl
                                      rotate_left
                                      · simp only [Act.put, List.setIfInBounds_toArray, List.set_cons_zero, List.set_cons_succ, i64_w, i32_w]
                                        rfl
                                      refine pure_ (i := 11) (N := some 107) (v := undef) (a' := ?_) #[true, true, true, true, true, true, true, true, true, true, true, true, false, false, false, false, false, false, false, false] rfl rfl (any_of HT_.out (by kernel_rfl)) (fun _ _ _ h => h) (Or.inr ⟨by rfl, rfl⟩) ?_ ?_
                                      rotate_left
                                      · simp only [Act.put, List.setIfInBounds_toArray, List.set_cons_zero, List.set_cons_succ, i64_w, i32_w]
                                        rfl
                                      refine pure_ (i := 12) (N := some 108) (v := undef) (a' := ?_) #[true, true, true, true, true, true, true, true, true, true, true, true, true, false, false, false, false, false, false, false] rfl rfl (any_of HT_.out (by kernel_rfl)) (fun _ _ _ h => h) (Or.inr ⟨by rfl, rfl⟩) ?_ ?_
                                      rotate_left
                                      · simp only [Act.put, List.setIfInBounds_toArray, List.set_cons_zero, List.set_cons_succ, i64_w, i32_w]
                                        rfl
                                      refine pure_ (i := 13) (N := some 109) (v := undef) (a' := ?_) #[true, true, true, true, true, true, true, true, true, true, true, true, true, true, false, false, false, false, false, false] rfl rfl (any_of HT_.out (by kernel_rfl)) (fun _ _ _ h => h) (Or.inr ⟨by rfl, rfl⟩) ?_ ?_
                                      rotate_left
                                      · simp only [Act.put, List.setIfInBounds_toArray, List.set_cons_zero, List.set_cons_succ, i64_w, i32_w]
                                        rfl
                                      refine pure_ (i := 14) (N := some 110) (v := undef) (a' := ?_) #[true, true, true, true, true, true, true, true, true, true, true, true, true, true, true, false, false, false, false, false] rfl rfl (any_of HT_.out (by kernel_rfl)) (fun _ _ _ h => h) (Or.inr ⟨by rfl, rfl⟩) ?_ ?_
                                      rotate_left
                                      · simp only [Act.put, List.setIfInBounds_toArray, List.set_cons_zero, List.set_cons_succ, i64_w, i32_w]
                                        rfl
                                      refine pure_ (i := 15) (N := some 111) (v := undef) (a' := ?_) #[true, true, true, true, true, true, true, true, true, true, true, true, true, true, true, true, false, false, false, false] rfl rfl (any_of HT_.out (by kernel_rfl)) (fun _ _ _ h => h) (Or.inr ⟨by rfl, rfl⟩) ?_ ?_
                                      rotate_left
                                      · simp only [Act.put, List.setIfInBounds_toArray, List.set_cons_zero, List.set_cons_succ, i64_w, i32_w]
                                        rfl
                                      refine pure_ (i := 16) (N := some 112) (v := undef) (a' := ?_) #[true, true, true, true, true, true, true, true, true, true, true, true, true, true, true, true, true, false, false, false] rfl rfl (any_of HT_.out (by kernel_rfl)) (fun _ _ _ h => h) (Or.inr ⟨by rfl, rfl⟩) ?_ ?_
                                      rotate_left
                                      · simp only [Act.put, List.setIfInBounds_toArray, List.set_cons_zero, List.set_cons_succ, i64_w, i32_w]
                                        rfl
                                      refine pure_ (i := 17) (N := some 113) (v := undef) (a' := ?_) #[true, true, true, true, true, true, true, true, true, true, true, true, true, true, true, true, true, true, false, false] rfl rfl (any_of HT_.out (by kernel_rfl)) (fun _ _ _ h => h) (Or.inr ⟨by rfl, rfl⟩) ?_ ?_
                                      rotate_left
                                      · simp only [Act.put, List.setIfInBounds_toArray, List.set_cons_zero, List.set_cons_succ, i64_w, i32_w]
                                        rfl
                                      refine pure_ (i := 18) (N := some 114) (v := ?_) (a' := ?_) #[true, true, true, true, true, true, true, true, true, true, true, true, true, true, true, true, true, true, true, false] rfl rfl (any_of HT_.out (by kernel_rfl)) (fun _ _ _ h => h) (Or.inl ⟨by rfl, ?_⟩) ?_ ?_
                                      rotate_left
                                      · intro w'
                                        go_simp
                                        with_reducible rfl
                                      rotate_left
                                      · simp only [Act.put, List.setIfInBounds_toArray, List.set_cons_zero, List.set_cons_succ, i64_w, i32_w]
                                        rfl
                                      refine pure_ (i := 19) (N := some 6) (v := ?_) (a' := ?_) #[true, true, true, true, true, true, true, true, true, true, true, true, true, true, true, true, true, true, true, true] rfl rfl (any_of HT_.out (by kernel_rfl)) (fun _ _ _ h => h) (Or.inl ⟨by rfl, ?_⟩) ?_ ?_
                                      rotate_left
                                      · intro w'
                                        go_simp
                                        with_reducible rfl
                                      rotate_left
                                      · simp only [Act.put, List.setIfInBounds_toArray, List.set_cons_zero, List.set_cons_succ, i64_w, i32_w]
                                        rfl
                                      refine done_ (done_of HT_.out (by kernel_rfl)) ?_
                                      try go_wp2
                                      go_ret
                                      exact ⟨by first | rfl | (simp [errW_none, errW_some] <;> rfl) | (simp only [← hji40]; first | rfl | (simp [errW_none, errW_some] <;> rfl)) | (simp [*, errW_none, errW_some] <;> rfl), by repeat (first | (with_reducible first | exact HB.out | apply below_alloc | apply pw_below_drewN | apply below_drew1 | refine below_set ?_ GE208.out) | exact HB.out)⟩
                                  · rw [if_neg c47] at H
                                    exact absurd H (by simp)
                                · rw [if_neg c44] at H
                                  exact absurd H (by simp)
                              · rw [if_neg c43] at H
                                exact absurd H (by simp)
                            · rw [if_neg c42] at H
                              exact absurd H (by simp)
                          · rw [if_neg c41] at H
                            exact absurd H (by simp)
                      · rw [if_neg c38] at H
                        have c38b0 : (t229 == 0) = false := beq_eq_false_iff_ne.mpr c38
                        have c38b1 : (t229 != 0) = true := bne_iff_ne.mpr c38
                        obtain rfl := Option.some.inj H
                        have hcz98_0 : wc.cell? ⟨gb208, 0, none⟩ = some (.int .u8 a1_0) := (blk_cell BK208.out 0).trans rfl
                        have hcz98_1 : wc.cell? ⟨gb208, 1, none⟩ = some (.int .u16 a1_1) := (blk_cell BK208.out 1).trans rfl
                        have hcz98_2 : wc.cell? ⟨gb208, 2, none⟩ = some (.int .u16 a1_2) := (blk_cell BK208.out 2).trans rfl
                        have hcz98_3 : wc.cell? ⟨gb208, 3, none⟩ = some (.int .u16 a1_3) := (blk_cell BK208.out 3).trans rfl
                        have hcz98_4 : wc.cell? ⟨gb208, 4, none⟩ = some (.int .u16 a1_4) := (blk_cell BK208.out 4).trans rfl
                        have hfz98_0 := blk_frozen BK208.out 0
                        have hfz98_1 := blk_frozen BK208.out 1
                        have hfz98_2 := blk_frozen BK208.out 2
                        have hfz98_3 := blk_frozen BK208.out 3
                        have hfz98_4 := blk_frozen BK208.out 4
                        go_wp2_with (first | ((with_reducible refine gate_callee (f := 12) rfl ?_); refine goesL_ (some 67) rfl rfl Try.func12 (by kernel_rfl) rfl #[.agg #[.int .u8 a1_0, .int .u16 a1_1, .int .u16 a1_2, .int .u16 a1_3, .int .u16 a1_4]] rfl (by (try simp only [List.map_toArray, List.map_cons, List.map_nil]); first | done | rfl | (simp only [List.length_drop, List.length_take]; rfl)) ?_; (with_reducible refine (tele_Encode.calls kj25 a1_0 a1_1 a1_2 a1_3 a1_4 t226 t229 _ A37.out).mono ?_); rintro e w99 ⟨v227, rfl, ho0, hb⟩; refine ⟨_, rfl, ?_⟩; have n0_ := Aside0.mk (Kd.R_elder' (by (with_reducible repeat (first | apply Kd.R_alloc | apply Kd.R_drewN | apply Kd.R_drew)); exact HO_7.out) (Kd.R_base ho0) hb); have n1_ := Aside0.mk (Kd.R_lower (Kd.R_new' ho0 (Kd.R_lt (by (with_reducible repeat (first | apply Kd.R_alloc | apply Kd.R_drewN | apply Kd.R_drew)); exact HO_7.out))) (below_size (by repeat (first | (with_reducible first | exact HB.out | apply below_alloc | apply pw_below_drewN | apply below_drew1 | refine below_set ?_ GE208.out) | exact HB.out)))); have n2_ := Aside0.mk (blk_below (g := gb208) (o := .cells #[.int .u8 a1_0, .int .u16 a1_1, .int .u16 a1_2, .int .u16 a1_3, .int .u16 a1_4] 24 (0, 0)) (by (with_reducible repeat (first | refine blk_drewN ?_ _ | refine blk_drew ?_ | refine blk_alloc ?_ _)); exact BK208.out) hb); have n3_ := Aside0.mk (below_step (by repeat (first | (with_reducible first | exact HB.out | apply below_alloc | apply pw_below_drewN | apply below_drew1 | refine below_set ?_ GE208.out) | exact HB.out)) hb); clear HO_7; clear BK208; clear HB; have HO_7 := n0_; have HO228 := n1_; have BK208 := n2_; have HB := n3_; clear n0_ n1_ n2_ n3_; (try clear hb); (try clear hb2); (try clear hk); (try clear hi); (try clear ho0)))
                        go_ret
                        exact ⟨by first | rfl | (simp [errW_none, errW_some] <;> rfl) | (simp [*, errW_none, errW_some] <;> rfl), by repeat (first | (with_reducible first | exact HB.out | apply below_alloc | apply pw_below_drewN | apply below_drew1 | refine below_set ?_ GE208.out) | exact HB.out)⟩
        · rw [if_neg c13] at H
          exact absurd H (by simp)

end Go.Proofs.Ytabkmjimdpdfaaa.PTeleNoise
