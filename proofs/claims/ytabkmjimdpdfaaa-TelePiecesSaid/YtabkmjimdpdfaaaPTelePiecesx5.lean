-- Written by a program of this session (wip/oprint): after the pattern of the kit's print, which does not take this law. -- trimmed
import Derived.Test.YtabkmjimdpdfaaaPTelePiecesx0
import Derived.Test.YtabkmjimdpdfaaaPTelePiecesx2
import Derived.Test.YtabkmjimdpdfaaaPTelePiecesx3
import Derived.Test.YtabkmjimdpdfaaaPTelePiecesx4
namespace Go.Proofs.Ytabkmjimdpdfaaa.PTelePieces
open Go.RowKit Go.Proofs.YtabkmjimdpdfaaaW.PrintWords Go.Proofs.YtabkmjimdpdfaaaW.PrintLast Go.Proofs.YtabkmjimdpdfaaaW.PrintMore
attribute [local go_sem] max2_int min2_int max_two min_two max_three min_three max_four min_four   -- for this text's walks alone
set_option linter.unusedVariables false
set_option linter.unusedSimpArgs false

/-! ### tele_Decode: function 15 -/
def tele_Decode.f (k : Nat) (l0 : List Int) : Option (Int × Int × Int × Int × Int × Int) := if (l0.length : Int) = 12 then (if 0 < (l0.length : Int) then (if (rd l0 0) = 165 then ((crc_Sum.f k l0).bind fun t168 => (if t168 = 0 then (if 1 < (l0.length : Int) then (if 2 ≤ (l0.length : Int) then ((tele_word.f (l0.drop 2)).bind fun t171 => (if 4 ≤ (l0.length : Int) then ((tele_word.f (l0.drop 4)).bind fun t173 => (if 6 ≤ (l0.length : Int) then ((tele_word.f (l0.drop 6)).bind fun t175 => (if 8 ≤ (l0.length : Int) then ((tele_word.f (l0.drop 8)).bind fun t177 => ((tele_Check.f k (rd l0 1) t171 t173 t175 t177).bind fun t179 => (if t179 = 0 then (some (rd l0 1, t171, t173, t175, t177, 0)) else (some (0, 0, 0, 0, 0, t179))))) else (none))) else (none))) else (none))) else (none)) else (none)) else (some (0, 0, 0, 0, 0, 22)))) else (some (0, 0, 0, 0, 0, 21))) else (none)) else (some (0, 0, 0, 0, 0, 20))
theorem tele_Decode.mono : ∀ a0 k, LeO (tele_Decode.f k a0) (tele_Decode.f (k + 1) a0) := by
 intro a0 k
 unfold tele_Decode.f
 repeat' first
   | (with_reducible exact crc_Sum.mono _ _)
   | (with_reducible exact tele_Check.mono _ _ _ _ _ _)
   | (with_reducible exact LeO.refl _)
   | (with_reducible exact LeO.none _)
   | (with_reducible refine LeO.ite ?_ ?_)
   | (with_reducible refine LeO.bind ?_ (fun _ => ?_))
   | exact crc_Sum.mono _ _
   | exact tele_Check.mono _ _ _ _ _ _
   | exact LeO.none _
   | refine LeO.ite ?_ ?_
   | refine LeO.bind ?_ (fun _ => ?_)
def tele_Decode.T7 : Bool × List (List Nat × List Nat) := (true, [([], []), ([0], [0]), ([1], [1]), ([], []), ([3], [3]), ([4], [4]), ([], []), ([6], [6]), ([7, 5], [7]), ([], []), ([9], [9]), ([10, 8], [10]), ([], []), ([12], [12]), ([13, 11], [13]), ([2, 5, 8, 11, 14], [2, 5, 8, 11, 14]), ([], []), ([16, 15, 14, 0, 1, 2, 3, 4, 5, 6, 7, 8, 9, 10, 11, 12, 13, 14, 15, 16], [15, 16])])
def tele_Decode.B7 : List Nat := [0, 1, 3, 0, 8, 24, 0, 64, 248, 0, 512, 2040, 0, 4096, 16376, 32767, 0, 131071]
theorem tele_Decode.tab7 : rtab .any (opsOf Try.f15 7) = tele_Decode.T7 := by kernel_rfl
theorem tele_Decode.bits7 : waitsOk tele_Decode.T7.2 tele_Decode.B7 = true := by kernel_rfl
set_option maxHeartbeats 8000000 in
set_option maxRecDepth 100000 in
theorem tele_Decode.calls (k : Nat) (A0 : Option Addr) (c0 : Nat) (l0 : List Int) (r1 : Int) (r2 : Int) (r3 : Int) (r4 : Int) (r5 : Int) (r6 : Int) (w : World) (hr0 : Kd.C (Kd.int .u8) w A0 l0.length l0) (hc0 : l0.length ≤ c0) (h : tele_Decode.f k l0 = some (r1, r2, r3, r4, r5, r6)) :
  Calls Try.prog 15 #[.slice A0 l0.length c0] w fun e w' => e = .returned (.tuple #[.agg #[.int .u8 r1, .int .u16 r2, .int .u16 r3, .int .u16 r4, .int .u16 r5], .int .i64 r6]) ∧ Below w.heap.size w w' := by
 have hu24 := Try.underlying24
 have HR0 := Aside0.mk hr0
 have HC0 := Aside0.mk hc0
 clear hr0 hc0
 have HB := Aside0.mk (Below.refl w.heap.size w)
 have H : (if (l0.length : Int) = 12 then (if 0 < (l0.length : Int) then (if (rd l0 0) = 165 then ((crc_Sum.f k l0).bind fun t168 => (if t168 = 0 then (if 1 < (l0.length : Int) then (if 2 ≤ (l0.length : Int) then ((tele_word.f (l0.drop 2)).bind fun t171 => (if 4 ≤ (l0.length : Int) then ((tele_word.f (l0.drop 4)).bind fun t173 => (if 6 ≤ (l0.length : Int) then ((tele_word.f (l0.drop 6)).bind fun t175 => (if 8 ≤ (l0.length : Int) then ((tele_word.f (l0.drop 8)).bind fun t177 => ((tele_Check.f k (rd l0 1) t171 t173 t175 t177).bind fun t179 => (if t179 = 0 then (some (rd l0 1, t171, t173, t175, t177, 0)) else (some (0, 0, 0, 0, 0, t179))))) else (none))) else (none))) else (none))) else (none)) else (none)) else (some (0, 0, 0, 0, 0, 22)))) else (some (0, 0, 0, 0, 0, 21))) else (none)) else (some (0, 0, 0, 0, 0, 20))) = some (r1, r2, r3, r4, r5, r6) := h
 clear h
 by_cases c2 : (l0.length : Int) = 12
 ·rw [if_pos c2] at H
  have c2b0 : ((l0.length : Int) == 12) = true := beq_iff_eq.mpr c2
  have c2b1 : ((l0.length : Int) != 12) = false := bne_eq_false_iff_eq.mpr c2
  clear c2
  by_cases c3 : 0 < (l0.length : Int)
  ·rw [if_pos c3] at H
   have c3b0 : decide (0 < (l0.length : Int)) = true := decide_eq_true c3
   have c3b1 : decide (0 < l0.length) = true := decide_eq_true (by omega)
   clear c3
   by_cases c4 : (rd l0 0) = 165
   ·rw [if_pos c4] at H
    have c4b0 : ((rd l0 0) == 165) = true := beq_iff_eq.mpr c4
    have c4b1 : ((rd l0 0) != 165) = false := bne_eq_false_iff_eq.mpr c4
    clear c4
    replace H := Option.bind_eq_some_iff.mp H
    obtain ⟨t168, A50, H⟩ := H
    replace H : (if t168 = 0 then (if 1 < (l0.length : Int) then (if 2 ≤ (l0.length : Int) then ((tele_word.f (l0.drop 2)).bind fun t171 => (if 4 ≤ (l0.length : Int) then ((tele_word.f (l0.drop 4)).bind fun t173 => (if 6 ≤ (l0.length : Int) then ((tele_word.f (l0.drop 6)).bind fun t175 => (if 8 ≤ (l0.length : Int) then ((tele_word.f (l0.drop 8)).bind fun t177 => ((tele_Check.f k (rd l0 1) t171 t173 t175 t177).bind fun t179 => (if t179 = 0 then (some (rd l0 1, t171, t173, t175, t177, 0)) else (some (0, 0, 0, 0, 0, t179))))) else (none))) else (none))) else (none))) else (none)) else (none)) else (some (0, 0, 0, 0, 0, 22))) = some (r1, r2, r3, r4, r5, r6) := H
    have A5 := Aside0.mk A50
    clear A50
    by_cases c6 : t168 = 0
    ·rw [if_pos c6] at H
     have c6b0 : (t168 == 0) = true := beq_iff_eq.mpr c6
     have c6b1 : (t168 != 0) = false := bne_eq_false_iff_eq.mpr c6
     clear c6
     by_cases c7 : 1 < (l0.length : Int)
     ·rw [if_pos c7] at H
      have c7b0 : decide (1 < (l0.length : Int)) = true := decide_eq_true c7
      have c7b1 : decide (1 < l0.length) = true := decide_eq_true (by omega)
      clear c7
      by_cases c8 : 2 ≤ (l0.length : Int)
      ·rw [if_pos c8] at H
       have c8b0 := eq_true c8
       have c8b1 : decide (2 ≤ (l0.length : Int)) = true := decide_eq_true c8
       clear c8
       replace H := Option.bind_eq_some_iff.mp H
       obtain ⟨t171, A90, H⟩ := H
       replace H : (if 4 ≤ (l0.length : Int) then ((tele_word.f (l0.drop 4)).bind fun t173 => (if 6 ≤ (l0.length : Int) then ((tele_word.f (l0.drop 6)).bind fun t175 => (if 8 ≤ (l0.length : Int) then ((tele_word.f (l0.drop 8)).bind fun t177 => ((tele_Check.f k (rd l0 1) t171 t173 t175 t177).bind fun t179 => (if t179 = 0 then (some (rd l0 1, t171, t173, t175, t177, 0)) else (some (0, 0, 0, 0, 0, t179))))) else (none))) else (none))) else (none)) = some (r1, r2, r3, r4, r5, r6) := H
       have A9 := Aside0.mk A90
       clear A90
       by_cases c10 : 4 ≤ (l0.length : Int)
       ·rw [if_pos c10] at H
        have c10b0 := eq_true c10
        have c10b1 : decide (4 ≤ (l0.length : Int)) = true := decide_eq_true c10
        clear c10
        replace H := Option.bind_eq_some_iff.mp H
        obtain ⟨t173, A110, H⟩ := H
        replace H : (if 6 ≤ (l0.length : Int) then ((tele_word.f (l0.drop 6)).bind fun t175 => (if 8 ≤ (l0.length : Int) then ((tele_word.f (l0.drop 8)).bind fun t177 => ((tele_Check.f k (rd l0 1) t171 t173 t175 t177).bind fun t179 => (if t179 = 0 then (some (rd l0 1, t171, t173, t175, t177, 0)) else (some (0, 0, 0, 0, 0, t179))))) else (none))) else (none)) = some (r1, r2, r3, r4, r5, r6) := H
        have A11 := Aside0.mk A110
        clear A110
        by_cases c12 : 6 ≤ (l0.length : Int)
        ·rw [if_pos c12] at H
         have c12b0 := eq_true c12
         have c12b1 : decide (6 ≤ (l0.length : Int)) = true := decide_eq_true c12
         clear c12
         replace H := Option.bind_eq_some_iff.mp H
         obtain ⟨t175, A130, H⟩ := H
         replace H : (if 8 ≤ (l0.length : Int) then ((tele_word.f (l0.drop 8)).bind fun t177 => ((tele_Check.f k (rd l0 1) t171 t173 t175 t177).bind fun t179 => (if t179 = 0 then (some (rd l0 1, t171, t173, t175, t177, 0)) else (some (0, 0, 0, 0, 0, t179))))) else (none)) = some (r1, r2, r3, r4, r5, r6) := H
         have A13 := Aside0.mk A130
         clear A130
         by_cases c14 : 8 ≤ (l0.length : Int)
         ·rw [if_pos c14] at H
          have c14b0 := eq_true c14
          have c14b1 : decide (8 ≤ (l0.length : Int)) = true := decide_eq_true c14
          clear c14
          replace H := Option.bind_eq_some_iff.mp H
          obtain ⟨t177, A150, H⟩ := H
          replace H : ((tele_Check.f k (rd l0 1) t171 t173 t175 t177).bind fun t179 => (if t179 = 0 then (some (rd l0 1, t171, t173, t175, t177, 0)) else (some (0, 0, 0, 0, 0, t179)))) = some (r1, r2, r3, r4, r5, r6) := H
          have A15 := Aside0.mk A150
          clear A150
          replace H := Option.bind_eq_some_iff.mp H
          obtain ⟨t179, A160, H⟩ := H
          replace H : (if t179 = 0 then (some (rd l0 1, t171, t173, t175, t177, 0)) else (some (0, 0, 0, 0, 0, t179))) = some (r1, r2, r3, r4, r5, r6) := H
          have A16 := Aside0.mk A160
          clear A160
          by_cases c17 : t179 = 0
          ·rw [if_pos c17] at H
           have c17b0 : (t179 == 0) = true := beq_iff_eq.mpr c17
           have c17b1 : (t179 != 0) = false := bne_eq_false_iff_eq.mpr c17
           clear c17
           simp only [Option.some.injEq, Prod.mk.injEq] at H
           obtain ⟨rfl, rfl, rfl, rfl, rfl, rfl⟩ := H
           go_enter Try.func15, Try.ntmps15
           try go_wp2_with (first | ((with_reducible refine gate_dst (N := 2) rfl ?_); refine box_event ?hg (N := 2) ?hd (cs := #[.int .u8 0, .int .u16 0, .int .u16 0, .int .u16 0, .int .u16 0]) (t := 24) ?hr ?_; (case hd => rfl); (case hg => rfl); (case hr => first | (go_simp; done) | (go_simp; rfl)); intro gb166 hg w18 hbox hb; have n0_ := Aside0.mk (below_step (by repeat (first | (with_reducible first | exact HB.out | apply below_alloc | apply pw_below_drewN | apply below_drew1) | exact HB.out)) hb); have n1_ := Aside0.mk (hbox); have n2_ := Aside0.mk ((by rw [hg]; exact (below_size (by repeat (first | (with_reducible first | exact HB.out | apply below_alloc | apply pw_below_drewN | apply below_drew1) | exact HB.out))) : w.heap.size ≤ gb166)); have n3_ := Aside0.mk ((by rw [hg]; exact (below_size (by repeat (first | (with_reducible first | exact HB.out | apply below_alloc | apply pw_below_drewN | apply below_drew1) | exact HB.out))) : w.heap.size ≤ gb166)); clear HB; have HB := n0_; have BK166 := n1_; have GW166 := n2_; have GE166 := n3_; clear n0_ n1_ n2_ n3_; clear hb hbox hg; have p167 : 0 ≤ (0 : Int) := (by omega); have q167 : 0 < (l0.length : Int) := of_decide_eq_true (by first | (with_reducible assumption) | assumption); obtain ⟨ad167, e167, hx167_0⟩ := Kd.at_int HR0.out 0 p167 q167; cases e167; have qi167 : (0 < l0.length) = True := eq_true (by omega); (try rw [show ((0 : Int)).toNat = 0 from rfl] at hx167_0); (try rw [Addr.add_zero'] at hx167_0); replace hx167_0 := (HB.out.cell (World.block_lt_of_cell? w _ hx167_0)).trans hx167_0; replace p167 := eq_true p167; replace q167 := eq_true q167) | ((with_reducible refine gate_callee (f := 24) rfl ?_); refine goesL_ (some 19) rfl rfl Try.func24 (by kernel_rfl) rfl #[.slice (some ad167) l0.length c0] rfl (by (try simp only [List.map_toArray, List.map_cons, List.map_nil]); first | done | rfl | (simp only [List.length_drop, List.length_take]; rfl)) ?_; (with_reducible refine (crc_Sum.calls k _ _ l0 t168 _ ?side1 ?side2 A5.out).mono ?_); (case side1 => repeat (first | exact (Kd.C_below HR0.out HB.out) | (with_reducible refine Kd.C_alloc ?_ _) | (with_reducible refine Kd.C_drewN ?_ _) | (with_reducible refine Kd.C_drew ?_))); (case side2 => exact HC0.out); rintro e w' ⟨rfl, ⟨nd, rfl⟩⟩; refine ⟨_, rfl, ?_⟩; (try (rw [drewN_self w18]; generalize hq_ : World.drewN w18 _ = w18; have n0_ : Aside0 (w18.heap[gb166]? = some (.cells #[.int .u8 0, .int .u16 0, .int .u16 0, .int .u16 0, .int .u16 0] 24 (0, 0))) := ⟨by rw [← hq_]; exact (by (with_reducible repeat (first | refine blk_drewN ?_ _ | refine blk_drew ?_ | refine blk_alloc ?_ _)); exact BK166.out)⟩; have n1_ : Aside0 (Below w.heap.size w w18) := ⟨by rw [← hq_]; exact (by repeat (first | (with_reducible first | exact HB.out | apply below_alloc | apply pw_below_drewN | apply below_drew1 | refine below_set ?_ GE166.out) | exact HB.out))⟩; clear BK166 HB hq_; have BK166 := n0_; have HB := n1_; clear n0_ n1_))))
           have n0_ := Aside0.mk (blk_drew BK166.out)
           have n1_ := Aside0.mk (below_drew1 HB.out)
           clear BK166
           clear HB
           have BK166 := n0_
           have HB := n1_
           clear n0_ n1_
           have p169 : 0 ≤ (1 : Int) := (by omega)
           have q169 : 1 < (l0.length : Int) := of_decide_eq_true (by first | (with_reducible assumption) | assumption)
           obtain ⟨ad169, e169, hx169_0⟩ := Kd.at_int HR0.out 1 p169 q169
           have hw169_0 := hx169_0
           (try rw [show ((1 : Int)).toNat = 1 from rfl] at hw169_0)
           (try rw [show 1 * 1 = 1 from rfl] at hw169_0)
           (try simp only [Nat.reduceMul, Nat.reduceEqDiff, Go.Addr.add, ↓reduceIte] at hw169_0)
           obtain rfl : ad167 = ad169 := (by injection e169)
           (try simp only [show (1 : Int).toNat = 1 from rfl, Nat.reduceMul, Nat.reduceEqDiff, Go.Addr.add, ↓reduceIte] at hx169_0)
           have qi169 : (1 < l0.length) = True := eq_true (by omega)
           (try rw [show ((1 : Int)).toNat = 1 from rfl] at hx169_0)
           replace hx169_0 := (HB.out.cell (World.block_lt_of_cell? w _ hx169_0)).trans hx169_0
           replace p169 := eq_true p169
           replace q169 := eq_true q169
           obtain ⟨i020, hi020, _, hsz20, _⟩ := info_parts info5
           obtain ⟨A20, hcut20, hA20, hC20⟩ := print_drop_of (P := Try.prog) (Value.int .u8) 0 26 5 .i64 Try.underlying26 hi020 hsz20 (some ad167) c0 l0 2 (by omega) (of_decide_eq_true (by first | (with_reducible assumption) | assumption)) HC0.out
           have HR170 := Aside0.mk (Kd.C_of_reads (h1 := fun _ => rfl) (hA20 _ (Kd.reads_of_C HR0.out)))
           have HC170 := Aside0.mk hC20
           clear hA20 hC20 hi020 hsz20
           obtain ⟨i021, hi021, _, hsz21, _⟩ := info_parts info5
           obtain ⟨A21, hcut21, hA21, hC21⟩ := print_drop_of (P := Try.prog) (Value.int .u8) 0 26 5 .i64 Try.underlying26 hi021 hsz21 (some ad167) c0 l0 4 (by omega) (of_decide_eq_true (by first | (with_reducible assumption) | assumption)) HC0.out
           have HR172 := Aside0.mk (Kd.C_of_reads (h1 := fun _ => rfl) (hA21 _ (Kd.reads_of_C HR0.out)))
           have HC172 := Aside0.mk hC21
           clear hA21 hC21 hi021 hsz21
           obtain ⟨i022, hi022, _, hsz22, _⟩ := info_parts info5
           obtain ⟨A22, hcut22, hA22, hC22⟩ := print_drop_of (P := Try.prog) (Value.int .u8) 0 26 5 .i64 Try.underlying26 hi022 hsz22 (some ad167) c0 l0 6 (by omega) (of_decide_eq_true (by first | (with_reducible assumption) | assumption)) HC0.out
           have HR174 := Aside0.mk (Kd.C_of_reads (h1 := fun _ => rfl) (hA22 _ (Kd.reads_of_C HR0.out)))
           have HC174 := Aside0.mk hC22
           clear hA22 hC22 hi022 hsz22
           obtain ⟨i023, hi023, _, hsz23, _⟩ := info_parts info5
           obtain ⟨A23, hcut23, hA23, hC23⟩ := print_drop_of (P := Try.prog) (Value.int .u8) 0 26 5 .i64 Try.underlying26 hi023 hsz23 (some ad167) c0 l0 8 (by omega) (of_decide_eq_true (by first | (with_reducible assumption) | assumption)) HC0.out
           have HR176 := Aside0.mk (Kd.C_of_reads (h1 := fun _ => rfl) (hA23 _ (Kd.reads_of_C HR0.out)))
           have HC176 := Aside0.mk hC23
           clear hA23 hC23 hi023 hsz23
           refine start_ (n := 18) (S := fun w' => w'.cell? ⟨ad167.block, ad167.off + 1, none⟩ = some (.int .u8 (rd l0 1))) (ds := []) #[false, false, false, false, false, false, false, false, false, false, false, false, false, false, false, false, false, false] (by kernel_rfl) rfl rfl (((HB.out.cell (World.block_lt_of_cell? w _ hw169_0)).trans hw169_0)) (fun hHeld => ?_); refine with_tabW tele_Decode.tab7 tele_Decode.bits7 (fun HT_ HW_ => ?_)
           generalize w18.drew = w19 at BK166 HB HR170 HR172 HR174 HR176 hx169_0 hHeld ⊢
           refine pure_ (i := 0) (N := some 22) (v := ?_) (a' := ?_) #[true, false, false, false, false, false, false, false, false, false, false, false, false, false, false, false, false, false] rfl rfl (any_of HT_.out (by kernel_rfl)) (fun _ _ _ h => h) (Or.inl ⟨by rfl, ?_⟩) ?_ ?_
           rotate_left
           ·intro w'
            go_simp
            with_reducible rfl
           rotate_left
           ·simp only [Act.put, List.setIfInBounds_toArray, List.set_cons_zero, List.set_cons_succ, i64_w, i32_w]
            rfl
           refine pure_ (i := 1) (N := some 23) (v := ?_) (a' := ?_) #[true, true, false, false, false, false, false, false, false, false, false, false, false, false, false, false, false, false] rfl rfl (any_of HT_.out (by kernel_rfl)) (fun _ _ _ h => h) (Or.inl ⟨by rfl, ?_⟩) ?_ ?_
           rotate_left
           ·intro w'
            go_simp
            with_reducible rfl
           rotate_left
           ·simp only [Act.put, List.setIfInBounds_toArray, List.set_cons_zero, List.set_cons_succ, i64_w, i32_w]
            rfl
           refine pure_ (i := 3) (N := some 25) (v := ?_) (a' := ?_) #[true, true, false, true, false, false, false, false, false, false, false, false, false, false, false, false, false, false] rfl rfl (any_of HT_.out (by kernel_rfl)) (fun _ _ _ h => h) (Or.inl ⟨by rfl, ?_⟩) ?_ ?_
           rotate_left
           ·intro w'
            go_simp
            with_reducible rfl
           rotate_left
           ·simp only [Act.put, List.setIfInBounds_toArray, List.set_cons_zero, List.set_cons_succ, i64_w, i32_w]
            rfl
           refine pure_ (i := 4) (N := some 26) (v := ?_) (a' := ?_) #[true, true, false, true, true, false, false, false, false, false, false, false, false, false, false, false, false, false] rfl rfl (any_of HT_.out (by kernel_rfl)) (fun _ _ _ h => h) (Or.inl ⟨by rfl, ?_⟩) ?_ ?_
           rotate_left
           ·intro w'
            go_simp
            with_reducible rfl
           rotate_left
           ·simp only [Act.put, List.setIfInBounds_toArray, List.set_cons_zero, List.set_cons_succ, i64_w, i32_w]
            rfl
           refine pure_ (i := 6) (N := some 28) (v := ?_) (a' := ?_) #[true, true, false, true, true, false, true, false, false, false, false, false, false, false, false, false, false, false] rfl rfl (any_of HT_.out (by kernel_rfl)) (fun _ _ _ h => h) (Or.inl ⟨by rfl, ?_⟩) ?_ ?_
           rotate_left
           ·intro w'
            go_simp
            with_reducible rfl
           rotate_left
           ·simp only [Act.put, List.setIfInBounds_toArray, List.set_cons_zero, List.set_cons_succ, i64_w, i32_w]
            rfl
           refine pure_ (i := 7) (N := some 29) (v := ?_) (a' := ?_) #[true, true, false, true, true, false, true, true, false, false, false, false, false, false, false, false, false, false] rfl rfl (any_of HT_.out (by kernel_rfl)) (fun _ _ _ h => h) (Or.inl ⟨by rfl, ?_⟩) ?_ ?_
           rotate_left
           ·intro w'
            go_simp
            with_reducible rfl
           rotate_left
           ·simp only [Act.put, List.setIfInBounds_toArray, List.set_cons_zero, List.set_cons_succ, i64_w, i32_w]
            rfl
           refine pure_ (i := 9) (N := some 31) (v := ?_) (a' := ?_) #[true, true, false, true, true, false, true, true, false, true, false, false, false, false, false, false, false, false] rfl rfl (any_of HT_.out (by kernel_rfl)) (fun _ _ _ h => h) (Or.inl ⟨by rfl, ?_⟩) ?_ ?_
           rotate_left
           ·intro w'
            go_simp
            with_reducible rfl
           rotate_left
           ·simp only [Act.put, List.setIfInBounds_toArray, List.set_cons_zero, List.set_cons_succ, i64_w, i32_w]
            rfl
           refine pure_ (i := 10) (N := some 32) (v := ?_) (a' := ?_) #[true, true, false, true, true, false, true, true, false, true, true, false, false, false, false, false, false, false] rfl rfl (any_of HT_.out (by kernel_rfl)) (fun _ _ _ h => h) (Or.inl ⟨by rfl, ?_⟩) ?_ ?_
           rotate_left
           ·intro w'
            go_simp
            with_reducible rfl
           rotate_left
           ·simp only [Act.put, List.setIfInBounds_toArray, List.set_cons_zero, List.set_cons_succ, i64_w, i32_w]
            rfl
           refine pure_ (i := 12) (N := some 34) (v := ?_) (a' := ?_) #[true, true, false, true, true, false, true, true, false, true, true, false, true, false, false, false, false, false] rfl rfl (any_of HT_.out (by kernel_rfl)) (fun _ _ _ h => h) (Or.inl ⟨by rfl, ?_⟩) ?_ ?_
           rotate_left
           ·intro w'
            go_simp
            with_reducible rfl
           rotate_left
           ·simp only [Act.put, List.setIfInBounds_toArray, List.set_cons_zero, List.set_cons_succ, i64_w, i32_w]
            rfl
           refine pure_ (i := 13) (N := some 35) (v := ?_) (a' := ?_) #[true, true, false, true, true, false, true, true, false, true, true, false, true, true, false, false, false, false] rfl rfl (any_of HT_.out (by kernel_rfl)) (fun _ _ _ h => h) (Or.inl ⟨by rfl, ?_⟩) ?_ ?_
           rotate_left
           ·intro w'
            go_simp
            with_reducible rfl
           rotate_left
           ·simp only [Act.put, List.setIfInBounds_toArray, List.set_cons_zero, List.set_cons_succ, i64_w, i32_w]
            rfl
           refine take_ (i := 2) (N := some 24) (v := ?_) (a' := ?_) #[true, true, true, true, true, false, true, true, false, true, true, false, true, true, false, false, false, false] rfl rfl (take_ofW HT_.out HW_.out (by kernel_rfl)) (fun _ _ _ h => h) (Or.inl ⟨by rfl, ?_⟩) hHeld ?_ ?_
           rotate_left
           ·intro w' s0
            go_simp
            with_reducible rfl
           rotate_left
           ·simp only [Act.put, List.setIfInBounds_toArray, List.set_cons_zero, List.set_cons_succ, i64_w, i32_w]
            rfl
           refine join_ (σ := Nat) 1 #[true, true, true, true, true, true, true, true, true, true, true, true, true, true, true, true, true, false] (fun s_ => [(27, .int .u16 t171), (30, .int .u16 t173), (33, .int .u16 t175), (36, .int .u16 t177), (4, .pointer (some ⟨s_, 0, none⟩)), (37, .agg #[.int .u8 (rd l0 1), .int .u16 t171, .int .u16 t173, .int .u16 t175, .int .u16 t177])]) (fun s_ w' => (w'.cell? ⟨ad167.block, ad167.off + 1, none⟩ = some (.int .u8 (rd l0 1))) ∧ (w'.heap[gb166]? = some (.cells #[.int .u8 0, .int .u16 0, .int .u16 0, .int .u16 0, .int .u16 0] 24 (0, 0))) ∧ (w'.heap[s_]? = some (.cells #[.int .u8 0, .int .u16 0, .int .u16 0, .int .u16 0, .int .u16 0] 24 (0, 0))) ∧ (w.heap.size ≤ s_) ∧ (w.heap.size ≤ s_) ∧ (gb166 ≠ s_) ∧ (s_ ≠ gb166) ∧ (Below w.heap.size w w')) ?_ ?_
           rotate_left
           ·intro hJ5_8_11_14_16
            refine join_ (σ := Unit) 2 #[true, true, true, true, true, true, true, true, true, true, true, true, true, true, true, true, false, false] (fun s_ => [(27, .int .u16 t171), (30, .int .u16 t173), (33, .int .u16 t175), (36, .int .u16 t177), (37, .agg #[.int .u8 (rd l0 1), .int .u16 t171, .int .u16 t173, .int .u16 t175, .int .u16 t177])]) (fun s_ w' => (w'.cell? ⟨ad167.block, ad167.off + 1, none⟩ = some (.int .u8 (rd l0 1))) ∧ (w'.heap[gb166]? = some (.cells #[.int .u8 0, .int .u16 0, .int .u16 0, .int .u16 0, .int .u16 0] 24 (0, 0))) ∧ (Below w.heap.size w w')) ?_ ?_
            rotate_left
            ·intro hJ5_8_11_14
             refine join_ (σ := Nat) 3 #[true, true, true, true, true, true, true, true, true, true, true, true, true, true, false, false, true, false] (fun s_ => [(27, .int .u16 t171), (30, .int .u16 t173), (33, .int .u16 t175), (4, .pointer (some ⟨s_, 0, none⟩))]) (fun s_ w' => (w'.cell? ⟨ad167.block, ad167.off + 1, none⟩ = some (.int .u8 (rd l0 1))) ∧ (w'.heap[gb166]? = some (.cells #[.int .u8 0, .int .u16 0, .int .u16 0, .int .u16 0, .int .u16 0] 24 (0, 0))) ∧ (w'.heap[s_]? = some (.cells #[.int .u8 0, .int .u16 0, .int .u16 0, .int .u16 0, .int .u16 0] 24 (0, 0))) ∧ (w.heap.size ≤ s_) ∧ (w.heap.size ≤ s_) ∧ (gb166 ≠ s_) ∧ (s_ ≠ gb166) ∧ (Below w.heap.size w w')) ?_ ?_
             rotate_left
             ·intro hJ5_8_11_16
              refine join_ (σ := Unit) 4 #[true, true, true, true, true, true, true, true, true, true, true, true, true, true, false, false, false, false] (fun s_ => [(27, .int .u16 t171), (30, .int .u16 t173), (33, .int .u16 t175)]) (fun s_ w' => (w'.cell? ⟨ad167.block, ad167.off + 1, none⟩ = some (.int .u8 (rd l0 1))) ∧ (w'.heap[gb166]? = some (.cells #[.int .u8 0, .int .u16 0, .int .u16 0, .int .u16 0, .int .u16 0] 24 (0, 0))) ∧ (Below w.heap.size w w')) ?_ ?_
              rotate_left
              ·intro hJ5_8_11
               refine join_ (σ := Nat) 4 #[true, true, true, true, true, true, true, true, true, true, true, false, true, true, false, false, true, false] (fun s_ => [(27, .int .u16 t171), (30, .int .u16 t173), (4, .pointer (some ⟨s_, 0, none⟩))]) (fun s_ w' => (w'.cell? ⟨ad167.block, ad167.off + 1, none⟩ = some (.int .u8 (rd l0 1))) ∧ (w'.heap[gb166]? = some (.cells #[.int .u8 0, .int .u16 0, .int .u16 0, .int .u16 0, .int .u16 0] 24 (0, 0))) ∧ (w'.heap[s_]? = some (.cells #[.int .u8 0, .int .u16 0, .int .u16 0, .int .u16 0, .int .u16 0] 24 (0, 0))) ∧ (w.heap.size ≤ s_) ∧ (w.heap.size ≤ s_) ∧ (gb166 ≠ s_) ∧ (s_ ≠ gb166) ∧ (Below w.heap.size w w')) ?_ ?_
               rotate_left
               ·intro hJ5_8_16
                refine join_ (σ := Unit) 5 #[true, true, true, true, true, true, true, true, true, true, true, false, true, true, false, false, false, false] (fun s_ => [(27, .int .u16 t171), (30, .int .u16 t173)]) (fun s_ w' => (w'.cell? ⟨ad167.block, ad167.off + 1, none⟩ = some (.int .u8 (rd l0 1))) ∧ (w'.heap[gb166]? = some (.cells #[.int .u8 0, .int .u16 0, .int .u16 0, .int .u16 0, .int .u16 0] 24 (0, 0))) ∧ (Below w.heap.size w w')) ?_ ?_
                rotate_left
                ·intro hJ5_8
                 refine join_ (σ := Nat) 5 #[true, true, true, true, true, true, true, true, false, true, true, false, true, true, false, false, true, false] (fun s_ => [(27, .int .u16 t171), (4, .pointer (some ⟨s_, 0, none⟩))]) (fun s_ w' => (w'.cell? ⟨ad167.block, ad167.off + 1, none⟩ = some (.int .u8 (rd l0 1))) ∧ (w'.heap[gb166]? = some (.cells #[.int .u8 0, .int .u16 0, .int .u16 0, .int .u16 0, .int .u16 0] 24 (0, 0))) ∧ (w'.heap[s_]? = some (.cells #[.int .u8 0, .int .u16 0, .int .u16 0, .int .u16 0, .int .u16 0] 24 (0, 0))) ∧ (w.heap.size ≤ s_) ∧ (w.heap.size ≤ s_) ∧ (gb166 ≠ s_) ∧ (s_ ≠ gb166) ∧ (Below w.heap.size w w')) ?_ ?_
                 rotate_left
                 ·intro hJ5_16
                  refine join_ (σ := Unit) 6 #[true, true, true, true, true, true, true, true, false, true, true, false, true, true, false, false, false, false] (fun s_ => [(27, .int .u16 t171)]) (fun s_ w' => (w'.cell? ⟨ad167.block, ad167.off + 1, none⟩ = some (.int .u8 (rd l0 1))) ∧ (w'.heap[gb166]? = some (.cells #[.int .u8 0, .int .u16 0, .int .u16 0, .int .u16 0, .int .u16 0] 24 (0, 0))) ∧ (Below w.heap.size w w')) ?_ ?_
                  rotate_left
                  ·intro hJ5
                   refine join_ (σ := Nat) 6 #[true, true, true, true, true, false, true, true, false, true, true, false, true, true, false, false, true, false] (fun s_ => [(4, .pointer (some ⟨s_, 0, none⟩))]) (fun s_ w' => (w'.cell? ⟨ad167.block, ad167.off + 1, none⟩ = some (.int .u8 (rd l0 1))) ∧ (w'.heap[gb166]? = some (.cells #[.int .u8 0, .int .u16 0, .int .u16 0, .int .u16 0, .int .u16 0] 24 (0, 0))) ∧ (w'.heap[s_]? = some (.cells #[.int .u8 0, .int .u16 0, .int .u16 0, .int .u16 0, .int .u16 0] 24 (0, 0))) ∧ (w.heap.size ≤ s_) ∧ (w.heap.size ≤ s_) ∧ (gb166 ≠ s_) ∧ (s_ ≠ gb166) ∧ (Below w.heap.size w w')) ?_ ?_
                   rotate_left
                   ·intro hJ16
                    refine two_ (i := 5) (j := 16) (Ni := some 27) (Nj := some 4) #[true, true, true, true, true, true, true, true, false, true, true, false, true, true, false, false, false, false] #[true, true, true, true, true, false, true, true, false, true, true, false, true, true, false, false, true, false] rfl rfl rfl rfl (two_of HT_.out (by kernel_rfl)) (by decide) (by decide) (fun K hK => ?_) (fun K hK => ?_)
                    ·skip
                     refine goes_ Try.func26 (by kernel_rfl) rfl #[.slice A20 (l0.drop 2).length (c0 - 2)] (by rfl) rfl rfl (by (try simp only [List.map_toArray, List.map_cons, List.map_nil]); first | done | (rw [show (l0.drop 2).length = (l0.length - 2) from List.length_drop] <;> rfl) | rfl | (simp only [List.length_drop, List.length_take]; rfl)) ?_
                     with_reducible refine (tele_word.calls _ _ (l0.drop 2) t171 _ ?side1 ?side2 A9.out).mono ?_
                     (case side1 => repeat (first | exact (Kd.C_below HR170.out HB.out) | (with_reducible refine Kd.C_alloc ?_ _) | (with_reducible refine Kd.C_drewN ?_ _) | (with_reducible refine Kd.C_drew ?_)))
                     (case side2 => exact HC170.out)
                     rintro e w' ⟨rfl, ⟨nd, rfl⟩⟩
                     refine ⟨_, rfl, ?_⟩
                     refine hK.out _ _ (((HB.out.cell (World.block_lt_of_cell? w _ hw169_0)).trans hw169_0)) (fun hHeld => ?_)
                     clear hK K
                     refine norm_ (a' := ?_) ?_ ?_
                     rotate_left
                     ·show Act.put _ (some 27) _ = _
                      simp only [Act.put, List.setIfInBounds_toArray, List.set_cons_zero, List.set_cons_succ, i64_w, i32_w]
                      rfl
                     exact norm_ (by first | (simp only [putAll, Act.put, List.setIfInBounds_toArray, List.set_cons_zero, List.set_cons_succ]; done) | (simp only [putAll, Act.put, List.setIfInBounds_toArray, List.set_cons_zero, List.set_cons_succ]; rfl)) (hJ5 () _ ⟨hHeld, (by (with_reducible repeat (first | refine blk_drewN ?_ _ | refine blk_drew ?_ | refine blk_alloc ?_ _)); exact BK166.out), (by repeat (first | (with_reducible first | exact HB.out | apply below_alloc | apply pw_below_drewN | apply below_drew1 | refine below_set ?_ GE166.out) | exact HB.out))⟩)
                    ·skip
                     refine box_step ?hg (N := 4) ?hd (cs := #[.int .u8 0, .int .u16 0, .int .u16 0, .int .u16 0, .int .u16 0]) (t := 24) ?hr ?_; (case hd => rfl); (case hg => rfl); (case hr => first | (go_simp; done) | (go_simp; rfl))
                     intro gb178 hg w24 hbox hb
                     have n0_ := Aside0.mk (blk_below (g := gb166) (o := .cells #[.int .u8 0, .int .u16 0, .int .u16 0, .int .u16 0, .int .u16 0] 24 (0, 0)) (by (with_reducible repeat (first | refine blk_drewN ?_ _ | refine blk_drew ?_ | refine blk_alloc ?_ _)); exact BK166.out) hb)
                     have n1_ := Aside0.mk (below_step (by repeat (first | (with_reducible first | exact HB.out | apply below_alloc | apply pw_below_drewN | apply below_drew1 | refine below_set ?_ GE166.out) | exact HB.out)) hb)
                     have n2_ := Aside0.mk (hbox)
                     have n3_ := Aside0.mk ((by rw [hg]; exact (below_size (by repeat (first | (with_reducible first | exact HB.out | apply below_alloc | apply pw_below_drewN | apply below_drew1 | refine below_set ?_ GE166.out) | exact HB.out))) : w.heap.size ≤ gb178))
                     have n4_ := Aside0.mk ((by rw [hg]; exact (below_size (by repeat (first | (with_reducible first | exact HB.out | apply below_alloc | apply pw_below_drewN | apply below_drew1 | refine below_set ?_ GE166.out) | exact HB.out))) : w.heap.size ≤ gb178))
                     have n5_ := Aside0.mk ((by rw [hg]; exact Nat.ne_of_lt (blk_lt (g := gb166) (o := .cells #[.int .u8 0, .int .u16 0, .int .u16 0, .int .u16 0, .int .u16 0] 24 (0, 0)) (by (with_reducible repeat (first | refine blk_drewN ?_ _ | refine blk_drew ?_ | refine blk_alloc ?_ _)); exact BK166.out)) : gb166 ≠ gb178))
                     have n6_ := Aside0.mk ((by rw [hg]; exact Nat.ne_of_gt (blk_lt (g := gb166) (o := .cells #[.int .u8 0, .int .u16 0, .int .u16 0, .int .u16 0, .int .u16 0] 24 (0, 0)) (by (with_reducible repeat (first | refine blk_drewN ?_ _ | refine blk_drew ?_ | refine blk_alloc ?_ _)); exact BK166.out)) : gb178 ≠ gb166))
                     clear BK166
                     clear HB
                     have BK166 := n0_
                     have HB := n1_
                     have BK178 := n2_
                     have GW178 := n3_
                     have GE178 := n4_
                     have NB166_178 := n5_
                     have NB178_166 := n6_
                     clear n0_ n1_ n2_ n3_ n4_ n5_ n6_
                     clear hb hbox hg
                     refine hK.out _ _ (((HB.out.cell (World.block_lt_of_cell? w _ hw169_0)).trans hw169_0)) (fun hHeld => ?_)
                     clear hK K
                     refine norm_ (a' := ?_) ?_ ?_
                     rotate_left
                     ·show Act.put _ (some 4) _ = _
                      simp only [Act.put, List.setIfInBounds_toArray, List.set_cons_zero, List.set_cons_succ, i64_w, i32_w]
                      rfl
                     exact norm_ (by first | (simp only [putAll, Act.put, List.setIfInBounds_toArray, List.set_cons_zero, List.set_cons_succ]; done) | (simp only [putAll, Act.put, List.setIfInBounds_toArray, List.set_cons_zero, List.set_cons_succ]; rfl)) (hJ16 (gb178) _ ⟨hHeld, (by (with_reducible repeat (first | refine blk_drewN ?_ _ | refine blk_drew ?_ | refine blk_alloc ?_ _)); exact BK166.out), (by (with_reducible repeat (first | refine blk_drewN ?_ _ | refine blk_drew ?_ | refine blk_alloc ?_ _)); exact BK178.out), GW178.out, GE178.out, NB166_178.out, NB178_166.out, (by repeat (first | (with_reducible first | exact HB.out | apply below_alloc | apply pw_below_drewN | apply below_drew1 | refine below_set ?_ GE166.out | refine below_set ?_ GE178.out) | exact HB.out))⟩)
                   ·skip
                    rintro gb178 w25 ⟨hS_, h0_, h1_, h2_, h3_, h4_, h5_, h6_⟩
                    have n0_ : Aside0 (w25.heap[gb166]? = some (.cells #[.int .u8 0, .int .u16 0, .int .u16 0, .int .u16 0, .int .u16 0] 24 (0, 0))) := ⟨h0_⟩
                    have n1_ : Aside0 (w25.heap[gb178]? = some (.cells #[.int .u8 0, .int .u16 0, .int .u16 0, .int .u16 0, .int .u16 0] 24 (0, 0))) := ⟨h1_⟩
                    have n2_ : Aside0 (w.heap.size ≤ gb178) := ⟨h2_⟩
                    have n3_ : Aside0 (w.heap.size ≤ gb178) := ⟨h3_⟩
                    have n4_ : Aside0 (gb166 ≠ gb178) := ⟨h4_⟩
                    have n5_ : Aside0 (gb178 ≠ gb166) := ⟨h5_⟩
                    have n6_ : Aside0 (Below w.heap.size w w25) := ⟨h6_⟩
                    clear BK166
                    clear HB
                    clear h0_ h1_ h2_ h3_ h4_ h5_ h6_
                    have BK166 := n0_
                    have BK178 := n1_
                    have GW178 := n2_
                    have GE178 := n3_
                    have NB166_178 := n4_
                    have NB178_166 := n5_
                    have HB := n6_
                    clear n0_ n1_ n2_ n3_ n4_ n5_ n6_
                    have hHeld : w25.cell? ⟨ad167.block, ad167.off + 1, none⟩ = some (.int .u8 (rd l0 1)) := hS_
                    refine norm_ (a' := ?_) ?_ ?_
                    rotate_left
                    ·simp only [putAll, Act.put, List.setIfInBounds_toArray, List.set_cons_zero, List.set_cons_succ]
                     rfl
                    refine one_ (i := 5) (N := some 27) #[true, true, true, true, true, true, true, true, false, true, true, false, true, true, false, false, true, false] rfl rfl (one_of HT_.out (by kernel_rfl)) (by decide) (fun K hK => ?_)
                    refine goes_ Try.func26 (by kernel_rfl) rfl #[.slice A20 (l0.drop 2).length (c0 - 2)] (by rfl) rfl rfl (by (try simp only [List.map_toArray, List.map_cons, List.map_nil]); first | done | (rw [show (l0.drop 2).length = (l0.length - 2) from List.length_drop] <;> rfl) | rfl | (simp only [List.length_drop, List.length_take]; rfl)) ?_
                    with_reducible refine (tele_word.calls _ _ (l0.drop 2) t171 _ ?side1 ?side2 A9.out).mono ?_
                    (case side1 => repeat (first | exact (Kd.C_below HR170.out HB.out) | (with_reducible refine Kd.C_alloc ?_ _) | (with_reducible refine Kd.C_drewN ?_ _) | (with_reducible refine Kd.C_drew ?_)))
                    (case side2 => exact HC170.out)
                    rintro e w' ⟨rfl, ⟨nd, rfl⟩⟩
                    refine ⟨_, rfl, ?_⟩
                    refine hK.out _ _ (((HB.out.cell (World.block_lt_of_cell? w _ hw169_0)).trans hw169_0)) (fun hHeld => ?_)
                    clear hK K
                    refine norm_ (a' := ?_) ?_ ?_
                    rotate_left
                    ·show Act.put _ (some 27) _ = _
                     simp only [Act.put, List.setIfInBounds_toArray, List.set_cons_zero, List.set_cons_succ, i64_w, i32_w]
                     rfl
                    exact norm_ (by first | (simp only [putAll, Act.put, List.setIfInBounds_toArray, List.set_cons_zero, List.set_cons_succ]; done) | (simp only [putAll, Act.put, List.setIfInBounds_toArray, List.set_cons_zero, List.set_cons_succ]; rfl)) (hJ5_16 (gb178) _ ⟨hHeld, (by (with_reducible repeat (first | refine blk_drewN ?_ _ | refine blk_drew ?_ | refine blk_alloc ?_ _)); exact BK166.out), (by (with_reducible repeat (first | refine blk_drewN ?_ _ | refine blk_drew ?_ | refine blk_alloc ?_ _)); exact BK178.out), GW178.out, GE178.out, NB166_178.out, NB178_166.out, (by repeat (first | (with_reducible first | exact HB.out | apply below_alloc | apply pw_below_drewN | apply below_drew1 | refine below_set ?_ GE166.out | refine below_set ?_ GE178.out) | exact HB.out))⟩)
                  ·skip
                   rintro _ w24 ⟨hS_, h0_, h1_⟩
                   have n0_ : Aside0 (w24.heap[gb166]? = some (.cells #[.int .u8 0, .int .u16 0, .int .u16 0, .int .u16 0, .int .u16 0] 24 (0, 0))) := ⟨h0_⟩
                   have n1_ : Aside0 (Below w.heap.size w w24) := ⟨h1_⟩
                   clear BK166
                   clear HB
                   clear h0_ h1_
                   have BK166 := n0_
                   have HB := n1_
                   clear n0_ n1_
                   have hHeld : w24.cell? ⟨ad167.block, ad167.off + 1, none⟩ = some (.int .u8 (rd l0 1)) := hS_
                   refine norm_ (a' := ?_) ?_ ?_
                   rotate_left
                   ·simp only [putAll, Act.put, List.setIfInBounds_toArray, List.set_cons_zero, List.set_cons_succ]
                    rfl
                   refine two_ (i := 8) (j := 16) (Ni := some 30) (Nj := some 4) #[true, true, true, true, true, true, true, true, true, true, true, false, true, true, false, false, false, false] #[true, true, true, true, true, true, true, true, false, true, true, false, true, true, false, false, true, false] rfl rfl rfl rfl (two_of HT_.out (by kernel_rfl)) (by decide) (by decide) (fun K hK => ?_) (fun K hK => ?_)
                   ·skip
                    refine goes_ Try.func26 (by kernel_rfl) rfl #[.slice A21 (l0.drop 4).length (c0 - 4)] (by rfl) rfl rfl (by (try simp only [List.map_toArray, List.map_cons, List.map_nil]); first | done | (rw [show (l0.drop 4).length = (l0.length - 4) from List.length_drop] <;> rfl) | rfl | (simp only [List.length_drop, List.length_take]; rfl)) ?_
                    with_reducible refine (tele_word.calls _ _ (l0.drop 4) t173 _ ?side1 ?side2 A11.out).mono ?_
                    (case side1 => repeat (first | exact (Kd.C_below HR172.out HB.out) | (with_reducible refine Kd.C_alloc ?_ _) | (with_reducible refine Kd.C_drewN ?_ _) | (with_reducible refine Kd.C_drew ?_)))
                    (case side2 => exact HC172.out)
                    rintro e w' ⟨rfl, ⟨nd, rfl⟩⟩
                    refine ⟨_, rfl, ?_⟩
                    refine hK.out _ _ (((HB.out.cell (World.block_lt_of_cell? w _ hw169_0)).trans hw169_0)) (fun hHeld => ?_)
                    clear hK K
                    refine norm_ (a' := ?_) ?_ ?_
                    rotate_left
                    ·show Act.put _ (some 30) _ = _
                     simp only [Act.put, List.setIfInBounds_toArray, List.set_cons_zero, List.set_cons_succ, i64_w, i32_w]
                     rfl
                    exact norm_ (by first | (simp only [putAll, Act.put, List.setIfInBounds_toArray, List.set_cons_zero, List.set_cons_succ]; done) | (simp only [putAll, Act.put, List.setIfInBounds_toArray, List.set_cons_zero, List.set_cons_succ]; rfl)) (hJ5_8 () _ ⟨hHeld, (by (with_reducible repeat (first | refine blk_drewN ?_ _ | refine blk_drew ?_ | refine blk_alloc ?_ _)); exact BK166.out), (by repeat (first | (with_reducible first | exact HB.out | apply below_alloc | apply pw_below_drewN | apply below_drew1 | refine below_set ?_ GE166.out) | exact HB.out))⟩)
                   ·skip
                    refine box_step ?hg (N := 4) ?hd (cs := #[.int .u8 0, .int .u16 0, .int .u16 0, .int .u16 0, .int .u16 0]) (t := 24) ?hr ?_; (case hd => rfl); (case hg => rfl); (case hr => first | (go_simp; done) | (go_simp; rfl))
                    intro gb178 hg w25 hbox hb
                    have n0_ := Aside0.mk (blk_below (g := gb166) (o := .cells #[.int .u8 0, .int .u16 0, .int .u16 0, .int .u16 0, .int .u16 0] 24 (0, 0)) (by (with_reducible repeat (first | refine blk_drewN ?_ _ | refine blk_drew ?_ | refine blk_alloc ?_ _)); exact BK166.out) hb)
                    have n1_ := Aside0.mk (below_step (by repeat (first | (with_reducible first | exact HB.out | apply below_alloc | apply pw_below_drewN | apply below_drew1 | refine below_set ?_ GE166.out) | exact HB.out)) hb)
                    have n2_ := Aside0.mk (hbox)
                    have n3_ := Aside0.mk ((by rw [hg]; exact (below_size (by repeat (first | (with_reducible first | exact HB.out | apply below_alloc | apply pw_below_drewN | apply below_drew1 | refine below_set ?_ GE166.out) | exact HB.out))) : w.heap.size ≤ gb178))
                    have n4_ := Aside0.mk ((by rw [hg]; exact (below_size (by repeat (first | (with_reducible first | exact HB.out | apply below_alloc | apply pw_below_drewN | apply below_drew1 | refine below_set ?_ GE166.out) | exact HB.out))) : w.heap.size ≤ gb178))
                    have n5_ := Aside0.mk ((by rw [hg]; exact Nat.ne_of_lt (blk_lt (g := gb166) (o := .cells #[.int .u8 0, .int .u16 0, .int .u16 0, .int .u16 0, .int .u16 0] 24 (0, 0)) (by (with_reducible repeat (first | refine blk_drewN ?_ _ | refine blk_drew ?_ | refine blk_alloc ?_ _)); exact BK166.out)) : gb166 ≠ gb178))
                    have n6_ := Aside0.mk ((by rw [hg]; exact Nat.ne_of_gt (blk_lt (g := gb166) (o := .cells #[.int .u8 0, .int .u16 0, .int .u16 0, .int .u16 0, .int .u16 0] 24 (0, 0)) (by (with_reducible repeat (first | refine blk_drewN ?_ _ | refine blk_drew ?_ | refine blk_alloc ?_ _)); exact BK166.out)) : gb178 ≠ gb166))
                    clear BK166
                    clear HB
                    have BK166 := n0_
                    have HB := n1_
                    have BK178 := n2_
                    have GW178 := n3_
                    have GE178 := n4_
                    have NB166_178 := n5_
                    have NB178_166 := n6_
                    clear n0_ n1_ n2_ n3_ n4_ n5_ n6_
                    clear hb hbox hg
                    refine hK.out _ _ (((HB.out.cell (World.block_lt_of_cell? w _ hw169_0)).trans hw169_0)) (fun hHeld => ?_)
                    clear hK K
                    refine norm_ (a' := ?_) ?_ ?_
                    rotate_left
                    ·show Act.put _ (some 4) _ = _
                     simp only [Act.put, List.setIfInBounds_toArray, List.set_cons_zero, List.set_cons_succ, i64_w, i32_w]
                     rfl
                    exact norm_ (by first | (simp only [putAll, Act.put, List.setIfInBounds_toArray, List.set_cons_zero, List.set_cons_succ]; done) | (simp only [putAll, Act.put, List.setIfInBounds_toArray, List.set_cons_zero, List.set_cons_succ]; rfl)) (hJ5_16 (gb178) _ ⟨hHeld, (by (with_reducible repeat (first | refine blk_drewN ?_ _ | refine blk_drew ?_ | refine blk_alloc ?_ _)); exact BK166.out), (by (with_reducible repeat (first | refine blk_drewN ?_ _ | refine blk_drew ?_ | refine blk_alloc ?_ _)); exact BK178.out), GW178.out, GE178.out, NB166_178.out, NB178_166.out, (by repeat (first | (with_reducible first | exact HB.out | apply below_alloc | apply pw_below_drewN | apply below_drew1 | refine below_set ?_ GE166.out | refine below_set ?_ GE178.out) | exact HB.out))⟩)
                 ·skip
                  rintro gb178 w25 ⟨hS_, h0_, h1_, h2_, h3_, h4_, h5_, h6_⟩
                  have n0_ : Aside0 (w25.heap[gb166]? = some (.cells #[.int .u8 0, .int .u16 0, .int .u16 0, .int .u16 0, .int .u16 0] 24 (0, 0))) := ⟨h0_⟩
                  have n1_ : Aside0 (w25.heap[gb178]? = some (.cells #[.int .u8 0, .int .u16 0, .int .u16 0, .int .u16 0, .int .u16 0] 24 (0, 0))) := ⟨h1_⟩
                  have n2_ : Aside0 (w.heap.size ≤ gb178) := ⟨h2_⟩
                  have n3_ : Aside0 (w.heap.size ≤ gb178) := ⟨h3_⟩
                  have n4_ : Aside0 (gb166 ≠ gb178) := ⟨h4_⟩
                  have n5_ : Aside0 (gb178 ≠ gb166) := ⟨h5_⟩
                  have n6_ : Aside0 (Below w.heap.size w w25) := ⟨h6_⟩
                  clear BK166
                  clear HB
                  clear h0_ h1_ h2_ h3_ h4_ h5_ h6_
                  have BK166 := n0_
                  have BK178 := n1_
                  have GW178 := n2_
                  have GE178 := n3_
                  have NB166_178 := n4_
                  have NB178_166 := n5_
                  have HB := n6_
                  clear n0_ n1_ n2_ n3_ n4_ n5_ n6_
                  have hHeld : w25.cell? ⟨ad167.block, ad167.off + 1, none⟩ = some (.int .u8 (rd l0 1)) := hS_
                  refine norm_ (a' := ?_) ?_ ?_
                  rotate_left
                  ·simp only [putAll, Act.put, List.setIfInBounds_toArray, List.set_cons_zero, List.set_cons_succ]
                   rfl
                  refine one_ (i := 8) (N := some 30) #[true, true, true, true, true, true, true, true, true, true, true, false, true, true, false, false, true, false] rfl rfl (one_of HT_.out (by kernel_rfl)) (by decide) (fun K hK => ?_)
                  refine goes_ Try.func26 (by kernel_rfl) rfl #[.slice A21 (l0.drop 4).length (c0 - 4)] (by rfl) rfl rfl (by (try simp only [List.map_toArray, List.map_cons, List.map_nil]); first | done | (rw [show (l0.drop 4).length = (l0.length - 4) from List.length_drop] <;> rfl) | rfl | (simp only [List.length_drop, List.length_take]; rfl)) ?_
                  with_reducible refine (tele_word.calls _ _ (l0.drop 4) t173 _ ?side1 ?side2 A11.out).mono ?_
                  (case side1 => repeat (first | exact (Kd.C_below HR172.out HB.out) | (with_reducible refine Kd.C_alloc ?_ _) | (with_reducible refine Kd.C_drewN ?_ _) | (with_reducible refine Kd.C_drew ?_)))
                  (case side2 => exact HC172.out)
                  rintro e w' ⟨rfl, ⟨nd, rfl⟩⟩
                  refine ⟨_, rfl, ?_⟩
                  refine hK.out _ _ (((HB.out.cell (World.block_lt_of_cell? w _ hw169_0)).trans hw169_0)) (fun hHeld => ?_)
                  clear hK K
                  refine norm_ (a' := ?_) ?_ ?_
                  rotate_left
                  ·show Act.put _ (some 30) _ = _
                   simp only [Act.put, List.setIfInBounds_toArray, List.set_cons_zero, List.set_cons_succ, i64_w, i32_w]
                   rfl
                  exact norm_ (by first | (simp only [putAll, Act.put, List.setIfInBounds_toArray, List.set_cons_zero, List.set_cons_succ]; done) | (simp only [putAll, Act.put, List.setIfInBounds_toArray, List.set_cons_zero, List.set_cons_succ]; rfl)) (hJ5_8_16 (gb178) _ ⟨hHeld, (by (with_reducible repeat (first | refine blk_drewN ?_ _ | refine blk_drew ?_ | refine blk_alloc ?_ _)); exact BK166.out), (by (with_reducible repeat (first | refine blk_drewN ?_ _ | refine blk_drew ?_ | refine blk_alloc ?_ _)); exact BK178.out), GW178.out, GE178.out, NB166_178.out, NB178_166.out, (by repeat (first | (with_reducible first | exact HB.out | apply below_alloc | apply pw_below_drewN | apply below_drew1 | refine below_set ?_ GE166.out | refine below_set ?_ GE178.out) | exact HB.out))⟩)
                ·skip
                 rintro _ w24 ⟨hS_, h0_, h1_⟩
                 have n0_ : Aside0 (w24.heap[gb166]? = some (.cells #[.int .u8 0, .int .u16 0, .int .u16 0, .int .u16 0, .int .u16 0] 24 (0, 0))) := ⟨h0_⟩
                 have n1_ : Aside0 (Below w.heap.size w w24) := ⟨h1_⟩
                 clear BK166
                 clear HB
                 clear h0_ h1_
                 have BK166 := n0_
                 have HB := n1_
                 clear n0_ n1_
                 have hHeld : w24.cell? ⟨ad167.block, ad167.off + 1, none⟩ = some (.int .u8 (rd l0 1)) := hS_
                 refine norm_ (a' := ?_) ?_ ?_
                 rotate_left
                 ·simp only [putAll, Act.put, List.setIfInBounds_toArray, List.set_cons_zero, List.set_cons_succ]
                  rfl
                 refine two_ (i := 11) (j := 16) (Ni := some 33) (Nj := some 4) #[true, true, true, true, true, true, true, true, true, true, true, true, true, true, false, false, false, false] #[true, true, true, true, true, true, true, true, true, true, true, false, true, true, false, false, true, false] rfl rfl rfl rfl (two_of HT_.out (by kernel_rfl)) (by decide) (by decide) (fun K hK => ?_) (fun K hK => ?_)
                 ·skip
                  refine goes_ Try.func26 (by kernel_rfl) rfl #[.slice A22 (l0.drop 6).length (c0 - 6)] (by rfl) rfl rfl (by (try simp only [List.map_toArray, List.map_cons, List.map_nil]); first | done | (rw [show (l0.drop 6).length = (l0.length - 6) from List.length_drop] <;> rfl) | rfl | (simp only [List.length_drop, List.length_take]; rfl)) ?_
                  with_reducible refine (tele_word.calls _ _ (l0.drop 6) t175 _ ?side1 ?side2 A13.out).mono ?_
                  (case side1 => repeat (first | exact (Kd.C_below HR174.out HB.out) | (with_reducible refine Kd.C_alloc ?_ _) | (with_reducible refine Kd.C_drewN ?_ _) | (with_reducible refine Kd.C_drew ?_)))
                  (case side2 => exact HC174.out)
                  rintro e w' ⟨rfl, ⟨nd, rfl⟩⟩
                  refine ⟨_, rfl, ?_⟩
                  refine hK.out _ _ (((HB.out.cell (World.block_lt_of_cell? w _ hw169_0)).trans hw169_0)) (fun hHeld => ?_)
                  clear hK K
                  refine norm_ (a' := ?_) ?_ ?_
                  rotate_left
                  ·show Act.put _ (some 33) _ = _
                   simp only [Act.put, List.setIfInBounds_toArray, List.set_cons_zero, List.set_cons_succ, i64_w, i32_w]
                   rfl
                  exact norm_ (by first | (simp only [putAll, Act.put, List.setIfInBounds_toArray, List.set_cons_zero, List.set_cons_succ]; done) | (simp only [putAll, Act.put, List.setIfInBounds_toArray, List.set_cons_zero, List.set_cons_succ]; rfl)) (hJ5_8_11 () _ ⟨hHeld, (by (with_reducible repeat (first | refine blk_drewN ?_ _ | refine blk_drew ?_ | refine blk_alloc ?_ _)); exact BK166.out), (by repeat (first | (with_reducible first | exact HB.out | apply below_alloc | apply pw_below_drewN | apply below_drew1 | refine below_set ?_ GE166.out) | exact HB.out))⟩)
                 ·skip
                  refine box_step ?hg (N := 4) ?hd (cs := #[.int .u8 0, .int .u16 0, .int .u16 0, .int .u16 0, .int .u16 0]) (t := 24) ?hr ?_; (case hd => rfl); (case hg => rfl); (case hr => first | (go_simp; done) | (go_simp; rfl))
                  intro gb178 hg w25 hbox hb
                  have n0_ := Aside0.mk (blk_below (g := gb166) (o := .cells #[.int .u8 0, .int .u16 0, .int .u16 0, .int .u16 0, .int .u16 0] 24 (0, 0)) (by (with_reducible repeat (first | refine blk_drewN ?_ _ | refine blk_drew ?_ | refine blk_alloc ?_ _)); exact BK166.out) hb)
                  have n1_ := Aside0.mk (below_step (by repeat (first | (with_reducible first | exact HB.out | apply below_alloc | apply pw_below_drewN | apply below_drew1 | refine below_set ?_ GE166.out) | exact HB.out)) hb)
                  have n2_ := Aside0.mk (hbox)
                  have n3_ := Aside0.mk ((by rw [hg]; exact (below_size (by repeat (first | (with_reducible first | exact HB.out | apply below_alloc | apply pw_below_drewN | apply below_drew1 | refine below_set ?_ GE166.out) | exact HB.out))) : w.heap.size ≤ gb178))
                  have n4_ := Aside0.mk ((by rw [hg]; exact (below_size (by repeat (first | (with_reducible first | exact HB.out | apply below_alloc | apply pw_below_drewN | apply below_drew1 | refine below_set ?_ GE166.out) | exact HB.out))) : w.heap.size ≤ gb178))
                  have n5_ := Aside0.mk ((by rw [hg]; exact Nat.ne_of_lt (blk_lt (g := gb166) (o := .cells #[.int .u8 0, .int .u16 0, .int .u16 0, .int .u16 0, .int .u16 0] 24 (0, 0)) (by (with_reducible repeat (first | refine blk_drewN ?_ _ | refine blk_drew ?_ | refine blk_alloc ?_ _)); exact BK166.out)) : gb166 ≠ gb178))
                  have n6_ := Aside0.mk ((by rw [hg]; exact Nat.ne_of_gt (blk_lt (g := gb166) (o := .cells #[.int .u8 0, .int .u16 0, .int .u16 0, .int .u16 0, .int .u16 0] 24 (0, 0)) (by (with_reducible repeat (first | refine blk_drewN ?_ _ | refine blk_drew ?_ | refine blk_alloc ?_ _)); exact BK166.out)) : gb178 ≠ gb166))
                  clear BK166
                  clear HB
                  have BK166 := n0_
                  have HB := n1_
                  have BK178 := n2_
                  have GW178 := n3_
                  have GE178 := n4_
                  have NB166_178 := n5_
                  have NB178_166 := n6_
                  clear n0_ n1_ n2_ n3_ n4_ n5_ n6_
                  clear hb hbox hg
                  refine hK.out _ _ (((HB.out.cell (World.block_lt_of_cell? w _ hw169_0)).trans hw169_0)) (fun hHeld => ?_)
                  clear hK K
                  refine norm_ (a' := ?_) ?_ ?_
                  rotate_left
                  ·show Act.put _ (some 4) _ = _
                   simp only [Act.put, List.setIfInBounds_toArray, List.set_cons_zero, List.set_cons_succ, i64_w, i32_w]
                   rfl
                  exact norm_ (by first | (simp only [putAll, Act.put, List.setIfInBounds_toArray, List.set_cons_zero, List.set_cons_succ]; done) | (simp only [putAll, Act.put, List.setIfInBounds_toArray, List.set_cons_zero, List.set_cons_succ]; rfl)) (hJ5_8_16 (gb178) _ ⟨hHeld, (by (with_reducible repeat (first | refine blk_drewN ?_ _ | refine blk_drew ?_ | refine blk_alloc ?_ _)); exact BK166.out), (by (with_reducible repeat (first | refine blk_drewN ?_ _ | refine blk_drew ?_ | refine blk_alloc ?_ _)); exact BK178.out), GW178.out, GE178.out, NB166_178.out, NB178_166.out, (by repeat (first | (with_reducible first | exact HB.out | apply below_alloc | apply pw_below_drewN | apply below_drew1 | refine below_set ?_ GE166.out | refine below_set ?_ GE178.out) | exact HB.out))⟩)
               ·skip
                rintro gb178 w25 ⟨hS_, h0_, h1_, h2_, h3_, h4_, h5_, h6_⟩
                have n0_ : Aside0 (w25.heap[gb166]? = some (.cells #[.int .u8 0, .int .u16 0, .int .u16 0, .int .u16 0, .int .u16 0] 24 (0, 0))) := ⟨h0_⟩
                have n1_ : Aside0 (w25.heap[gb178]? = some (.cells #[.int .u8 0, .int .u16 0, .int .u16 0, .int .u16 0, .int .u16 0] 24 (0, 0))) := ⟨h1_⟩
                have n2_ : Aside0 (w.heap.size ≤ gb178) := ⟨h2_⟩
                have n3_ : Aside0 (w.heap.size ≤ gb178) := ⟨h3_⟩
                have n4_ : Aside0 (gb166 ≠ gb178) := ⟨h4_⟩
                have n5_ : Aside0 (gb178 ≠ gb166) := ⟨h5_⟩
                have n6_ : Aside0 (Below w.heap.size w w25) := ⟨h6_⟩
                clear BK166
                clear HB
                clear h0_ h1_ h2_ h3_ h4_ h5_ h6_
                have BK166 := n0_
                have BK178 := n1_
                have GW178 := n2_
                have GE178 := n3_
                have NB166_178 := n4_
                have NB178_166 := n5_
                have HB := n6_
                clear n0_ n1_ n2_ n3_ n4_ n5_ n6_
                have hHeld : w25.cell? ⟨ad167.block, ad167.off + 1, none⟩ = some (.int .u8 (rd l0 1)) := hS_
                refine norm_ (a' := ?_) ?_ ?_
                rotate_left
                ·simp only [putAll, Act.put, List.setIfInBounds_toArray, List.set_cons_zero, List.set_cons_succ]
                 rfl
                refine one_ (i := 11) (N := some 33) #[true, true, true, true, true, true, true, true, true, true, true, true, true, true, false, false, true, false] rfl rfl (one_of HT_.out (by kernel_rfl)) (by decide) (fun K hK => ?_)
                refine goes_ Try.func26 (by kernel_rfl) rfl #[.slice A22 (l0.drop 6).length (c0 - 6)] (by rfl) rfl rfl (by (try simp only [List.map_toArray, List.map_cons, List.map_nil]); first | done | (rw [show (l0.drop 6).length = (l0.length - 6) from List.length_drop] <;> rfl) | rfl | (simp only [List.length_drop, List.length_take]; rfl)) ?_
                with_reducible refine (tele_word.calls _ _ (l0.drop 6) t175 _ ?side1 ?side2 A13.out).mono ?_
                (case side1 => repeat (first | exact (Kd.C_below HR174.out HB.out) | (with_reducible refine Kd.C_alloc ?_ _) | (with_reducible refine Kd.C_drewN ?_ _) | (with_reducible refine Kd.C_drew ?_)))
                (case side2 => exact HC174.out)
                rintro e w' ⟨rfl, ⟨nd, rfl⟩⟩
                refine ⟨_, rfl, ?_⟩
                refine hK.out _ _ (((HB.out.cell (World.block_lt_of_cell? w _ hw169_0)).trans hw169_0)) (fun hHeld => ?_)
                clear hK K
                refine norm_ (a' := ?_) ?_ ?_
                rotate_left
                ·show Act.put _ (some 33) _ = _
                 simp only [Act.put, List.setIfInBounds_toArray, List.set_cons_zero, List.set_cons_succ, i64_w, i32_w]
                 rfl
                exact norm_ (by first | (simp only [putAll, Act.put, List.setIfInBounds_toArray, List.set_cons_zero, List.set_cons_succ]; done) | (simp only [putAll, Act.put, List.setIfInBounds_toArray, List.set_cons_zero, List.set_cons_succ]; rfl)) (hJ5_8_11_16 (gb178) _ ⟨hHeld, (by (with_reducible repeat (first | refine blk_drewN ?_ _ | refine blk_drew ?_ | refine blk_alloc ?_ _)); exact BK166.out), (by (with_reducible repeat (first | refine blk_drewN ?_ _ | refine blk_drew ?_ | refine blk_alloc ?_ _)); exact BK178.out), GW178.out, GE178.out, NB166_178.out, NB178_166.out, (by repeat (first | (with_reducible first | exact HB.out | apply below_alloc | apply pw_below_drewN | apply below_drew1 | refine below_set ?_ GE166.out | refine below_set ?_ GE178.out) | exact HB.out))⟩)
              ·skip
               rintro _ w24 ⟨hS_, h0_, h1_⟩
               have n0_ : Aside0 (w24.heap[gb166]? = some (.cells #[.int .u8 0, .int .u16 0, .int .u16 0, .int .u16 0, .int .u16 0] 24 (0, 0))) := ⟨h0_⟩
               have n1_ : Aside0 (Below w.heap.size w w24) := ⟨h1_⟩
               clear BK166
               clear HB
               clear h0_ h1_
               have BK166 := n0_
               have HB := n1_
               clear n0_ n1_
               have hHeld : w24.cell? ⟨ad167.block, ad167.off + 1, none⟩ = some (.int .u8 (rd l0 1)) := hS_
               refine norm_ (a' := ?_) ?_ ?_
               rotate_left
               ·simp only [putAll, Act.put, List.setIfInBounds_toArray, List.set_cons_zero, List.set_cons_succ]
                rfl
               refine two_ (i := 14) (j := 16) (Ni := some 36) (Nj := some 4) #[true, true, true, true, true, true, true, true, true, true, true, true, true, true, true, false, false, false] #[true, true, true, true, true, true, true, true, true, true, true, true, true, true, false, false, true, false] rfl rfl rfl rfl (two_of HT_.out (by kernel_rfl)) (by decide) (by decide) (fun K hK => ?_) (fun K hK => ?_)
               ·skip
                refine goes_ Try.func26 (by kernel_rfl) rfl #[.slice A23 (l0.drop 8).length (c0 - 8)] (by rfl) rfl rfl (by (try simp only [List.map_toArray, List.map_cons, List.map_nil]); first | done | (rw [show (l0.drop 8).length = (l0.length - 8) from List.length_drop] <;> rfl) | rfl | (simp only [List.length_drop, List.length_take]; rfl)) ?_
                with_reducible refine (tele_word.calls _ _ (l0.drop 8) t177 _ ?side1 ?side2 A15.out).mono ?_
                (case side1 => repeat (first | exact (Kd.C_below HR176.out HB.out) | (with_reducible refine Kd.C_alloc ?_ _) | (with_reducible refine Kd.C_drewN ?_ _) | (with_reducible refine Kd.C_drew ?_)))
                (case side2 => exact HC176.out)
                rintro e w' ⟨rfl, ⟨nd, rfl⟩⟩
                refine ⟨_, rfl, ?_⟩
                refine hK.out _ _ (((HB.out.cell (World.block_lt_of_cell? w _ hw169_0)).trans hw169_0)) (fun hHeld => ?_)
                clear hK K
                refine norm_ (a' := ?_) ?_ ?_
                rotate_left
                ·show Act.put _ (some 36) _ = _
                 simp only [Act.put, List.setIfInBounds_toArray, List.set_cons_zero, List.set_cons_succ, i64_w, i32_w]
                 rfl
                refine pure_ (i := 15) (N := some 37) (v := ?_) (a' := ?_) #[true, true, true, true, true, true, true, true, true, true, true, true, true, true, true, true, false, false] rfl rfl (any_of HT_.out (by kernel_rfl)) (fun _ _ _ h => h) (Or.inl ⟨by rfl, ?_⟩) ?_ ?_
                rotate_left
                ·intro w'
                 go_simp
                 with_reducible rfl
                rotate_left
                ·simp only [Act.put, List.setIfInBounds_toArray, List.set_cons_zero, List.set_cons_succ, i64_w, i32_w]
                 rfl
                exact norm_ (by first | (simp only [putAll, Act.put, List.setIfInBounds_toArray, List.set_cons_zero, List.set_cons_succ]; done) | (simp only [putAll, Act.put, List.setIfInBounds_toArray, List.set_cons_zero, List.set_cons_succ]; rfl)) (hJ5_8_11_14 () _ ⟨hHeld, (by (with_reducible repeat (first | refine blk_drewN ?_ _ | refine blk_drew ?_ | refine blk_alloc ?_ _)); exact BK166.out), (by repeat (first | (with_reducible first | exact HB.out | apply below_alloc | apply pw_below_drewN | apply below_drew1 | refine below_set ?_ GE166.out) | exact HB.out))⟩)
               ·skip
                refine box_step ?hg (N := 4) ?hd (cs := #[.int .u8 0, .int .u16 0, .int .u16 0, .int .u16 0, .int .u16 0]) (t := 24) ?hr ?_; (case hd => rfl); (case hg => rfl); (case hr => first | (go_simp; done) | (go_simp; rfl))
                intro gb178 hg w25 hbox hb
                have n0_ := Aside0.mk (blk_below (g := gb166) (o := .cells #[.int .u8 0, .int .u16 0, .int .u16 0, .int .u16 0, .int .u16 0] 24 (0, 0)) (by (with_reducible repeat (first | refine blk_drewN ?_ _ | refine blk_drew ?_ | refine blk_alloc ?_ _)); exact BK166.out) hb)
                have n1_ := Aside0.mk (below_step (by repeat (first | (with_reducible first | exact HB.out | apply below_alloc | apply pw_below_drewN | apply below_drew1 | refine below_set ?_ GE166.out) | exact HB.out)) hb)
                have n2_ := Aside0.mk (hbox)
                have n3_ := Aside0.mk ((by rw [hg]; exact (below_size (by repeat (first | (with_reducible first | exact HB.out | apply below_alloc | apply pw_below_drewN | apply below_drew1 | refine below_set ?_ GE166.out) | exact HB.out))) : w.heap.size ≤ gb178))
                have n4_ := Aside0.mk ((by rw [hg]; exact (below_size (by repeat (first | (with_reducible first | exact HB.out | apply below_alloc | apply pw_below_drewN | apply below_drew1 | refine below_set ?_ GE166.out) | exact HB.out))) : w.heap.size ≤ gb178))
                have n5_ := Aside0.mk ((by rw [hg]; exact Nat.ne_of_lt (blk_lt (g := gb166) (o := .cells #[.int .u8 0, .int .u16 0, .int .u16 0, .int .u16 0, .int .u16 0] 24 (0, 0)) (by (with_reducible repeat (first | refine blk_drewN ?_ _ | refine blk_drew ?_ | refine blk_alloc ?_ _)); exact BK166.out)) : gb166 ≠ gb178))
                have n6_ := Aside0.mk ((by rw [hg]; exact Nat.ne_of_gt (blk_lt (g := gb166) (o := .cells #[.int .u8 0, .int .u16 0, .int .u16 0, .int .u16 0, .int .u16 0] 24 (0, 0)) (by (with_reducible repeat (first | refine blk_drewN ?_ _ | refine blk_drew ?_ | refine blk_alloc ?_ _)); exact BK166.out)) : gb178 ≠ gb166))
                clear BK166
                clear HB
                have BK166 := n0_
                have HB := n1_
                have BK178 := n2_
                have GW178 := n3_
                have GE178 := n4_
                have NB166_178 := n5_
                have NB178_166 := n6_
                clear n0_ n1_ n2_ n3_ n4_ n5_ n6_
                clear hb hbox hg
                refine hK.out _ _ (((HB.out.cell (World.block_lt_of_cell? w _ hw169_0)).trans hw169_0)) (fun hHeld => ?_)
                clear hK K
                refine norm_ (a' := ?_) ?_ ?_
                rotate_left
                ·show Act.put _ (some 4) _ = _
                 simp only [Act.put, List.setIfInBounds_toArray, List.set_cons_zero, List.set_cons_succ, i64_w, i32_w]
                 rfl
                exact norm_ (by first | (simp only [putAll, Act.put, List.setIfInBounds_toArray, List.set_cons_zero, List.set_cons_succ]; done) | (simp only [putAll, Act.put, List.setIfInBounds_toArray, List.set_cons_zero, List.set_cons_succ]; rfl)) (hJ5_8_11_16 (gb178) _ ⟨hHeld, (by (with_reducible repeat (first | refine blk_drewN ?_ _ | refine blk_drew ?_ | refine blk_alloc ?_ _)); exact BK166.out), (by (with_reducible repeat (first | refine blk_drewN ?_ _ | refine blk_drew ?_ | refine blk_alloc ?_ _)); exact BK178.out), GW178.out, GE178.out, NB166_178.out, NB178_166.out, (by repeat (first | (with_reducible first | exact HB.out | apply below_alloc | apply pw_below_drewN | apply below_drew1 | refine below_set ?_ GE166.out | refine below_set ?_ GE178.out) | exact HB.out))⟩)
             ·skip
              rintro gb178 w25 ⟨hS_, h0_, h1_, h2_, h3_, h4_, h5_, h6_⟩
              have n0_ : Aside0 (w25.heap[gb166]? = some (.cells #[.int .u8 0, .int .u16 0, .int .u16 0, .int .u16 0, .int .u16 0] 24 (0, 0))) := ⟨h0_⟩
              have n1_ : Aside0 (w25.heap[gb178]? = some (.cells #[.int .u8 0, .int .u16 0, .int .u16 0, .int .u16 0, .int .u16 0] 24 (0, 0))) := ⟨h1_⟩
              have n2_ : Aside0 (w.heap.size ≤ gb178) := ⟨h2_⟩
              have n3_ : Aside0 (w.heap.size ≤ gb178) := ⟨h3_⟩
              have n4_ : Aside0 (gb166 ≠ gb178) := ⟨h4_⟩
              have n5_ : Aside0 (gb178 ≠ gb166) := ⟨h5_⟩
              have n6_ : Aside0 (Below w.heap.size w w25) := ⟨h6_⟩
              clear BK166
              clear HB
              clear h0_ h1_ h2_ h3_ h4_ h5_ h6_
              have BK166 := n0_
              have BK178 := n1_
              have GW178 := n2_
              have GE178 := n3_
              have NB166_178 := n4_
              have NB178_166 := n5_
              have HB := n6_
              clear n0_ n1_ n2_ n3_ n4_ n5_ n6_
              have hHeld : w25.cell? ⟨ad167.block, ad167.off + 1, none⟩ = some (.int .u8 (rd l0 1)) := hS_
              refine norm_ (a' := ?_) ?_ ?_
              rotate_left
              ·simp only [putAll, Act.put, List.setIfInBounds_toArray, List.set_cons_zero, List.set_cons_succ]
               rfl
              refine one_ (i := 14) (N := some 36) #[true, true, true, true, true, true, true, true, true, true, true, true, true, true, true, false, true, false] rfl rfl (one_of HT_.out (by kernel_rfl)) (by decide) (fun K hK => ?_)
              refine goes_ Try.func26 (by kernel_rfl) rfl #[.slice A23 (l0.drop 8).length (c0 - 8)] (by rfl) rfl rfl (by (try simp only [List.map_toArray, List.map_cons, List.map_nil]); first | done | (rw [show (l0.drop 8).length = (l0.length - 8) from List.length_drop] <;> rfl) | rfl | (simp only [List.length_drop, List.length_take]; rfl)) ?_
              with_reducible refine (tele_word.calls _ _ (l0.drop 8) t177 _ ?side1 ?side2 A15.out).mono ?_
              (case side1 => repeat (first | exact (Kd.C_below HR176.out HB.out) | (with_reducible refine Kd.C_alloc ?_ _) | (with_reducible refine Kd.C_drewN ?_ _) | (with_reducible refine Kd.C_drew ?_)))
              (case side2 => exact HC176.out)
              rintro e w' ⟨rfl, ⟨nd, rfl⟩⟩
              refine ⟨_, rfl, ?_⟩
              refine hK.out _ _ (((HB.out.cell (World.block_lt_of_cell? w _ hw169_0)).trans hw169_0)) (fun hHeld => ?_)
              clear hK K
              refine norm_ (a' := ?_) ?_ ?_
              rotate_left
              ·show Act.put _ (some 36) _ = _
               simp only [Act.put, List.setIfInBounds_toArray, List.set_cons_zero, List.set_cons_succ, i64_w, i32_w]
               rfl
              refine pure_ (i := 15) (N := some 37) (v := ?_) (a' := ?_) #[true, true, true, true, true, true, true, true, true, true, true, true, true, true, true, true, true, false] rfl rfl (any_of HT_.out (by kernel_rfl)) (fun _ _ _ h => h) (Or.inl ⟨by rfl, ?_⟩) ?_ ?_
              rotate_left
              ·intro w'
               go_simp
               with_reducible rfl
              rotate_left
              ·simp only [Act.put, List.setIfInBounds_toArray, List.set_cons_zero, List.set_cons_succ, i64_w, i32_w]
               rfl
              exact norm_ (by first | (simp only [putAll, Act.put, List.setIfInBounds_toArray, List.set_cons_zero, List.set_cons_succ]; done) | (simp only [putAll, Act.put, List.setIfInBounds_toArray, List.set_cons_zero, List.set_cons_succ]; rfl)) (hJ5_8_11_14_16 (gb178) _ ⟨hHeld, (by (with_reducible repeat (first | refine blk_drewN ?_ _ | refine blk_drew ?_ | refine blk_alloc ?_ _)); exact BK166.out), (by (with_reducible repeat (first | refine blk_drewN ?_ _ | refine blk_drew ?_ | refine blk_alloc ?_ _)); exact BK178.out), GW178.out, GE178.out, NB166_178.out, NB178_166.out, (by repeat (first | (with_reducible first | exact HB.out | apply below_alloc | apply pw_below_drewN | apply below_drew1 | refine below_set ?_ GE166.out | refine below_set ?_ GE178.out) | exact HB.out))⟩)
            ·skip
             rintro _ w24 ⟨hS_, h0_, h1_⟩
             have n0_ : Aside0 (w24.heap[gb166]? = some (.cells #[.int .u8 0, .int .u16 0, .int .u16 0, .int .u16 0, .int .u16 0] 24 (0, 0))) := ⟨h0_⟩
             have n1_ : Aside0 (Below w.heap.size w w24) := ⟨h1_⟩
             clear BK166
             clear HB
             clear h0_ h1_
             have BK166 := n0_
             have HB := n1_
             clear n0_ n1_
             have hHeld : w24.cell? ⟨ad167.block, ad167.off + 1, none⟩ = some (.int .u8 (rd l0 1)) := hS_
             refine norm_ (a' := ?_) ?_ ?_
             rotate_left
             ·simp only [putAll, Act.put, List.setIfInBounds_toArray, List.set_cons_zero, List.set_cons_succ]
              rfl
             refine one_ (i := 16) (N := some 4) #[true, true, true, true, true, true, true, true, true, true, true, true, true, true, true, true, true, false] rfl rfl (one_of HT_.out (by kernel_rfl)) (by decide) (fun K hK => ?_)
             refine box_step ?hg (N := 4) ?hd (cs := #[.int .u8 0, .int .u16 0, .int .u16 0, .int .u16 0, .int .u16 0]) (t := 24) ?hr ?_; (case hd => rfl); (case hg => rfl); (case hr => first | (go_simp; done) | (go_simp; rfl))
             intro gb178 hg w25 hbox hb
             have n0_ := Aside0.mk (blk_below (g := gb166) (o := .cells #[.int .u8 0, .int .u16 0, .int .u16 0, .int .u16 0, .int .u16 0] 24 (0, 0)) (by (with_reducible repeat (first | refine blk_drewN ?_ _ | refine blk_drew ?_ | refine blk_alloc ?_ _)); exact BK166.out) hb)
             have n1_ := Aside0.mk (below_step (by repeat (first | (with_reducible first | exact HB.out | apply below_alloc | apply pw_below_drewN | apply below_drew1 | refine below_set ?_ GE166.out) | exact HB.out)) hb)
             have n2_ := Aside0.mk (hbox)
             have n3_ := Aside0.mk ((by rw [hg]; exact (below_size (by repeat (first | (with_reducible first | exact HB.out | apply below_alloc | apply pw_below_drewN | apply below_drew1 | refine below_set ?_ GE166.out) | exact HB.out))) : w.heap.size ≤ gb178))
             have n4_ := Aside0.mk ((by rw [hg]; exact (below_size (by repeat (first | (with_reducible first | exact HB.out | apply below_alloc | apply pw_below_drewN | apply below_drew1 | refine below_set ?_ GE166.out) | exact HB.out))) : w.heap.size ≤ gb178))
             have n5_ := Aside0.mk ((by rw [hg]; exact Nat.ne_of_lt (blk_lt (g := gb166) (o := .cells #[.int .u8 0, .int .u16 0, .int .u16 0, .int .u16 0, .int .u16 0] 24 (0, 0)) (by (with_reducible repeat (first | refine blk_drewN ?_ _ | refine blk_drew ?_ | refine blk_alloc ?_ _)); exact BK166.out)) : gb166 ≠ gb178))
             have n6_ := Aside0.mk ((by rw [hg]; exact Nat.ne_of_gt (blk_lt (g := gb166) (o := .cells #[.int .u8 0, .int .u16 0, .int .u16 0, .int .u16 0, .int .u16 0] 24 (0, 0)) (by (with_reducible repeat (first | refine blk_drewN ?_ _ | refine blk_drew ?_ | refine blk_alloc ?_ _)); exact BK166.out)) : gb178 ≠ gb166))
             clear BK166
             clear HB
             have BK166 := n0_
             have HB := n1_
             have BK178 := n2_
             have GW178 := n3_
             have GE178 := n4_
             have NB166_178 := n5_
             have NB178_166 := n6_
             clear n0_ n1_ n2_ n3_ n4_ n5_ n6_
             clear hb hbox hg
             refine hK.out _ _ (((HB.out.cell (World.block_lt_of_cell? w _ hw169_0)).trans hw169_0)) (fun hHeld => ?_)
             clear hK K
             refine norm_ (a' := ?_) ?_ ?_
             rotate_left
             ·show Act.put _ (some 4) _ = _
              simp only [Act.put, List.setIfInBounds_toArray, List.set_cons_zero, List.set_cons_succ, i64_w, i32_w]
              rfl
             exact norm_ (by first | (simp only [putAll, Act.put, List.setIfInBounds_toArray, List.set_cons_zero, List.set_cons_succ]; done) | (simp only [putAll, Act.put, List.setIfInBounds_toArray, List.set_cons_zero, List.set_cons_succ]; rfl)) (hJ5_8_11_14_16 (gb178) _ ⟨hHeld, (by (with_reducible repeat (first | refine blk_drewN ?_ _ | refine blk_drew ?_ | refine blk_alloc ?_ _)); exact BK166.out), (by (with_reducible repeat (first | refine blk_drewN ?_ _ | refine blk_drew ?_ | refine blk_alloc ?_ _)); exact BK178.out), GW178.out, GE178.out, NB166_178.out, NB178_166.out, (by repeat (first | (with_reducible first | exact HB.out | apply below_alloc | apply pw_below_drewN | apply below_drew1 | refine below_set ?_ GE166.out | refine below_set ?_ GE178.out) | exact HB.out))⟩)
           rintro gb178 w25 ⟨hS_, h0_, h1_, h2_, h3_, h4_, h5_, h6_⟩
           have n0_ : Aside0 (w25.heap[gb166]? = some (.cells #[.int .u8 0, .int .u16 0, .int .u16 0, .int .u16 0, .int .u16 0] 24 (0, 0))) := ⟨h0_⟩
           have n1_ : Aside0 (w25.heap[gb178]? = some (.cells #[.int .u8 0, .int .u16 0, .int .u16 0, .int .u16 0, .int .u16 0] 24 (0, 0))) := ⟨h1_⟩
           have n2_ : Aside0 (w.heap.size ≤ gb178) := ⟨h2_⟩
           have n3_ : Aside0 (w.heap.size ≤ gb178) := ⟨h3_⟩
           have n4_ : Aside0 (gb166 ≠ gb178) := ⟨h4_⟩
           have n5_ : Aside0 (gb178 ≠ gb166) := ⟨h5_⟩
           have n6_ : Aside0 (Below w.heap.size w w25) := ⟨h6_⟩
           clear BK166
           clear HB
           clear h0_ h1_ h2_ h3_ h4_ h5_ h6_
           have BK166 := n0_
           have BK178 := n1_
           have GW178 := n2_
           have GE178 := n3_
           have NB166_178 := n4_
           have NB178_166 := n5_
           have HB := n6_
           clear n0_ n1_ n2_ n3_ n4_ n5_ n6_
           have hHeld : w25.cell? ⟨ad167.block, ad167.off + 1, none⟩ = some (.int .u8 (rd l0 1)) := hS_
           refine norm_ (a' := ?_) ?_ ?_
           rotate_left
           ·simp only [putAll, Act.put, List.setIfInBounds_toArray, List.set_cons_zero, List.set_cons_succ]
            rfl
           refine one_ (i := 17) (N := none) #[true, true, true, true, true, true, true, true, true, true, true, true, true, true, true, true, true, true] rfl rfl (one_of HT_.out (by kernel_rfl)) (by decide) (fun K hK => ?_)
           have hs26 : w25.cell? ⟨gb178, 0, none⟩ = some (.int .u8 0) := (blk_cell BK178.out 0).trans rfl
           have hfs26 := blk_frozen BK178.out 0
           have hns26_0 := NB166_178.out
           have hms26_0 := NB178_166.out
           have hs27 : w25.cell? ⟨gb178, 1, none⟩ = some (.int .u16 0) := (blk_cell BK178.out 1).trans rfl
           have hfs27 := blk_frozen BK178.out 1
           have hns27_0 := NB166_178.out
           have hms27_0 := NB178_166.out
           have hs28 : w25.cell? ⟨gb178, 2, none⟩ = some (.int .u16 0) := (blk_cell BK178.out 2).trans rfl
           have hfs28 := blk_frozen BK178.out 2
           have hns28_0 := NB166_178.out
           have hms28_0 := NB178_166.out
           have hs29 : w25.cell? ⟨gb178, 3, none⟩ = some (.int .u16 0) := (blk_cell BK178.out 3).trans rfl
           have hfs29 := blk_frozen BK178.out 3
           have hns29_0 := NB166_178.out
           have hms29_0 := NB178_166.out
           have hs30 : w25.cell? ⟨gb178, 4, none⟩ = some (.int .u16 0) := (blk_cell BK178.out 4).trans rfl
           have hfs30 := blk_frozen BK178.out 4
           have hns30_0 := NB166_178.out
           have hms30_0 := NB178_166.out
           refine skip_ (w1 := ?_) (by rfl) rfl ?_ ?_
           rotate_left
           ·go_simp
            rfl
           refine hK.out _ _ (((cell_far (p := ⟨gb178, _, none⟩) (by first | exact Nat.ne_of_lt (Nat.lt_of_lt_of_le (by have := World.block_lt_of_cell? _ _ hw169_0; first | rwa [add_block] at this | exact this) GW178.out) | (rw [add_block]; exact Nat.ne_of_lt (Nat.lt_of_lt_of_le (by have := World.block_lt_of_cell? _ _ hw169_0; first | rwa [add_block] at this | exact this) GW178.out)) | (show (Addr.add _ _).block ≠ _; rw [add_block]; exact Nat.ne_of_lt (Nat.lt_of_lt_of_le (by have := World.block_lt_of_cell? _ _ hw169_0; first | rwa [add_block] at this | exact this) GW178.out)) | (dsimp only; exact Nat.ne_of_lt (Nat.lt_of_lt_of_le (by have := World.block_lt_of_cell? _ _ hw169_0; first | rwa [add_block] at this | exact this) GW178.out))) _).trans (((cell_far (p := ⟨gb178, _, none⟩) (by first | exact Nat.ne_of_lt (Nat.lt_of_lt_of_le (by have := World.block_lt_of_cell? _ _ hw169_0; first | rwa [add_block] at this | exact this) GW178.out) | (rw [add_block]; exact Nat.ne_of_lt (Nat.lt_of_lt_of_le (by have := World.block_lt_of_cell? _ _ hw169_0; first | rwa [add_block] at this | exact this) GW178.out)) | (show (Addr.add _ _).block ≠ _; rw [add_block]; exact Nat.ne_of_lt (Nat.lt_of_lt_of_le (by have := World.block_lt_of_cell? _ _ hw169_0; first | rwa [add_block] at this | exact this) GW178.out)) | (dsimp only; exact Nat.ne_of_lt (Nat.lt_of_lt_of_le (by have := World.block_lt_of_cell? _ _ hw169_0; first | rwa [add_block] at this | exact this) GW178.out))) _).trans (((cell_far (p := ⟨gb178, _, none⟩) (by first | exact Nat.ne_of_lt (Nat.lt_of_lt_of_le (by have := World.block_lt_of_cell? _ _ hw169_0; first | rwa [add_block] at this | exact this) GW178.out) | (rw [add_block]; exact Nat.ne_of_lt (Nat.lt_of_lt_of_le (by have := World.block_lt_of_cell? _ _ hw169_0; first | rwa [add_block] at this | exact this) GW178.out)) | (show (Addr.add _ _).block ≠ _; rw [add_block]; exact Nat.ne_of_lt (Nat.lt_of_lt_of_le (by have := World.block_lt_of_cell? _ _ hw169_0; first | rwa [add_block] at this | exact this) GW178.out)) | (dsimp only; exact Nat.ne_of_lt (Nat.lt_of_lt_of_le (by have := World.block_lt_of_cell? _ _ hw169_0; first | rwa [add_block] at this | exact this) GW178.out))) _).trans (((cell_far (p := ⟨gb178, _, none⟩) (by first | exact Nat.ne_of_lt (Nat.lt_of_lt_of_le (by have := World.block_lt_of_cell? _ _ hw169_0; first | rwa [add_block] at this | exact this) GW178.out) | (rw [add_block]; exact Nat.ne_of_lt (Nat.lt_of_lt_of_le (by have := World.block_lt_of_cell? _ _ hw169_0; first | rwa [add_block] at this | exact this) GW178.out)) | (show (Addr.add _ _).block ≠ _; rw [add_block]; exact Nat.ne_of_lt (Nat.lt_of_lt_of_le (by have := World.block_lt_of_cell? _ _ hw169_0; first | rwa [add_block] at this | exact this) GW178.out)) | (dsimp only; exact Nat.ne_of_lt (Nat.lt_of_lt_of_le (by have := World.block_lt_of_cell? _ _ hw169_0; first | rwa [add_block] at this | exact this) GW178.out))) _).trans (((cell_far (p := ⟨gb178, _, none⟩) (by first | exact Nat.ne_of_lt (Nat.lt_of_lt_of_le (by have := World.block_lt_of_cell? _ _ hw169_0; first | rwa [add_block] at this | exact this) GW178.out) | (rw [add_block]; exact Nat.ne_of_lt (Nat.lt_of_lt_of_le (by have := World.block_lt_of_cell? _ _ hw169_0; first | rwa [add_block] at this | exact this) GW178.out)) | (show (Addr.add _ _).block ≠ _; rw [add_block]; exact Nat.ne_of_lt (Nat.lt_of_lt_of_le (by have := World.block_lt_of_cell? _ _ hw169_0; first | rwa [add_block] at this | exact this) GW178.out)) | (dsimp only; exact Nat.ne_of_lt (Nat.lt_of_lt_of_le (by have := World.block_lt_of_cell? _ _ hw169_0; first | rwa [add_block] at this | exact this) GW178.out))) _).trans (hHeld))))))))))) (fun hHeld => ?_)
           clear hK K
           refine done_ (done_of HT_.out (by kernel_rfl)) ?_
           have hnb31 := NB178_166.out
           have hnc31 := NB166_178.out
           have hcz32_0 : w25.cell? ⟨gb178, 0, none⟩ = some (.int .u8 0) := (blk_cell BK178.out 0).trans rfl
           have hcz32_1 : w25.cell? ⟨gb178, 1, none⟩ = some (.int .u16 0) := (blk_cell BK178.out 1).trans rfl
           have hcz32_2 : w25.cell? ⟨gb178, 2, none⟩ = some (.int .u16 0) := (blk_cell BK178.out 2).trans rfl
           have hcz32_3 : w25.cell? ⟨gb178, 3, none⟩ = some (.int .u16 0) := (blk_cell BK178.out 3).trans rfl
           have hcz32_4 : w25.cell? ⟨gb178, 4, none⟩ = some (.int .u16 0) := (blk_cell BK178.out 4).trans rfl
           have hfz32_0 := blk_frozen BK178.out 0
           have hfz32_1 := blk_frozen BK178.out 1
           have hfz32_2 := blk_frozen BK178.out 2
           have hfz32_3 := blk_frozen BK178.out 3
           have hfz32_4 := blk_frozen BK178.out 4
           try go_wp2_with (first | ((with_reducible refine gate_callee (f := 14) rfl ?_); refine goesL_ (some 39) rfl rfl Try.func14 (by kernel_rfl) rfl #[.agg #[.int .u8 (rd l0 1), .int .u16 t171, .int .u16 t173, .int .u16 t175, .int .u16 t177]] rfl (by (try simp only [List.map_toArray, List.map_cons, List.map_nil]); first | done | rfl | (simp only [List.length_drop, List.length_take]; rfl)) ?_; (with_reducible refine (tele_Check.calls k (rd l0 1) t171 t173 t175 t177 t179 _ A16.out).mono ?_); rintro e w33 ⟨rfl, hb⟩; refine ⟨_, rfl, ?_⟩; have n0_ := Aside0.mk (blk_below (g := gb166) (o := .cells #[.int .u8 0, .int .u16 0, .int .u16 0, .int .u16 0, .int .u16 0] 24 (0, 0)) (by (with_reducible repeat (first | refine blk_drewN ?_ _ | refine blk_drew ?_ | refine blk_alloc ?_ _)); refine blk_far ?_ NB166_178.out _; (with_reducible repeat (first | refine blk_drewN ?_ _ | refine blk_drew ?_ | refine blk_alloc ?_ _)); refine blk_far ?_ NB166_178.out _; (with_reducible repeat (first | refine blk_drewN ?_ _ | refine blk_drew ?_ | refine blk_alloc ?_ _)); refine blk_far ?_ NB166_178.out _; (with_reducible repeat (first | refine blk_drewN ?_ _ | refine blk_drew ?_ | refine blk_alloc ?_ _)); refine blk_far ?_ NB166_178.out _; (with_reducible repeat (first | refine blk_drewN ?_ _ | refine blk_drew ?_ | refine blk_alloc ?_ _)); refine blk_far ?_ NB166_178.out _; (with_reducible repeat (first | refine blk_drewN ?_ _ | refine blk_drew ?_ | refine blk_alloc ?_ _)); exact BK166.out) hb); have n1_ := Aside0.mk (blk_below (g := gb178) (o := .cells #[.int .u8 (rd l0 1), .int .u16 t171, .int .u16 t173, .int .u16 t175, .int .u16 t177] 24 (0, 0)) (by (with_reducible repeat (first | refine blk_drewN ?_ _ | refine blk_drew ?_ | refine blk_alloc ?_ _)); refine blk_put (cs := #[.int .u8 (rd l0 1), .int .u16 t171, .int .u16 t173, .int .u16 t175, .int .u16 0]) ?_ 4 _ rfl; (with_reducible repeat (first | refine blk_drewN ?_ _ | refine blk_drew ?_ | refine blk_alloc ?_ _)); refine blk_put (cs := #[.int .u8 (rd l0 1), .int .u16 t171, .int .u16 t173, .int .u16 0, .int .u16 0]) ?_ 3 _ rfl; (with_reducible repeat (first | refine blk_drewN ?_ _ | refine blk_drew ?_ | refine blk_alloc ?_ _)); refine blk_put (cs := #[.int .u8 (rd l0 1), .int .u16 t171, .int .u16 0, .int .u16 0, .int .u16 0]) ?_ 2 _ rfl; (with_reducible repeat (first | refine blk_drewN ?_ _ | refine blk_drew ?_ | refine blk_alloc ?_ _)); refine blk_put (cs := #[.int .u8 (rd l0 1), .int .u16 0, .int .u16 0, .int .u16 0, .int .u16 0]) ?_ 1 _ rfl; (with_reducible repeat (first | refine blk_drewN ?_ _ | refine blk_drew ?_ | refine blk_alloc ?_ _)); refine blk_put (cs := #[.int .u8 0, .int .u16 0, .int .u16 0, .int .u16 0, .int .u16 0]) ?_ 0 _ rfl; (with_reducible repeat (first | refine blk_drewN ?_ _ | refine blk_drew ?_ | refine blk_alloc ?_ _)); exact BK178.out) hb); have n2_ := Aside0.mk (below_step (by repeat (first | (with_reducible first | exact HB.out | apply below_alloc | apply pw_below_drewN | apply below_drew1 | refine below_set ?_ GE166.out | refine below_set ?_ GE178.out) | exact HB.out)) hb); clear BK166; clear BK178; clear HB; have BK166 := n0_; have BK178 := n1_; have HB := n2_; clear n0_ n1_ n2_; (try clear hb); (try clear hb2); (try clear hk); (try clear hi); have hcz34_0 : w33.cell? ⟨gb178, 0, none⟩ = some (.int .u8 (rd l0 1)) := (blk_cell BK178.out 0).trans rfl; have hcz34_1 : w33.cell? ⟨gb178, 1, none⟩ = some (.int .u16 t171) := (blk_cell BK178.out 1).trans rfl; have hcz34_2 : w33.cell? ⟨gb178, 2, none⟩ = some (.int .u16 t173) := (blk_cell BK178.out 2).trans rfl; have hcz34_3 : w33.cell? ⟨gb178, 3, none⟩ = some (.int .u16 t175) := (blk_cell BK178.out 3).trans rfl; have hcz34_4 : w33.cell? ⟨gb178, 4, none⟩ = some (.int .u16 t177) := (blk_cell BK178.out 4).trans rfl; have hfz34_0 := blk_frozen BK178.out 0; have hfz34_1 := blk_frozen BK178.out 1; have hfz34_2 := blk_frozen BK178.out 2; have hfz34_3 := blk_frozen BK178.out 3; have hfz34_4 := blk_frozen BK178.out 4; have hcz35_0 : w33.cell? ⟨gb166, 0, none⟩ = some (.int .u8 0) := (blk_cell BK166.out 0).trans rfl; have hcz35_1 : w33.cell? ⟨gb166, 1, none⟩ = some (.int .u16 0) := (blk_cell BK166.out 1).trans rfl; have hcz35_2 : w33.cell? ⟨gb166, 2, none⟩ = some (.int .u16 0) := (blk_cell BK166.out 2).trans rfl; have hcz35_3 : w33.cell? ⟨gb166, 3, none⟩ = some (.int .u16 0) := (blk_cell BK166.out 3).trans rfl; have hcz35_4 : w33.cell? ⟨gb166, 4, none⟩ = some (.int .u16 0) := (blk_cell BK166.out 4).trans rfl; have hfz35_0 := blk_frozen BK166.out 0; have hfz35_1 := blk_frozen BK166.out 1; have hfz35_2 := blk_frozen BK166.out 2; have hfz35_3 := blk_frozen BK166.out 3; have hfz35_4 := blk_frozen BK166.out 4))
           refine bodyPost_ret (results_ct rfl _ _ gb166 24 #[.int .u8 (rd l0 1), .int .u16 t171, .int .u16 t173, .int .u16 t175, .int .u16 t177] (0, 0) _ rfl (by (with_reducible repeat (first | refine blk_drewN ?_ _ | refine blk_drew ?_ | refine blk_alloc ?_ _)); refine blk_put (cs := #[.int .u8 (rd l0 1), .int .u16 t171, .int .u16 t173, .int .u16 t175, .int .u16 0]) ?_ 4 _ rfl; (with_reducible repeat (first | refine blk_drewN ?_ _ | refine blk_drew ?_ | refine blk_alloc ?_ _)); refine blk_put (cs := #[.int .u8 (rd l0 1), .int .u16 t171, .int .u16 t173, .int .u16 0, .int .u16 0]) ?_ 3 _ rfl; (with_reducible repeat (first | refine blk_drewN ?_ _ | refine blk_drew ?_ | refine blk_alloc ?_ _)); refine blk_put (cs := #[.int .u8 (rd l0 1), .int .u16 t171, .int .u16 0, .int .u16 0, .int .u16 0]) ?_ 2 _ rfl; (with_reducible repeat (first | refine blk_drewN ?_ _ | refine blk_drew ?_ | refine blk_alloc ?_ _)); refine blk_put (cs := #[.int .u8 (rd l0 1), .int .u16 0, .int .u16 0, .int .u16 0, .int .u16 0]) ?_ 1 _ rfl; (with_reducible repeat (first | refine blk_drewN ?_ _ | refine blk_drew ?_ | refine blk_alloc ?_ _)); refine blk_put (cs := #[.int .u8 0, .int .u16 0, .int .u16 0, .int .u16 0, .int .u16 0]) ?_ 0 _ rfl; (with_reducible repeat (first | refine blk_drewN ?_ _ | refine blk_drew ?_ | refine blk_alloc ?_ _)); exact BK166.out) Try.underlying24 rfl (by kernel_rfl)) rfl ?_
           exact ⟨by first | rfl | (simp [errW_none, errW_some] <;> rfl) | (simp [*, errW_none, errW_some] <;> rfl), by repeat (first | (with_reducible first | exact HB.out | apply below_alloc | apply pw_below_drewN | apply below_drew1 | refine below_set ?_ GE166.out | refine below_set ?_ GE178.out) | exact HB.out)⟩
          ·rw [if_neg c17] at H
           have c17b0 : (t179 == 0) = false := beq_eq_false_iff_ne.mpr c17
           have c17b1 : (t179 != 0) = true := bne_iff_ne.mpr c17
           simp only [Option.some.injEq, Prod.mk.injEq] at H
           obtain ⟨rfl, rfl, rfl, rfl, rfl, rfl⟩ := H
           go_enter Try.func15, Try.ntmps15
           try go_wp2_with (first | ((with_reducible refine gate_dst (N := 2) rfl ?_); refine box_event ?hg (N := 2) ?hd (cs := #[.int .u8 0, .int .u16 0, .int .u16 0, .int .u16 0, .int .u16 0]) (t := 24) ?hr ?_; (case hd => rfl); (case hg => rfl); (case hr => first | (go_simp; done) | (go_simp; rfl)); intro gb166 hg w36 hbox hb; have n0_ := Aside0.mk (below_step (by repeat (first | (with_reducible first | exact HB.out | apply below_alloc | apply pw_below_drewN | apply below_drew1) | exact HB.out)) hb); have n1_ := Aside0.mk (hbox); have n2_ := Aside0.mk ((by rw [hg]; exact (below_size (by repeat (first | (with_reducible first | exact HB.out | apply below_alloc | apply pw_below_drewN | apply below_drew1) | exact HB.out))) : w.heap.size ≤ gb166)); have n3_ := Aside0.mk ((by rw [hg]; exact (below_size (by repeat (first | (with_reducible first | exact HB.out | apply below_alloc | apply pw_below_drewN | apply below_drew1) | exact HB.out))) : w.heap.size ≤ gb166)); clear HB; have HB := n0_; have BK166 := n1_; have GW166 := n2_; have GE166 := n3_; clear n0_ n1_ n2_ n3_; clear hb hbox hg; have p167 : 0 ≤ (0 : Int) := (by omega); have q167 : 0 < (l0.length : Int) := of_decide_eq_true (by first | (with_reducible assumption) | assumption); obtain ⟨ad167, e167, hx167_0⟩ := Kd.at_int HR0.out 0 p167 q167; cases e167; have qi167 : (0 < l0.length) = True := eq_true (by omega); (try rw [show ((0 : Int)).toNat = 0 from rfl] at hx167_0); (try rw [Addr.add_zero'] at hx167_0); replace hx167_0 := (HB.out.cell (World.block_lt_of_cell? w _ hx167_0)).trans hx167_0; replace p167 := eq_true p167; replace q167 := eq_true q167) | ((with_reducible refine gate_callee (f := 24) rfl ?_); refine goesL_ (some 19) rfl rfl Try.func24 (by kernel_rfl) rfl #[.slice (some ad167) l0.length c0] rfl (by (try simp only [List.map_toArray, List.map_cons, List.map_nil]); first | done | rfl | (simp only [List.length_drop, List.length_take]; rfl)) ?_; (with_reducible refine (crc_Sum.calls k _ _ l0 t168 _ ?side1 ?side2 A5.out).mono ?_); (case side1 => repeat (first | exact (Kd.C_below HR0.out HB.out) | (with_reducible refine Kd.C_alloc ?_ _) | (with_reducible refine Kd.C_drewN ?_ _) | (with_reducible refine Kd.C_drew ?_))); (case side2 => exact HC0.out); rintro e w' ⟨rfl, ⟨nd, rfl⟩⟩; refine ⟨_, rfl, ?_⟩; (try (rw [drewN_self w36]; generalize hq_ : World.drewN w36 _ = w36; have n0_ : Aside0 (w36.heap[gb166]? = some (.cells #[.int .u8 0, .int .u16 0, .int .u16 0, .int .u16 0, .int .u16 0] 24 (0, 0))) := ⟨by rw [← hq_]; exact (by (with_reducible repeat (first | refine blk_drewN ?_ _ | refine blk_drew ?_ | refine blk_alloc ?_ _)); exact BK166.out)⟩; have n1_ : Aside0 (Below w.heap.size w w36) := ⟨by rw [← hq_]; exact (by repeat (first | (with_reducible first | exact HB.out | apply below_alloc | apply pw_below_drewN | apply below_drew1 | refine below_set ?_ GE166.out) | exact HB.out))⟩; clear BK166 HB hq_; have BK166 := n0_; have HB := n1_; clear n0_ n1_))))
           have n0_ := Aside0.mk (blk_drew BK166.out)
           have n1_ := Aside0.mk (below_drew1 HB.out)
           clear BK166
           clear HB
           have BK166 := n0_
           have HB := n1_
           clear n0_ n1_
           have p169 : 0 ≤ (1 : Int) := (by omega)
           have q169 : 1 < (l0.length : Int) := of_decide_eq_true (by first | (with_reducible assumption) | assumption)
           obtain ⟨ad169, e169, hx169_0⟩ := Kd.at_int HR0.out 1 p169 q169
           have hw169_0 := hx169_0
           (try rw [show ((1 : Int)).toNat = 1 from rfl] at hw169_0)
           (try rw [show 1 * 1 = 1 from rfl] at hw169_0)
           (try simp only [Nat.reduceMul, Nat.reduceEqDiff, Go.Addr.add, ↓reduceIte] at hw169_0)
           obtain rfl : ad167 = ad169 := (by injection e169)
           (try simp only [show (1 : Int).toNat = 1 from rfl, Nat.reduceMul, Nat.reduceEqDiff, Go.Addr.add, ↓reduceIte] at hx169_0)
           have qi169 : (1 < l0.length) = True := eq_true (by omega)
           (try rw [show ((1 : Int)).toNat = 1 from rfl] at hx169_0)
           replace hx169_0 := (HB.out.cell (World.block_lt_of_cell? w _ hx169_0)).trans hx169_0
           replace p169 := eq_true p169
           replace q169 := eq_true q169
           obtain ⟨i038, hi038, _, hsz38, _⟩ := info_parts info5
           obtain ⟨A38, hcut38, hA38, hC38⟩ := print_drop_of (P := Try.prog) (Value.int .u8) 0 26 5 .i64 Try.underlying26 hi038 hsz38 (some ad167) c0 l0 2 (by omega) (of_decide_eq_true (by first | (with_reducible assumption) | assumption)) HC0.out
           have HR170 := Aside0.mk (Kd.C_of_reads (h1 := fun _ => rfl) (hA38 _ (Kd.reads_of_C HR0.out)))
           have HC170 := Aside0.mk hC38
           clear hA38 hC38 hi038 hsz38
           obtain ⟨i039, hi039, _, hsz39, _⟩ := info_parts info5
           obtain ⟨A39, hcut39, hA39, hC39⟩ := print_drop_of (P := Try.prog) (Value.int .u8) 0 26 5 .i64 Try.underlying26 hi039 hsz39 (some ad167) c0 l0 4 (by omega) (of_decide_eq_true (by first | (with_reducible assumption) | assumption)) HC0.out
           have HR172 := Aside0.mk (Kd.C_of_reads (h1 := fun _ => rfl) (hA39 _ (Kd.reads_of_C HR0.out)))
           have HC172 := Aside0.mk hC39
           clear hA39 hC39 hi039 hsz39
           obtain ⟨i040, hi040, _, hsz40, _⟩ := info_parts info5
           obtain ⟨A40, hcut40, hA40, hC40⟩ := print_drop_of (P := Try.prog) (Value.int .u8) 0 26 5 .i64 Try.underlying26 hi040 hsz40 (some ad167) c0 l0 6 (by omega) (of_decide_eq_true (by first | (with_reducible assumption) | assumption)) HC0.out
           have HR174 := Aside0.mk (Kd.C_of_reads (h1 := fun _ => rfl) (hA40 _ (Kd.reads_of_C HR0.out)))
           have HC174 := Aside0.mk hC40
           clear hA40 hC40 hi040 hsz40
           obtain ⟨i041, hi041, _, hsz41, _⟩ := info_parts info5
           obtain ⟨A41, hcut41, hA41, hC41⟩ := print_drop_of (P := Try.prog) (Value.int .u8) 0 26 5 .i64 Try.underlying26 hi041 hsz41 (some ad167) c0 l0 8 (by omega) (of_decide_eq_true (by first | (with_reducible assumption) | assumption)) HC0.out
           have HR176 := Aside0.mk (Kd.C_of_reads (h1 := fun _ => rfl) (hA41 _ (Kd.reads_of_C HR0.out)))
           have HC176 := Aside0.mk hC41
           clear hA41 hC41 hi041 hsz41
           refine start_ (n := 18) (S := fun w' => w'.cell? ⟨ad167.block, ad167.off + 1, none⟩ = some (.int .u8 (rd l0 1))) (ds := []) #[false, false, false, false, false, false, false, false, false, false, false, false, false, false, false, false, false, false] (by kernel_rfl) rfl rfl (((HB.out.cell (World.block_lt_of_cell? w _ hw169_0)).trans hw169_0)) (fun hHeld => ?_); refine with_tabW tele_Decode.tab7 tele_Decode.bits7 (fun HT_ HW_ => ?_)
           generalize w36.drew = w37 at BK166 HB HR170 HR172 HR174 HR176 hx169_0 hHeld ⊢
           refine pure_ (i := 0) (N := some 22) (v := ?_) (a' := ?_) #[true, false, false, false, false, false, false, false, false, false, false, false, false, false, false, false, false, false] rfl rfl (any_of HT_.out (by kernel_rfl)) (fun _ _ _ h => h) (Or.inl ⟨by rfl, ?_⟩) ?_ ?_
           rotate_left
           ·intro w'
            go_simp
            with_reducible rfl
           rotate_left
           ·simp only [Act.put, List.setIfInBounds_toArray, List.set_cons_zero, List.set_cons_succ, i64_w, i32_w]
            rfl
           refine pure_ (i := 1) (N := some 23) (v := ?_) (a' := ?_) #[true, true, false, false, false, false, false, false, false, false, false, false, false, false, false, false, false, false] rfl rfl (any_of HT_.out (by kernel_rfl)) (fun _ _ _ h => h) (Or.inl ⟨by rfl, ?_⟩) ?_ ?_
           rotate_left
           ·intro w'
            go_simp
            with_reducible rfl
           rotate_left
           ·simp only [Act.put, List.setIfInBounds_toArray, List.set_cons_zero, List.set_cons_succ, i64_w, i32_w]
            rfl
           refine pure_ (i := 3) (N := some 25) (v := ?_) (a' := ?_) #[true, true, false, true, false, false, false, false, false, false, false, false, false, false, false, false, false, false] rfl rfl (any_of HT_.out (by kernel_rfl)) (fun _ _ _ h => h) (Or.inl ⟨by rfl, ?_⟩) ?_ ?_
           rotate_left
           ·intro w'
            go_simp
            with_reducible rfl
           rotate_left
           ·simp only [Act.put, List.setIfInBounds_toArray, List.set_cons_zero, List.set_cons_succ, i64_w, i32_w]
            rfl
           refine pure_ (i := 4) (N := some 26) (v := ?_) (a' := ?_) #[true, true, false, true, true, false, false, false, false, false, false, false, false, false, false, false, false, false] rfl rfl (any_of HT_.out (by kernel_rfl)) (fun _ _ _ h => h) (Or.inl ⟨by rfl, ?_⟩) ?_ ?_
           rotate_left
           ·intro w'
            go_simp
            with_reducible rfl
           rotate_left
           ·simp only [Act.put, List.setIfInBounds_toArray, List.set_cons_zero, List.set_cons_succ, i64_w, i32_w]
            rfl
           refine pure_ (i := 6) (N := some 28) (v := ?_) (a' := ?_) #[true, true, false, true, true, false, true, false, false, false, false, false, false, false, false, false, false, false] rfl rfl (any_of HT_.out (by kernel_rfl)) (fun _ _ _ h => h) (Or.inl ⟨by rfl, ?_⟩) ?_ ?_
           rotate_left
           ·intro w'
            go_simp
            with_reducible rfl
           rotate_left
           ·simp only [Act.put, List.setIfInBounds_toArray, List.set_cons_zero, List.set_cons_succ, i64_w, i32_w]
            rfl
           refine pure_ (i := 7) (N := some 29) (v := ?_) (a' := ?_) #[true, true, false, true, true, false, true, true, false, false, false, false, false, false, false, false, false, false] rfl rfl (any_of HT_.out (by kernel_rfl)) (fun _ _ _ h => h) (Or.inl ⟨by rfl, ?_⟩) ?_ ?_
           rotate_left
           ·intro w'
            go_simp
            with_reducible rfl
           rotate_left
           ·simp only [Act.put, List.setIfInBounds_toArray, List.set_cons_zero, List.set_cons_succ, i64_w, i32_w]
            rfl
           refine pure_ (i := 9) (N := some 31) (v := ?_) (a' := ?_) #[true, true, false, true, true, false, true, true, false, true, false, false, false, false, false, false, false, false] rfl rfl (any_of HT_.out (by kernel_rfl)) (fun _ _ _ h => h) (Or.inl ⟨by rfl, ?_⟩) ?_ ?_
           rotate_left
           ·intro w'
            go_simp
            with_reducible rfl
           rotate_left
           ·simp only [Act.put, List.setIfInBounds_toArray, List.set_cons_zero, List.set_cons_succ, i64_w, i32_w]
            rfl
           refine pure_ (i := 10) (N := some 32) (v := ?_) (a' := ?_) #[true, true, false, true, true, false, true, true, false, true, true, false, false, false, false, false, false, false] rfl rfl (any_of HT_.out (by kernel_rfl)) (fun _ _ _ h => h) (Or.inl ⟨by rfl, ?_⟩) ?_ ?_
           rotate_left
           ·intro w'
            go_simp
            with_reducible rfl
           rotate_left
           ·simp only [Act.put, List.setIfInBounds_toArray, List.set_cons_zero, List.set_cons_succ, i64_w, i32_w]
            rfl
           refine pure_ (i := 12) (N := some 34) (v := ?_) (a' := ?_) #[true, true, false, true, true, false, true, true, false, true, true, false, true, false, false, false, false, false] rfl rfl (any_of HT_.out (by kernel_rfl)) (fun _ _ _ h => h) (Or.inl ⟨by rfl, ?_⟩) ?_ ?_
           rotate_left
           ·intro w'
            go_simp
            with_reducible rfl
           rotate_left
           ·simp only [Act.put, List.setIfInBounds_toArray, List.set_cons_zero, List.set_cons_succ, i64_w, i32_w]
            rfl
           refine pure_ (i := 13) (N := some 35) (v := ?_) (a' := ?_) #[true, true, false, true, true, false, true, true, false, true, true, false, true, true, false, false, false, false] rfl rfl (any_of HT_.out (by kernel_rfl)) (fun _ _ _ h => h) (Or.inl ⟨by rfl, ?_⟩) ?_ ?_
           rotate_left
           ·intro w'
            go_simp
            with_reducible rfl
           rotate_left
           ·simp only [Act.put, List.setIfInBounds_toArray, List.set_cons_zero, List.set_cons_succ, i64_w, i32_w]
            rfl
           refine take_ (i := 2) (N := some 24) (v := ?_) (a' := ?_) #[true, true, true, true, true, false, true, true, false, true, true, false, true, true, false, false, false, false] rfl rfl (take_ofW HT_.out HW_.out (by kernel_rfl)) (fun _ _ _ h => h) (Or.inl ⟨by rfl, ?_⟩) hHeld ?_ ?_
           rotate_left
           ·intro w' s0
            go_simp
            with_reducible rfl
           rotate_left
           ·simp only [Act.put, List.setIfInBounds_toArray, List.set_cons_zero, List.set_cons_succ, i64_w, i32_w]
            rfl
           refine join_ (σ := Nat) 1 #[true, true, true, true, true, true, true, true, true, true, true, true, true, true, true, true, true, false] (fun s_ => [(27, .int .u16 t171), (30, .int .u16 t173), (33, .int .u16 t175), (36, .int .u16 t177), (4, .pointer (some ⟨s_, 0, none⟩)), (37, .agg #[.int .u8 (rd l0 1), .int .u16 t171, .int .u16 t173, .int .u16 t175, .int .u16 t177])]) (fun s_ w' => (w'.cell? ⟨ad167.block, ad167.off + 1, none⟩ = some (.int .u8 (rd l0 1))) ∧ (w'.heap[gb166]? = some (.cells #[.int .u8 0, .int .u16 0, .int .u16 0, .int .u16 0, .int .u16 0] 24 (0, 0))) ∧ (w'.heap[s_]? = some (.cells #[.int .u8 0, .int .u16 0, .int .u16 0, .int .u16 0, .int .u16 0] 24 (0, 0))) ∧ (w.heap.size ≤ s_) ∧ (w.heap.size ≤ s_) ∧ (gb166 ≠ s_) ∧ (s_ ≠ gb166) ∧ (Below w.heap.size w w')) ?_ ?_
           rotate_left
           ·intro hJ5_8_11_14_16
            refine join_ (σ := Unit) 2 #[true, true, true, true, true, true, true, true, true, true, true, true, true, true, true, true, false, false] (fun s_ => [(27, .int .u16 t171), (30, .int .u16 t173), (33, .int .u16 t175), (36, .int .u16 t177), (37, .agg #[.int .u8 (rd l0 1), .int .u16 t171, .int .u16 t173, .int .u16 t175, .int .u16 t177])]) (fun s_ w' => (w'.cell? ⟨ad167.block, ad167.off + 1, none⟩ = some (.int .u8 (rd l0 1))) ∧ (w'.heap[gb166]? = some (.cells #[.int .u8 0, .int .u16 0, .int .u16 0, .int .u16 0, .int .u16 0] 24 (0, 0))) ∧ (Below w.heap.size w w')) ?_ ?_
            rotate_left
            ·intro hJ5_8_11_14
             refine join_ (σ := Nat) 3 #[true, true, true, true, true, true, true, true, true, true, true, true, true, true, false, false, true, false] (fun s_ => [(27, .int .u16 t171), (30, .int .u16 t173), (33, .int .u16 t175), (4, .pointer (some ⟨s_, 0, none⟩))]) (fun s_ w' => (w'.cell? ⟨ad167.block, ad167.off + 1, none⟩ = some (.int .u8 (rd l0 1))) ∧ (w'.heap[gb166]? = some (.cells #[.int .u8 0, .int .u16 0, .int .u16 0, .int .u16 0, .int .u16 0] 24 (0, 0))) ∧ (w'.heap[s_]? = some (.cells #[.int .u8 0, .int .u16 0, .int .u16 0, .int .u16 0, .int .u16 0] 24 (0, 0))) ∧ (w.heap.size ≤ s_) ∧ (w.heap.size ≤ s_) ∧ (gb166 ≠ s_) ∧ (s_ ≠ gb166) ∧ (Below w.heap.size w w')) ?_ ?_
             rotate_left
             ·intro hJ5_8_11_16
              refine join_ (σ := Unit) 4 #[true, true, true, true, true, true, true, true, true, true, true, true, true, true, false, false, false, false] (fun s_ => [(27, .int .u16 t171), (30, .int .u16 t173), (33, .int .u16 t175)]) (fun s_ w' => (w'.cell? ⟨ad167.block, ad167.off + 1, none⟩ = some (.int .u8 (rd l0 1))) ∧ (w'.heap[gb166]? = some (.cells #[.int .u8 0, .int .u16 0, .int .u16 0, .int .u16 0, .int .u16 0] 24 (0, 0))) ∧ (Below w.heap.size w w')) ?_ ?_
              rotate_left
              ·intro hJ5_8_11
               refine join_ (σ := Nat) 4 #[true, true, true, true, true, true, true, true, true, true, true, false, true, true, false, false, true, false] (fun s_ => [(27, .int .u16 t171), (30, .int .u16 t173), (4, .pointer (some ⟨s_, 0, none⟩))]) (fun s_ w' => (w'.cell? ⟨ad167.block, ad167.off + 1, none⟩ = some (.int .u8 (rd l0 1))) ∧ (w'.heap[gb166]? = some (.cells #[.int .u8 0, .int .u16 0, .int .u16 0, .int .u16 0, .int .u16 0] 24 (0, 0))) ∧ (w'.heap[s_]? = some (.cells #[.int .u8 0, .int .u16 0, .int .u16 0, .int .u16 0, .int .u16 0] 24 (0, 0))) ∧ (w.heap.size ≤ s_) ∧ (w.heap.size ≤ s_) ∧ (gb166 ≠ s_) ∧ (s_ ≠ gb166) ∧ (Below w.heap.size w w')) ?_ ?_
               rotate_left
               ·intro hJ5_8_16
                refine join_ (σ := Unit) 5 #[true, true, true, true, true, true, true, true, true, true, true, false, true, true, false, false, false, false] (fun s_ => [(27, .int .u16 t171), (30, .int .u16 t173)]) (fun s_ w' => (w'.cell? ⟨ad167.block, ad167.off + 1, none⟩ = some (.int .u8 (rd l0 1))) ∧ (w'.heap[gb166]? = some (.cells #[.int .u8 0, .int .u16 0, .int .u16 0, .int .u16 0, .int .u16 0] 24 (0, 0))) ∧ (Below w.heap.size w w')) ?_ ?_
                rotate_left
                ·intro hJ5_8
                 refine join_ (σ := Nat) 5 #[true, true, true, true, true, true, true, true, false, true, true, false, true, true, false, false, true, false] (fun s_ => [(27, .int .u16 t171), (4, .pointer (some ⟨s_, 0, none⟩))]) (fun s_ w' => (w'.cell? ⟨ad167.block, ad167.off + 1, none⟩ = some (.int .u8 (rd l0 1))) ∧ (w'.heap[gb166]? = some (.cells #[.int .u8 0, .int .u16 0, .int .u16 0, .int .u16 0, .int .u16 0] 24 (0, 0))) ∧ (w'.heap[s_]? = some (.cells #[.int .u8 0, .int .u16 0, .int .u16 0, .int .u16 0, .int .u16 0] 24 (0, 0))) ∧ (w.heap.size ≤ s_) ∧ (w.heap.size ≤ s_) ∧ (gb166 ≠ s_) ∧ (s_ ≠ gb166) ∧ (Below w.heap.size w w')) ?_ ?_
                 rotate_left
                 ·intro hJ5_16
                  refine join_ (σ := Unit) 6 #[true, true, true, true, true, true, true, true, false, true, true, false, true, true, false, false, false, false] (fun s_ => [(27, .int .u16 t171)]) (fun s_ w' => (w'.cell? ⟨ad167.block, ad167.off + 1, none⟩ = some (.int .u8 (rd l0 1))) ∧ (w'.heap[gb166]? = some (.cells #[.int .u8 0, .int .u16 0, .int .u16 0, .int .u16 0, .int .u16 0] 24 (0, 0))) ∧ (Below w.heap.size w w')) ?_ ?_
                  rotate_left
                  ·intro hJ5
                   refine join_ (σ := Nat) 6 #[true, true, true, true, true, false, true, true, false, true, true, false, true, true, false, false, true, false] (fun s_ => [(4, .pointer (some ⟨s_, 0, none⟩))]) (fun s_ w' => (w'.cell? ⟨ad167.block, ad167.off + 1, none⟩ = some (.int .u8 (rd l0 1))) ∧ (w'.heap[gb166]? = some (.cells #[.int .u8 0, .int .u16 0, .int .u16 0, .int .u16 0, .int .u16 0] 24 (0, 0))) ∧ (w'.heap[s_]? = some (.cells #[.int .u8 0, .int .u16 0, .int .u16 0, .int .u16 0, .int .u16 0] 24 (0, 0))) ∧ (w.heap.size ≤ s_) ∧ (w.heap.size ≤ s_) ∧ (gb166 ≠ s_) ∧ (s_ ≠ gb166) ∧ (Below w.heap.size w w')) ?_ ?_
                   rotate_left
                   ·intro hJ16
                    refine two_ (i := 5) (j := 16) (Ni := some 27) (Nj := some 4) #[true, true, true, true, true, true, true, true, false, true, true, false, true, true, false, false, false, false] #[true, true, true, true, true, false, true, true, false, true, true, false, true, true, false, false, true, false] rfl rfl rfl rfl (two_of HT_.out (by kernel_rfl)) (by decide) (by decide) (fun K hK => ?_) (fun K hK => ?_)
                    ·skip
                     refine goes_ Try.func26 (by kernel_rfl) rfl #[.slice A38 (l0.drop 2).length (c0 - 2)] (by rfl) rfl rfl (by (try simp only [List.map_toArray, List.map_cons, List.map_nil]); first | done | (rw [show (l0.drop 2).length = (l0.length - 2) from List.length_drop] <;> rfl) | rfl | (simp only [List.length_drop, List.length_take]; rfl)) ?_
                     with_reducible refine (tele_word.calls _ _ (l0.drop 2) t171 _ ?side1 ?side2 A9.out).mono ?_
                     (case side1 => repeat (first | exact (Kd.C_below HR170.out HB.out) | (with_reducible refine Kd.C_alloc ?_ _) | (with_reducible refine Kd.C_drewN ?_ _) | (with_reducible refine Kd.C_drew ?_)))
                     (case side2 => exact HC170.out)
                     rintro e w' ⟨rfl, ⟨nd, rfl⟩⟩
                     refine ⟨_, rfl, ?_⟩
                     refine hK.out _ _ (((HB.out.cell (World.block_lt_of_cell? w _ hw169_0)).trans hw169_0)) (fun hHeld => ?_)
                     clear hK K
                     refine norm_ (a' := ?_) ?_ ?_
                     rotate_left
                     ·show Act.put _ (some 27) _ = _
                      simp only [Act.put, List.setIfInBounds_toArray, List.set_cons_zero, List.set_cons_succ, i64_w, i32_w]
                      rfl
                     exact norm_ (by first | (simp only [putAll, Act.put, List.setIfInBounds_toArray, List.set_cons_zero, List.set_cons_succ]; done) | (simp only [putAll, Act.put, List.setIfInBounds_toArray, List.set_cons_zero, List.set_cons_succ]; rfl)) (hJ5 () _ ⟨hHeld, (by (with_reducible repeat (first | refine blk_drewN ?_ _ | refine blk_drew ?_ | refine blk_alloc ?_ _)); exact BK166.out), (by repeat (first | (with_reducible first | exact HB.out | apply below_alloc | apply pw_below_drewN | apply below_drew1 | refine below_set ?_ GE166.out) | exact HB.out))⟩)
                    ·skip
                     refine box_step ?hg (N := 4) ?hd (cs := #[.int .u8 0, .int .u16 0, .int .u16 0, .int .u16 0, .int .u16 0]) (t := 24) ?hr ?_; (case hd => rfl); (case hg => rfl); (case hr => first | (go_simp; done) | (go_simp; rfl))
                     intro gb178 hg w42 hbox hb
                     have n0_ := Aside0.mk (blk_below (g := gb166) (o := .cells #[.int .u8 0, .int .u16 0, .int .u16 0, .int .u16 0, .int .u16 0] 24 (0, 0)) (by (with_reducible repeat (first | refine blk_drewN ?_ _ | refine blk_drew ?_ | refine blk_alloc ?_ _)); exact BK166.out) hb)
                     have n1_ := Aside0.mk (below_step (by repeat (first | (with_reducible first | exact HB.out | apply below_alloc | apply pw_below_drewN | apply below_drew1 | refine below_set ?_ GE166.out) | exact HB.out)) hb)
                     have n2_ := Aside0.mk (hbox)
                     have n3_ := Aside0.mk ((by rw [hg]; exact (below_size (by repeat (first | (with_reducible first | exact HB.out | apply below_alloc | apply pw_below_drewN | apply below_drew1 | refine below_set ?_ GE166.out) | exact HB.out))) : w.heap.size ≤ gb178))
                     have n4_ := Aside0.mk ((by rw [hg]; exact (below_size (by repeat (first | (with_reducible first | exact HB.out | apply below_alloc | apply pw_below_drewN | apply below_drew1 | refine below_set ?_ GE166.out) | exact HB.out))) : w.heap.size ≤ gb178))
                     have n5_ := Aside0.mk ((by rw [hg]; exact Nat.ne_of_lt (blk_lt (g := gb166) (o := .cells #[.int .u8 0, .int .u16 0, .int .u16 0, .int .u16 0, .int .u16 0] 24 (0, 0)) (by (with_reducible repeat (first | refine blk_drewN ?_ _ | refine blk_drew ?_ | refine blk_alloc ?_ _)); exact BK166.out)) : gb166 ≠ gb178))
                     have n6_ := Aside0.mk ((by rw [hg]; exact Nat.ne_of_gt (blk_lt (g := gb166) (o := .cells #[.int .u8 0, .int .u16 0, .int .u16 0, .int .u16 0, .int .u16 0] 24 (0, 0)) (by (with_reducible repeat (first | refine blk_drewN ?_ _ | refine blk_drew ?_ | refine blk_alloc ?_ _)); exact BK166.out)) : gb178 ≠ gb166))
                     clear BK166
                     clear HB
                     have BK166 := n0_
                     have HB := n1_
                     have BK178 := n2_
                     have GW178 := n3_
                     have GE178 := n4_
                     have NB166_178 := n5_
                     have NB178_166 := n6_
                     clear n0_ n1_ n2_ n3_ n4_ n5_ n6_
                     clear hb hbox hg
                     refine hK.out _ _ (((HB.out.cell (World.block_lt_of_cell? w _ hw169_0)).trans hw169_0)) (fun hHeld => ?_)
                     clear hK K
                     refine norm_ (a' := ?_) ?_ ?_
                     rotate_left
                     ·show Act.put _ (some 4) _ = _
                      simp only [Act.put, List.setIfInBounds_toArray, List.set_cons_zero, List.set_cons_succ, i64_w, i32_w]
                      rfl
                     exact norm_ (by first | (simp only [putAll, Act.put, List.setIfInBounds_toArray, List.set_cons_zero, List.set_cons_succ]; done) | (simp only [putAll, Act.put, List.setIfInBounds_toArray, List.set_cons_zero, List.set_cons_succ]; rfl)) (hJ16 (gb178) _ ⟨hHeld, (by (with_reducible repeat (first | refine blk_drewN ?_ _ | refine blk_drew ?_ | refine blk_alloc ?_ _)); exact BK166.out), (by (with_reducible repeat (first | refine blk_drewN ?_ _ | refine blk_drew ?_ | refine blk_alloc ?_ _)); exact BK178.out), GW178.out, GE178.out, NB166_178.out, NB178_166.out, (by repeat (first | (with_reducible first | exact HB.out | apply below_alloc | apply pw_below_drewN | apply below_drew1 | refine below_set ?_ GE166.out | refine below_set ?_ GE178.out) | exact HB.out))⟩)
                   ·skip
                    rintro gb178 w43 ⟨hS_, h0_, h1_, h2_, h3_, h4_, h5_, h6_⟩
                    have n0_ : Aside0 (w43.heap[gb166]? = some (.cells #[.int .u8 0, .int .u16 0, .int .u16 0, .int .u16 0, .int .u16 0] 24 (0, 0))) := ⟨h0_⟩
                    have n1_ : Aside0 (w43.heap[gb178]? = some (.cells #[.int .u8 0, .int .u16 0, .int .u16 0, .int .u16 0, .int .u16 0] 24 (0, 0))) := ⟨h1_⟩
                    have n2_ : Aside0 (w.heap.size ≤ gb178) := ⟨h2_⟩
                    have n3_ : Aside0 (w.heap.size ≤ gb178) := ⟨h3_⟩
                    have n4_ : Aside0 (gb166 ≠ gb178) := ⟨h4_⟩
                    have n5_ : Aside0 (gb178 ≠ gb166) := ⟨h5_⟩
                    have n6_ : Aside0 (Below w.heap.size w w43) := ⟨h6_⟩
                    clear BK166
                    clear HB
                    clear h0_ h1_ h2_ h3_ h4_ h5_ h6_
                    have BK166 := n0_
                    have BK178 := n1_
                    have GW178 := n2_
                    have GE178 := n3_
                    have NB166_178 := n4_
                    have NB178_166 := n5_
                    have HB := n6_
                    clear n0_ n1_ n2_ n3_ n4_ n5_ n6_
                    have hHeld : w43.cell? ⟨ad167.block, ad167.off + 1, none⟩ = some (.int .u8 (rd l0 1)) := hS_
                    refine norm_ (a' := ?_) ?_ ?_
                    rotate_left
                    ·simp only [putAll, Act.put, List.setIfInBounds_toArray, List.set_cons_zero, List.set_cons_succ]
                     rfl
                    refine one_ (i := 5) (N := some 27) #[true, true, true, true, true, true, true, true, false, true, true, false, true, true, false, false, true, false] rfl rfl (one_of HT_.out (by kernel_rfl)) (by decide) (fun K hK => ?_)
                    refine goes_ Try.func26 (by kernel_rfl) rfl #[.slice A38 (l0.drop 2).length (c0 - 2)] (by rfl) rfl rfl (by (try simp only [List.map_toArray, List.map_cons, List.map_nil]); first | done | (rw [show (l0.drop 2).length = (l0.length - 2) from List.length_drop] <;> rfl) | rfl | (simp only [List.length_drop, List.length_take]; rfl)) ?_
                    with_reducible refine (tele_word.calls _ _ (l0.drop 2) t171 _ ?side1 ?side2 A9.out).mono ?_
                    (case side1 => repeat (first | exact (Kd.C_below HR170.out HB.out) | (with_reducible refine Kd.C_alloc ?_ _) | (with_reducible refine Kd.C_drewN ?_ _) | (with_reducible refine Kd.C_drew ?_)))
                    (case side2 => exact HC170.out)
                    rintro e w' ⟨rfl, ⟨nd, rfl⟩⟩
                    refine ⟨_, rfl, ?_⟩
                    refine hK.out _ _ (((HB.out.cell (World.block_lt_of_cell? w _ hw169_0)).trans hw169_0)) (fun hHeld => ?_)
                    clear hK K
                    refine norm_ (a' := ?_) ?_ ?_
                    rotate_left
                    ·show Act.put _ (some 27) _ = _
                     simp only [Act.put, List.setIfInBounds_toArray, List.set_cons_zero, List.set_cons_succ, i64_w, i32_w]
                     rfl
                    exact norm_ (by first | (simp only [putAll, Act.put, List.setIfInBounds_toArray, List.set_cons_zero, List.set_cons_succ]; done) | (simp only [putAll, Act.put, List.setIfInBounds_toArray, List.set_cons_zero, List.set_cons_succ]; rfl)) (hJ5_16 (gb178) _ ⟨hHeld, (by (with_reducible repeat (first | refine blk_drewN ?_ _ | refine blk_drew ?_ | refine blk_alloc ?_ _)); exact BK166.out), (by (with_reducible repeat (first | refine blk_drewN ?_ _ | refine blk_drew ?_ | refine blk_alloc ?_ _)); exact BK178.out), GW178.out, GE178.out, NB166_178.out, NB178_166.out, (by repeat (first | (with_reducible first | exact HB.out | apply below_alloc | apply pw_below_drewN | apply below_drew1 | refine below_set ?_ GE166.out | refine below_set ?_ GE178.out) | exact HB.out))⟩)
                  ·skip
                   rintro _ w42 ⟨hS_, h0_, h1_⟩
                   have n0_ : Aside0 (w42.heap[gb166]? = some (.cells #[.int .u8 0, .int .u16 0, .int .u16 0, .int .u16 0, .int .u16 0] 24 (0, 0))) := ⟨h0_⟩
                   have n1_ : Aside0 (Below w.heap.size w w42) := ⟨h1_⟩
                   clear BK166
                   clear HB
                   clear h0_ h1_
                   have BK166 := n0_
                   have HB := n1_
                   clear n0_ n1_
                   have hHeld : w42.cell? ⟨ad167.block, ad167.off + 1, none⟩ = some (.int .u8 (rd l0 1)) := hS_
                   refine norm_ (a' := ?_) ?_ ?_
                   rotate_left
                   ·simp only [putAll, Act.put, List.setIfInBounds_toArray, List.set_cons_zero, List.set_cons_succ]
                    rfl
                   refine two_ (i := 8) (j := 16) (Ni := some 30) (Nj := some 4) #[true, true, true, true, true, true, true, true, true, true, true, false, true, true, false, false, false, false] #[true, true, true, true, true, true, true, true, false, true, true, false, true, true, false, false, true, false] rfl rfl rfl rfl (two_of HT_.out (by kernel_rfl)) (by decide) (by decide) (fun K hK => ?_) (fun K hK => ?_)
                   ·skip
                    refine goes_ Try.func26 (by kernel_rfl) rfl #[.slice A39 (l0.drop 4).length (c0 - 4)] (by rfl) rfl rfl (by (try simp only [List.map_toArray, List.map_cons, List.map_nil]); first | done | (rw [show (l0.drop 4).length = (l0.length - 4) from List.length_drop] <;> rfl) | rfl | (simp only [List.length_drop, List.length_take]; rfl)) ?_
                    with_reducible refine (tele_word.calls _ _ (l0.drop 4) t173 _ ?side1 ?side2 A11.out).mono ?_
                    (case side1 => repeat (first | exact (Kd.C_below HR172.out HB.out) | (with_reducible refine Kd.C_alloc ?_ _) | (with_reducible refine Kd.C_drewN ?_ _) | (with_reducible refine Kd.C_drew ?_)))
                    (case side2 => exact HC172.out)
                    rintro e w' ⟨rfl, ⟨nd, rfl⟩⟩
                    refine ⟨_, rfl, ?_⟩
                    refine hK.out _ _ (((HB.out.cell (World.block_lt_of_cell? w _ hw169_0)).trans hw169_0)) (fun hHeld => ?_)
                    clear hK K
                    refine norm_ (a' := ?_) ?_ ?_
                    rotate_left
                    ·show Act.put _ (some 30) _ = _
                     simp only [Act.put, List.setIfInBounds_toArray, List.set_cons_zero, List.set_cons_succ, i64_w, i32_w]
                     rfl
                    exact norm_ (by first | (simp only [putAll, Act.put, List.setIfInBounds_toArray, List.set_cons_zero, List.set_cons_succ]; done) | (simp only [putAll, Act.put, List.setIfInBounds_toArray, List.set_cons_zero, List.set_cons_succ]; rfl)) (hJ5_8 () _ ⟨hHeld, (by (with_reducible repeat (first | refine blk_drewN ?_ _ | refine blk_drew ?_ | refine blk_alloc ?_ _)); exact BK166.out), (by repeat (first | (with_reducible first | exact HB.out | apply below_alloc | apply pw_below_drewN | apply below_drew1 | refine below_set ?_ GE166.out) | exact HB.out))⟩)
                   ·skip
                    refine box_step ?hg (N := 4) ?hd (cs := #[.int .u8 0, .int .u16 0, .int .u16 0, .int .u16 0, .int .u16 0]) (t := 24) ?hr ?_; (case hd => rfl); (case hg => rfl); (case hr => first | (go_simp; done) | (go_simp; rfl))
                    intro gb178 hg w43 hbox hb
                    have n0_ := Aside0.mk (blk_below (g := gb166) (o := .cells #[.int .u8 0, .int .u16 0, .int .u16 0, .int .u16 0, .int .u16 0] 24 (0, 0)) (by (with_reducible repeat (first | refine blk_drewN ?_ _ | refine blk_drew ?_ | refine blk_alloc ?_ _)); exact BK166.out) hb)
                    have n1_ := Aside0.mk (below_step (by repeat (first | (with_reducible first | exact HB.out | apply below_alloc | apply pw_below_drewN | apply below_drew1 | refine below_set ?_ GE166.out) | exact HB.out)) hb)
                    have n2_ := Aside0.mk (hbox)
                    have n3_ := Aside0.mk ((by rw [hg]; exact (below_size (by repeat (first | (with_reducible first | exact HB.out | apply below_alloc | apply pw_below_drewN | apply below_drew1 | refine below_set ?_ GE166.out) | exact HB.out))) : w.heap.size ≤ gb178))
                    have n4_ := Aside0.mk ((by rw [hg]; exact (below_size (by repeat (first | (with_reducible first | exact HB.out | apply below_alloc | apply pw_below_drewN | apply below_drew1 | refine below_set ?_ GE166.out) | exact HB.out))) : w.heap.size ≤ gb178))
                    have n5_ := Aside0.mk ((by rw [hg]; exact Nat.ne_of_lt (blk_lt (g := gb166) (o := .cells #[.int .u8 0, .int .u16 0, .int .u16 0, .int .u16 0, .int .u16 0] 24 (0, 0)) (by (with_reducible repeat (first | refine blk_drewN ?_ _ | refine blk_drew ?_ | refine blk_alloc ?_ _)); exact BK166.out)) : gb166 ≠ gb178))
                    have n6_ := Aside0.mk ((by rw [hg]; exact Nat.ne_of_gt (blk_lt (g := gb166) (o := .cells #[.int .u8 0, .int .u16 0, .int .u16 0, .int .u16 0, .int .u16 0] 24 (0, 0)) (by (with_reducible repeat (first | refine blk_drewN ?_ _ | refine blk_drew ?_ | refine blk_alloc ?_ _)); exact BK166.out)) : gb178 ≠ gb166))
                    clear BK166
                    clear HB
                    have BK166 := n0_
                    have HB := n1_
                    have BK178 := n2_
                    have GW178 := n3_
                    have GE178 := n4_
                    have NB166_178 := n5_
                    have NB178_166 := n6_
                    clear n0_ n1_ n2_ n3_ n4_ n5_ n6_
                    clear hb hbox hg
                    refine hK.out _ _ (((HB.out.cell (World.block_lt_of_cell? w _ hw169_0)).trans hw169_0)) (fun hHeld => ?_)
                    clear hK K
                    refine norm_ (a' := ?_) ?_ ?_
                    rotate_left
                    ·show Act.put _ (some 4) _ = _
                     simp only [Act.put, List.setIfInBounds_toArray, List.set_cons_zero, List.set_cons_succ, i64_w, i32_w]
                     rfl
                    exact norm_ (by first | (simp only [putAll, Act.put, List.setIfInBounds_toArray, List.set_cons_zero, List.set_cons_succ]; done) | (simp only [putAll, Act.put, List.setIfInBounds_toArray, List.set_cons_zero, List.set_cons_succ]; rfl)) (hJ5_16 (gb178) _ ⟨hHeld, (by (with_reducible repeat (first | refine blk_drewN ?_ _ | refine blk_drew ?_ | refine blk_alloc ?_ _)); exact BK166.out), (by (with_reducible repeat (first | refine blk_drewN ?_ _ | refine blk_drew ?_ | refine blk_alloc ?_ _)); exact BK178.out), GW178.out, GE178.out, NB166_178.out, NB178_166.out, (by repeat (first | (with_reducible first | exact HB.out | apply below_alloc | apply pw_below_drewN | apply below_drew1 | refine below_set ?_ GE166.out | refine below_set ?_ GE178.out) | exact HB.out))⟩)
                 ·skip
                  rintro gb178 w43 ⟨hS_, h0_, h1_, h2_, h3_, h4_, h5_, h6_⟩
                  have n0_ : Aside0 (w43.heap[gb166]? = some (.cells #[.int .u8 0, .int .u16 0, .int .u16 0, .int .u16 0, .int .u16 0] 24 (0, 0))) := ⟨h0_⟩
                  have n1_ : Aside0 (w43.heap[gb178]? = some (.cells #[.int .u8 0, .int .u16 0, .int .u16 0, .int .u16 0, .int .u16 0] 24 (0, 0))) := ⟨h1_⟩
                  have n2_ : Aside0 (w.heap.size ≤ gb178) := ⟨h2_⟩
                  have n3_ : Aside0 (w.heap.size ≤ gb178) := ⟨h3_⟩
                  have n4_ : Aside0 (gb166 ≠ gb178) := ⟨h4_⟩
                  have n5_ : Aside0 (gb178 ≠ gb166) := ⟨h5_⟩
                  have n6_ : Aside0 (Below w.heap.size w w43) := ⟨h6_⟩
                  clear BK166
                  clear HB
                  clear h0_ h1_ h2_ h3_ h4_ h5_ h6_
                  have BK166 := n0_
                  have BK178 := n1_
                  have GW178 := n2_
                  have GE178 := n3_
                  have NB166_178 := n4_
                  have NB178_166 := n5_
                  have HB := n6_
                  clear n0_ n1_ n2_ n3_ n4_ n5_ n6_
                  have hHeld : w43.cell? ⟨ad167.block, ad167.off + 1, none⟩ = some (.int .u8 (rd l0 1)) := hS_
                  refine norm_ (a' := ?_) ?_ ?_
                  rotate_left
                  ·simp only [putAll, Act.put, List.setIfInBounds_toArray, List.set_cons_zero, List.set_cons_succ]
                   rfl
                  refine one_ (i := 8) (N := some 30) #[true, true, true, true, true, true, true, true, true, true, true, false, true, true, false, false, true, false] rfl rfl (one_of HT_.out (by kernel_rfl)) (by decide) (fun K hK => ?_)
                  refine goes_ Try.func26 (by kernel_rfl) rfl #[.slice A39 (l0.drop 4).length (c0 - 4)] (by rfl) rfl rfl (by (try simp only [List.map_toArray, List.map_cons, List.map_nil]); first | done | (rw [show (l0.drop 4).length = (l0.length - 4) from List.length_drop] <;> rfl) | rfl | (simp only [List.length_drop, List.length_take]; rfl)) ?_
                  with_reducible refine (tele_word.calls _ _ (l0.drop 4) t173 _ ?side1 ?side2 A11.out).mono ?_
                  (case side1 => repeat (first | exact (Kd.C_below HR172.out HB.out) | (with_reducible refine Kd.C_alloc ?_ _) | (with_reducible refine Kd.C_drewN ?_ _) | (with_reducible refine Kd.C_drew ?_)))
                  (case side2 => exact HC172.out)
                  rintro e w' ⟨rfl, ⟨nd, rfl⟩⟩
                  refine ⟨_, rfl, ?_⟩
                  refine hK.out _ _ (((HB.out.cell (World.block_lt_of_cell? w _ hw169_0)).trans hw169_0)) (fun hHeld => ?_)
                  clear hK K
                  refine norm_ (a' := ?_) ?_ ?_
                  rotate_left
                  ·show Act.put _ (some 30) _ = _
                   simp only [Act.put, List.setIfInBounds_toArray, List.set_cons_zero, List.set_cons_succ, i64_w, i32_w]
                   rfl
                  exact norm_ (by first | (simp only [putAll, Act.put, List.setIfInBounds_toArray, List.set_cons_zero, List.set_cons_succ]; done) | (simp only [putAll, Act.put, List.setIfInBounds_toArray, List.set_cons_zero, List.set_cons_succ]; rfl)) (hJ5_8_16 (gb178) _ ⟨hHeld, (by (with_reducible repeat (first | refine blk_drewN ?_ _ | refine blk_drew ?_ | refine blk_alloc ?_ _)); exact BK166.out), (by (with_reducible repeat (first | refine blk_drewN ?_ _ | refine blk_drew ?_ | refine blk_alloc ?_ _)); exact BK178.out), GW178.out, GE178.out, NB166_178.out, NB178_166.out, (by repeat (first | (with_reducible first | exact HB.out | apply below_alloc | apply pw_below_drewN | apply below_drew1 | refine below_set ?_ GE166.out | refine below_set ?_ GE178.out) | exact HB.out))⟩)
                ·skip
                 rintro _ w42 ⟨hS_, h0_, h1_⟩
                 have n0_ : Aside0 (w42.heap[gb166]? = some (.cells #[.int .u8 0, .int .u16 0, .int .u16 0, .int .u16 0, .int .u16 0] 24 (0, 0))) := ⟨h0_⟩
                 have n1_ : Aside0 (Below w.heap.size w w42) := ⟨h1_⟩
                 clear BK166
                 clear HB
                 clear h0_ h1_
                 have BK166 := n0_
                 have HB := n1_
                 clear n0_ n1_
                 have hHeld : w42.cell? ⟨ad167.block, ad167.off + 1, none⟩ = some (.int .u8 (rd l0 1)) := hS_
                 refine norm_ (a' := ?_) ?_ ?_
                 rotate_left
                 ·simp only [putAll, Act.put, List.setIfInBounds_toArray, List.set_cons_zero, List.set_cons_succ]
                  rfl
                 refine two_ (i := 11) (j := 16) (Ni := some 33) (Nj := some 4) #[true, true, true, true, true, true, true, true, true, true, true, true, true, true, false, false, false, false] #[true, true, true, true, true, true, true, true, true, true, true, false, true, true, false, false, true, false] rfl rfl rfl rfl (two_of HT_.out (by kernel_rfl)) (by decide) (by decide) (fun K hK => ?_) (fun K hK => ?_)
                 ·skip
                  refine goes_ Try.func26 (by kernel_rfl) rfl #[.slice A40 (l0.drop 6).length (c0 - 6)] (by rfl) rfl rfl (by (try simp only [List.map_toArray, List.map_cons, List.map_nil]); first | done | (rw [show (l0.drop 6).length = (l0.length - 6) from List.length_drop] <;> rfl) | rfl | (simp only [List.length_drop, List.length_take]; rfl)) ?_
                  with_reducible refine (tele_word.calls _ _ (l0.drop 6) t175 _ ?side1 ?side2 A13.out).mono ?_
                  (case side1 => repeat (first | exact (Kd.C_below HR174.out HB.out) | (with_reducible refine Kd.C_alloc ?_ _) | (with_reducible refine Kd.C_drewN ?_ _) | (with_reducible refine Kd.C_drew ?_)))
                  (case side2 => exact HC174.out)
                  rintro e w' ⟨rfl, ⟨nd, rfl⟩⟩
                  refine ⟨_, rfl, ?_⟩
                  refine hK.out _ _ (((HB.out.cell (World.block_lt_of_cell? w _ hw169_0)).trans hw169_0)) (fun hHeld => ?_)
                  clear hK K
                  refine norm_ (a' := ?_) ?_ ?_
                  rotate_left
                  ·show Act.put _ (some 33) _ = _
                   simp only [Act.put, List.setIfInBounds_toArray, List.set_cons_zero, List.set_cons_succ, i64_w, i32_w]
                   rfl
                  exact norm_ (by first | (simp only [putAll, Act.put, List.setIfInBounds_toArray, List.set_cons_zero, List.set_cons_succ]; done) | (simp only [putAll, Act.put, List.setIfInBounds_toArray, List.set_cons_zero, List.set_cons_succ]; rfl)) (hJ5_8_11 () _ ⟨hHeld, (by (with_reducible repeat (first | refine blk_drewN ?_ _ | refine blk_drew ?_ | refine blk_alloc ?_ _)); exact BK166.out), (by repeat (first | (with_reducible first | exact HB.out | apply below_alloc | apply pw_below_drewN | apply below_drew1 | refine below_set ?_ GE166.out) | exact HB.out))⟩)
                 ·skip
                  refine box_step ?hg (N := 4) ?hd (cs := #[.int .u8 0, .int .u16 0, .int .u16 0, .int .u16 0, .int .u16 0]) (t := 24) ?hr ?_; (case hd => rfl); (case hg => rfl); (case hr => first | (go_simp; done) | (go_simp; rfl))
                  intro gb178 hg w43 hbox hb
                  have n0_ := Aside0.mk (blk_below (g := gb166) (o := .cells #[.int .u8 0, .int .u16 0, .int .u16 0, .int .u16 0, .int .u16 0] 24 (0, 0)) (by (with_reducible repeat (first | refine blk_drewN ?_ _ | refine blk_drew ?_ | refine blk_alloc ?_ _)); exact BK166.out) hb)
                  have n1_ := Aside0.mk (below_step (by repeat (first | (with_reducible first | exact HB.out | apply below_alloc | apply pw_below_drewN | apply below_drew1 | refine below_set ?_ GE166.out) | exact HB.out)) hb)
                  have n2_ := Aside0.mk (hbox)
                  have n3_ := Aside0.mk ((by rw [hg]; exact (below_size (by repeat (first | (with_reducible first | exact HB.out | apply below_alloc | apply pw_below_drewN | apply below_drew1 | refine below_set ?_ GE166.out) | exact HB.out))) : w.heap.size ≤ gb178))
                  have n4_ := Aside0.mk ((by rw [hg]; exact (below_size (by repeat (first | (with_reducible first | exact HB.out | apply below_alloc | apply pw_below_drewN | apply below_drew1 | refine below_set ?_ GE166.out) | exact HB.out))) : w.heap.size ≤ gb178))
                  have n5_ := Aside0.mk ((by rw [hg]; exact Nat.ne_of_lt (blk_lt (g := gb166) (o := .cells #[.int .u8 0, .int .u16 0, .int .u16 0, .int .u16 0, .int .u16 0] 24 (0, 0)) (by (with_reducible repeat (first | refine blk_drewN ?_ _ | refine blk_drew ?_ | refine blk_alloc ?_ _)); exact BK166.out)) : gb166 ≠ gb178))
                  have n6_ := Aside0.mk ((by rw [hg]; exact Nat.ne_of_gt (blk_lt (g := gb166) (o := .cells #[.int .u8 0, .int .u16 0, .int .u16 0, .int .u16 0, .int .u16 0] 24 (0, 0)) (by (with_reducible repeat (first | refine blk_drewN ?_ _ | refine blk_drew ?_ | refine blk_alloc ?_ _)); exact BK166.out)) : gb178 ≠ gb166))
                  clear BK166
                  clear HB
                  have BK166 := n0_
                  have HB := n1_
                  have BK178 := n2_
                  have GW178 := n3_
                  have GE178 := n4_
                  have NB166_178 := n5_
                  have NB178_166 := n6_
                  clear n0_ n1_ n2_ n3_ n4_ n5_ n6_
                  clear hb hbox hg
                  refine hK.out _ _ (((HB.out.cell (World.block_lt_of_cell? w _ hw169_0)).trans hw169_0)) (fun hHeld => ?_)
                  clear hK K
                  refine norm_ (a' := ?_) ?_ ?_
                  rotate_left
                  ·show Act.put _ (some 4) _ = _
                   simp only [Act.put, List.setIfInBounds_toArray, List.set_cons_zero, List.set_cons_succ, i64_w, i32_w]
                   rfl
                  exact norm_ (by first | (simp only [putAll, Act.put, List.setIfInBounds_toArray, List.set_cons_zero, List.set_cons_succ]; done) | (simp only [putAll, Act.put, List.setIfInBounds_toArray, List.set_cons_zero, List.set_cons_succ]; rfl)) (hJ5_8_16 (gb178) _ ⟨hHeld, (by (with_reducible repeat (first | refine blk_drewN ?_ _ | refine blk_drew ?_ | refine blk_alloc ?_ _)); exact BK166.out), (by (with_reducible repeat (first | refine blk_drewN ?_ _ | refine blk_drew ?_ | refine blk_alloc ?_ _)); exact BK178.out), GW178.out, GE178.out, NB166_178.out, NB178_166.out, (by repeat (first | (with_reducible first | exact HB.out | apply below_alloc | apply pw_below_drewN | apply below_drew1 | refine below_set ?_ GE166.out | refine below_set ?_ GE178.out) | exact HB.out))⟩)
               ·skip
                rintro gb178 w43 ⟨hS_, h0_, h1_, h2_, h3_, h4_, h5_, h6_⟩
                have n0_ : Aside0 (w43.heap[gb166]? = some (.cells #[.int .u8 0, .int .u16 0, .int .u16 0, .int .u16 0, .int .u16 0] 24 (0, 0))) := ⟨h0_⟩
                have n1_ : Aside0 (w43.heap[gb178]? = some (.cells #[.int .u8 0, .int .u16 0, .int .u16 0, .int .u16 0, .int .u16 0] 24 (0, 0))) := ⟨h1_⟩
                have n2_ : Aside0 (w.heap.size ≤ gb178) := ⟨h2_⟩
                have n3_ : Aside0 (w.heap.size ≤ gb178) := ⟨h3_⟩
                have n4_ : Aside0 (gb166 ≠ gb178) := ⟨h4_⟩
                have n5_ : Aside0 (gb178 ≠ gb166) := ⟨h5_⟩
                have n6_ : Aside0 (Below w.heap.size w w43) := ⟨h6_⟩
                clear BK166
                clear HB
                clear h0_ h1_ h2_ h3_ h4_ h5_ h6_
                have BK166 := n0_
                have BK178 := n1_
                have GW178 := n2_
                have GE178 := n3_
                have NB166_178 := n4_
                have NB178_166 := n5_
                have HB := n6_
                clear n0_ n1_ n2_ n3_ n4_ n5_ n6_
                have hHeld : w43.cell? ⟨ad167.block, ad167.off + 1, none⟩ = some (.int .u8 (rd l0 1)) := hS_
                refine norm_ (a' := ?_) ?_ ?_
                rotate_left
                ·simp only [putAll, Act.put, List.setIfInBounds_toArray, List.set_cons_zero, List.set_cons_succ]
                 rfl
                refine one_ (i := 11) (N := some 33) #[true, true, true, true, true, true, true, true, true, true, true, true, true, true, false, false, true, false] rfl rfl (one_of HT_.out (by kernel_rfl)) (by decide) (fun K hK => ?_)
                refine goes_ Try.func26 (by kernel_rfl) rfl #[.slice A40 (l0.drop 6).length (c0 - 6)] (by rfl) rfl rfl (by (try simp only [List.map_toArray, List.map_cons, List.map_nil]); first | done | (rw [show (l0.drop 6).length = (l0.length - 6) from List.length_drop] <;> rfl) | rfl | (simp only [List.length_drop, List.length_take]; rfl)) ?_
                with_reducible refine (tele_word.calls _ _ (l0.drop 6) t175 _ ?side1 ?side2 A13.out).mono ?_
                (case side1 => repeat (first | exact (Kd.C_below HR174.out HB.out) | (with_reducible refine Kd.C_alloc ?_ _) | (with_reducible refine Kd.C_drewN ?_ _) | (with_reducible refine Kd.C_drew ?_)))
                (case side2 => exact HC174.out)
                rintro e w' ⟨rfl, ⟨nd, rfl⟩⟩
                refine ⟨_, rfl, ?_⟩
                refine hK.out _ _ (((HB.out.cell (World.block_lt_of_cell? w _ hw169_0)).trans hw169_0)) (fun hHeld => ?_)
                clear hK K
                refine norm_ (a' := ?_) ?_ ?_
                rotate_left
                ·show Act.put _ (some 33) _ = _
                 simp only [Act.put, List.setIfInBounds_toArray, List.set_cons_zero, List.set_cons_succ, i64_w, i32_w]
                 rfl
                exact norm_ (by first | (simp only [putAll, Act.put, List.setIfInBounds_toArray, List.set_cons_zero, List.set_cons_succ]; done) | (simp only [putAll, Act.put, List.setIfInBounds_toArray, List.set_cons_zero, List.set_cons_succ]; rfl)) (hJ5_8_11_16 (gb178) _ ⟨hHeld, (by (with_reducible repeat (first | refine blk_drewN ?_ _ | refine blk_drew ?_ | refine blk_alloc ?_ _)); exact BK166.out), (by (with_reducible repeat (first | refine blk_drewN ?_ _ | refine blk_drew ?_ | refine blk_alloc ?_ _)); exact BK178.out), GW178.out, GE178.out, NB166_178.out, NB178_166.out, (by repeat (first | (with_reducible first | exact HB.out | apply below_alloc | apply pw_below_drewN | apply below_drew1 | refine below_set ?_ GE166.out | refine below_set ?_ GE178.out) | exact HB.out))⟩)
              ·skip
               rintro _ w42 ⟨hS_, h0_, h1_⟩
               have n0_ : Aside0 (w42.heap[gb166]? = some (.cells #[.int .u8 0, .int .u16 0, .int .u16 0, .int .u16 0, .int .u16 0] 24 (0, 0))) := ⟨h0_⟩
               have n1_ : Aside0 (Below w.heap.size w w42) := ⟨h1_⟩
               clear BK166
               clear HB
               clear h0_ h1_
               have BK166 := n0_
               have HB := n1_
               clear n0_ n1_
               have hHeld : w42.cell? ⟨ad167.block, ad167.off + 1, none⟩ = some (.int .u8 (rd l0 1)) := hS_
               refine norm_ (a' := ?_) ?_ ?_
               rotate_left
               ·simp only [putAll, Act.put, List.setIfInBounds_toArray, List.set_cons_zero, List.set_cons_succ]
                rfl
               refine two_ (i := 14) (j := 16) (Ni := some 36) (Nj := some 4) #[true, true, true, true, true, true, true, true, true, true, true, true, true, true, true, false, false, false] #[true, true, true, true, true, true, true, true, true, true, true, true, true, true, false, false, true, false] rfl rfl rfl rfl (two_of HT_.out (by kernel_rfl)) (by decide) (by decide) (fun K hK => ?_) (fun K hK => ?_)
               ·skip
                refine goes_ Try.func26 (by kernel_rfl) rfl #[.slice A41 (l0.drop 8).length (c0 - 8)] (by rfl) rfl rfl (by (try simp only [List.map_toArray, List.map_cons, List.map_nil]); first | done | (rw [show (l0.drop 8).length = (l0.length - 8) from List.length_drop] <;> rfl) | rfl | (simp only [List.length_drop, List.length_take]; rfl)) ?_
                with_reducible refine (tele_word.calls _ _ (l0.drop 8) t177 _ ?side1 ?side2 A15.out).mono ?_
                (case side1 => repeat (first | exact (Kd.C_below HR176.out HB.out) | (with_reducible refine Kd.C_alloc ?_ _) | (with_reducible refine Kd.C_drewN ?_ _) | (with_reducible refine Kd.C_drew ?_)))
                (case side2 => exact HC176.out)
                rintro e w' ⟨rfl, ⟨nd, rfl⟩⟩
                refine ⟨_, rfl, ?_⟩
                refine hK.out _ _ (((HB.out.cell (World.block_lt_of_cell? w _ hw169_0)).trans hw169_0)) (fun hHeld => ?_)
                clear hK K
                refine norm_ (a' := ?_) ?_ ?_
                rotate_left
                ·show Act.put _ (some 36) _ = _
                 simp only [Act.put, List.setIfInBounds_toArray, List.set_cons_zero, List.set_cons_succ, i64_w, i32_w]
                 rfl
                refine pure_ (i := 15) (N := some 37) (v := ?_) (a' := ?_) #[true, true, true, true, true, true, true, true, true, true, true, true, true, true, true, true, false, false] rfl rfl (any_of HT_.out (by kernel_rfl)) (fun _ _ _ h => h) (Or.inl ⟨by rfl, ?_⟩) ?_ ?_
                rotate_left
                ·intro w'
                 go_simp
                 with_reducible rfl
                rotate_left
                ·simp only [Act.put, List.setIfInBounds_toArray, List.set_cons_zero, List.set_cons_succ, i64_w, i32_w]
                 rfl
                exact norm_ (by first | (simp only [putAll, Act.put, List.setIfInBounds_toArray, List.set_cons_zero, List.set_cons_succ]; done) | (simp only [putAll, Act.put, List.setIfInBounds_toArray, List.set_cons_zero, List.set_cons_succ]; rfl)) (hJ5_8_11_14 () _ ⟨hHeld, (by (with_reducible repeat (first | refine blk_drewN ?_ _ | refine blk_drew ?_ | refine blk_alloc ?_ _)); exact BK166.out), (by repeat (first | (with_reducible first | exact HB.out | apply below_alloc | apply pw_below_drewN | apply below_drew1 | refine below_set ?_ GE166.out) | exact HB.out))⟩)
               ·skip
                refine box_step ?hg (N := 4) ?hd (cs := #[.int .u8 0, .int .u16 0, .int .u16 0, .int .u16 0, .int .u16 0]) (t := 24) ?hr ?_; (case hd => rfl); (case hg => rfl); (case hr => first | (go_simp; done) | (go_simp; rfl))
                intro gb178 hg w43 hbox hb
                have n0_ := Aside0.mk (blk_below (g := gb166) (o := .cells #[.int .u8 0, .int .u16 0, .int .u16 0, .int .u16 0, .int .u16 0] 24 (0, 0)) (by (with_reducible repeat (first | refine blk_drewN ?_ _ | refine blk_drew ?_ | refine blk_alloc ?_ _)); exact BK166.out) hb)
                have n1_ := Aside0.mk (below_step (by repeat (first | (with_reducible first | exact HB.out | apply below_alloc | apply pw_below_drewN | apply below_drew1 | refine below_set ?_ GE166.out) | exact HB.out)) hb)
                have n2_ := Aside0.mk (hbox)
                have n3_ := Aside0.mk ((by rw [hg]; exact (below_size (by repeat (first | (with_reducible first | exact HB.out | apply below_alloc | apply pw_below_drewN | apply below_drew1 | refine below_set ?_ GE166.out) | exact HB.out))) : w.heap.size ≤ gb178))
                have n4_ := Aside0.mk ((by rw [hg]; exact (below_size (by repeat (first | (with_reducible first | exact HB.out | apply below_alloc | apply pw_below_drewN | apply below_drew1 | refine below_set ?_ GE166.out) | exact HB.out))) : w.heap.size ≤ gb178))
                have n5_ := Aside0.mk ((by rw [hg]; exact Nat.ne_of_lt (blk_lt (g := gb166) (o := .cells #[.int .u8 0, .int .u16 0, .int .u16 0, .int .u16 0, .int .u16 0] 24 (0, 0)) (by (with_reducible repeat (first | refine blk_drewN ?_ _ | refine blk_drew ?_ | refine blk_alloc ?_ _)); exact BK166.out)) : gb166 ≠ gb178))
                have n6_ := Aside0.mk ((by rw [hg]; exact Nat.ne_of_gt (blk_lt (g := gb166) (o := .cells #[.int .u8 0, .int .u16 0, .int .u16 0, .int .u16 0, .int .u16 0] 24 (0, 0)) (by (with_reducible repeat (first | refine blk_drewN ?_ _ | refine blk_drew ?_ | refine blk_alloc ?_ _)); exact BK166.out)) : gb178 ≠ gb166))
                clear BK166
                clear HB
                have BK166 := n0_
                have HB := n1_
                have BK178 := n2_
                have GW178 := n3_
                have GE178 := n4_
                have NB166_178 := n5_
                have NB178_166 := n6_
                clear n0_ n1_ n2_ n3_ n4_ n5_ n6_
                clear hb hbox hg
                refine hK.out _ _ (((HB.out.cell (World.block_lt_of_cell? w _ hw169_0)).trans hw169_0)) (fun hHeld => ?_)
                clear hK K
                refine norm_ (a' := ?_) ?_ ?_
                rotate_left
                ·show Act.put _ (some 4) _ = _
                 simp only [Act.put, List.setIfInBounds_toArray, List.set_cons_zero, List.set_cons_succ, i64_w, i32_w]
                 rfl
                exact norm_ (by first | (simp only [putAll, Act.put, List.setIfInBounds_toArray, List.set_cons_zero, List.set_cons_succ]; done) | (simp only [putAll, Act.put, List.setIfInBounds_toArray, List.set_cons_zero, List.set_cons_succ]; rfl)) (hJ5_8_11_16 (gb178) _ ⟨hHeld, (by (with_reducible repeat (first | refine blk_drewN ?_ _ | refine blk_drew ?_ | refine blk_alloc ?_ _)); exact BK166.out), (by (with_reducible repeat (first | refine blk_drewN ?_ _ | refine blk_drew ?_ | refine blk_alloc ?_ _)); exact BK178.out), GW178.out, GE178.out, NB166_178.out, NB178_166.out, (by repeat (first | (with_reducible first | exact HB.out | apply below_alloc | apply pw_below_drewN | apply below_drew1 | refine below_set ?_ GE166.out | refine below_set ?_ GE178.out) | exact HB.out))⟩)
             ·skip
              rintro gb178 w43 ⟨hS_, h0_, h1_, h2_, h3_, h4_, h5_, h6_⟩
              have n0_ : Aside0 (w43.heap[gb166]? = some (.cells #[.int .u8 0, .int .u16 0, .int .u16 0, .int .u16 0, .int .u16 0] 24 (0, 0))) := ⟨h0_⟩
              have n1_ : Aside0 (w43.heap[gb178]? = some (.cells #[.int .u8 0, .int .u16 0, .int .u16 0, .int .u16 0, .int .u16 0] 24 (0, 0))) := ⟨h1_⟩
              have n2_ : Aside0 (w.heap.size ≤ gb178) := ⟨h2_⟩
              have n3_ : Aside0 (w.heap.size ≤ gb178) := ⟨h3_⟩
              have n4_ : Aside0 (gb166 ≠ gb178) := ⟨h4_⟩
              have n5_ : Aside0 (gb178 ≠ gb166) := ⟨h5_⟩
              have n6_ : Aside0 (Below w.heap.size w w43) := ⟨h6_⟩
              clear BK166
              clear HB
              clear h0_ h1_ h2_ h3_ h4_ h5_ h6_
              have BK166 := n0_
              have BK178 := n1_
              have GW178 := n2_
              have GE178 := n3_
              have NB166_178 := n4_
              have NB178_166 := n5_
              have HB := n6_
              clear n0_ n1_ n2_ n3_ n4_ n5_ n6_
              have hHeld : w43.cell? ⟨ad167.block, ad167.off + 1, none⟩ = some (.int .u8 (rd l0 1)) := hS_
              refine norm_ (a' := ?_) ?_ ?_
              rotate_left
              ·simp only [putAll, Act.put, List.setIfInBounds_toArray, List.set_cons_zero, List.set_cons_succ]
               rfl
              refine one_ (i := 14) (N := some 36) #[true, true, true, true, true, true, true, true, true, true, true, true, true, true, true, false, true, false] rfl rfl (one_of HT_.out (by kernel_rfl)) (by decide) (fun K hK => ?_)
              refine goes_ Try.func26 (by kernel_rfl) rfl #[.slice A41 (l0.drop 8).length (c0 - 8)] (by rfl) rfl rfl (by (try simp only [List.map_toArray, List.map_cons, List.map_nil]); first | done | (rw [show (l0.drop 8).length = (l0.length - 8) from List.length_drop] <;> rfl) | rfl | (simp only [List.length_drop, List.length_take]; rfl)) ?_
              with_reducible refine (tele_word.calls _ _ (l0.drop 8) t177 _ ?side1 ?side2 A15.out).mono ?_
              (case side1 => repeat (first | exact (Kd.C_below HR176.out HB.out) | (with_reducible refine Kd.C_alloc ?_ _) | (with_reducible refine Kd.C_drewN ?_ _) | (with_reducible refine Kd.C_drew ?_)))
              (case side2 => exact HC176.out)
              rintro e w' ⟨rfl, ⟨nd, rfl⟩⟩
              refine ⟨_, rfl, ?_⟩
              refine hK.out _ _ (((HB.out.cell (World.block_lt_of_cell? w _ hw169_0)).trans hw169_0)) (fun hHeld => ?_)
              clear hK K
              refine norm_ (a' := ?_) ?_ ?_
              rotate_left
              ·show Act.put _ (some 36) _ = _
               simp only [Act.put, List.setIfInBounds_toArray, List.set_cons_zero, List.set_cons_succ, i64_w, i32_w]
               rfl
              refine pure_ (i := 15) (N := some 37) (v := ?_) (a' := ?_) #[true, true, true, true, true, true, true, true, true, true, true, true, true, true, true, true, true, false] rfl rfl (any_of HT_.out (by kernel_rfl)) (fun _ _ _ h => h) (Or.inl ⟨by rfl, ?_⟩) ?_ ?_
              rotate_left
              ·intro w'
               go_simp
               with_reducible rfl
              rotate_left
              ·simp only [Act.put, List.setIfInBounds_toArray, List.set_cons_zero, List.set_cons_succ, i64_w, i32_w]
               rfl
              exact norm_ (by first | (simp only [putAll, Act.put, List.setIfInBounds_toArray, List.set_cons_zero, List.set_cons_succ]; done) | (simp only [putAll, Act.put, List.setIfInBounds_toArray, List.set_cons_zero, List.set_cons_succ]; rfl)) (hJ5_8_11_14_16 (gb178) _ ⟨hHeld, (by (with_reducible repeat (first | refine blk_drewN ?_ _ | refine blk_drew ?_ | refine blk_alloc ?_ _)); exact BK166.out), (by (with_reducible repeat (first | refine blk_drewN ?_ _ | refine blk_drew ?_ | refine blk_alloc ?_ _)); exact BK178.out), GW178.out, GE178.out, NB166_178.out, NB178_166.out, (by repeat (first | (with_reducible first | exact HB.out | apply below_alloc | apply pw_below_drewN | apply below_drew1 | refine below_set ?_ GE166.out | refine below_set ?_ GE178.out) | exact HB.out))⟩)
            ·skip
             rintro _ w42 ⟨hS_, h0_, h1_⟩
             have n0_ : Aside0 (w42.heap[gb166]? = some (.cells #[.int .u8 0, .int .u16 0, .int .u16 0, .int .u16 0, .int .u16 0] 24 (0, 0))) := ⟨h0_⟩
             have n1_ : Aside0 (Below w.heap.size w w42) := ⟨h1_⟩
             clear BK166
             clear HB
             clear h0_ h1_
             have BK166 := n0_
             have HB := n1_
             clear n0_ n1_
             have hHeld : w42.cell? ⟨ad167.block, ad167.off + 1, none⟩ = some (.int .u8 (rd l0 1)) := hS_
             refine norm_ (a' := ?_) ?_ ?_
             rotate_left
             ·simp only [putAll, Act.put, List.setIfInBounds_toArray, List.set_cons_zero, List.set_cons_succ]
              rfl
             refine one_ (i := 16) (N := some 4) #[true, true, true, true, true, true, true, true, true, true, true, true, true, true, true, true, true, false] rfl rfl (one_of HT_.out (by kernel_rfl)) (by decide) (fun K hK => ?_)
             refine box_step ?hg (N := 4) ?hd (cs := #[.int .u8 0, .int .u16 0, .int .u16 0, .int .u16 0, .int .u16 0]) (t := 24) ?hr ?_; (case hd => rfl); (case hg => rfl); (case hr => first | (go_simp; done) | (go_simp; rfl))
             intro gb178 hg w43 hbox hb
             have n0_ := Aside0.mk (blk_below (g := gb166) (o := .cells #[.int .u8 0, .int .u16 0, .int .u16 0, .int .u16 0, .int .u16 0] 24 (0, 0)) (by (with_reducible repeat (first | refine blk_drewN ?_ _ | refine blk_drew ?_ | refine blk_alloc ?_ _)); exact BK166.out) hb)
             have n1_ := Aside0.mk (below_step (by repeat (first | (with_reducible first | exact HB.out | apply below_alloc | apply pw_below_drewN | apply below_drew1 | refine below_set ?_ GE166.out) | exact HB.out)) hb)
             have n2_ := Aside0.mk (hbox)
             have n3_ := Aside0.mk ((by rw [hg]; exact (below_size (by repeat (first | (with_reducible first | exact HB.out | apply below_alloc | apply pw_below_drewN | apply below_drew1 | refine below_set ?_ GE166.out) | exact HB.out))) : w.heap.size ≤ gb178))
             have n4_ := Aside0.mk ((by rw [hg]; exact (below_size (by repeat (first | (with_reducible first | exact HB.out | apply below_alloc | apply pw_below_drewN | apply below_drew1 | refine below_set ?_ GE166.out) | exact HB.out))) : w.heap.size ≤ gb178))
             have n5_ := Aside0.mk ((by rw [hg]; exact Nat.ne_of_lt (blk_lt (g := gb166) (o := .cells #[.int .u8 0, .int .u16 0, .int .u16 0, .int .u16 0, .int .u16 0] 24 (0, 0)) (by (with_reducible repeat (first | refine blk_drewN ?_ _ | refine blk_drew ?_ | refine blk_alloc ?_ _)); exact BK166.out)) : gb166 ≠ gb178))
             have n6_ := Aside0.mk ((by rw [hg]; exact Nat.ne_of_gt (blk_lt (g := gb166) (o := .cells #[.int .u8 0, .int .u16 0, .int .u16 0, .int .u16 0, .int .u16 0] 24 (0, 0)) (by (with_reducible repeat (first | refine blk_drewN ?_ _ | refine blk_drew ?_ | refine blk_alloc ?_ _)); exact BK166.out)) : gb178 ≠ gb166))
             clear BK166
             clear HB
             have BK166 := n0_
             have HB := n1_
             have BK178 := n2_
             have GW178 := n3_
             have GE178 := n4_
             have NB166_178 := n5_
             have NB178_166 := n6_
             clear n0_ n1_ n2_ n3_ n4_ n5_ n6_
             clear hb hbox hg
             refine hK.out _ _ (((HB.out.cell (World.block_lt_of_cell? w _ hw169_0)).trans hw169_0)) (fun hHeld => ?_)
             clear hK K
             refine norm_ (a' := ?_) ?_ ?_
             rotate_left
             ·show Act.put _ (some 4) _ = _
              simp only [Act.put, List.setIfInBounds_toArray, List.set_cons_zero, List.set_cons_succ, i64_w, i32_w]
              rfl
             exact norm_ (by first | (simp only [putAll, Act.put, List.setIfInBounds_toArray, List.set_cons_zero, List.set_cons_succ]; done) | (simp only [putAll, Act.put, List.setIfInBounds_toArray, List.set_cons_zero, List.set_cons_succ]; rfl)) (hJ5_8_11_14_16 (gb178) _ ⟨hHeld, (by (with_reducible repeat (first | refine blk_drewN ?_ _ | refine blk_drew ?_ | refine blk_alloc ?_ _)); exact BK166.out), (by (with_reducible repeat (first | refine blk_drewN ?_ _ | refine blk_drew ?_ | refine blk_alloc ?_ _)); exact BK178.out), GW178.out, GE178.out, NB166_178.out, NB178_166.out, (by repeat (first | (with_reducible first | exact HB.out | apply below_alloc | apply pw_below_drewN | apply below_drew1 | refine below_set ?_ GE166.out | refine below_set ?_ GE178.out) | exact HB.out))⟩)
           rintro gb178 w43 ⟨hS_, h0_, h1_, h2_, h3_, h4_, h5_, h6_⟩
           have n0_ : Aside0 (w43.heap[gb166]? = some (.cells #[.int .u8 0, .int .u16 0, .int .u16 0, .int .u16 0, .int .u16 0] 24 (0, 0))) := ⟨h0_⟩
           have n1_ : Aside0 (w43.heap[gb178]? = some (.cells #[.int .u8 0, .int .u16 0, .int .u16 0, .int .u16 0, .int .u16 0] 24 (0, 0))) := ⟨h1_⟩
           have n2_ : Aside0 (w.heap.size ≤ gb178) := ⟨h2_⟩
           have n3_ : Aside0 (w.heap.size ≤ gb178) := ⟨h3_⟩
           have n4_ : Aside0 (gb166 ≠ gb178) := ⟨h4_⟩
           have n5_ : Aside0 (gb178 ≠ gb166) := ⟨h5_⟩
           have n6_ : Aside0 (Below w.heap.size w w43) := ⟨h6_⟩
           clear BK166
           clear HB
           clear h0_ h1_ h2_ h3_ h4_ h5_ h6_
           have BK166 := n0_
           have BK178 := n1_
           have GW178 := n2_
           have GE178 := n3_
           have NB166_178 := n4_
           have NB178_166 := n5_
           have HB := n6_
           clear n0_ n1_ n2_ n3_ n4_ n5_ n6_
           have hHeld : w43.cell? ⟨ad167.block, ad167.off + 1, none⟩ = some (.int .u8 (rd l0 1)) := hS_
           refine norm_ (a' := ?_) ?_ ?_
           rotate_left
           ·simp only [putAll, Act.put, List.setIfInBounds_toArray, List.set_cons_zero, List.set_cons_succ]
            rfl
           refine one_ (i := 17) (N := none) #[true, true, true, true, true, true, true, true, true, true, true, true, true, true, true, true, true, true] rfl rfl (one_of HT_.out (by kernel_rfl)) (by decide) (fun K hK => ?_)
           have hs44 : w43.cell? ⟨gb178, 0, none⟩ = some (.int .u8 0) := (blk_cell BK178.out 0).trans rfl
           have hfs44 := blk_frozen BK178.out 0
           have hns44_0 := NB166_178.out
           have hms44_0 := NB178_166.out
           have hs45 : w43.cell? ⟨gb178, 1, none⟩ = some (.int .u16 0) := (blk_cell BK178.out 1).trans rfl
           have hfs45 := blk_frozen BK178.out 1
           have hns45_0 := NB166_178.out
           have hms45_0 := NB178_166.out
           have hs46 : w43.cell? ⟨gb178, 2, none⟩ = some (.int .u16 0) := (blk_cell BK178.out 2).trans rfl
           have hfs46 := blk_frozen BK178.out 2
           have hns46_0 := NB166_178.out
           have hms46_0 := NB178_166.out
           have hs47 : w43.cell? ⟨gb178, 3, none⟩ = some (.int .u16 0) := (blk_cell BK178.out 3).trans rfl
           have hfs47 := blk_frozen BK178.out 3
           have hns47_0 := NB166_178.out
           have hms47_0 := NB178_166.out
           have hs48 : w43.cell? ⟨gb178, 4, none⟩ = some (.int .u16 0) := (blk_cell BK178.out 4).trans rfl
           have hfs48 := blk_frozen BK178.out 4
           have hns48_0 := NB166_178.out
           have hms48_0 := NB178_166.out
           refine skip_ (w1 := ?_) (by rfl) rfl ?_ ?_
           rotate_left
           ·go_simp
            rfl
           refine hK.out _ _ (((cell_far (p := ⟨gb178, _, none⟩) (by first | exact Nat.ne_of_lt (Nat.lt_of_lt_of_le (by have := World.block_lt_of_cell? _ _ hw169_0; first | rwa [add_block] at this | exact this) GW178.out) | (rw [add_block]; exact Nat.ne_of_lt (Nat.lt_of_lt_of_le (by have := World.block_lt_of_cell? _ _ hw169_0; first | rwa [add_block] at this | exact this) GW178.out)) | (show (Addr.add _ _).block ≠ _; rw [add_block]; exact Nat.ne_of_lt (Nat.lt_of_lt_of_le (by have := World.block_lt_of_cell? _ _ hw169_0; first | rwa [add_block] at this | exact this) GW178.out)) | (dsimp only; exact Nat.ne_of_lt (Nat.lt_of_lt_of_le (by have := World.block_lt_of_cell? _ _ hw169_0; first | rwa [add_block] at this | exact this) GW178.out))) _).trans (((cell_far (p := ⟨gb178, _, none⟩) (by first | exact Nat.ne_of_lt (Nat.lt_of_lt_of_le (by have := World.block_lt_of_cell? _ _ hw169_0; first | rwa [add_block] at this | exact this) GW178.out) | (rw [add_block]; exact Nat.ne_of_lt (Nat.lt_of_lt_of_le (by have := World.block_lt_of_cell? _ _ hw169_0; first | rwa [add_block] at this | exact this) GW178.out)) | (show (Addr.add _ _).block ≠ _; rw [add_block]; exact Nat.ne_of_lt (Nat.lt_of_lt_of_le (by have := World.block_lt_of_cell? _ _ hw169_0; first | rwa [add_block] at this | exact this) GW178.out)) | (dsimp only; exact Nat.ne_of_lt (Nat.lt_of_lt_of_le (by have := World.block_lt_of_cell? _ _ hw169_0; first | rwa [add_block] at this | exact this) GW178.out))) _).trans (((cell_far (p := ⟨gb178, _, none⟩) (by first | exact Nat.ne_of_lt (Nat.lt_of_lt_of_le (by have := World.block_lt_of_cell? _ _ hw169_0; first | rwa [add_block] at this | exact this) GW178.out) | (rw [add_block]; exact Nat.ne_of_lt (Nat.lt_of_lt_of_le (by have := World.block_lt_of_cell? _ _ hw169_0; first | rwa [add_block] at this | exact this) GW178.out)) | (show (Addr.add _ _).block ≠ _; rw [add_block]; exact Nat.ne_of_lt (Nat.lt_of_lt_of_le (by have := World.block_lt_of_cell? _ _ hw169_0; first | rwa [add_block] at this | exact this) GW178.out)) | (dsimp only; exact Nat.ne_of_lt (Nat.lt_of_lt_of_le (by have := World.block_lt_of_cell? _ _ hw169_0; first | rwa [add_block] at this | exact this) GW178.out))) _).trans (((cell_far (p := ⟨gb178, _, none⟩) (by first | exact Nat.ne_of_lt (Nat.lt_of_lt_of_le (by have := World.block_lt_of_cell? _ _ hw169_0; first | rwa [add_block] at this | exact this) GW178.out) | (rw [add_block]; exact Nat.ne_of_lt (Nat.lt_of_lt_of_le (by have := World.block_lt_of_cell? _ _ hw169_0; first | rwa [add_block] at this | exact this) GW178.out)) | (show (Addr.add _ _).block ≠ _; rw [add_block]; exact Nat.ne_of_lt (Nat.lt_of_lt_of_le (by have := World.block_lt_of_cell? _ _ hw169_0; first | rwa [add_block] at this | exact this) GW178.out)) | (dsimp only; exact Nat.ne_of_lt (Nat.lt_of_lt_of_le (by have := World.block_lt_of_cell? _ _ hw169_0; first | rwa [add_block] at this | exact this) GW178.out))) _).trans (((cell_far (p := ⟨gb178, _, none⟩) (by first | exact Nat.ne_of_lt (Nat.lt_of_lt_of_le (by have := World.block_lt_of_cell? _ _ hw169_0; first | rwa [add_block] at this | exact this) GW178.out) | (rw [add_block]; exact Nat.ne_of_lt (Nat.lt_of_lt_of_le (by have := World.block_lt_of_cell? _ _ hw169_0; first | rwa [add_block] at this | exact this) GW178.out)) | (show (Addr.add _ _).block ≠ _; rw [add_block]; exact Nat.ne_of_lt (Nat.lt_of_lt_of_le (by have := World.block_lt_of_cell? _ _ hw169_0; first | rwa [add_block] at this | exact this) GW178.out)) | (dsimp only; exact Nat.ne_of_lt (Nat.lt_of_lt_of_le (by have := World.block_lt_of_cell? _ _ hw169_0; first | rwa [add_block] at this | exact this) GW178.out))) _).trans (hHeld))))))))))) (fun hHeld => ?_)
           clear hK K
           refine done_ (done_of HT_.out (by kernel_rfl)) ?_
           have hnb49 := NB178_166.out
           have hnc49 := NB166_178.out
           have hcz50_0 : w43.cell? ⟨gb178, 0, none⟩ = some (.int .u8 0) := (blk_cell BK178.out 0).trans rfl
           have hcz50_1 : w43.cell? ⟨gb178, 1, none⟩ = some (.int .u16 0) := (blk_cell BK178.out 1).trans rfl
           have hcz50_2 : w43.cell? ⟨gb178, 2, none⟩ = some (.int .u16 0) := (blk_cell BK178.out 2).trans rfl
           have hcz50_3 : w43.cell? ⟨gb178, 3, none⟩ = some (.int .u16 0) := (blk_cell BK178.out 3).trans rfl
           have hcz50_4 : w43.cell? ⟨gb178, 4, none⟩ = some (.int .u16 0) := (blk_cell BK178.out 4).trans rfl
           have hfz50_0 := blk_frozen BK178.out 0
           have hfz50_1 := blk_frozen BK178.out 1
           have hfz50_2 := blk_frozen BK178.out 2
           have hfz50_3 := blk_frozen BK178.out 3
           have hfz50_4 := blk_frozen BK178.out 4
           try go_wp2_with (first | ((with_reducible refine gate_callee (f := 14) rfl ?_); refine goesL_ (some 39) rfl rfl Try.func14 (by kernel_rfl) rfl #[.agg #[.int .u8 (rd l0 1), .int .u16 t171, .int .u16 t173, .int .u16 t175, .int .u16 t177]] rfl (by (try simp only [List.map_toArray, List.map_cons, List.map_nil]); first | done | rfl | (simp only [List.length_drop, List.length_take]; rfl)) ?_; (with_reducible refine (tele_Check.calls k (rd l0 1) t171 t173 t175 t177 t179 _ A16.out).mono ?_); rintro e w51 ⟨rfl, hb⟩; refine ⟨_, rfl, ?_⟩; have n0_ := Aside0.mk (blk_below (g := gb166) (o := .cells #[.int .u8 0, .int .u16 0, .int .u16 0, .int .u16 0, .int .u16 0] 24 (0, 0)) (by (with_reducible repeat (first | refine blk_drewN ?_ _ | refine blk_drew ?_ | refine blk_alloc ?_ _)); refine blk_far ?_ NB166_178.out _; (with_reducible repeat (first | refine blk_drewN ?_ _ | refine blk_drew ?_ | refine blk_alloc ?_ _)); refine blk_far ?_ NB166_178.out _; (with_reducible repeat (first | refine blk_drewN ?_ _ | refine blk_drew ?_ | refine blk_alloc ?_ _)); refine blk_far ?_ NB166_178.out _; (with_reducible repeat (first | refine blk_drewN ?_ _ | refine blk_drew ?_ | refine blk_alloc ?_ _)); refine blk_far ?_ NB166_178.out _; (with_reducible repeat (first | refine blk_drewN ?_ _ | refine blk_drew ?_ | refine blk_alloc ?_ _)); refine blk_far ?_ NB166_178.out _; (with_reducible repeat (first | refine blk_drewN ?_ _ | refine blk_drew ?_ | refine blk_alloc ?_ _)); exact BK166.out) hb); have n1_ := Aside0.mk (blk_below (g := gb178) (o := .cells #[.int .u8 (rd l0 1), .int .u16 t171, .int .u16 t173, .int .u16 t175, .int .u16 t177] 24 (0, 0)) (by (with_reducible repeat (first | refine blk_drewN ?_ _ | refine blk_drew ?_ | refine blk_alloc ?_ _)); refine blk_put (cs := #[.int .u8 (rd l0 1), .int .u16 t171, .int .u16 t173, .int .u16 t175, .int .u16 0]) ?_ 4 _ rfl; (with_reducible repeat (first | refine blk_drewN ?_ _ | refine blk_drew ?_ | refine blk_alloc ?_ _)); refine blk_put (cs := #[.int .u8 (rd l0 1), .int .u16 t171, .int .u16 t173, .int .u16 0, .int .u16 0]) ?_ 3 _ rfl; (with_reducible repeat (first | refine blk_drewN ?_ _ | refine blk_drew ?_ | refine blk_alloc ?_ _)); refine blk_put (cs := #[.int .u8 (rd l0 1), .int .u16 t171, .int .u16 0, .int .u16 0, .int .u16 0]) ?_ 2 _ rfl; (with_reducible repeat (first | refine blk_drewN ?_ _ | refine blk_drew ?_ | refine blk_alloc ?_ _)); refine blk_put (cs := #[.int .u8 (rd l0 1), .int .u16 0, .int .u16 0, .int .u16 0, .int .u16 0]) ?_ 1 _ rfl; (with_reducible repeat (first | refine blk_drewN ?_ _ | refine blk_drew ?_ | refine blk_alloc ?_ _)); refine blk_put (cs := #[.int .u8 0, .int .u16 0, .int .u16 0, .int .u16 0, .int .u16 0]) ?_ 0 _ rfl; (with_reducible repeat (first | refine blk_drewN ?_ _ | refine blk_drew ?_ | refine blk_alloc ?_ _)); exact BK178.out) hb); have n2_ := Aside0.mk (below_step (by repeat (first | (with_reducible first | exact HB.out | apply below_alloc | apply pw_below_drewN | apply below_drew1 | refine below_set ?_ GE166.out | refine below_set ?_ GE178.out) | exact HB.out)) hb); clear BK166; clear BK178; clear HB; have BK166 := n0_; have BK178 := n1_; have HB := n2_; clear n0_ n1_ n2_; (try clear hb); (try clear hb2); (try clear hk); (try clear hi); have hcz52_0 : w51.cell? ⟨gb166, 0, none⟩ = some (.int .u8 0) := (blk_cell BK166.out 0).trans rfl; have hcz52_1 : w51.cell? ⟨gb166, 1, none⟩ = some (.int .u16 0) := (blk_cell BK166.out 1).trans rfl; have hcz52_2 : w51.cell? ⟨gb166, 2, none⟩ = some (.int .u16 0) := (blk_cell BK166.out 2).trans rfl; have hcz52_3 : w51.cell? ⟨gb166, 3, none⟩ = some (.int .u16 0) := (blk_cell BK166.out 3).trans rfl; have hcz52_4 : w51.cell? ⟨gb166, 4, none⟩ = some (.int .u16 0) := (blk_cell BK166.out 4).trans rfl; have hfz52_0 := blk_frozen BK166.out 0; have hfz52_1 := blk_frozen BK166.out 1; have hfz52_2 := blk_frozen BK166.out 2; have hfz52_3 := blk_frozen BK166.out 3; have hfz52_4 := blk_frozen BK166.out 4))
           refine bodyPost_ret (results_ct rfl _ _ gb166 24 #[.int .u8 0, .int .u16 0, .int .u16 0, .int .u16 0, .int .u16 0] (0, 0) _ rfl (by (with_reducible repeat (first | refine blk_drewN ?_ _ | refine blk_drew ?_ | refine blk_alloc ?_ _)); refine blk_put (cs := #[.int .u8 0, .int .u16 0, .int .u16 0, .int .u16 0, .int .u16 0]) ?_ 4 _ rfl; (with_reducible repeat (first | refine blk_drewN ?_ _ | refine blk_drew ?_ | refine blk_alloc ?_ _)); refine blk_put (cs := #[.int .u8 0, .int .u16 0, .int .u16 0, .int .u16 0, .int .u16 0]) ?_ 3 _ rfl; (with_reducible repeat (first | refine blk_drewN ?_ _ | refine blk_drew ?_ | refine blk_alloc ?_ _)); refine blk_put (cs := #[.int .u8 0, .int .u16 0, .int .u16 0, .int .u16 0, .int .u16 0]) ?_ 2 _ rfl; (with_reducible repeat (first | refine blk_drewN ?_ _ | refine blk_drew ?_ | refine blk_alloc ?_ _)); refine blk_put (cs := #[.int .u8 0, .int .u16 0, .int .u16 0, .int .u16 0, .int .u16 0]) ?_ 1 _ rfl; (with_reducible repeat (first | refine blk_drewN ?_ _ | refine blk_drew ?_ | refine blk_alloc ?_ _)); refine blk_put (cs := #[.int .u8 0, .int .u16 0, .int .u16 0, .int .u16 0, .int .u16 0]) ?_ 0 _ rfl; (with_reducible repeat (first | refine blk_drewN ?_ _ | refine blk_drew ?_ | refine blk_alloc ?_ _)); exact BK166.out) Try.underlying24 rfl (by kernel_rfl)) rfl ?_
           exact ⟨by first | rfl | (simp [errW_none, errW_some] <;> rfl) | (simp [*, errW_none, errW_some] <;> rfl), by repeat (first | (with_reducible first | exact HB.out | apply below_alloc | apply pw_below_drewN | apply below_drew1 | refine below_set ?_ GE166.out | refine below_set ?_ GE178.out) | exact HB.out)⟩
         ·rw [if_neg c14] at H
          exact absurd H (by simp)
        ·rw [if_neg c12] at H
         exact absurd H (by simp)
       ·rw [if_neg c10] at H
        exact absurd H (by simp)
      ·rw [if_neg c8] at H
       exact absurd H (by simp)
     ·rw [if_neg c7] at H
      exact absurd H (by simp)
    ·rw [if_neg c6] at H
     have c6b0 : (t168 == 0) = false := beq_eq_false_iff_ne.mpr c6
     have c6b1 : (t168 != 0) = true := bne_iff_ne.mpr c6
     simp only [Option.some.injEq, Prod.mk.injEq] at H
     obtain ⟨rfl, rfl, rfl, rfl, rfl, rfl⟩ := H
     go_enter Try.func15, Try.ntmps15
     go_wp2_with (first | ((with_reducible refine gate_dst (N := 2) rfl ?_); refine box_event ?hg (N := 2) ?hd (cs := #[.int .u8 0, .int .u16 0, .int .u16 0, .int .u16 0, .int .u16 0]) (t := 24) ?hr ?_; (case hd => rfl); (case hg => rfl); (case hr => first | (go_simp; done) | (go_simp; rfl)); intro gb166 hg w53 hbox hb; have n0_ := Aside0.mk (below_step (by repeat (first | (with_reducible first | exact HB.out | apply below_alloc | apply pw_below_drewN | apply below_drew1) | exact HB.out)) hb); have n1_ := Aside0.mk (hbox); have n2_ := Aside0.mk ((by rw [hg]; exact (below_size (by repeat (first | (with_reducible first | exact HB.out | apply below_alloc | apply pw_below_drewN | apply below_drew1) | exact HB.out))) : w.heap.size ≤ gb166)); have n3_ := Aside0.mk ((by rw [hg]; exact (below_size (by repeat (first | (with_reducible first | exact HB.out | apply below_alloc | apply pw_below_drewN | apply below_drew1) | exact HB.out))) : w.heap.size ≤ gb166)); clear HB; have HB := n0_; have BK166 := n1_; have GW166 := n2_; have GE166 := n3_; clear n0_ n1_ n2_ n3_; clear hb hbox hg; have p167 : 0 ≤ (0 : Int) := (by omega); have q167 : 0 < (l0.length : Int) := of_decide_eq_true (by first | (with_reducible assumption) | assumption); obtain ⟨ad167, e167, hx167_0⟩ := Kd.at_int HR0.out 0 p167 q167; cases e167; have qi167 : (0 < l0.length) = True := eq_true (by omega); (try rw [show ((0 : Int)).toNat = 0 from rfl] at hx167_0); (try rw [Addr.add_zero'] at hx167_0); replace hx167_0 := (HB.out.cell (World.block_lt_of_cell? w _ hx167_0)).trans hx167_0; replace p167 := eq_true p167; replace q167 := eq_true q167) | ((with_reducible refine gate_callee (f := 24) rfl ?_); refine goesL_ (some 19) rfl rfl Try.func24 (by kernel_rfl) rfl #[.slice (some ad167) l0.length c0] rfl (by (try simp only [List.map_toArray, List.map_cons, List.map_nil]); first | done | rfl | (simp only [List.length_drop, List.length_take]; rfl)) ?_; (with_reducible refine (crc_Sum.calls k _ _ l0 t168 _ ?side1 ?side2 A5.out).mono ?_); (case side1 => repeat (first | exact (Kd.C_below HR0.out HB.out) | (with_reducible refine Kd.C_alloc ?_ _) | (with_reducible refine Kd.C_drewN ?_ _) | (with_reducible refine Kd.C_drew ?_))); (case side2 => exact HC0.out); rintro e w' ⟨rfl, ⟨nd, rfl⟩⟩; refine ⟨_, rfl, ?_⟩; (try (rw [drewN_self w53]; generalize hq_ : World.drewN w53 _ = w53; have n0_ : Aside0 (w53.heap[gb166]? = some (.cells #[.int .u8 0, .int .u16 0, .int .u16 0, .int .u16 0, .int .u16 0] 24 (0, 0))) := ⟨by rw [← hq_]; exact (by (with_reducible repeat (first | refine blk_drewN ?_ _ | refine blk_drew ?_ | refine blk_alloc ?_ _)); exact BK166.out)⟩; have n1_ : Aside0 (Below w.heap.size w w53) := ⟨by rw [← hq_]; exact (by repeat (first | (with_reducible first | exact HB.out | apply below_alloc | apply pw_below_drewN | apply below_drew1 | refine below_set ?_ GE166.out) | exact HB.out))⟩; clear BK166 HB hq_; have BK166 := n0_; have HB := n1_; clear n0_ n1_)); have hcz54_0 : w53.cell? ⟨gb166, 0, none⟩ = some (.int .u8 0) := (blk_cell BK166.out 0).trans rfl; have hcz54_1 : w53.cell? ⟨gb166, 1, none⟩ = some (.int .u16 0) := (blk_cell BK166.out 1).trans rfl; have hcz54_2 : w53.cell? ⟨gb166, 2, none⟩ = some (.int .u16 0) := (blk_cell BK166.out 2).trans rfl; have hcz54_3 : w53.cell? ⟨gb166, 3, none⟩ = some (.int .u16 0) := (blk_cell BK166.out 3).trans rfl; have hcz54_4 : w53.cell? ⟨gb166, 4, none⟩ = some (.int .u16 0) := (blk_cell BK166.out 4).trans rfl; have hfz54_0 := blk_frozen BK166.out 0; have hfz54_1 := blk_frozen BK166.out 1; have hfz54_2 := blk_frozen BK166.out 2; have hfz54_3 := blk_frozen BK166.out 3; have hfz54_4 := blk_frozen BK166.out 4))
     refine bodyPost_ret (results_ct rfl _ _ gb166 24 #[.int .u8 0, .int .u16 0, .int .u16 0, .int .u16 0, .int .u16 0] (0, 0) _ rfl (by (with_reducible repeat (first | refine blk_drewN ?_ _ | refine blk_drew ?_ | refine blk_alloc ?_ _)); refine blk_put (cs := #[.int .u8 0, .int .u16 0, .int .u16 0, .int .u16 0, .int .u16 0]) ?_ 4 _ rfl; (with_reducible repeat (first | refine blk_drewN ?_ _ | refine blk_drew ?_ | refine blk_alloc ?_ _)); refine blk_put (cs := #[.int .u8 0, .int .u16 0, .int .u16 0, .int .u16 0, .int .u16 0]) ?_ 3 _ rfl; (with_reducible repeat (first | refine blk_drewN ?_ _ | refine blk_drew ?_ | refine blk_alloc ?_ _)); refine blk_put (cs := #[.int .u8 0, .int .u16 0, .int .u16 0, .int .u16 0, .int .u16 0]) ?_ 2 _ rfl; (with_reducible repeat (first | refine blk_drewN ?_ _ | refine blk_drew ?_ | refine blk_alloc ?_ _)); refine blk_put (cs := #[.int .u8 0, .int .u16 0, .int .u16 0, .int .u16 0, .int .u16 0]) ?_ 1 _ rfl; (with_reducible repeat (first | refine blk_drewN ?_ _ | refine blk_drew ?_ | refine blk_alloc ?_ _)); refine blk_put (cs := #[.int .u8 0, .int .u16 0, .int .u16 0, .int .u16 0, .int .u16 0]) ?_ 0 _ rfl; (with_reducible repeat (first | refine blk_drewN ?_ _ | refine blk_drew ?_ | refine blk_alloc ?_ _)); exact BK166.out) Try.underlying24 rfl (by kernel_rfl)) rfl ?_
     exact ⟨by first | rfl | (simp [errW_none, errW_some] <;> rfl) | (simp [*, errW_none, errW_some] <;> rfl), by repeat (first | (with_reducible first | exact HB.out | apply below_alloc | apply pw_below_drewN | apply below_drew1 | refine below_set ?_ GE166.out) | exact HB.out)⟩
   ·rw [if_neg c4] at H
    have c4b0 : ((rd l0 0) == 165) = false := beq_eq_false_iff_ne.mpr c4
    have c4b1 : ((rd l0 0) != 165) = true := bne_iff_ne.mpr c4
    simp only [Option.some.injEq, Prod.mk.injEq] at H
    obtain ⟨rfl, rfl, rfl, rfl, rfl, rfl⟩ := H
    go_enter Try.func15, Try.ntmps15
    go_wp2_with (first | ((with_reducible refine gate_dst (N := 2) rfl ?_); refine box_event ?hg (N := 2) ?hd (cs := #[.int .u8 0, .int .u16 0, .int .u16 0, .int .u16 0, .int .u16 0]) (t := 24) ?hr ?_; (case hd => rfl); (case hg => rfl); (case hr => first | (go_simp; done) | (go_simp; rfl)); intro gb166 hg w55 hbox hb; have n0_ := Aside0.mk (below_step (by repeat (first | (with_reducible first | exact HB.out | apply below_alloc | apply pw_below_drewN | apply below_drew1) | exact HB.out)) hb); have n1_ := Aside0.mk (hbox); have n2_ := Aside0.mk ((by rw [hg]; exact (below_size (by repeat (first | (with_reducible first | exact HB.out | apply below_alloc | apply pw_below_drewN | apply below_drew1) | exact HB.out))) : w.heap.size ≤ gb166)); have n3_ := Aside0.mk ((by rw [hg]; exact (below_size (by repeat (first | (with_reducible first | exact HB.out | apply below_alloc | apply pw_below_drewN | apply below_drew1) | exact HB.out))) : w.heap.size ≤ gb166)); clear HB; have HB := n0_; have BK166 := n1_; have GW166 := n2_; have GE166 := n3_; clear n0_ n1_ n2_ n3_; clear hb hbox hg; have p167 : 0 ≤ (0 : Int) := (by omega); have q167 : 0 < (l0.length : Int) := of_decide_eq_true (by first | (with_reducible assumption) | assumption); obtain ⟨ad167, e167, hx167_0⟩ := Kd.at_int HR0.out 0 p167 q167; cases e167; have qi167 : (0 < l0.length) = True := eq_true (by omega); (try rw [show ((0 : Int)).toNat = 0 from rfl] at hx167_0); (try rw [Addr.add_zero'] at hx167_0); replace hx167_0 := (HB.out.cell (World.block_lt_of_cell? w _ hx167_0)).trans hx167_0; replace p167 := eq_true p167; replace q167 := eq_true q167; have hcz56_0 : w55.cell? ⟨gb166, 0, none⟩ = some (.int .u8 0) := (blk_cell BK166.out 0).trans rfl; have hcz56_1 : w55.cell? ⟨gb166, 1, none⟩ = some (.int .u16 0) := (blk_cell BK166.out 1).trans rfl; have hcz56_2 : w55.cell? ⟨gb166, 2, none⟩ = some (.int .u16 0) := (blk_cell BK166.out 2).trans rfl; have hcz56_3 : w55.cell? ⟨gb166, 3, none⟩ = some (.int .u16 0) := (blk_cell BK166.out 3).trans rfl; have hcz56_4 : w55.cell? ⟨gb166, 4, none⟩ = some (.int .u16 0) := (blk_cell BK166.out 4).trans rfl; have hfz56_0 := blk_frozen BK166.out 0; have hfz56_1 := blk_frozen BK166.out 1; have hfz56_2 := blk_frozen BK166.out 2; have hfz56_3 := blk_frozen BK166.out 3; have hfz56_4 := blk_frozen BK166.out 4))
    refine bodyPost_ret (results_ct rfl _ _ gb166 24 #[.int .u8 0, .int .u16 0, .int .u16 0, .int .u16 0, .int .u16 0] (0, 0) _ rfl (by (with_reducible repeat (first | refine blk_drewN ?_ _ | refine blk_drew ?_ | refine blk_alloc ?_ _)); refine blk_put (cs := #[.int .u8 0, .int .u16 0, .int .u16 0, .int .u16 0, .int .u16 0]) ?_ 4 _ rfl; (with_reducible repeat (first | refine blk_drewN ?_ _ | refine blk_drew ?_ | refine blk_alloc ?_ _)); refine blk_put (cs := #[.int .u8 0, .int .u16 0, .int .u16 0, .int .u16 0, .int .u16 0]) ?_ 3 _ rfl; (with_reducible repeat (first | refine blk_drewN ?_ _ | refine blk_drew ?_ | refine blk_alloc ?_ _)); refine blk_put (cs := #[.int .u8 0, .int .u16 0, .int .u16 0, .int .u16 0, .int .u16 0]) ?_ 2 _ rfl; (with_reducible repeat (first | refine blk_drewN ?_ _ | refine blk_drew ?_ | refine blk_alloc ?_ _)); refine blk_put (cs := #[.int .u8 0, .int .u16 0, .int .u16 0, .int .u16 0, .int .u16 0]) ?_ 1 _ rfl; (with_reducible repeat (first | refine blk_drewN ?_ _ | refine blk_drew ?_ | refine blk_alloc ?_ _)); refine blk_put (cs := #[.int .u8 0, .int .u16 0, .int .u16 0, .int .u16 0, .int .u16 0]) ?_ 0 _ rfl; (with_reducible repeat (first | refine blk_drewN ?_ _ | refine blk_drew ?_ | refine blk_alloc ?_ _)); exact BK166.out) Try.underlying24 rfl (by kernel_rfl)) rfl ?_
    exact ⟨by first | rfl | (simp [errW_none, errW_some] <;> rfl) | (simp [*, errW_none, errW_some] <;> rfl), by repeat (first | (with_reducible first | exact HB.out | apply below_alloc | apply pw_below_drewN | apply below_drew1 | refine below_set ?_ GE166.out) | exact HB.out)⟩
  ·rw [if_neg c3] at H
   exact absurd H (by simp)
 ·rw [if_neg c2] at H
  have c2b0 : ((l0.length : Int) == 12) = false := beq_eq_false_iff_ne.mpr c2
  have c2b1 : ((l0.length : Int) != 12) = true := bne_iff_ne.mpr c2
  simp only [Option.some.injEq, Prod.mk.injEq] at H
  obtain ⟨rfl, rfl, rfl, rfl, rfl, rfl⟩ := H
  go_enter Try.func15, Try.ntmps15
  go_wp2_with (first | ((with_reducible refine gate_dst (N := 2) rfl ?_); refine box_event ?hg (N := 2) ?hd (cs := #[.int .u8 0, .int .u16 0, .int .u16 0, .int .u16 0, .int .u16 0]) (t := 24) ?hr ?_; (case hd => rfl); (case hg => rfl); (case hr => first | (go_simp; done) | (go_simp; rfl)); intro gb166 hg w57 hbox hb; have n0_ := Aside0.mk (below_step (by repeat (first | (with_reducible first | exact HB.out | apply below_alloc | apply pw_below_drewN | apply below_drew1) | exact HB.out)) hb); have n1_ := Aside0.mk (hbox); have n2_ := Aside0.mk ((by rw [hg]; exact (below_size (by repeat (first | (with_reducible first | exact HB.out | apply below_alloc | apply pw_below_drewN | apply below_drew1) | exact HB.out))) : w.heap.size ≤ gb166)); have n3_ := Aside0.mk ((by rw [hg]; exact (below_size (by repeat (first | (with_reducible first | exact HB.out | apply below_alloc | apply pw_below_drewN | apply below_drew1) | exact HB.out))) : w.heap.size ≤ gb166)); clear HB; have HB := n0_; have BK166 := n1_; have GW166 := n2_; have GE166 := n3_; clear n0_ n1_ n2_ n3_; clear hb hbox hg; have hcz58_0 : w57.cell? ⟨gb166, 0, none⟩ = some (.int .u8 0) := (blk_cell BK166.out 0).trans rfl; have hcz58_1 : w57.cell? ⟨gb166, 1, none⟩ = some (.int .u16 0) := (blk_cell BK166.out 1).trans rfl; have hcz58_2 : w57.cell? ⟨gb166, 2, none⟩ = some (.int .u16 0) := (blk_cell BK166.out 2).trans rfl; have hcz58_3 : w57.cell? ⟨gb166, 3, none⟩ = some (.int .u16 0) := (blk_cell BK166.out 3).trans rfl; have hcz58_4 : w57.cell? ⟨gb166, 4, none⟩ = some (.int .u16 0) := (blk_cell BK166.out 4).trans rfl; have hfz58_0 := blk_frozen BK166.out 0; have hfz58_1 := blk_frozen BK166.out 1; have hfz58_2 := blk_frozen BK166.out 2; have hfz58_3 := blk_frozen BK166.out 3; have hfz58_4 := blk_frozen BK166.out 4))
  refine bodyPost_ret (results_ct rfl _ _ gb166 24 #[.int .u8 0, .int .u16 0, .int .u16 0, .int .u16 0, .int .u16 0] (0, 0) _ rfl (by (with_reducible repeat (first | refine blk_drewN ?_ _ | refine blk_drew ?_ | refine blk_alloc ?_ _)); refine blk_put (cs := #[.int .u8 0, .int .u16 0, .int .u16 0, .int .u16 0, .int .u16 0]) ?_ 4 _ rfl; (with_reducible repeat (first | refine blk_drewN ?_ _ | refine blk_drew ?_ | refine blk_alloc ?_ _)); refine blk_put (cs := #[.int .u8 0, .int .u16 0, .int .u16 0, .int .u16 0, .int .u16 0]) ?_ 3 _ rfl; (with_reducible repeat (first | refine blk_drewN ?_ _ | refine blk_drew ?_ | refine blk_alloc ?_ _)); refine blk_put (cs := #[.int .u8 0, .int .u16 0, .int .u16 0, .int .u16 0, .int .u16 0]) ?_ 2 _ rfl; (with_reducible repeat (first | refine blk_drewN ?_ _ | refine blk_drew ?_ | refine blk_alloc ?_ _)); refine blk_put (cs := #[.int .u8 0, .int .u16 0, .int .u16 0, .int .u16 0, .int .u16 0]) ?_ 1 _ rfl; (with_reducible repeat (first | refine blk_drewN ?_ _ | refine blk_drew ?_ | refine blk_alloc ?_ _)); refine blk_put (cs := #[.int .u8 0, .int .u16 0, .int .u16 0, .int .u16 0, .int .u16 0]) ?_ 0 _ rfl; (with_reducible repeat (first | refine blk_drewN ?_ _ | refine blk_drew ?_ | refine blk_alloc ?_ _)); exact BK166.out) Try.underlying24 rfl (by kernel_rfl)) rfl ?_
  exact ⟨by first | rfl | (simp [errW_none, errW_some] <;> rfl) | (simp [*, errW_none, errW_some] <;> rfl), by repeat (first | (with_reducible first | exact HB.out | apply below_alloc | apply pw_below_drewN | apply below_drew1 | refine below_set ?_ GE166.out) | exact HB.out)⟩

end Go.Proofs.Ytabkmjimdpdfaaa.PTelePieces
