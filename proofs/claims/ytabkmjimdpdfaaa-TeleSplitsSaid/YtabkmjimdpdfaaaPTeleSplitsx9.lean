-- Written by a program of this session (wip/oprint): after the pattern of the kit's print, which does not take this law. -- trimmed
import Derived.Test.YtabkmjimdpdfaaaPTeleSplitsx0
import Derived.Test.YtabkmjimdpdfaaaPTeleSplitsx7
import Derived.Test.YtabkmjimdpdfaaaPTeleSplitsx8
namespace Go.Proofs.Ytabkmjimdpdfaaa.PTeleSplits
open Go.RowKit Go.Proofs.YtabkmjimdpdfaaaW.PrintWords Go.Proofs.YtabkmjimdpdfaaaW.PrintLast Go.Proofs.YtabkmjimdpdfaaaW.PrintMore
attribute [local go_sem] max2_int min2_int max_two min_two max_three min_three max_four min_four   -- for this text's walks alone
set_option linter.unusedVariables false
set_option linter.unusedSimpArgs false

/-! ### stillageref02_Decode: function 17 -/
def stillageref02_Decode.f (k : Nat) (l0 : List Int) : Option (Int × Int × Int × Int × Int × Int) := if (l0.length : Int) = 12 then (if 0 < (l0.length : Int) then (if (rd l0 0) = 165 then (if 10 ≤ (l0.length : Int) then ((stillageref01_Sum.f k (l0.take 10)).bind fun t216 => ((stillageref02_two.f l0 10).bind fun t217 => (if t216 = t217 then (if 1 < (l0.length : Int) then ((stillageref02_two.f l0 2).bind fun t219 => ((stillageref02_two.f l0 4).bind fun t220 => ((stillageref02_two.f l0 6).bind fun t221 => ((stillageref02_two.f l0 8).bind fun t222 => ((stillageref02_Check.f k (rd l0 1) t219 t220 t221 t222).bind fun t224 => (if t224 = 0 then (some (rd l0 1, t219, t220, t221, t222, 0)) else (some (0, 0, 0, 0, 0, t224)))))))) else (none)) else (some (0, 0, 0, 0, 0, 22))))) else (none)) else (some (0, 0, 0, 0, 0, 21))) else (none)) else (some (0, 0, 0, 0, 0, 20))
theorem stillageref02_Decode.mono : ∀ a0 k, LeO (stillageref02_Decode.f k a0) (stillageref02_Decode.f (k + 1) a0) := by
 intro a0 k
 unfold stillageref02_Decode.f
 repeat' first
   | (with_reducible exact stillageref01_Sum.mono _ _)
   | (with_reducible exact stillageref02_Check.mono _ _ _ _ _ _)
   | (with_reducible exact LeO.refl _)
   | (with_reducible exact LeO.none _)
   | (with_reducible refine LeO.ite ?_ ?_)
   | (with_reducible refine LeO.bind ?_ (fun _ => ?_))
   | exact stillageref01_Sum.mono _ _
   | exact stillageref02_Check.mono _ _ _ _ _ _
   | exact LeO.none _
   | refine LeO.ite ?_ ?_
   | refine LeO.bind ?_ (fun _ => ?_)
def stillageref02_Decode.T7 : Bool × List (List Nat × List Nat) := (true, [([], []), ([0], [0]), ([1], [1]), ([], []), ([3], [3]), ([], []), ([5, 4], [5]), ([], []), ([7, 6], [7]), ([], []), ([9, 8], [9]), ([2, 4, 6, 8, 10], [2, 4, 6, 8, 10]), ([], []), ([12, 11, 10, 0, 1, 2, 3, 4, 5, 6, 7, 8, 9, 10, 11, 12], [11, 12])])
def stillageref02_Decode.B7 : List Nat := [0, 1, 3, 0, 8, 0, 56, 0, 248, 0, 1016, 2047, 0, 8191]
theorem stillageref02_Decode.tab7 : rtab .any (opsOf Try.f17 7) = stillageref02_Decode.T7 := by kernel_rfl
theorem stillageref02_Decode.bits7 : waitsOk stillageref02_Decode.T7.2 stillageref02_Decode.B7 = true := by kernel_rfl
set_option maxHeartbeats 8000000 in
set_option maxRecDepth 100000 in
theorem stillageref02_Decode.calls (k : Nat) (A0 : Option Addr) (c0 : Nat) (l0 : List Int) (r1 : Int) (r2 : Int) (r3 : Int) (r4 : Int) (r5 : Int) (r6 : Int) (w : World) (hr0 : Kd.C (Kd.int .u8) w A0 l0.length l0) (hc0 : l0.length ≤ c0) (h : stillageref02_Decode.f k l0 = some (r1, r2, r3, r4, r5, r6)) :
  Calls Try.prog 17 #[.slice A0 l0.length c0] w fun e w' => e = .returned (.tuple #[.agg #[.int .u8 r1, .int .u16 r2, .int .u16 r3, .int .u16 r4, .int .u16 r5], .int .i64 r6]) ∧ Below w.heap.size w w' := by
 have hu24 := Try.underlying24
 have HR0 := Aside0.mk hr0
 have HC0 := Aside0.mk hc0
 clear hr0 hc0
 have HB := Aside0.mk (Below.refl w.heap.size w)
 have H : (if (l0.length : Int) = 12 then (if 0 < (l0.length : Int) then (if (rd l0 0) = 165 then (if 10 ≤ (l0.length : Int) then ((stillageref01_Sum.f k (l0.take 10)).bind fun t216 => ((stillageref02_two.f l0 10).bind fun t217 => (if t216 = t217 then (if 1 < (l0.length : Int) then ((stillageref02_two.f l0 2).bind fun t219 => ((stillageref02_two.f l0 4).bind fun t220 => ((stillageref02_two.f l0 6).bind fun t221 => ((stillageref02_two.f l0 8).bind fun t222 => ((stillageref02_Check.f k (rd l0 1) t219 t220 t221 t222).bind fun t224 => (if t224 = 0 then (some (rd l0 1, t219, t220, t221, t222, 0)) else (some (0, 0, 0, 0, 0, t224)))))))) else (none)) else (some (0, 0, 0, 0, 0, 22))))) else (none)) else (some (0, 0, 0, 0, 0, 21))) else (none)) else (some (0, 0, 0, 0, 0, 20))) = some (r1, r2, r3, r4, r5, r6) := h
 clear h
 by_cases c2 : (l0.length : Int) = 12
 ·rw [if_pos c2] at H
  have c2b0 : ((l0.length : Int) == 12) = true := beq_iff_eq.mpr c2
  have c2b1 : ((l0.length : Int) != 12) = false := bne_eq_false_iff_eq.mpr c2
  clear c2
  by_cases c3 : 0 < (l0.length : Int)
  ·rw [if_pos c3] at H
   have c3b0 : decide (0 < (l0.length : Int)) = true := decide_eq_true c3
   have c3b1 : decide (0 < l0.length) = true := decide_eq_true (by omega)
   clear c3
   by_cases c4 : (rd l0 0) = 165
   ·rw [if_pos c4] at H
    have c4b0 : ((rd l0 0) == 165) = true := beq_iff_eq.mpr c4
    have c4b1 : ((rd l0 0) != 165) = false := bne_eq_false_iff_eq.mpr c4
    clear c4
    by_cases c5 : 10 ≤ (l0.length : Int)
    ·rw [if_pos c5] at H
     have c5b0 := eq_true c5
     have c5b1 : decide (10 ≤ (l0.length : Int)) = true := decide_eq_true c5
     clear c5
     replace H := Option.bind_eq_some_iff.mp H
     obtain ⟨t216, A60, H⟩ := H
     replace H : ((stillageref02_two.f l0 10).bind fun t217 => (if t216 = t217 then (if 1 < (l0.length : Int) then ((stillageref02_two.f l0 2).bind fun t219 => ((stillageref02_two.f l0 4).bind fun t220 => ((stillageref02_two.f l0 6).bind fun t221 => ((stillageref02_two.f l0 8).bind fun t222 => ((stillageref02_Check.f k (rd l0 1) t219 t220 t221 t222).bind fun t224 => (if t224 = 0 then (some (rd l0 1, t219, t220, t221, t222, 0)) else (some (0, 0, 0, 0, 0, t224)))))))) else (none)) else (some (0, 0, 0, 0, 0, 22)))) = some (r1, r2, r3, r4, r5, r6) := H
     have A6 := Aside0.mk A60
     clear A60
     replace H := Option.bind_eq_some_iff.mp H
     obtain ⟨t217, A70, H⟩ := H
     replace H : (if t216 = t217 then (if 1 < (l0.length : Int) then ((stillageref02_two.f l0 2).bind fun t219 => ((stillageref02_two.f l0 4).bind fun t220 => ((stillageref02_two.f l0 6).bind fun t221 => ((stillageref02_two.f l0 8).bind fun t222 => ((stillageref02_Check.f k (rd l0 1) t219 t220 t221 t222).bind fun t224 => (if t224 = 0 then (some (rd l0 1, t219, t220, t221, t222, 0)) else (some (0, 0, 0, 0, 0, t224)))))))) else (none)) else (some (0, 0, 0, 0, 0, 22))) = some (r1, r2, r3, r4, r5, r6) := H
     have A7 := Aside0.mk A70
     clear A70
     by_cases c8 : t216 = t217
     ·rw [if_pos c8] at H
      have c8b0 : (t216 == t217) = true := beq_iff_eq.mpr c8
      have c8b1 : (t216 != t217) = false := bne_eq_false_iff_eq.mpr c8
      clear c8
      by_cases c9 : 1 < (l0.length : Int)
      ·rw [if_pos c9] at H
       have c9b0 : decide (1 < (l0.length : Int)) = true := decide_eq_true c9
       have c9b1 : decide (1 < l0.length) = true := decide_eq_true (by omega)
       clear c9
       replace H := Option.bind_eq_some_iff.mp H
       obtain ⟨t219, A100, H⟩ := H
       replace H : ((stillageref02_two.f l0 4).bind fun t220 => ((stillageref02_two.f l0 6).bind fun t221 => ((stillageref02_two.f l0 8).bind fun t222 => ((stillageref02_Check.f k (rd l0 1) t219 t220 t221 t222).bind fun t224 => (if t224 = 0 then (some (rd l0 1, t219, t220, t221, t222, 0)) else (some (0, 0, 0, 0, 0, t224))))))) = some (r1, r2, r3, r4, r5, r6) := H
       have A10 := Aside0.mk A100
       clear A100
       replace H := Option.bind_eq_some_iff.mp H
       obtain ⟨t220, A110, H⟩ := H
       replace H : ((stillageref02_two.f l0 6).bind fun t221 => ((stillageref02_two.f l0 8).bind fun t222 => ((stillageref02_Check.f k (rd l0 1) t219 t220 t221 t222).bind fun t224 => (if t224 = 0 then (some (rd l0 1, t219, t220, t221, t222, 0)) else (some (0, 0, 0, 0, 0, t224)))))) = some (r1, r2, r3, r4, r5, r6) := H
       have A11 := Aside0.mk A110
       clear A110
       replace H := Option.bind_eq_some_iff.mp H
       obtain ⟨t221, A120, H⟩ := H
       replace H : ((stillageref02_two.f l0 8).bind fun t222 => ((stillageref02_Check.f k (rd l0 1) t219 t220 t221 t222).bind fun t224 => (if t224 = 0 then (some (rd l0 1, t219, t220, t221, t222, 0)) else (some (0, 0, 0, 0, 0, t224))))) = some (r1, r2, r3, r4, r5, r6) := H
       have A12 := Aside0.mk A120
       clear A120
       replace H := Option.bind_eq_some_iff.mp H
       obtain ⟨t222, A130, H⟩ := H
       replace H : ((stillageref02_Check.f k (rd l0 1) t219 t220 t221 t222).bind fun t224 => (if t224 = 0 then (some (rd l0 1, t219, t220, t221, t222, 0)) else (some (0, 0, 0, 0, 0, t224)))) = some (r1, r2, r3, r4, r5, r6) := H
       have A13 := Aside0.mk A130
       clear A130
       replace H := Option.bind_eq_some_iff.mp H
       obtain ⟨t224, A140, H⟩ := H
       replace H : (if t224 = 0 then (some (rd l0 1, t219, t220, t221, t222, 0)) else (some (0, 0, 0, 0, 0, t224))) = some (r1, r2, r3, r4, r5, r6) := H
       have A14 := Aside0.mk A140
       clear A140
       by_cases c15 : t224 = 0
       ·rw [if_pos c15] at H
        have c15b0 : (t224 == 0) = true := beq_iff_eq.mpr c15
        have c15b1 : (t224 != 0) = false := bne_eq_false_iff_eq.mpr c15
        clear c15
        simp only [Option.some.injEq, Prod.mk.injEq] at H
        obtain ⟨rfl, rfl, rfl, rfl, rfl, rfl⟩ := H
        go_enter Try.func17, Try.ntmps17
        try go_wp2_with (first | ((with_reducible refine gate_dst (N := 2) rfl ?_); refine box_event ?hg (N := 2) ?hd (cs := #[.int .u8 0, .int .u16 0, .int .u16 0, .int .u16 0, .int .u16 0]) (t := 24) ?hr ?_; (case hd => rfl); (case hg => rfl); (case hr => first | (go_simp; done) | (go_simp; rfl)); intro gb213 hg w16 hbox hb; have n0_ := Aside0.mk (below_step (by repeat (first | (with_reducible first | exact HB.out | apply below_alloc | apply pw_below_drewN | apply below_drew1) | exact HB.out)) hb); have n1_ := Aside0.mk (hbox); have n2_ := Aside0.mk ((by rw [hg]; exact (below_size (by repeat (first | (with_reducible first | exact HB.out | apply below_alloc | apply pw_below_drewN | apply below_drew1) | exact HB.out))) : w.heap.size ≤ gb213)); have n3_ := Aside0.mk ((by rw [hg]; exact (below_size (by repeat (first | (with_reducible first | exact HB.out | apply below_alloc | apply pw_below_drewN | apply below_drew1) | exact HB.out))) : w.heap.size ≤ gb213)); clear HB; have HB := n0_; have BK213 := n1_; have GW213 := n2_; have GE213 := n3_; clear n0_ n1_ n2_ n3_; clear hb hbox hg; have p214 : 0 ≤ (0 : Int) := (by omega); have q214 : 0 < (l0.length : Int) := of_decide_eq_true (by first | (with_reducible assumption) | assumption); obtain ⟨ad214, e214, hx214_0⟩ := Kd.at_int HR0.out 0 p214 q214; cases e214; have qi214 : (0 < l0.length) = True := eq_true (by omega); (try rw [show ((0 : Int)).toNat = 0 from rfl] at hx214_0); (try rw [Addr.add_zero'] at hx214_0); replace hx214_0 := (HB.out.cell (World.block_lt_of_cell? w _ hx214_0)).trans hx214_0; replace p214 := eq_true p214; replace q214 := eq_true q214; obtain ⟨i017, hi017, _, hsz17, _⟩ := info_parts info5; obtain ⟨hcut17, hA17, hC17⟩ := print_take_of (P := Try.prog) (Value.int .u8) 0 26 5 .i64 Try.underlying26 hi017 hsz17 (some ad214) c0 l0 10 (by omega) (of_decide_eq_true (by first | (with_reducible assumption) | assumption)) HC0.out; have HR215 := Aside0.mk (Kd.C_of_reads (h1 := fun _ => rfl) (hA17 _ (Kd.reads_of_C HR0.out))); have HC215 := Aside0.mk hC17; clear hA17 hC17 hi017 hsz17) | ((with_reducible refine gate_callee (f := 27) rfl ?_); refine goesL_ (some 17) rfl rfl Try.func27 (by kernel_rfl) rfl #[.slice (some ad214) (l0.take 10).length c0] rfl (by (try simp only [List.map_toArray, List.map_cons, List.map_nil]); first | done | (rw [show (l0.take 10).length = 10 from (by rw [List.length_take]; have h_ : (10 : Int) ≤ (l0.length : Int) := of_decide_eq_true (by first | (with_reducible assumption) | assumption); omega)] <;> rfl) | rfl | (simp only [List.length_drop, List.length_take]; rfl)) ?_; (with_reducible refine (stillageref01_Sum.calls k _ _ (l0.take 10) t216 _ ?side1 ?side2 A6.out).mono ?_); (case side1 => repeat (first | exact (Kd.C_below HR215.out HB.out) | (with_reducible refine Kd.C_alloc ?_ _) | (with_reducible refine Kd.C_drewN ?_ _) | (with_reducible refine Kd.C_drew ?_))); (case side2 => exact HC215.out); rintro e w' ⟨rfl, ⟨nd, rfl⟩⟩; refine ⟨_, rfl, ?_⟩; (try (rw [drewN_self w16]; generalize hq_ : World.drewN w16 _ = w16; have n0_ : Aside0 (w16.heap[gb213]? = some (.cells #[.int .u8 0, .int .u16 0, .int .u16 0, .int .u16 0, .int .u16 0] 24 (0, 0))) := ⟨by rw [← hq_]; exact (by (with_reducible repeat (first | refine blk_drewN ?_ _ | refine blk_drew ?_ | refine blk_alloc ?_ _)); exact BK213.out)⟩; have n1_ : Aside0 (Below w.heap.size w w16) := ⟨by rw [← hq_]; exact (by repeat (first | (with_reducible first | exact HB.out | apply below_alloc | apply pw_below_drewN | apply below_drew1 | refine below_set ?_ GE213.out) | exact HB.out))⟩; clear BK213 HB hq_; have BK213 := n0_; have HB := n1_; clear n0_ n1_))) | ((with_reducible refine gate_callee (f := 28) rfl ?_); refine goesL_ (some 19) rfl rfl Try.func28 (by kernel_rfl) rfl #[.slice (some ad214) l0.length c0, .int .i64 10] rfl (by (try simp only [List.map_toArray, List.map_cons, List.map_nil]); first | done | rfl | (simp only [List.length_drop, List.length_take]; rfl)) ?_; (with_reducible refine (stillageref02_two.calls _ _ l0 10 t217 _ ?side1 ?side2 A7.out).mono ?_); (case side1 => repeat (first | exact (Kd.C_below HR0.out HB.out) | (with_reducible refine Kd.C_alloc ?_ _) | (with_reducible refine Kd.C_drewN ?_ _) | (with_reducible refine Kd.C_drew ?_))); (case side2 => exact HC0.out); rintro e w' ⟨rfl, ⟨nd, rfl⟩⟩; refine ⟨_, rfl, ?_⟩; (try (rw [drewN_self w16]; generalize hq_ : World.drewN w16 _ = w16; have n0_ : Aside0 (w16.heap[gb213]? = some (.cells #[.int .u8 0, .int .u16 0, .int .u16 0, .int .u16 0, .int .u16 0] 24 (0, 0))) := ⟨by rw [← hq_]; exact (by (with_reducible repeat (first | refine blk_drewN ?_ _ | refine blk_drew ?_ | refine blk_alloc ?_ _)); exact BK213.out)⟩; have n1_ : Aside0 (Below w.heap.size w w16) := ⟨by rw [← hq_]; exact (by repeat (first | (with_reducible first | exact HB.out | apply below_alloc | apply pw_below_drewN | apply below_drew1 | refine below_set ?_ GE213.out) | exact HB.out))⟩; clear BK213 HB hq_; have BK213 := n0_; have HB := n1_; clear n0_ n1_))))
        have n0_ := Aside0.mk (blk_drew BK213.out)
        have n1_ := Aside0.mk (below_drew1 HB.out)
        clear BK213
        clear HB
        have BK213 := n0_
        have HB := n1_
        clear n0_ n1_
        have p218 : 0 ≤ (1 : Int) := (by omega)
        have q218 : 1 < (l0.length : Int) := of_decide_eq_true (by first | (with_reducible assumption) | assumption)
        obtain ⟨ad218, e218, hx218_0⟩ := Kd.at_int HR0.out 1 p218 q218
        have hw218_0 := hx218_0
        (try rw [show ((1 : Int)).toNat = 1 from rfl] at hw218_0)
        (try rw [show 1 * 1 = 1 from rfl] at hw218_0)
        (try simp only [Nat.reduceMul, Nat.reduceEqDiff, Go.Addr.add, ↓reduceIte] at hw218_0)
        obtain rfl : ad214 = ad218 := (by injection e218)
        (try simp only [show (1 : Int).toNat = 1 from rfl, Nat.reduceMul, Nat.reduceEqDiff, Go.Addr.add, ↓reduceIte] at hx218_0)
        have qi218 : (1 < l0.length) = True := eq_true (by omega)
        (try rw [show ((1 : Int)).toNat = 1 from rfl] at hx218_0)
        replace hx218_0 := (HB.out.cell (World.block_lt_of_cell? w _ hx218_0)).trans hx218_0
        replace p218 := eq_true p218
        replace q218 := eq_true q218
        refine start_ (n := 14) (S := fun w' => w'.cell? ⟨ad214.block, ad214.off + 1, none⟩ = some (.int .u8 (rd l0 1))) (ds := []) #[false, false, false, false, false, false, false, false, false, false, false, false, false, false] (by kernel_rfl) rfl rfl (((HB.out.cell (World.block_lt_of_cell? w _ hw218_0)).trans hw218_0)) (fun hHeld => ?_); refine with_tabW stillageref02_Decode.tab7 stillageref02_Decode.bits7 (fun HT_ HW_ => ?_)
        generalize w16.drew = w18 at BK213 HB hx218_0 hHeld ⊢
        refine pure_ (i := 0) (N := some 22) (v := ?_) (a' := ?_) #[true, false, false, false, false, false, false, false, false, false, false, false, false, false] rfl rfl (any_of HT_.out (by kernel_rfl)) (fun _ _ _ h => h) (Or.inl ⟨by rfl, ?_⟩) ?_ ?_
        rotate_left
        ·intro w'
         go_simp
         with_reducible rfl
        rotate_left
        ·simp only [Act.put, List.setIfInBounds_toArray, List.set_cons_zero, List.set_cons_succ, i64_w, i32_w]
         rfl
        refine pure_ (i := 1) (N := some 23) (v := ?_) (a' := ?_) #[true, true, false, false, false, false, false, false, false, false, false, false, false, false] rfl rfl (any_of HT_.out (by kernel_rfl)) (fun _ _ _ h => h) (Or.inl ⟨by rfl, ?_⟩) ?_ ?_
        rotate_left
        ·intro w'
         go_simp
         with_reducible rfl
        rotate_left
        ·simp only [Act.put, List.setIfInBounds_toArray, List.set_cons_zero, List.set_cons_succ, i64_w, i32_w]
         rfl
        refine pure_ (i := 3) (N := some 25) (v := ?_) (a' := ?_) #[true, true, false, true, false, false, false, false, false, false, false, false, false, false] rfl rfl (any_of HT_.out (by kernel_rfl)) (fun _ _ _ h => h) (Or.inl ⟨by rfl, ?_⟩) ?_ ?_
        rotate_left
        ·intro w'
         go_simp
         with_reducible rfl
        rotate_left
        ·simp only [Act.put, List.setIfInBounds_toArray, List.set_cons_zero, List.set_cons_succ, i64_w, i32_w]
         rfl
        refine pure_ (i := 5) (N := some 27) (v := ?_) (a' := ?_) #[true, true, false, true, false, true, false, false, false, false, false, false, false, false] rfl rfl (any_of HT_.out (by kernel_rfl)) (fun _ _ _ h => h) (Or.inl ⟨by rfl, ?_⟩) ?_ ?_
        rotate_left
        ·intro w'
         go_simp
         with_reducible rfl
        rotate_left
        ·simp only [Act.put, List.setIfInBounds_toArray, List.set_cons_zero, List.set_cons_succ, i64_w, i32_w]
         rfl
        refine pure_ (i := 7) (N := some 29) (v := ?_) (a' := ?_) #[true, true, false, true, false, true, false, true, false, false, false, false, false, false] rfl rfl (any_of HT_.out (by kernel_rfl)) (fun _ _ _ h => h) (Or.inl ⟨by rfl, ?_⟩) ?_ ?_
        rotate_left
        ·intro w'
         go_simp
         with_reducible rfl
        rotate_left
        ·simp only [Act.put, List.setIfInBounds_toArray, List.set_cons_zero, List.set_cons_succ, i64_w, i32_w]
         rfl
        refine pure_ (i := 9) (N := some 31) (v := ?_) (a' := ?_) #[true, true, false, true, false, true, false, true, false, true, false, false, false, false] rfl rfl (any_of HT_.out (by kernel_rfl)) (fun _ _ _ h => h) (Or.inl ⟨by rfl, ?_⟩) ?_ ?_
        rotate_left
        ·intro w'
         go_simp
         with_reducible rfl
        rotate_left
        ·simp only [Act.put, List.setIfInBounds_toArray, List.set_cons_zero, List.set_cons_succ, i64_w, i32_w]
         rfl
        refine take_ (i := 2) (N := some 24) (v := ?_) (a' := ?_) #[true, true, true, true, false, true, false, true, false, true, false, false, false, false] rfl rfl (take_ofW HT_.out HW_.out (by kernel_rfl)) (fun _ _ _ h => h) (Or.inl ⟨by rfl, ?_⟩) hHeld ?_ ?_
        rotate_left
        ·intro w' s0
         go_simp
         with_reducible rfl
        rotate_left
        ·simp only [Act.put, List.setIfInBounds_toArray, List.set_cons_zero, List.set_cons_succ, i64_w, i32_w]
         rfl
        refine join_ (σ := Nat) 1 #[true, true, true, true, true, true, true, true, true, true, true, true, true, false] (fun s_ => [(26, .int .u16 t219), (28, .int .u16 t220), (30, .int .u16 t221), (32, .int .u16 t222), (4, .pointer (some ⟨s_, 0, none⟩)), (33, .agg #[.int .u8 (rd l0 1), .int .u16 t219, .int .u16 t220, .int .u16 t221, .int .u16 t222])]) (fun s_ w' => (w'.cell? ⟨ad214.block, ad214.off + 1, none⟩ = some (.int .u8 (rd l0 1))) ∧ (w'.heap[gb213]? = some (.cells #[.int .u8 0, .int .u16 0, .int .u16 0, .int .u16 0, .int .u16 0] 24 (0, 0))) ∧ (w'.heap[s_]? = some (.cells #[.int .u8 0, .int .u16 0, .int .u16 0, .int .u16 0, .int .u16 0] 24 (0, 0))) ∧ (w.heap.size ≤ s_) ∧ (w.heap.size ≤ s_) ∧ (gb213 ≠ s_) ∧ (s_ ≠ gb213) ∧ (Below w.heap.size w w')) ?_ ?_
        rotate_left
        ·intro hJ4_6_8_10_12
         refine join_ (σ := Unit) 2 #[true, true, true, true, true, true, true, true, true, true, true, true, false, false] (fun s_ => [(26, .int .u16 t219), (28, .int .u16 t220), (30, .int .u16 t221), (32, .int .u16 t222), (33, .agg #[.int .u8 (rd l0 1), .int .u16 t219, .int .u16 t220, .int .u16 t221, .int .u16 t222])]) (fun s_ w' => (w'.cell? ⟨ad214.block, ad214.off + 1, none⟩ = some (.int .u8 (rd l0 1))) ∧ (w'.heap[gb213]? = some (.cells #[.int .u8 0, .int .u16 0, .int .u16 0, .int .u16 0, .int .u16 0] 24 (0, 0))) ∧ (Below w.heap.size w w')) ?_ ?_
         rotate_left
         ·intro hJ4_6_8_10
          refine join_ (σ := Nat) 3 #[true, true, true, true, true, true, true, true, true, true, false, false, true, false] (fun s_ => [(26, .int .u16 t219), (28, .int .u16 t220), (30, .int .u16 t221), (4, .pointer (some ⟨s_, 0, none⟩))]) (fun s_ w' => (w'.cell? ⟨ad214.block, ad214.off + 1, none⟩ = some (.int .u8 (rd l0 1))) ∧ (w'.heap[gb213]? = some (.cells #[.int .u8 0, .int .u16 0, .int .u16 0, .int .u16 0, .int .u16 0] 24 (0, 0))) ∧ (w'.heap[s_]? = some (.cells #[.int .u8 0, .int .u16 0, .int .u16 0, .int .u16 0, .int .u16 0] 24 (0, 0))) ∧ (w.heap.size ≤ s_) ∧ (w.heap.size ≤ s_) ∧ (gb213 ≠ s_) ∧ (s_ ≠ gb213) ∧ (Below w.heap.size w w')) ?_ ?_
          rotate_left
          ·intro hJ4_6_8_12
           refine join_ (σ := Unit) 4 #[true, true, true, true, true, true, true, true, true, true, false, false, false, false] (fun s_ => [(26, .int .u16 t219), (28, .int .u16 t220), (30, .int .u16 t221)]) (fun s_ w' => (w'.cell? ⟨ad214.block, ad214.off + 1, none⟩ = some (.int .u8 (rd l0 1))) ∧ (w'.heap[gb213]? = some (.cells #[.int .u8 0, .int .u16 0, .int .u16 0, .int .u16 0, .int .u16 0] 24 (0, 0))) ∧ (Below w.heap.size w w')) ?_ ?_
           rotate_left
           ·intro hJ4_6_8
            refine join_ (σ := Nat) 4 #[true, true, true, true, true, true, true, true, false, true, false, false, true, false] (fun s_ => [(26, .int .u16 t219), (28, .int .u16 t220), (4, .pointer (some ⟨s_, 0, none⟩))]) (fun s_ w' => (w'.cell? ⟨ad214.block, ad214.off + 1, none⟩ = some (.int .u8 (rd l0 1))) ∧ (w'.heap[gb213]? = some (.cells #[.int .u8 0, .int .u16 0, .int .u16 0, .int .u16 0, .int .u16 0] 24 (0, 0))) ∧ (w'.heap[s_]? = some (.cells #[.int .u8 0, .int .u16 0, .int .u16 0, .int .u16 0, .int .u16 0] 24 (0, 0))) ∧ (w.heap.size ≤ s_) ∧ (w.heap.size ≤ s_) ∧ (gb213 ≠ s_) ∧ (s_ ≠ gb213) ∧ (Below w.heap.size w w')) ?_ ?_
            rotate_left
            ·intro hJ4_6_12
             refine join_ (σ := Unit) 5 #[true, true, true, true, true, true, true, true, false, true, false, false, false, false] (fun s_ => [(26, .int .u16 t219), (28, .int .u16 t220)]) (fun s_ w' => (w'.cell? ⟨ad214.block, ad214.off + 1, none⟩ = some (.int .u8 (rd l0 1))) ∧ (w'.heap[gb213]? = some (.cells #[.int .u8 0, .int .u16 0, .int .u16 0, .int .u16 0, .int .u16 0] 24 (0, 0))) ∧ (Below w.heap.size w w')) ?_ ?_
             rotate_left
             ·intro hJ4_6
              refine join_ (σ := Nat) 5 #[true, true, true, true, true, true, false, true, false, true, false, false, true, false] (fun s_ => [(26, .int .u16 t219), (4, .pointer (some ⟨s_, 0, none⟩))]) (fun s_ w' => (w'.cell? ⟨ad214.block, ad214.off + 1, none⟩ = some (.int .u8 (rd l0 1))) ∧ (w'.heap[gb213]? = some (.cells #[.int .u8 0, .int .u16 0, .int .u16 0, .int .u16 0, .int .u16 0] 24 (0, 0))) ∧ (w'.heap[s_]? = some (.cells #[.int .u8 0, .int .u16 0, .int .u16 0, .int .u16 0, .int .u16 0] 24 (0, 0))) ∧ (w.heap.size ≤ s_) ∧ (w.heap.size ≤ s_) ∧ (gb213 ≠ s_) ∧ (s_ ≠ gb213) ∧ (Below w.heap.size w w')) ?_ ?_
              rotate_left
              ·intro hJ4_12
               refine join_ (σ := Unit) 6 #[true, true, true, true, true, true, false, true, false, true, false, false, false, false] (fun s_ => [(26, .int .u16 t219)]) (fun s_ w' => (w'.cell? ⟨ad214.block, ad214.off + 1, none⟩ = some (.int .u8 (rd l0 1))) ∧ (w'.heap[gb213]? = some (.cells #[.int .u8 0, .int .u16 0, .int .u16 0, .int .u16 0, .int .u16 0] 24 (0, 0))) ∧ (Below w.heap.size w w')) ?_ ?_
               rotate_left
               ·intro hJ4
                refine join_ (σ := Nat) 6 #[true, true, true, true, false, true, false, true, false, true, false, false, true, false] (fun s_ => [(4, .pointer (some ⟨s_, 0, none⟩))]) (fun s_ w' => (w'.cell? ⟨ad214.block, ad214.off + 1, none⟩ = some (.int .u8 (rd l0 1))) ∧ (w'.heap[gb213]? = some (.cells #[.int .u8 0, .int .u16 0, .int .u16 0, .int .u16 0, .int .u16 0] 24 (0, 0))) ∧ (w'.heap[s_]? = some (.cells #[.int .u8 0, .int .u16 0, .int .u16 0, .int .u16 0, .int .u16 0] 24 (0, 0))) ∧ (w.heap.size ≤ s_) ∧ (w.heap.size ≤ s_) ∧ (gb213 ≠ s_) ∧ (s_ ≠ gb213) ∧ (Below w.heap.size w w')) ?_ ?_
                rotate_left
                ·intro hJ12
                 refine two_ (i := 4) (j := 12) (Ni := some 26) (Nj := some 4) #[true, true, true, true, true, true, false, true, false, true, false, false, false, false] #[true, true, true, true, false, true, false, true, false, true, false, false, true, false] rfl rfl rfl rfl (two_of HT_.out (by kernel_rfl)) (by decide) (by decide) (fun K hK => ?_) (fun K hK => ?_)
                 ·skip
                  refine goes_ Try.func28 (by kernel_rfl) rfl #[.slice (some ad214) l0.length c0, .int .i64 2] (by rfl) rfl rfl (by (try simp only [List.map_toArray, List.map_cons, List.map_nil]); first | done | rfl | (simp only [List.length_drop, List.length_take]; rfl)) ?_
                  with_reducible refine (stillageref02_two.calls _ _ l0 2 t219 _ ?side1 ?side2 A10.out).mono ?_
                  (case side1 => repeat (first | exact (Kd.C_below HR0.out HB.out) | (with_reducible refine Kd.C_alloc ?_ _) | (with_reducible refine Kd.C_drewN ?_ _) | (with_reducible refine Kd.C_drew ?_)))
                  (case side2 => exact HC0.out)
                  rintro e w' ⟨rfl, ⟨nd, rfl⟩⟩
                  refine ⟨_, rfl, ?_⟩
                  refine hK.out _ _ (((HB.out.cell (World.block_lt_of_cell? w _ hw218_0)).trans hw218_0)) (fun hHeld => ?_)
                  clear hK K
                  refine norm_ (a' := ?_) ?_ ?_
                  rotate_left
                  ·show Act.put _ (some 26) _ = _
                   simp only [Act.put, List.setIfInBounds_toArray, List.set_cons_zero, List.set_cons_succ, i64_w, i32_w]
                   rfl
                  exact norm_ (by first | (simp only [putAll, Act.put, List.setIfInBounds_toArray, List.set_cons_zero, List.set_cons_succ]; done) | (simp only [putAll, Act.put, List.setIfInBounds_toArray, List.set_cons_zero, List.set_cons_succ]; rfl)) (hJ4 () _ ⟨hHeld, (by (with_reducible repeat (first | refine blk_drewN ?_ _ | refine blk_drew ?_ | refine blk_alloc ?_ _)); exact BK213.out), (by repeat (first | (with_reducible first | exact HB.out | apply below_alloc | apply pw_below_drewN | apply below_drew1 | refine below_set ?_ GE213.out) | exact HB.out))⟩)
                 ·skip
                  refine box_step ?hg (N := 4) ?hd (cs := #[.int .u8 0, .int .u16 0, .int .u16 0, .int .u16 0, .int .u16 0]) (t := 24) ?hr ?_; (case hd => rfl); (case hg => rfl); (case hr => first | (go_simp; done) | (go_simp; rfl))
                  intro gb223 hg w19 hbox hb
                  have n0_ := Aside0.mk (blk_below (g := gb213) (o := .cells #[.int .u8 0, .int .u16 0, .int .u16 0, .int .u16 0, .int .u16 0] 24 (0, 0)) (by (with_reducible repeat (first | refine blk_drewN ?_ _ | refine blk_drew ?_ | refine blk_alloc ?_ _)); exact BK213.out) hb)
                  have n1_ := Aside0.mk (below_step (by repeat (first | (with_reducible first | exact HB.out | apply below_alloc | apply pw_below_drewN | apply below_drew1 | refine below_set ?_ GE213.out) | exact HB.out)) hb)
                  have n2_ := Aside0.mk (hbox)
                  have n3_ := Aside0.mk ((by rw [hg]; exact (below_size (by repeat (first | (with_reducible first | exact HB.out | apply below_alloc | apply pw_below_drewN | apply below_drew1 | refine below_set ?_ GE213.out) | exact HB.out))) : w.heap.size ≤ gb223))
                  have n4_ := Aside0.mk ((by rw [hg]; exact (below_size (by repeat (first | (with_reducible first | exact HB.out | apply below_alloc | apply pw_below_drewN | apply below_drew1 | refine below_set ?_ GE213.out) | exact HB.out))) : w.heap.size ≤ gb223))
                  have n5_ := Aside0.mk ((by rw [hg]; exact Nat.ne_of_lt (blk_lt (g := gb213) (o := .cells #[.int .u8 0, .int .u16 0, .int .u16 0, .int .u16 0, .int .u16 0] 24 (0, 0)) (by (with_reducible repeat (first | refine blk_drewN ?_ _ | refine blk_drew ?_ | refine blk_alloc ?_ _)); exact BK213.out)) : gb213 ≠ gb223))
                  have n6_ := Aside0.mk ((by rw [hg]; exact Nat.ne_of_gt (blk_lt (g := gb213) (o := .cells #[.int .u8 0, .int .u16 0, .int .u16 0, .int .u16 0, .int .u16 0] 24 (0, 0)) (by (with_reducible repeat (first | refine blk_drewN ?_ _ | refine blk_drew ?_ | refine blk_alloc ?_ _)); exact BK213.out)) : gb223 ≠ gb213))
                  clear BK213
                  clear HB
                  have BK213 := n0_
                  have HB := n1_
                  have BK223 := n2_
                  have GW223 := n3_
                  have GE223 := n4_
                  have NB213_223 := n5_
                  have NB223_213 := n6_
                  clear n0_ n1_ n2_ n3_ n4_ n5_ n6_
                  clear hb hbox hg
                  refine hK.out _ _ (((HB.out.cell (World.block_lt_of_cell? w _ hw218_0)).trans hw218_0)) (fun hHeld => ?_)
                  clear hK K
                  refine norm_ (a' := ?_) ?_ ?_
                  rotate_left
                  ·show Act.put _ (some 4) _ = _
                   simp only [Act.put, List.setIfInBounds_toArray, List.set_cons_zero, List.set_cons_succ, i64_w, i32_w]
                   rfl
                  exact norm_ (by first | (simp only [putAll, Act.put, List.setIfInBounds_toArray, List.set_cons_zero, List.set_cons_succ]; done) | (simp only [putAll, Act.put, List.setIfInBounds_toArray, List.set_cons_zero, List.set_cons_succ]; rfl)) (hJ12 (gb223) _ ⟨hHeld, (by (with_reducible repeat (first | refine blk_drewN ?_ _ | refine blk_drew ?_ | refine blk_alloc ?_ _)); exact BK213.out), (by (with_reducible repeat (first | refine blk_drewN ?_ _ | refine blk_drew ?_ | refine blk_alloc ?_ _)); exact BK223.out), GW223.out, GE223.out, NB213_223.out, NB223_213.out, (by repeat (first | (with_reducible first | exact HB.out | apply below_alloc | apply pw_below_drewN | apply below_drew1 | refine below_set ?_ GE213.out | refine below_set ?_ GE223.out) | exact HB.out))⟩)
                ·skip
                 rintro gb223 w20 ⟨hS_, h0_, h1_, h2_, h3_, h4_, h5_, h6_⟩
                 have n0_ : Aside0 (w20.heap[gb213]? = some (.cells #[.int .u8 0, .int .u16 0, .int .u16 0, .int .u16 0, .int .u16 0] 24 (0, 0))) := ⟨h0_⟩
                 have n1_ : Aside0 (w20.heap[gb223]? = some (.cells #[.int .u8 0, .int .u16 0, .int .u16 0, .int .u16 0, .int .u16 0] 24 (0, 0))) := ⟨h1_⟩
                 have n2_ : Aside0 (w.heap.size ≤ gb223) := ⟨h2_⟩
                 have n3_ : Aside0 (w.heap.size ≤ gb223) := ⟨h3_⟩
                 have n4_ : Aside0 (gb213 ≠ gb223) := ⟨h4_⟩
                 have n5_ : Aside0 (gb223 ≠ gb213) := ⟨h5_⟩
                 have n6_ : Aside0 (Below w.heap.size w w20) := ⟨h6_⟩
                 clear BK213
                 clear HB
                 clear h0_ h1_ h2_ h3_ h4_ h5_ h6_
                 have BK213 := n0_
                 have BK223 := n1_
                 have GW223 := n2_
                 have GE223 := n3_
                 have NB213_223 := n4_
                 have NB223_213 := n5_
                 have HB := n6_
                 clear n0_ n1_ n2_ n3_ n4_ n5_ n6_
                 have hHeld : w20.cell? ⟨ad214.block, ad214.off + 1, none⟩ = some (.int .u8 (rd l0 1)) := hS_
                 refine norm_ (a' := ?_) ?_ ?_
                 rotate_left
                 ·simp only [putAll, Act.put, List.setIfInBounds_toArray, List.set_cons_zero, List.set_cons_succ]
                  rfl
                 refine one_ (i := 4) (N := some 26) #[true, true, true, true, true, true, false, true, false, true, false, false, true, false] rfl rfl (one_of HT_.out (by kernel_rfl)) (by decide) (fun K hK => ?_)
                 refine goes_ Try.func28 (by kernel_rfl) rfl #[.slice (some ad214) l0.length c0, .int .i64 2] (by rfl) rfl rfl (by (try simp only [List.map_toArray, List.map_cons, List.map_nil]); first | done | rfl | (simp only [List.length_drop, List.length_take]; rfl)) ?_
                 with_reducible refine (stillageref02_two.calls _ _ l0 2 t219 _ ?side1 ?side2 A10.out).mono ?_
                 (case side1 => repeat (first | exact (Kd.C_below HR0.out HB.out) | (with_reducible refine Kd.C_alloc ?_ _) | (with_reducible refine Kd.C_drewN ?_ _) | (with_reducible refine Kd.C_drew ?_)))
                 (case side2 => exact HC0.out)
                 rintro e w' ⟨rfl, ⟨nd, rfl⟩⟩
                 refine ⟨_, rfl, ?_⟩
                 refine hK.out _ _ (((HB.out.cell (World.block_lt_of_cell? w _ hw218_0)).trans hw218_0)) (fun hHeld => ?_)
                 clear hK K
                 refine norm_ (a' := ?_) ?_ ?_
                 rotate_left
                 ·show Act.put _ (some 26) _ = _
                  simp only [Act.put, List.setIfInBounds_toArray, List.set_cons_zero, List.set_cons_succ, i64_w, i32_w]
                  rfl
                 exact norm_ (by first | (simp only [putAll, Act.put, List.setIfInBounds_toArray, List.set_cons_zero, List.set_cons_succ]; done) | (simp only [putAll, Act.put, List.setIfInBounds_toArray, List.set_cons_zero, List.set_cons_succ]; rfl)) (hJ4_12 (gb223) _ ⟨hHeld, (by (with_reducible repeat (first | refine blk_drewN ?_ _ | refine blk_drew ?_ | refine blk_alloc ?_ _)); exact BK213.out), (by (with_reducible repeat (first | refine blk_drewN ?_ _ | refine blk_drew ?_ | refine blk_alloc ?_ _)); exact BK223.out), GW223.out, GE223.out, NB213_223.out, NB223_213.out, (by repeat (first | (with_reducible first | exact HB.out | apply below_alloc | apply pw_below_drewN | apply below_drew1 | refine below_set ?_ GE213.out | refine below_set ?_ GE223.out) | exact HB.out))⟩)
               ·skip
                rintro _ w19 ⟨hS_, h0_, h1_⟩
                have n0_ : Aside0 (w19.heap[gb213]? = some (.cells #[.int .u8 0, .int .u16 0, .int .u16 0, .int .u16 0, .int .u16 0] 24 (0, 0))) := ⟨h0_⟩
                have n1_ : Aside0 (Below w.heap.size w w19) := ⟨h1_⟩
                clear BK213
                clear HB
                clear h0_ h1_
                have BK213 := n0_
                have HB := n1_
                clear n0_ n1_
                have hHeld : w19.cell? ⟨ad214.block, ad214.off + 1, none⟩ = some (.int .u8 (rd l0 1)) := hS_
                refine norm_ (a' := ?_) ?_ ?_
                rotate_left
                ·simp only [putAll, Act.put, List.setIfInBounds_toArray, List.set_cons_zero, List.set_cons_succ]
                 rfl
                refine two_ (i := 6) (j := 12) (Ni := some 28) (Nj := some 4) #[true, true, true, true, true, true, true, true, false, true, false, false, false, false] #[true, true, true, true, true, true, false, true, false, true, false, false, true, false] rfl rfl rfl rfl (two_of HT_.out (by kernel_rfl)) (by decide) (by decide) (fun K hK => ?_) (fun K hK => ?_)
                ·skip
                 refine goes_ Try.func28 (by kernel_rfl) rfl #[.slice (some ad214) l0.length c0, .int .i64 4] (by rfl) rfl rfl (by (try simp only [List.map_toArray, List.map_cons, List.map_nil]); first | done | rfl | (simp only [List.length_drop, List.length_take]; rfl)) ?_
                 with_reducible refine (stillageref02_two.calls _ _ l0 4 t220 _ ?side1 ?side2 A11.out).mono ?_
                 (case side1 => repeat (first | exact (Kd.C_below HR0.out HB.out) | (with_reducible refine Kd.C_alloc ?_ _) | (with_reducible refine Kd.C_drewN ?_ _) | (with_reducible refine Kd.C_drew ?_)))
                 (case side2 => exact HC0.out)
                 rintro e w' ⟨rfl, ⟨nd, rfl⟩⟩
                 refine ⟨_, rfl, ?_⟩
                 refine hK.out _ _ (((HB.out.cell (World.block_lt_of_cell? w _ hw218_0)).trans hw218_0)) (fun hHeld => ?_)
                 clear hK K
                 refine norm_ (a' := ?_) ?_ ?_
                 rotate_left
                 ·show Act.put _ (some 28) _ = _
                  simp only [Act.put, List.setIfInBounds_toArray, List.set_cons_zero, List.set_cons_succ, i64_w, i32_w]
                  rfl
                 exact norm_ (by first | (simp only [putAll, Act.put, List.setIfInBounds_toArray, List.set_cons_zero, List.set_cons_succ]; done) | (simp only [putAll, Act.put, List.setIfInBounds_toArray, List.set_cons_zero, List.set_cons_succ]; rfl)) (hJ4_6 () _ ⟨hHeld, (by (with_reducible repeat (first | refine blk_drewN ?_ _ | refine blk_drew ?_ | refine blk_alloc ?_ _)); exact BK213.out), (by repeat (first | (with_reducible first | exact HB.out | apply below_alloc | apply pw_below_drewN | apply below_drew1 | refine below_set ?_ GE213.out) | exact HB.out))⟩)
                ·skip
                 refine box_step ?hg (N := 4) ?hd (cs := #[.int .u8 0, .int .u16 0, .int .u16 0, .int .u16 0, .int .u16 0]) (t := 24) ?hr ?_; (case hd => rfl); (case hg => rfl); (case hr => first | (go_simp; done) | (go_simp; rfl))
                 intro gb223 hg w20 hbox hb
                 have n0_ := Aside0.mk (blk_below (g := gb213) (o := .cells #[.int .u8 0, .int .u16 0, .int .u16 0, .int .u16 0, .int .u16 0] 24 (0, 0)) (by (with_reducible repeat (first | refine blk_drewN ?_ _ | refine blk_drew ?_ | refine blk_alloc ?_ _)); exact BK213.out) hb)
                 have n1_ := Aside0.mk (below_step (by repeat (first | (with_reducible first | exact HB.out | apply below_alloc | apply pw_below_drewN | apply below_drew1 | refine below_set ?_ GE213.out) | exact HB.out)) hb)
                 have n2_ := Aside0.mk (hbox)
                 have n3_ := Aside0.mk ((by rw [hg]; exact (below_size (by repeat (first | (with_reducible first | exact HB.out | apply below_alloc | apply pw_below_drewN | apply below_drew1 | refine below_set ?_ GE213.out) | exact HB.out))) : w.heap.size ≤ gb223))
                 have n4_ := Aside0.mk ((by rw [hg]; exact (below_size (by repeat (first | (with_reducible first | exact HB.out | apply below_alloc | apply pw_below_drewN | apply below_drew1 | refine below_set ?_ GE213.out) | exact HB.out))) : w.heap.size ≤ gb223))
                 have n5_ := Aside0.mk ((by rw [hg]; exact Nat.ne_of_lt (blk_lt (g := gb213) (o := .cells #[.int .u8 0, .int .u16 0, .int .u16 0, .int .u16 0, .int .u16 0] 24 (0, 0)) (by (with_reducible repeat (first | refine blk_drewN ?_ _ | refine blk_drew ?_ | refine blk_alloc ?_ _)); exact BK213.out)) : gb213 ≠ gb223))
                 have n6_ := Aside0.mk ((by rw [hg]; exact Nat.ne_of_gt (blk_lt (g := gb213) (o := .cells #[.int .u8 0, .int .u16 0, .int .u16 0, .int .u16 0, .int .u16 0] 24 (0, 0)) (by (with_reducible repeat (first | refine blk_drewN ?_ _ | refine blk_drew ?_ | refine blk_alloc ?_ _)); exact BK213.out)) : gb223 ≠ gb213))
                 clear BK213
                 clear HB
                 have BK213 := n0_
                 have HB := n1_
                 have BK223 := n2_
                 have GW223 := n3_
                 have GE223 := n4_
                 have NB213_223 := n5_
                 have NB223_213 := n6_
                 clear n0_ n1_ n2_ n3_ n4_ n5_ n6_
                 clear hb hbox hg
                 refine hK.out _ _ (((HB.out.cell (World.block_lt_of_cell? w _ hw218_0)).trans hw218_0)) (fun hHeld => ?_)
                 clear hK K
                 refine norm_ (a' := ?_) ?_ ?_
                 rotate_left
                 ·show Act.put _ (some 4) _ = _
                  simp only [Act.put, List.setIfInBounds_toArray, List.set_cons_zero, List.set_cons_succ, i64_w, i32_w]
                  rfl
                 exact norm_ (by first | (simp only [putAll, Act.put, List.setIfInBounds_toArray, List.set_cons_zero, List.set_cons_succ]; done) | (simp only [putAll, Act.put, List.setIfInBounds_toArray, List.set_cons_zero, List.set_cons_succ]; rfl)) (hJ4_12 (gb223) _ ⟨hHeld, (by (with_reducible repeat (first | refine blk_drewN ?_ _ | refine blk_drew ?_ | refine blk_alloc ?_ _)); exact BK213.out), (by (with_reducible repeat (first | refine blk_drewN ?_ _ | refine blk_drew ?_ | refine blk_alloc ?_ _)); exact BK223.out), GW223.out, GE223.out, NB213_223.out, NB223_213.out, (by repeat (first | (with_reducible first | exact HB.out | apply below_alloc | apply pw_below_drewN | apply below_drew1 | refine below_set ?_ GE213.out | refine below_set ?_ GE223.out) | exact HB.out))⟩)
              ·skip
               rintro gb223 w20 ⟨hS_, h0_, h1_, h2_, h3_, h4_, h5_, h6_⟩
               have n0_ : Aside0 (w20.heap[gb213]? = some (.cells #[.int .u8 0, .int .u16 0, .int .u16 0, .int .u16 0, .int .u16 0] 24 (0, 0))) := ⟨h0_⟩
               have n1_ : Aside0 (w20.heap[gb223]? = some (.cells #[.int .u8 0, .int .u16 0, .int .u16 0, .int .u16 0, .int .u16 0] 24 (0, 0))) := ⟨h1_⟩
               have n2_ : Aside0 (w.heap.size ≤ gb223) := ⟨h2_⟩
               have n3_ : Aside0 (w.heap.size ≤ gb223) := ⟨h3_⟩
               have n4_ : Aside0 (gb213 ≠ gb223) := ⟨h4_⟩
               have n5_ : Aside0 (gb223 ≠ gb213) := ⟨h5_⟩
               have n6_ : Aside0 (Below w.heap.size w w20) := ⟨h6_⟩
               clear BK213
               clear HB
               clear h0_ h1_ h2_ h3_ h4_ h5_ h6_
               have BK213 := n0_
               have BK223 := n1_
               have GW223 := n2_
               have GE223 := n3_
               have NB213_223 := n4_
               have NB223_213 := n5_
               have HB := n6_
               clear n0_ n1_ n2_ n3_ n4_ n5_ n6_
               have hHeld : w20.cell? ⟨ad214.block, ad214.off + 1, none⟩ = some (.int .u8 (rd l0 1)) := hS_
               refine norm_ (a' := ?_) ?_ ?_
               rotate_left
               ·simp only [putAll, Act.put, List.setIfInBounds_toArray, List.set_cons_zero, List.set_cons_succ]
                rfl
               refine one_ (i := 6) (N := some 28) #[true, true, true, true, true, true, true, true, false, true, false, false, true, false] rfl rfl (one_of HT_.out (by kernel_rfl)) (by decide) (fun K hK => ?_)
               refine goes_ Try.func28 (by kernel_rfl) rfl #[.slice (some ad214) l0.length c0, .int .i64 4] (by rfl) rfl rfl (by (try simp only [List.map_toArray, List.map_cons, List.map_nil]); first | done | rfl | (simp only [List.length_drop, List.length_take]; rfl)) ?_
               with_reducible refine (stillageref02_two.calls _ _ l0 4 t220 _ ?side1 ?side2 A11.out).mono ?_
               (case side1 => repeat (first | exact (Kd.C_below HR0.out HB.out) | (with_reducible refine Kd.C_alloc ?_ _) | (with_reducible refine Kd.C_drewN ?_ _) | (with_reducible refine Kd.C_drew ?_)))
               (case side2 => exact HC0.out)
               rintro e w' ⟨rfl, ⟨nd, rfl⟩⟩
               refine ⟨_, rfl, ?_⟩
               refine hK.out _ _ (((HB.out.cell (World.block_lt_of_cell? w _ hw218_0)).trans hw218_0)) (fun hHeld => ?_)
               clear hK K
               refine norm_ (a' := ?_) ?_ ?_
               rotate_left
               ·show Act.put _ (some 28) _ = _
                simp only [Act.put, List.setIfInBounds_toArray, List.set_cons_zero, List.set_cons_succ, i64_w, i32_w]
                rfl
               exact norm_ (by first | (simp only [putAll, Act.put, List.setIfInBounds_toArray, List.set_cons_zero, List.set_cons_succ]; done) | (simp only [putAll, Act.put, List.setIfInBounds_toArray, List.set_cons_zero, List.set_cons_succ]; rfl)) (hJ4_6_12 (gb223) _ ⟨hHeld, (by (with_reducible repeat (first | refine blk_drewN ?_ _ | refine blk_drew ?_ | refine blk_alloc ?_ _)); exact BK213.out), (by (with_reducible repeat (first | refine blk_drewN ?_ _ | refine blk_drew ?_ | refine blk_alloc ?_ _)); exact BK223.out), GW223.out, GE223.out, NB213_223.out, NB223_213.out, (by repeat (first | (with_reducible first | exact HB.out | apply below_alloc | apply pw_below_drewN | apply below_drew1 | refine below_set ?_ GE213.out | refine below_set ?_ GE223.out) | exact HB.out))⟩)
             ·skip
              rintro _ w19 ⟨hS_, h0_, h1_⟩
              have n0_ : Aside0 (w19.heap[gb213]? = some (.cells #[.int .u8 0, .int .u16 0, .int .u16 0, .int .u16 0, .int .u16 0] 24 (0, 0))) := ⟨h0_⟩
              have n1_ : Aside0 (Below w.heap.size w w19) := ⟨h1_⟩
              clear BK213
              clear HB
              clear h0_ h1_
              have BK213 := n0_
              have HB := n1_
              clear n0_ n1_
              have hHeld : w19.cell? ⟨ad214.block, ad214.off + 1, none⟩ = some (.int .u8 (rd l0 1)) := hS_
              refine norm_ (a' := ?_) ?_ ?_
              rotate_left
              ·simp only [putAll, Act.put, List.setIfInBounds_toArray, List.set_cons_zero, List.set_cons_succ]
               rfl
              refine two_ (i := 8) (j := 12) (Ni := some 30) (Nj := some 4) #[true, true, true, true, true, true, true, true, true, true, false, false, false, false] #[true, true, true, true, true, true, true, true, false, true, false, false, true, false] rfl rfl rfl rfl (two_of HT_.out (by kernel_rfl)) (by decide) (by decide) (fun K hK => ?_) (fun K hK => ?_)
              ·skip
               refine goes_ Try.func28 (by kernel_rfl) rfl #[.slice (some ad214) l0.length c0, .int .i64 6] (by rfl) rfl rfl (by (try simp only [List.map_toArray, List.map_cons, List.map_nil]); first | done | rfl | (simp only [List.length_drop, List.length_take]; rfl)) ?_
               with_reducible refine (stillageref02_two.calls _ _ l0 6 t221 _ ?side1 ?side2 A12.out).mono ?_
               (case side1 => repeat (first | exact (Kd.C_below HR0.out HB.out) | (with_reducible refine Kd.C_alloc ?_ _) | (with_reducible refine Kd.C_drewN ?_ _) | (with_reducible refine Kd.C_drew ?_)))
               (case side2 => exact HC0.out)
               rintro e w' ⟨rfl, ⟨nd, rfl⟩⟩
               refine ⟨_, rfl, ?_⟩
               refine hK.out _ _ (((HB.out.cell (World.block_lt_of_cell? w _ hw218_0)).trans hw218_0)) (fun hHeld => ?_)
               clear hK K
               refine norm_ (a' := ?_) ?_ ?_
               rotate_left
               ·show Act.put _ (some 30) _ = _
                simp only [Act.put, List.setIfInBounds_toArray, List.set_cons_zero, List.set_cons_succ, i64_w, i32_w]
                rfl
               exact norm_ (by first | (simp only [putAll, Act.put, List.setIfInBounds_toArray, List.set_cons_zero, List.set_cons_succ]; done) | (simp only [putAll, Act.put, List.setIfInBounds_toArray, List.set_cons_zero, List.set_cons_succ]; rfl)) (hJ4_6_8 () _ ⟨hHeld, (by (with_reducible repeat (first | refine blk_drewN ?_ _ | refine blk_drew ?_ | refine blk_alloc ?_ _)); exact BK213.out), (by repeat (first | (with_reducible first | exact HB.out | apply below_alloc | apply pw_below_drewN | apply below_drew1 | refine below_set ?_ GE213.out) | exact HB.out))⟩)
              ·skip
               refine box_step ?hg (N := 4) ?hd (cs := #[.int .u8 0, .int .u16 0, .int .u16 0, .int .u16 0, .int .u16 0]) (t := 24) ?hr ?_; (case hd => rfl); (case hg => rfl); (case hr => first | (go_simp; done) | (go_simp; rfl))
               intro gb223 hg w20 hbox hb
               have n0_ := Aside0.mk (blk_below (g := gb213) (o := .cells #[.int .u8 0, .int .u16 0, .int .u16 0, .int .u16 0, .int .u16 0] 24 (0, 0)) (by (with_reducible repeat (first | refine blk_drewN ?_ _ | refine blk_drew ?_ | refine blk_alloc ?_ _)); exact BK213.out) hb)
               have n1_ := Aside0.mk (below_step (by repeat (first | (with_reducible first | exact HB.out | apply below_alloc | apply pw_below_drewN | apply below_drew1 | refine below_set ?_ GE213.out) | exact HB.out)) hb)
               have n2_ := Aside0.mk (hbox)
               have n3_ := Aside0.mk ((by rw [hg]; exact (below_size (by repeat (first | (with_reducible first | exact HB.out | apply below_alloc | apply pw_below_drewN | apply below_drew1 | refine below_set ?_ GE213.out) | exact HB.out))) : w.heap.size ≤ gb223))
               have n4_ := Aside0.mk ((by rw [hg]; exact (below_size (by repeat (first | (with_reducible first | exact HB.out | apply below_alloc | apply pw_below_drewN | apply below_drew1 | refine below_set ?_ GE213.out) | exact HB.out))) : w.heap.size ≤ gb223))
               have n5_ := Aside0.mk ((by rw [hg]; exact Nat.ne_of_lt (blk_lt (g := gb213) (o := .cells #[.int .u8 0, .int .u16 0, .int .u16 0, .int .u16 0, .int .u16 0] 24 (0, 0)) (by (with_reducible repeat (first | refine blk_drewN ?_ _ | refine blk_drew ?_ | refine blk_alloc ?_ _)); exact BK213.out)) : gb213 ≠ gb223))
               have n6_ := Aside0.mk ((by rw [hg]; exact Nat.ne_of_gt (blk_lt (g := gb213) (o := .cells #[.int .u8 0, .int .u16 0, .int .u16 0, .int .u16 0, .int .u16 0] 24 (0, 0)) (by (with_reducible repeat (first | refine blk_drewN ?_ _ | refine blk_drew ?_ | refine blk_alloc ?_ _)); exact BK213.out)) : gb223 ≠ gb213))
               clear BK213
               clear HB
               have BK213 := n0_
               have HB := n1_
               have BK223 := n2_
               have GW223 := n3_
               have GE223 := n4_
               have NB213_223 := n5_
               have NB223_213 := n6_
               clear n0_ n1_ n2_ n3_ n4_ n5_ n6_
               clear hb hbox hg
               refine hK.out _ _ (((HB.out.cell (World.block_lt_of_cell? w _ hw218_0)).trans hw218_0)) (fun hHeld => ?_)
               clear hK K
               refine norm_ (a' := ?_) ?_ ?_
               rotate_left
               ·show Act.put _ (some 4) _ = _
                simp only [Act.put, List.setIfInBounds_toArray, List.set_cons_zero, List.set_cons_succ, i64_w, i32_w]
                rfl
               exact norm_ (by first | (simp only [putAll, Act.put, List.setIfInBounds_toArray, List.set_cons_zero, List.set_cons_succ]; done) | (simp only [putAll, Act.put, List.setIfInBounds_toArray, List.set_cons_zero, List.set_cons_succ]; rfl)) (hJ4_6_12 (gb223) _ ⟨hHeld, (by (with_reducible repeat (first | refine blk_drewN ?_ _ | refine blk_drew ?_ | refine blk_alloc ?_ _)); exact BK213.out), (by (with_reducible repeat (first | refine blk_drewN ?_ _ | refine blk_drew ?_ | refine blk_alloc ?_ _)); exact BK223.out), GW223.out, GE223.out, NB213_223.out, NB223_213.out, (by repeat (first | (with_reducible first | exact HB.out | apply below_alloc | apply pw_below_drewN | apply below_drew1 | refine below_set ?_ GE213.out | refine below_set ?_ GE223.out) | exact HB.out))⟩)
            ·skip
             rintro gb223 w20 ⟨hS_, h0_, h1_, h2_, h3_, h4_, h5_, h6_⟩
             have n0_ : Aside0 (w20.heap[gb213]? = some (.cells #[.int .u8 0, .int .u16 0, .int .u16 0, .int .u16 0, .int .u16 0] 24 (0, 0))) := ⟨h0_⟩
             have n1_ : Aside0 (w20.heap[gb223]? = some (.cells #[.int .u8 0, .int .u16 0, .int .u16 0, .int .u16 0, .int .u16 0] 24 (0, 0))) := ⟨h1_⟩
             have n2_ : Aside0 (w.heap.size ≤ gb223) := ⟨h2_⟩
             have n3_ : Aside0 (w.heap.size ≤ gb223) := ⟨h3_⟩
             have n4_ : Aside0 (gb213 ≠ gb223) := ⟨h4_⟩
             have n5_ : Aside0 (gb223 ≠ gb213) := ⟨h5_⟩
             have n6_ : Aside0 (Below w.heap.size w w20) := ⟨h6_⟩
             clear BK213
             clear HB
             clear h0_ h1_ h2_ h3_ h4_ h5_ h6_
             have BK213 := n0_
             have BK223 := n1_
             have GW223 := n2_
             have GE223 := n3_
             have NB213_223 := n4_
             have NB223_213 := n5_
             have HB := n6_
             clear n0_ n1_ n2_ n3_ n4_ n5_ n6_
             have hHeld : w20.cell? ⟨ad214.block, ad214.off + 1, none⟩ = some (.int .u8 (rd l0 1)) := hS_
             refine norm_ (a' := ?_) ?_ ?_
             rotate_left
             ·simp only [putAll, Act.put, List.setIfInBounds_toArray, List.set_cons_zero, List.set_cons_succ]
              rfl
             refine one_ (i := 8) (N := some 30) #[true, true, true, true, true, true, true, true, true, true, false, false, true, false] rfl rfl (one_of HT_.out (by kernel_rfl)) (by decide) (fun K hK => ?_)
             refine goes_ Try.func28 (by kernel_rfl) rfl #[.slice (some ad214) l0.length c0, .int .i64 6] (by rfl) rfl rfl (by (try simp only [List.map_toArray, List.map_cons, List.map_nil]); first | done | rfl | (simp only [List.length_drop, List.length_take]; rfl)) ?_
             with_reducible refine (stillageref02_two.calls _ _ l0 6 t221 _ ?side1 ?side2 A12.out).mono ?_
             (case side1 => repeat (first | exact (Kd.C_below HR0.out HB.out) | (with_reducible refine Kd.C_alloc ?_ _) | (with_reducible refine Kd.C_drewN ?_ _) | (with_reducible refine Kd.C_drew ?_)))
             (case side2 => exact HC0.out)
             rintro e w' ⟨rfl, ⟨nd, rfl⟩⟩
             refine ⟨_, rfl, ?_⟩
             refine hK.out _ _ (((HB.out.cell (World.block_lt_of_cell? w _ hw218_0)).trans hw218_0)) (fun hHeld => ?_)
             clear hK K
             refine norm_ (a' := ?_) ?_ ?_
             rotate_left
             ·show Act.put _ (some 30) _ = _
              simp only [Act.put, List.setIfInBounds_toArray, List.set_cons_zero, List.set_cons_succ, i64_w, i32_w]
              rfl
             exact norm_ (by first | (simp only [putAll, Act.put, List.setIfInBounds_toArray, List.set_cons_zero, List.set_cons_succ]; done) | (simp only [putAll, Act.put, List.setIfInBounds_toArray, List.set_cons_zero, List.set_cons_succ]; rfl)) (hJ4_6_8_12 (gb223) _ ⟨hHeld, (by (with_reducible repeat (first | refine blk_drewN ?_ _ | refine blk_drew ?_ | refine blk_alloc ?_ _)); exact BK213.out), (by (with_reducible repeat (first | refine blk_drewN ?_ _ | refine blk_drew ?_ | refine blk_alloc ?_ _)); exact BK223.out), GW223.out, GE223.out, NB213_223.out, NB223_213.out, (by repeat (first | (with_reducible first | exact HB.out | apply below_alloc | apply pw_below_drewN | apply below_drew1 | refine below_set ?_ GE213.out | refine below_set ?_ GE223.out) | exact HB.out))⟩)
           ·skip
            rintro _ w19 ⟨hS_, h0_, h1_⟩
            have n0_ : Aside0 (w19.heap[gb213]? = some (.cells #[.int .u8 0, .int .u16 0, .int .u16 0, .int .u16 0, .int .u16 0] 24 (0, 0))) := ⟨h0_⟩
            have n1_ : Aside0 (Below w.heap.size w w19) := ⟨h1_⟩
            clear BK213
            clear HB
            clear h0_ h1_
            have BK213 := n0_
            have HB := n1_
            clear n0_ n1_
            have hHeld : w19.cell? ⟨ad214.block, ad214.off + 1, none⟩ = some (.int .u8 (rd l0 1)) := hS_
            refine norm_ (a' := ?_) ?_ ?_
            rotate_left
            ·simp only [putAll, Act.put, List.setIfInBounds_toArray, List.set_cons_zero, List.set_cons_succ]
             rfl
            refine two_ (i := 10) (j := 12) (Ni := some 32) (Nj := some 4) #[true, true, true, true, true, true, true, true, true, true, true, false, false, false] #[true, true, true, true, true, true, true, true, true, true, false, false, true, false] rfl rfl rfl rfl (two_of HT_.out (by kernel_rfl)) (by decide) (by decide) (fun K hK => ?_) (fun K hK => ?_)
            ·skip
             refine goes_ Try.func28 (by kernel_rfl) rfl #[.slice (some ad214) l0.length c0, .int .i64 8] (by rfl) rfl rfl (by (try simp only [List.map_toArray, List.map_cons, List.map_nil]); first | done | rfl | (simp only [List.length_drop, List.length_take]; rfl)) ?_
             with_reducible refine (stillageref02_two.calls _ _ l0 8 t222 _ ?side1 ?side2 A13.out).mono ?_
             (case side1 => repeat (first | exact (Kd.C_below HR0.out HB.out) | (with_reducible refine Kd.C_alloc ?_ _) | (with_reducible refine Kd.C_drewN ?_ _) | (with_reducible refine Kd.C_drew ?_)))
             (case side2 => exact HC0.out)
             rintro e w' ⟨rfl, ⟨nd, rfl⟩⟩
             refine ⟨_, rfl, ?_⟩
             refine hK.out _ _ (((HB.out.cell (World.block_lt_of_cell? w _ hw218_0)).trans hw218_0)) (fun hHeld => ?_)
             clear hK K
             refine norm_ (a' := ?_) ?_ ?_
             rotate_left
             ·show Act.put _ (some 32) _ = _
              simp only [Act.put, List.setIfInBounds_toArray, List.set_cons_zero, List.set_cons_succ, i64_w, i32_w]
              rfl
             refine pure_ (i := 11) (N := some 33) (v := ?_) (a' := ?_) #[true, true, true, true, true, true, true, true, true, true, true, true, false, false] rfl rfl (any_of HT_.out (by kernel_rfl)) (fun _ _ _ h => h) (Or.inl ⟨by rfl, ?_⟩) ?_ ?_
             rotate_left
             ·intro w'
              go_simp
              with_reducible rfl
             rotate_left
             ·simp only [Act.put, List.setIfInBounds_toArray, List.set_cons_zero, List.set_cons_succ, i64_w, i32_w]
              rfl
             exact norm_ (by first | (simp only [putAll, Act.put, List.setIfInBounds_toArray, List.set_cons_zero, List.set_cons_succ]; done) | (simp only [putAll, Act.put, List.setIfInBounds_toArray, List.set_cons_zero, List.set_cons_succ]; rfl)) (hJ4_6_8_10 () _ ⟨hHeld, (by (with_reducible repeat (first | refine blk_drewN ?_ _ | refine blk_drew ?_ | refine blk_alloc ?_ _)); exact BK213.out), (by repeat (first | (with_reducible first | exact HB.out | apply below_alloc | apply pw_below_drewN | apply below_drew1 | refine below_set ?_ GE213.out) | exact HB.out))⟩)
            ·skip
             refine box_step ?hg (N := 4) ?hd (cs := #[.int .u8 0, .int .u16 0, .int .u16 0, .int .u16 0, .int .u16 0]) (t := 24) ?hr ?_; (case hd => rfl); (case hg => rfl); (case hr => first | (go_simp; done) | (go_simp; rfl))
             intro gb223 hg w20 hbox hb
             have n0_ := Aside0.mk (blk_below (g := gb213) (o := .cells #[.int .u8 0, .int .u16 0, .int .u16 0, .int .u16 0, .int .u16 0] 24 (0, 0)) (by (with_reducible repeat (first | refine blk_drewN ?_ _ | refine blk_drew ?_ | refine blk_alloc ?_ _)); exact BK213.out) hb)
             have n1_ := Aside0.mk (below_step (by repeat (first | (with_reducible first | exact HB.out | apply below_alloc | apply pw_below_drewN | apply below_drew1 | refine below_set ?_ GE213.out) | exact HB.out)) hb)
             have n2_ := Aside0.mk (hbox)
             have n3_ := Aside0.mk ((by rw [hg]; exact (below_size (by repeat (first | (with_reducible first | exact HB.out | apply below_alloc | apply pw_below_drewN | apply below_drew1 | refine below_set ?_ GE213.out) | exact HB.out))) : w.heap.size ≤ gb223))
             have n4_ := Aside0.mk ((by rw [hg]; exact (below_size (by repeat (first | (with_reducible first | exact HB.out | apply below_alloc | apply pw_below_drewN | apply below_drew1 | refine below_set ?_ GE213.out) | exact HB.out))) : w.heap.size ≤ gb223))
             have n5_ := Aside0.mk ((by rw [hg]; exact Nat.ne_of_lt (blk_lt (g := gb213) (o := .cells #[.int .u8 0, .int .u16 0, .int .u16 0, .int .u16 0, .int .u16 0] 24 (0, 0)) (by (with_reducible repeat (first | refine blk_drewN ?_ _ | refine blk_drew ?_ | refine blk_alloc ?_ _)); exact BK213.out)) : gb213 ≠ gb223))
             have n6_ := Aside0.mk ((by rw [hg]; exact Nat.ne_of_gt (blk_lt (g := gb213) (o := .cells #[.int .u8 0, .int .u16 0, .int .u16 0, .int .u16 0, .int .u16 0] 24 (0, 0)) (by (with_reducible repeat (first | refine blk_drewN ?_ _ | refine blk_drew ?_ | refine blk_alloc ?_ _)); exact BK213.out)) : gb223 ≠ gb213))
             clear BK213
             clear HB
             have BK213 := n0_
             have HB := n1_
             have BK223 := n2_
             have GW223 := n3_
             have GE223 := n4_
             have NB213_223 := n5_
             have NB223_213 := n6_
             clear n0_ n1_ n2_ n3_ n4_ n5_ n6_
             clear hb hbox hg
             refine hK.out _ _ (((HB.out.cell (World.block_lt_of_cell? w _ hw218_0)).trans hw218_0)) (fun hHeld => ?_)
             clear hK K
             refine norm_ (a' := ?_) ?_ ?_
             rotate_left
             ·show Act.put _ (some 4) _ = _
              simp only [Act.put, List.setIfInBounds_toArray, List.set_cons_zero, List.set_cons_succ, i64_w, i32_w]
              rfl
             exact norm_ (by first | (simp only [putAll, Act.put, List.setIfInBounds_toArray, List.set_cons_zero, List.set_cons_succ]; done) | (simp only [putAll, Act.put, List.setIfInBounds_toArray, List.set_cons_zero, List.set_cons_succ]; rfl)) (hJ4_6_8_12 (gb223) _ ⟨hHeld, (by (with_reducible repeat (first | refine blk_drewN ?_ _ | refine blk_drew ?_ | refine blk_alloc ?_ _)); exact BK213.out), (by (with_reducible repeat (first | refine blk_drewN ?_ _ | refine blk_drew ?_ | refine blk_alloc ?_ _)); exact BK223.out), GW223.out, GE223.out, NB213_223.out, NB223_213.out, (by repeat (first | (with_reducible first | exact HB.out | apply below_alloc | apply pw_below_drewN | apply below_drew1 | refine below_set ?_ GE213.out | refine below_set ?_ GE223.out) | exact HB.out))⟩)
          ·skip
           rintro gb223 w20 ⟨hS_, h0_, h1_, h2_, h3_, h4_, h5_, h6_⟩
           have n0_ : Aside0 (w20.heap[gb213]? = some (.cells #[.int .u8 0, .int .u16 0, .int .u16 0, .int .u16 0, .int .u16 0] 24 (0, 0))) := ⟨h0_⟩
           have n1_ : Aside0 (w20.heap[gb223]? = some (.cells #[.int .u8 0, .int .u16 0, .int .u16 0, .int .u16 0, .int .u16 0] 24 (0, 0))) := ⟨h1_⟩
           have n2_ : Aside0 (w.heap.size ≤ gb223) := ⟨h2_⟩
           have n3_ : Aside0 (w.heap.size ≤ gb223) := ⟨h3_⟩
           have n4_ : Aside0 (gb213 ≠ gb223) := ⟨h4_⟩
           have n5_ : Aside0 (gb223 ≠ gb213) := ⟨h5_⟩
           have n6_ : Aside0 (Below w.heap.size w w20) := ⟨h6_⟩
           clear BK213
           clear HB
           clear h0_ h1_ h2_ h3_ h4_ h5_ h6_
           have BK213 := n0_
           have BK223 := n1_
           have GW223 := n2_
           have GE223 := n3_
           have NB213_223 := n4_
           have NB223_213 := n5_
           have HB := n6_
           clear n0_ n1_ n2_ n3_ n4_ n5_ n6_
           have hHeld : w20.cell? ⟨ad214.block, ad214.off + 1, none⟩ = some (.int .u8 (rd l0 1)) := hS_
           refine norm_ (a' := ?_) ?_ ?_
           rotate_left
           ·simp only [putAll, Act.put, List.setIfInBounds_toArray, List.set_cons_zero, List.set_cons_succ]
            rfl
           refine one_ (i := 10) (N := some 32) #[true, true, true, true, true, true, true, true, true, true, true, false, true, false] rfl rfl (one_of HT_.out (by kernel_rfl)) (by decide) (fun K hK => ?_)
           refine goes_ Try.func28 (by kernel_rfl) rfl #[.slice (some ad214) l0.length c0, .int .i64 8] (by rfl) rfl rfl (by (try simp only [List.map_toArray, List.map_cons, List.map_nil]); first | done | rfl | (simp only [List.length_drop, List.length_take]; rfl)) ?_
           with_reducible refine (stillageref02_two.calls _ _ l0 8 t222 _ ?side1 ?side2 A13.out).mono ?_
           (case side1 => repeat (first | exact (Kd.C_below HR0.out HB.out) | (with_reducible refine Kd.C_alloc ?_ _) | (with_reducible refine Kd.C_drewN ?_ _) | (with_reducible refine Kd.C_drew ?_)))
           (case side2 => exact HC0.out)
           rintro e w' ⟨rfl, ⟨nd, rfl⟩⟩
           refine ⟨_, rfl, ?_⟩
           refine hK.out _ _ (((HB.out.cell (World.block_lt_of_cell? w _ hw218_0)).trans hw218_0)) (fun hHeld => ?_)
           clear hK K
           refine norm_ (a' := ?_) ?_ ?_
           rotate_left
           ·show Act.put _ (some 32) _ = _
            simp only [Act.put, List.setIfInBounds_toArray, List.set_cons_zero, List.set_cons_succ, i64_w, i32_w]
            rfl
           refine pure_ (i := 11) (N := some 33) (v := ?_) (a' := ?_) #[true, true, true, true, true, true, true, true, true, true, true, true, true, false] rfl rfl (any_of HT_.out (by kernel_rfl)) (fun _ _ _ h => h) (Or.inl ⟨by rfl, ?_⟩) ?_ ?_
           rotate_left
           ·intro w'
            go_simp
            with_reducible rfl
           rotate_left
           ·simp only [Act.put, List.setIfInBounds_toArray, List.set_cons_zero, List.set_cons_succ, i64_w, i32_w]
            rfl
           exact norm_ (by first | (simp only [putAll, Act.put, List.setIfInBounds_toArray, List.set_cons_zero, List.set_cons_succ]; done) | (simp only [putAll, Act.put, List.setIfInBounds_toArray, List.set_cons_zero, List.set_cons_succ]; rfl)) (hJ4_6_8_10_12 (gb223) _ ⟨hHeld, (by (with_reducible repeat (first | refine blk_drewN ?_ _ | refine blk_drew ?_ | refine blk_alloc ?_ _)); exact BK213.out), (by (with_reducible repeat (first | refine blk_drewN ?_ _ | refine blk_drew ?_ | refine blk_alloc ?_ _)); exact BK223.out), GW223.out, GE223.out, NB213_223.out, NB223_213.out, (by repeat (first | (with_reducible first | exact HB.out | apply below_alloc | apply pw_below_drewN | apply below_drew1 | refine below_set ?_ GE213.out | refine below_set ?_ GE223.out) | exact HB.out))⟩)
         ·skip
          rintro _ w19 ⟨hS_, h0_, h1_⟩
          have n0_ : Aside0 (w19.heap[gb213]? = some (.cells #[.int .u8 0, .int .u16 0, .int .u16 0, .int .u16 0, .int .u16 0] 24 (0, 0))) := ⟨h0_⟩
          have n1_ : Aside0 (Below w.heap.size w w19) := ⟨h1_⟩
          clear BK213
          clear HB
          clear h0_ h1_
          have BK213 := n0_
          have HB := n1_
          clear n0_ n1_
          have hHeld : w19.cell? ⟨ad214.block, ad214.off + 1, none⟩ = some (.int .u8 (rd l0 1)) := hS_
          refine norm_ (a' := ?_) ?_ ?_
          rotate_left
          ·simp only [putAll, Act.put, List.setIfInBounds_toArray, List.set_cons_zero, List.set_cons_succ]
           rfl
          refine one_ (i := 12) (N := some 4) #[true, true, true, true, true, true, true, true, true, true, true, true, true, false] rfl rfl (one_of HT_.out (by kernel_rfl)) (by decide) (fun K hK => ?_)
          refine box_step ?hg (N := 4) ?hd (cs := #[.int .u8 0, .int .u16 0, .int .u16 0, .int .u16 0, .int .u16 0]) (t := 24) ?hr ?_; (case hd => rfl); (case hg => rfl); (case hr => first | (go_simp; done) | (go_simp; rfl))
          intro gb223 hg w20 hbox hb
          have n0_ := Aside0.mk (blk_below (g := gb213) (o := .cells #[.int .u8 0, .int .u16 0, .int .u16 0, .int .u16 0, .int .u16 0] 24 (0, 0)) (by (with_reducible repeat (first | refine blk_drewN ?_ _ | refine blk_drew ?_ | refine blk_alloc ?_ _)); exact BK213.out) hb)
          have n1_ := Aside0.mk (below_step (by repeat (first | (with_reducible first | exact HB.out | apply below_alloc | apply pw_below_drewN | apply below_drew1 | refine below_set ?_ GE213.out) | exact HB.out)) hb)
          have n2_ := Aside0.mk (hbox)
          have n3_ := Aside0.mk ((by rw [hg]; exact (below_size (by repeat (first | (with_reducible first | exact HB.out | apply below_alloc | apply pw_below_drewN | apply below_drew1 | refine below_set ?_ GE213.out) | exact HB.out))) : w.heap.size ≤ gb223))
          have n4_ := Aside0.mk ((by rw [hg]; exact (below_size (by repeat (first | (with_reducible first | exact HB.out | apply below_alloc | apply pw_below_drewN | apply below_drew1 | refine below_set ?_ GE213.out) | exact HB.out))) : w.heap.size ≤ gb223))
          have n5_ := Aside0.mk ((by rw [hg]; exact Nat.ne_of_lt (blk_lt (g := gb213) (o := .cells #[.int .u8 0, .int .u16 0, .int .u16 0, .int .u16 0, .int .u16 0] 24 (0, 0)) (by (with_reducible repeat (first | refine blk_drewN ?_ _ | refine blk_drew ?_ | refine blk_alloc ?_ _)); exact BK213.out)) : gb213 ≠ gb223))
          have n6_ := Aside0.mk ((by rw [hg]; exact Nat.ne_of_gt (blk_lt (g := gb213) (o := .cells #[.int .u8 0, .int .u16 0, .int .u16 0, .int .u16 0, .int .u16 0] 24 (0, 0)) (by (with_reducible repeat (first | refine blk_drewN ?_ _ | refine blk_drew ?_ | refine blk_alloc ?_ _)); exact BK213.out)) : gb223 ≠ gb213))
          clear BK213
          clear HB
          have BK213 := n0_
          have HB := n1_
          have BK223 := n2_
          have GW223 := n3_
          have GE223 := n4_
          have NB213_223 := n5_
          have NB223_213 := n6_
          clear n0_ n1_ n2_ n3_ n4_ n5_ n6_
          clear hb hbox hg
          refine hK.out _ _ (((HB.out.cell (World.block_lt_of_cell? w _ hw218_0)).trans hw218_0)) (fun hHeld => ?_)
          clear hK K
          refine norm_ (a' := ?_) ?_ ?_
          rotate_left
          ·show Act.put _ (some 4) _ = _
           simp only [Act.put, List.setIfInBounds_toArray, List.set_cons_zero, List.set_cons_succ, i64_w, i32_w]
           rfl
          exact norm_ (by first | (simp only [putAll, Act.put, List.setIfInBounds_toArray, List.set_cons_zero, List.set_cons_succ]; done) | (simp only [putAll, Act.put, List.setIfInBounds_toArray, List.set_cons_zero, List.set_cons_succ]; rfl)) (hJ4_6_8_10_12 (gb223) _ ⟨hHeld, (by (with_reducible repeat (first | refine blk_drewN ?_ _ | refine blk_drew ?_ | refine blk_alloc ?_ _)); exact BK213.out), (by (with_reducible repeat (first | refine blk_drewN ?_ _ | refine blk_drew ?_ | refine blk_alloc ?_ _)); exact BK223.out), GW223.out, GE223.out, NB213_223.out, NB223_213.out, (by repeat (first | (with_reducible first | exact HB.out | apply below_alloc | apply pw_below_drewN | apply below_drew1 | refine below_set ?_ GE213.out | refine below_set ?_ GE223.out) | exact HB.out))⟩)
        rintro gb223 w20 ⟨hS_, h0_, h1_, h2_, h3_, h4_, h5_, h6_⟩
        have n0_ : Aside0 (w20.heap[gb213]? = some (.cells #[.int .u8 0, .int .u16 0, .int .u16 0, .int .u16 0, .int .u16 0] 24 (0, 0))) := ⟨h0_⟩
        have n1_ : Aside0 (w20.heap[gb223]? = some (.cells #[.int .u8 0, .int .u16 0, .int .u16 0, .int .u16 0, .int .u16 0] 24 (0, 0))) := ⟨h1_⟩
        have n2_ : Aside0 (w.heap.size ≤ gb223) := ⟨h2_⟩
        have n3_ : Aside0 (w.heap.size ≤ gb223) := ⟨h3_⟩
        have n4_ : Aside0 (gb213 ≠ gb223) := ⟨h4_⟩
        have n5_ : Aside0 (gb223 ≠ gb213) := ⟨h5_⟩
        have n6_ : Aside0 (Below w.heap.size w w20) := ⟨h6_⟩
        clear BK213
        clear HB
        clear h0_ h1_ h2_ h3_ h4_ h5_ h6_
        have BK213 := n0_
        have BK223 := n1_
        have GW223 := n2_
        have GE223 := n3_
        have NB213_223 := n4_
        have NB223_213 := n5_
        have HB := n6_
        clear n0_ n1_ n2_ n3_ n4_ n5_ n6_
        have hHeld : w20.cell? ⟨ad214.block, ad214.off + 1, none⟩ = some (.int .u8 (rd l0 1)) := hS_
        refine norm_ (a' := ?_) ?_ ?_
        rotate_left
        ·simp only [putAll, Act.put, List.setIfInBounds_toArray, List.set_cons_zero, List.set_cons_succ]
         rfl
        refine one_ (i := 13) (N := none) #[true, true, true, true, true, true, true, true, true, true, true, true, true, true] rfl rfl (one_of HT_.out (by kernel_rfl)) (by decide) (fun K hK => ?_)
        have hs21 : w20.cell? ⟨gb223, 0, none⟩ = some (.int .u8 0) := (blk_cell BK223.out 0).trans rfl
        have hfs21 := blk_frozen BK223.out 0
        have hns21_0 := NB213_223.out
        have hms21_0 := NB223_213.out
        have hs22 : w20.cell? ⟨gb223, 1, none⟩ = some (.int .u16 0) := (blk_cell BK223.out 1).trans rfl
        have hfs22 := blk_frozen BK223.out 1
        have hns22_0 := NB213_223.out
        have hms22_0 := NB223_213.out
        have hs23 : w20.cell? ⟨gb223, 2, none⟩ = some (.int .u16 0) := (blk_cell BK223.out 2).trans rfl
        have hfs23 := blk_frozen BK223.out 2
        have hns23_0 := NB213_223.out
        have hms23_0 := NB223_213.out
        have hs24 : w20.cell? ⟨gb223, 3, none⟩ = some (.int .u16 0) := (blk_cell BK223.out 3).trans rfl
        have hfs24 := blk_frozen BK223.out 3
        have hns24_0 := NB213_223.out
        have hms24_0 := NB223_213.out
        have hs25 : w20.cell? ⟨gb223, 4, none⟩ = some (.int .u16 0) := (blk_cell BK223.out 4).trans rfl
        have hfs25 := blk_frozen BK223.out 4
        have hns25_0 := NB213_223.out
        have hms25_0 := NB223_213.out
        refine skip_ (w1 := ?_) (by rfl) rfl ?_ ?_
        rotate_left
        ·go_simp
         rfl
        refine hK.out _ _ (((cell_far (p := ⟨gb223, _, none⟩) (by first | exact Nat.ne_of_lt (Nat.lt_of_lt_of_le (by have := World.block_lt_of_cell? _ _ hw218_0; first | rwa [add_block] at this | exact this) GW223.out) | (rw [add_block]; exact Nat.ne_of_lt (Nat.lt_of_lt_of_le (by have := World.block_lt_of_cell? _ _ hw218_0; first | rwa [add_block] at this | exact this) GW223.out)) | (show (Addr.add _ _).block ≠ _; rw [add_block]; exact Nat.ne_of_lt (Nat.lt_of_lt_of_le (by have := World.block_lt_of_cell? _ _ hw218_0; first | rwa [add_block] at this | exact this) GW223.out)) | (dsimp only; exact Nat.ne_of_lt (Nat.lt_of_lt_of_le (by have := World.block_lt_of_cell? _ _ hw218_0; first | rwa [add_block] at this | exact this) GW223.out))) _).trans (((cell_far (p := ⟨gb223, _, none⟩) (by first | exact Nat.ne_of_lt (Nat.lt_of_lt_of_le (by have := World.block_lt_of_cell? _ _ hw218_0; first | rwa [add_block] at this | exact this) GW223.out) | (rw [add_block]; exact Nat.ne_of_lt (Nat.lt_of_lt_of_le (by have := World.block_lt_of_cell? _ _ hw218_0; first | rwa [add_block] at this | exact this) GW223.out)) | (show (Addr.add _ _).block ≠ _; rw [add_block]; exact Nat.ne_of_lt (Nat.lt_of_lt_of_le (by have := World.block_lt_of_cell? _ _ hw218_0; first | rwa [add_block] at this | exact this) GW223.out)) | (dsimp only; exact Nat.ne_of_lt (Nat.lt_of_lt_of_le (by have := World.block_lt_of_cell? _ _ hw218_0; first | rwa [add_block] at this | exact this) GW223.out))) _).trans (((cell_far (p := ⟨gb223, _, none⟩) (by first | exact Nat.ne_of_lt (Nat.lt_of_lt_of_le (by have := World.block_lt_of_cell? _ _ hw218_0; first | rwa [add_block] at this | exact this) GW223.out) | (rw [add_block]; exact Nat.ne_of_lt (Nat.lt_of_lt_of_le (by have := World.block_lt_of_cell? _ _ hw218_0; first | rwa [add_block] at this | exact this) GW223.out)) | (show (Addr.add _ _).block ≠ _; rw [add_block]; exact Nat.ne_of_lt (Nat.lt_of_lt_of_le (by have := World.block_lt_of_cell? _ _ hw218_0; first | rwa [add_block] at this | exact this) GW223.out)) | (dsimp only; exact Nat.ne_of_lt (Nat.lt_of_lt_of_le (by have := World.block_lt_of_cell? _ _ hw218_0; first | rwa [add_block] at this | exact this) GW223.out))) _).trans (((cell_far (p := ⟨gb223, _, none⟩) (by first | exact Nat.ne_of_lt (Nat.lt_of_lt_of_le (by have := World.block_lt_of_cell? _ _ hw218_0; first | rwa [add_block] at this | exact this) GW223.out) | (rw [add_block]; exact Nat.ne_of_lt (Nat.lt_of_lt_of_le (by have := World.block_lt_of_cell? _ _ hw218_0; first | rwa [add_block] at this | exact this) GW223.out)) | (show (Addr.add _ _).block ≠ _; rw [add_block]; exact Nat.ne_of_lt (Nat.lt_of_lt_of_le (by have := World.block_lt_of_cell? _ _ hw218_0; first | rwa [add_block] at this | exact this) GW223.out)) | (dsimp only; exact Nat.ne_of_lt (Nat.lt_of_lt_of_le (by have := World.block_lt_of_cell? _ _ hw218_0; first | rwa [add_block] at this | exact this) GW223.out))) _).trans (((cell_far (p := ⟨gb223, _, none⟩) (by first | exact Nat.ne_of_lt (Nat.lt_of_lt_of_le (by have := World.block_lt_of_cell? _ _ hw218_0; first | rwa [add_block] at this | exact this) GW223.out) | (rw [add_block]; exact Nat.ne_of_lt (Nat.lt_of_lt_of_le (by have := World.block_lt_of_cell? _ _ hw218_0; first | rwa [add_block] at this | exact this) GW223.out)) | (show (Addr.add _ _).block ≠ _; rw [add_block]; exact Nat.ne_of_lt (Nat.lt_of_lt_of_le (by have := World.block_lt_of_cell? _ _ hw218_0; first | rwa [add_block] at this | exact this) GW223.out)) | (dsimp only; exact Nat.ne_of_lt (Nat.lt_of_lt_of_le (by have := World.block_lt_of_cell? _ _ hw218_0; first | rwa [add_block] at this | exact this) GW223.out))) _).trans (hHeld))))))))))) (fun hHeld => ?_)
        clear hK K
        refine done_ (done_of HT_.out (by kernel_rfl)) ?_
        have hnb26 := NB223_213.out
        have hnc26 := NB213_223.out
        have hcz27_0 : w20.cell? ⟨gb223, 0, none⟩ = some (.int .u8 0) := (blk_cell BK223.out 0).trans rfl
        have hcz27_1 : w20.cell? ⟨gb223, 1, none⟩ = some (.int .u16 0) := (blk_cell BK223.out 1).trans rfl
        have hcz27_2 : w20.cell? ⟨gb223, 2, none⟩ = some (.int .u16 0) := (blk_cell BK223.out 2).trans rfl
        have hcz27_3 : w20.cell? ⟨gb223, 3, none⟩ = some (.int .u16 0) := (blk_cell BK223.out 3).trans rfl
        have hcz27_4 : w20.cell? ⟨gb223, 4, none⟩ = some (.int .u16 0) := (blk_cell BK223.out 4).trans rfl
        have hfz27_0 := blk_frozen BK223.out 0
        have hfz27_1 := blk_frozen BK223.out 1
        have hfz27_2 := blk_frozen BK223.out 2
        have hfz27_3 := blk_frozen BK223.out 3
        have hfz27_4 := blk_frozen BK223.out 4
        try go_wp2_with (first | ((with_reducible refine gate_callee (f := 13) rfl ?_); refine goesL_ (some 35) rfl rfl Try.func13 (by kernel_rfl) rfl #[.agg #[.int .u8 (rd l0 1), .int .u16 t219, .int .u16 t220, .int .u16 t221, .int .u16 t222]] rfl (by (try simp only [List.map_toArray, List.map_cons, List.map_nil]); first | done | rfl | (simp only [List.length_drop, List.length_take]; rfl)) ?_; (with_reducible refine (stillageref02_Check.calls k (rd l0 1) t219 t220 t221 t222 t224 _ A14.out).mono ?_); rintro e w28 ⟨rfl, hb⟩; refine ⟨_, rfl, ?_⟩; have n0_ := Aside0.mk (blk_below (g := gb213) (o := .cells #[.int .u8 0, .int .u16 0, .int .u16 0, .int .u16 0, .int .u16 0] 24 (0, 0)) (by (with_reducible repeat (first | refine blk_drewN ?_ _ | refine blk_drew ?_ | refine blk_alloc ?_ _)); refine blk_far ?_ NB213_223.out _; (with_reducible repeat (first | refine blk_drewN ?_ _ | refine blk_drew ?_ | refine blk_alloc ?_ _)); refine blk_far ?_ NB213_223.out _; (with_reducible repeat (first | refine blk_drewN ?_ _ | refine blk_drew ?_ | refine blk_alloc ?_ _)); refine blk_far ?_ NB213_223.out _; (with_reducible repeat (first | refine blk_drewN ?_ _ | refine blk_drew ?_ | refine blk_alloc ?_ _)); refine blk_far ?_ NB213_223.out _; (with_reducible repeat (first | refine blk_drewN ?_ _ | refine blk_drew ?_ | refine blk_alloc ?_ _)); refine blk_far ?_ NB213_223.out _; (with_reducible repeat (first | refine blk_drewN ?_ _ | refine blk_drew ?_ | refine blk_alloc ?_ _)); exact BK213.out) hb); have n1_ := Aside0.mk (blk_below (g := gb223) (o := .cells #[.int .u8 (rd l0 1), .int .u16 t219, .int .u16 t220, .int .u16 t221, .int .u16 t222] 24 (0, 0)) (by (with_reducible repeat (first | refine blk_drewN ?_ _ | refine blk_drew ?_ | refine blk_alloc ?_ _)); refine blk_put (cs := #[.int .u8 (rd l0 1), .int .u16 t219, .int .u16 t220, .int .u16 t221, .int .u16 0]) ?_ 4 _ rfl; (with_reducible repeat (first | refine blk_drewN ?_ _ | refine blk_drew ?_ | refine blk_alloc ?_ _)); refine blk_put (cs := #[.int .u8 (rd l0 1), .int .u16 t219, .int .u16 t220, .int .u16 0, .int .u16 0]) ?_ 3 _ rfl; (with_reducible repeat (first | refine blk_drewN ?_ _ | refine blk_drew ?_ | refine blk_alloc ?_ _)); refine blk_put (cs := #[.int .u8 (rd l0 1), .int .u16 t219, .int .u16 0, .int .u16 0, .int .u16 0]) ?_ 2 _ rfl; (with_reducible repeat (first | refine blk_drewN ?_ _ | refine blk_drew ?_ | refine blk_alloc ?_ _)); refine blk_put (cs := #[.int .u8 (rd l0 1), .int .u16 0, .int .u16 0, .int .u16 0, .int .u16 0]) ?_ 1 _ rfl; (with_reducible repeat (first | refine blk_drewN ?_ _ | refine blk_drew ?_ | refine blk_alloc ?_ _)); refine blk_put (cs := #[.int .u8 0, .int .u16 0, .int .u16 0, .int .u16 0, .int .u16 0]) ?_ 0 _ rfl; (with_reducible repeat (first | refine blk_drewN ?_ _ | refine blk_drew ?_ | refine blk_alloc ?_ _)); exact BK223.out) hb); have n2_ := Aside0.mk (below_step (by repeat (first | (with_reducible first | exact HB.out | apply below_alloc | apply pw_below_drewN | apply below_drew1 | refine below_set ?_ GE213.out | refine below_set ?_ GE223.out) | exact HB.out)) hb); clear BK213; clear BK223; clear HB; have BK213 := n0_; have BK223 := n1_; have HB := n2_; clear n0_ n1_ n2_; (try clear hb); (try clear hb2); (try clear hk); (try clear hi); have hcz29_0 : w28.cell? ⟨gb223, 0, none⟩ = some (.int .u8 (rd l0 1)) := (blk_cell BK223.out 0).trans rfl; have hcz29_1 : w28.cell? ⟨gb223, 1, none⟩ = some (.int .u16 t219) := (blk_cell BK223.out 1).trans rfl; have hcz29_2 : w28.cell? ⟨gb223, 2, none⟩ = some (.int .u16 t220) := (blk_cell BK223.out 2).trans rfl; have hcz29_3 : w28.cell? ⟨gb223, 3, none⟩ = some (.int .u16 t221) := (blk_cell BK223.out 3).trans rfl; have hcz29_4 : w28.cell? ⟨gb223, 4, none⟩ = some (.int .u16 t222) := (blk_cell BK223.out 4).trans rfl; have hfz29_0 := blk_frozen BK223.out 0; have hfz29_1 := blk_frozen BK223.out 1; have hfz29_2 := blk_frozen BK223.out 2; have hfz29_3 := blk_frozen BK223.out 3; have hfz29_4 := blk_frozen BK223.out 4; have hcz30_0 : w28.cell? ⟨gb213, 0, none⟩ = some (.int .u8 0) := (blk_cell BK213.out 0).trans rfl; have hcz30_1 : w28.cell? ⟨gb213, 1, none⟩ = some (.int .u16 0) := (blk_cell BK213.out 1).trans rfl; have hcz30_2 : w28.cell? ⟨gb213, 2, none⟩ = some (.int .u16 0) := (blk_cell BK213.out 2).trans rfl; have hcz30_3 : w28.cell? ⟨gb213, 3, none⟩ = some (.int .u16 0) := (blk_cell BK213.out 3).trans rfl; have hcz30_4 : w28.cell? ⟨gb213, 4, none⟩ = some (.int .u16 0) := (blk_cell BK213.out 4).trans rfl; have hfz30_0 := blk_frozen BK213.out 0; have hfz30_1 := blk_frozen BK213.out 1; have hfz30_2 := blk_frozen BK213.out 2; have hfz30_3 := blk_frozen BK213.out 3; have hfz30_4 := blk_frozen BK213.out 4))
        refine bodyPost_ret (results_ct rfl _ _ gb213 24 #[.int .u8 (rd l0 1), .int .u16 t219, .int .u16 t220, .int .u16 t221, .int .u16 t222] (0, 0) _ rfl (by (with_reducible repeat (first | refine blk_drewN ?_ _ | refine blk_drew ?_ | refine blk_alloc ?_ _)); refine blk_put (cs := #[.int .u8 (rd l0 1), .int .u16 t219, .int .u16 t220, .int .u16 t221, .int .u16 0]) ?_ 4 _ rfl; (with_reducible repeat (first | refine blk_drewN ?_ _ | refine blk_drew ?_ | refine blk_alloc ?_ _)); refine blk_put (cs := #[.int .u8 (rd l0 1), .int .u16 t219, .int .u16 t220, .int .u16 0, .int .u16 0]) ?_ 3 _ rfl; (with_reducible repeat (first | refine blk_drewN ?_ _ | refine blk_drew ?_ | refine blk_alloc ?_ _)); refine blk_put (cs := #[.int .u8 (rd l0 1), .int .u16 t219, .int .u16 0, .int .u16 0, .int .u16 0]) ?_ 2 _ rfl; (with_reducible repeat (first | refine blk_drewN ?_ _ | refine blk_drew ?_ | refine blk_alloc ?_ _)); refine blk_put (cs := #[.int .u8 (rd l0 1), .int .u16 0, .int .u16 0, .int .u16 0, .int .u16 0]) ?_ 1 _ rfl; (with_reducible repeat (first | refine blk_drewN ?_ _ | refine blk_drew ?_ | refine blk_alloc ?_ _)); refine blk_put (cs := #[.int .u8 0, .int .u16 0, .int .u16 0, .int .u16 0, .int .u16 0]) ?_ 0 _ rfl; (with_reducible repeat (first | refine blk_drewN ?_ _ | refine blk_drew ?_ | refine blk_alloc ?_ _)); exact BK213.out) Try.underlying24 rfl (by kernel_rfl)) rfl ?_
        exact ⟨by first | rfl | (simp [errW_none, errW_some] <;> rfl) | (simp [*, errW_none, errW_some] <;> rfl), by repeat (first | (with_reducible first | exact HB.out | apply below_alloc | apply pw_below_drewN | apply below_drew1 | refine below_set ?_ GE213.out | refine below_set ?_ GE223.out) | exact HB.out)⟩
       ·rw [if_neg c15] at H
        have c15b0 : (t224 == 0) = false := beq_eq_false_iff_ne.mpr c15
        have c15b1 : (t224 != 0) = true := bne_iff_ne.mpr c15
        simp only [Option.some.injEq, Prod.mk.injEq] at H
        obtain ⟨rfl, rfl, rfl, rfl, rfl, rfl⟩ := H
        go_enter Try.func17, Try.ntmps17
        try go_wp2_with (first | ((with_reducible refine gate_dst (N := 2) rfl ?_); refine box_event ?hg (N := 2) ?hd (cs := #[.int .u8 0, .int .u16 0, .int .u16 0, .int .u16 0, .int .u16 0]) (t := 24) ?hr ?_; (case hd => rfl); (case hg => rfl); (case hr => first | (go_simp; done) | (go_simp; rfl)); intro gb213 hg w31 hbox hb; have n0_ := Aside0.mk (below_step (by repeat (first | (with_reducible first | exact HB.out | apply below_alloc | apply pw_below_drewN | apply below_drew1) | exact HB.out)) hb); have n1_ := Aside0.mk (hbox); have n2_ := Aside0.mk ((by rw [hg]; exact (below_size (by repeat (first | (with_reducible first | exact HB.out | apply below_alloc | apply pw_below_drewN | apply below_drew1) | exact HB.out))) : w.heap.size ≤ gb213)); have n3_ := Aside0.mk ((by rw [hg]; exact (below_size (by repeat (first | (with_reducible first | exact HB.out | apply below_alloc | apply pw_below_drewN | apply below_drew1) | exact HB.out))) : w.heap.size ≤ gb213)); clear HB; have HB := n0_; have BK213 := n1_; have GW213 := n2_; have GE213 := n3_; clear n0_ n1_ n2_ n3_; clear hb hbox hg; have p214 : 0 ≤ (0 : Int) := (by omega); have q214 : 0 < (l0.length : Int) := of_decide_eq_true (by first | (with_reducible assumption) | assumption); obtain ⟨ad214, e214, hx214_0⟩ := Kd.at_int HR0.out 0 p214 q214; cases e214; have qi214 : (0 < l0.length) = True := eq_true (by omega); (try rw [show ((0 : Int)).toNat = 0 from rfl] at hx214_0); (try rw [Addr.add_zero'] at hx214_0); replace hx214_0 := (HB.out.cell (World.block_lt_of_cell? w _ hx214_0)).trans hx214_0; replace p214 := eq_true p214; replace q214 := eq_true q214; obtain ⟨i032, hi032, _, hsz32, _⟩ := info_parts info5; obtain ⟨hcut32, hA32, hC32⟩ := print_take_of (P := Try.prog) (Value.int .u8) 0 26 5 .i64 Try.underlying26 hi032 hsz32 (some ad214) c0 l0 10 (by omega) (of_decide_eq_true (by first | (with_reducible assumption) | assumption)) HC0.out; have HR215 := Aside0.mk (Kd.C_of_reads (h1 := fun _ => rfl) (hA32 _ (Kd.reads_of_C HR0.out))); have HC215 := Aside0.mk hC32; clear hA32 hC32 hi032 hsz32) | ((with_reducible refine gate_callee (f := 27) rfl ?_); refine goesL_ (some 17) rfl rfl Try.func27 (by kernel_rfl) rfl #[.slice (some ad214) (l0.take 10).length c0] rfl (by (try simp only [List.map_toArray, List.map_cons, List.map_nil]); first | done | (rw [show (l0.take 10).length = 10 from (by rw [List.length_take]; have h_ : (10 : Int) ≤ (l0.length : Int) := of_decide_eq_true (by first | (with_reducible assumption) | assumption); omega)] <;> rfl) | rfl | (simp only [List.length_drop, List.length_take]; rfl)) ?_; (with_reducible refine (stillageref01_Sum.calls k _ _ (l0.take 10) t216 _ ?side1 ?side2 A6.out).mono ?_); (case side1 => repeat (first | exact (Kd.C_below HR215.out HB.out) | (with_reducible refine Kd.C_alloc ?_ _) | (with_reducible refine Kd.C_drewN ?_ _) | (with_reducible refine Kd.C_drew ?_))); (case side2 => exact HC215.out); rintro e w' ⟨rfl, ⟨nd, rfl⟩⟩; refine ⟨_, rfl, ?_⟩; (try (rw [drewN_self w31]; generalize hq_ : World.drewN w31 _ = w31; have n0_ : Aside0 (w31.heap[gb213]? = some (.cells #[.int .u8 0, .int .u16 0, .int .u16 0, .int .u16 0, .int .u16 0] 24 (0, 0))) := ⟨by rw [← hq_]; exact (by (with_reducible repeat (first | refine blk_drewN ?_ _ | refine blk_drew ?_ | refine blk_alloc ?_ _)); exact BK213.out)⟩; have n1_ : Aside0 (Below w.heap.size w w31) := ⟨by rw [← hq_]; exact (by repeat (first | (with_reducible first | exact HB.out | apply below_alloc | apply pw_below_drewN | apply below_drew1 | refine below_set ?_ GE213.out) | exact HB.out))⟩; clear BK213 HB hq_; have BK213 := n0_; have HB := n1_; clear n0_ n1_))) | ((with_reducible refine gate_callee (f := 28) rfl ?_); refine goesL_ (some 19) rfl rfl Try.func28 (by kernel_rfl) rfl #[.slice (some ad214) l0.length c0, .int .i64 10] rfl (by (try simp only [List.map_toArray, List.map_cons, List.map_nil]); first | done | rfl | (simp only [List.length_drop, List.length_take]; rfl)) ?_; (with_reducible refine (stillageref02_two.calls _ _ l0 10 t217 _ ?side1 ?side2 A7.out).mono ?_); (case side1 => repeat (first | exact (Kd.C_below HR0.out HB.out) | (with_reducible refine Kd.C_alloc ?_ _) | (with_reducible refine Kd.C_drewN ?_ _) | (with_reducible refine Kd.C_drew ?_))); (case side2 => exact HC0.out); rintro e w' ⟨rfl, ⟨nd, rfl⟩⟩; refine ⟨_, rfl, ?_⟩; (try (rw [drewN_self w31]; generalize hq_ : World.drewN w31 _ = w31; have n0_ : Aside0 (w31.heap[gb213]? = some (.cells #[.int .u8 0, .int .u16 0, .int .u16 0, .int .u16 0, .int .u16 0] 24 (0, 0))) := ⟨by rw [← hq_]; exact (by (with_reducible repeat (first | refine blk_drewN ?_ _ | refine blk_drew ?_ | refine blk_alloc ?_ _)); exact BK213.out)⟩; have n1_ : Aside0 (Below w.heap.size w w31) := ⟨by rw [← hq_]; exact (by repeat (first | (with_reducible first | exact HB.out | apply below_alloc | apply pw_below_drewN | apply below_drew1 | refine below_set ?_ GE213.out) | exact HB.out))⟩; clear BK213 HB hq_; have BK213 := n0_; have HB := n1_; clear n0_ n1_))))
        have n0_ := Aside0.mk (blk_drew BK213.out)
        have n1_ := Aside0.mk (below_drew1 HB.out)
        clear BK213
        clear HB
        have BK213 := n0_
        have HB := n1_
        clear n0_ n1_
        have p218 : 0 ≤ (1 : Int) := (by omega)
        have q218 : 1 < (l0.length : Int) := of_decide_eq_true (by first | (with_reducible assumption) | assumption)
        obtain ⟨ad218, e218, hx218_0⟩ := Kd.at_int HR0.out 1 p218 q218
        have hw218_0 := hx218_0
        (try rw [show ((1 : Int)).toNat = 1 from rfl] at hw218_0)
        (try rw [show 1 * 1 = 1 from rfl] at hw218_0)
        (try simp only [Nat.reduceMul, Nat.reduceEqDiff, Go.Addr.add, ↓reduceIte] at hw218_0)
        obtain rfl : ad214 = ad218 := (by injection e218)
        (try simp only [show (1 : Int).toNat = 1 from rfl, Nat.reduceMul, Nat.reduceEqDiff, Go.Addr.add, ↓reduceIte] at hx218_0)
        have qi218 : (1 < l0.length) = True := eq_true (by omega)
        (try rw [show ((1 : Int)).toNat = 1 from rfl] at hx218_0)
        replace hx218_0 := (HB.out.cell (World.block_lt_of_cell? w _ hx218_0)).trans hx218_0
        replace p218 := eq_true p218
        replace q218 := eq_true q218
        refine start_ (n := 14) (S := fun w' => w'.cell? ⟨ad214.block, ad214.off + 1, none⟩ = some (.int .u8 (rd l0 1))) (ds := []) #[false, false, false, false, false, false, false, false, false, false, false, false, false, false] (by kernel_rfl) rfl rfl (((HB.out.cell (World.block_lt_of_cell? w _ hw218_0)).trans hw218_0)) (fun hHeld => ?_); refine with_tabW stillageref02_Decode.tab7 stillageref02_Decode.bits7 (fun HT_ HW_ => ?_)
        generalize w31.drew = w33 at BK213 HB hx218_0 hHeld ⊢
        refine pure_ (i := 0) (N := some 22) (v := ?_) (a' := ?_) #[true, false, false, false, false, false, false, false, false, false, false, false, false, false] rfl rfl (any_of HT_.out (by kernel_rfl)) (fun _ _ _ h => h) (Or.inl ⟨by rfl, ?_⟩) ?_ ?_
        rotate_left
        ·intro w'
         go_simp
         with_reducible rfl
        rotate_left
        ·simp only [Act.put, List.setIfInBounds_toArray, List.set_cons_zero, List.set_cons_succ, i64_w, i32_w]
         rfl
        refine pure_ (i := 1) (N := some 23) (v := ?_) (a' := ?_) #[true, true, false, false, false, false, false, false, false, false, false, false, false, false] rfl rfl (any_of HT_.out (by kernel_rfl)) (fun _ _ _ h => h) (Or.inl ⟨by rfl, ?_⟩) ?_ ?_
        rotate_left
        ·intro w'
         go_simp
         with_reducible rfl
        rotate_left
        ·simp only [Act.put, List.setIfInBounds_toArray, List.set_cons_zero, List.set_cons_succ, i64_w, i32_w]
         rfl
        refine pure_ (i := 3) (N := some 25) (v := ?_) (a' := ?_) #[true, true, false, true, false, false, false, false, false, false, false, false, false, false] rfl rfl (any_of HT_.out (by kernel_rfl)) (fun _ _ _ h => h) (Or.inl ⟨by rfl, ?_⟩) ?_ ?_
        rotate_left
        ·intro w'
         go_simp
         with_reducible rfl
        rotate_left
        ·simp only [Act.put, List.setIfInBounds_toArray, List.set_cons_zero, List.set_cons_succ, i64_w, i32_w]
         rfl
        refine pure_ (i := 5) (N := some 27) (v := ?_) (a' := ?_) #[true, true, false, true, false, true, false, false, false, false, false, false, false, false] rfl rfl (any_of HT_.out (by kernel_rfl)) (fun _ _ _ h => h) (Or.inl ⟨by rfl, ?_⟩) ?_ ?_
        rotate_left
        ·intro w'
         go_simp
         with_reducible rfl
        rotate_left
        ·simp only [Act.put, List.setIfInBounds_toArray, List.set_cons_zero, List.set_cons_succ, i64_w, i32_w]
         rfl
        refine pure_ (i := 7) (N := some 29) (v := ?_) (a' := ?_) #[true, true, false, true, false, true, false, true, false, false, false, false, false, false] rfl rfl (any_of HT_.out (by kernel_rfl)) (fun _ _ _ h => h) (Or.inl ⟨by rfl, ?_⟩) ?_ ?_
        rotate_left
        ·intro w'
         go_simp
         with_reducible rfl
        rotate_left
        ·simp only [Act.put, List.setIfInBounds_toArray, List.set_cons_zero, List.set_cons_succ, i64_w, i32_w]
         rfl
        refine pure_ (i := 9) (N := some 31) (v := ?_) (a' := ?_) #[true, true, false, true, false, true, false, true, false, true, false, false, false, false] rfl rfl (any_of HT_.out (by kernel_rfl)) (fun _ _ _ h => h) (Or.inl ⟨by rfl, ?_⟩) ?_ ?_
        rotate_left
        ·intro w'
         go_simp
         with_reducible rfl
        rotate_left
        ·simp only [Act.put, List.setIfInBounds_toArray, List.set_cons_zero, List.set_cons_succ, i64_w, i32_w]
         rfl
        refine take_ (i := 2) (N := some 24) (v := ?_) (a' := ?_) #[true, true, true, true, false, true, false, true, false, true, false, false, false, false] rfl rfl (take_ofW HT_.out HW_.out (by kernel_rfl)) (fun _ _ _ h => h) (Or.inl ⟨by rfl, ?_⟩) hHeld ?_ ?_
        rotate_left
        ·intro w' s0
         go_simp
         with_reducible rfl
        rotate_left
        ·simp only [Act.put, List.setIfInBounds_toArray, List.set_cons_zero, List.set_cons_succ, i64_w, i32_w]
         rfl
        refine join_ (σ := Nat) 1 #[true, true, true, true, true, true, true, true, true, true, true, true, true, false] (fun s_ => [(26, .int .u16 t219), (28, .int .u16 t220), (30, .int .u16 t221), (32, .int .u16 t222), (4, .pointer (some ⟨s_, 0, none⟩)), (33, .agg #[.int .u8 (rd l0 1), .int .u16 t219, .int .u16 t220, .int .u16 t221, .int .u16 t222])]) (fun s_ w' => (w'.cell? ⟨ad214.block, ad214.off + 1, none⟩ = some (.int .u8 (rd l0 1))) ∧ (w'.heap[gb213]? = some (.cells #[.int .u8 0, .int .u16 0, .int .u16 0, .int .u16 0, .int .u16 0] 24 (0, 0))) ∧ (w'.heap[s_]? = some (.cells #[.int .u8 0, .int .u16 0, .int .u16 0, .int .u16 0, .int .u16 0] 24 (0, 0))) ∧ (w.heap.size ≤ s_) ∧ (w.heap.size ≤ s_) ∧ (gb213 ≠ s_) ∧ (s_ ≠ gb213) ∧ (Below w.heap.size w w')) ?_ ?_
        rotate_left
        ·intro hJ4_6_8_10_12
         refine join_ (σ := Unit) 2 #[true, true, true, true, true, true, true, true, true, true, true, true, false, false] (fun s_ => [(26, .int .u16 t219), (28, .int .u16 t220), (30, .int .u16 t221), (32, .int .u16 t222), (33, .agg #[.int .u8 (rd l0 1), .int .u16 t219, .int .u16 t220, .int .u16 t221, .int .u16 t222])]) (fun s_ w' => (w'.cell? ⟨ad214.block, ad214.off + 1, none⟩ = some (.int .u8 (rd l0 1))) ∧ (w'.heap[gb213]? = some (.cells #[.int .u8 0, .int .u16 0, .int .u16 0, .int .u16 0, .int .u16 0] 24 (0, 0))) ∧ (Below w.heap.size w w')) ?_ ?_
         rotate_left
         ·intro hJ4_6_8_10
          refine join_ (σ := Nat) 3 #[true, true, true, true, true, true, true, true, true, true, false, false, true, false] (fun s_ => [(26, .int .u16 t219), (28, .int .u16 t220), (30, .int .u16 t221), (4, .pointer (some ⟨s_, 0, none⟩))]) (fun s_ w' => (w'.cell? ⟨ad214.block, ad214.off + 1, none⟩ = some (.int .u8 (rd l0 1))) ∧ (w'.heap[gb213]? = some (.cells #[.int .u8 0, .int .u16 0, .int .u16 0, .int .u16 0, .int .u16 0] 24 (0, 0))) ∧ (w'.heap[s_]? = some (.cells #[.int .u8 0, .int .u16 0, .int .u16 0, .int .u16 0, .int .u16 0] 24 (0, 0))) ∧ (w.heap.size ≤ s_) ∧ (w.heap.size ≤ s_) ∧ (gb213 ≠ s_) ∧ (s_ ≠ gb213) ∧ (Below w.heap.size w w')) ?_ ?_
          rotate_left
          ·intro hJ4_6_8_12
           refine join_ (σ := Unit) 4 #[true, true, true, true, true, true, true, true, true, true, false, false, false, false] (fun s_ => [(26, .int .u16 t219), (28, .int .u16 t220), (30, .int .u16 t221)]) (fun s_ w' => (w'.cell? ⟨ad214.block, ad214.off + 1, none⟩ = some (.int .u8 (rd l0 1))) ∧ (w'.heap[gb213]? = some (.cells #[.int .u8 0, .int .u16 0, .int .u16 0, .int .u16 0, .int .u16 0] 24 (0, 0))) ∧ (Below w.heap.size w w')) ?_ ?_
           rotate_left
           ·intro hJ4_6_8
            refine join_ (σ := Nat) 4 #[true, true, true, true, true, true, true, true, false, true, false, false, true, false] (fun s_ => [(26, .int .u16 t219), (28, .int .u16 t220), (4, .pointer (some ⟨s_, 0, none⟩))]) (fun s_ w' => (w'.cell? ⟨ad214.block, ad214.off + 1, none⟩ = some (.int .u8 (rd l0 1))) ∧ (w'.heap[gb213]? = some (.cells #[.int .u8 0, .int .u16 0, .int .u16 0, .int .u16 0, .int .u16 0] 24 (0, 0))) ∧ (w'.heap[s_]? = some (.cells #[.int .u8 0, .int .u16 0, .int .u16 0, .int .u16 0, .int .u16 0] 24 (0, 0))) ∧ (w.heap.size ≤ s_) ∧ (w.heap.size ≤ s_) ∧ (gb213 ≠ s_) ∧ (s_ ≠ gb213) ∧ (Below w.heap.size w w')) ?_ ?_
            rotate_left
            ·intro hJ4_6_12
             refine join_ (σ := Unit) 5 #[true, true, true, true, true, true, true, true, false, true, false, false, false, false] (fun s_ => [(26, .int .u16 t219), (28, .int .u16 t220)]) (fun s_ w' => (w'.cell? ⟨ad214.block, ad214.off + 1, none⟩ = some (.int .u8 (rd l0 1))) ∧ (w'.heap[gb213]? = some (.cells #[.int .u8 0, .int .u16 0, .int .u16 0, .int .u16 0, .int .u16 0] 24 (0, 0))) ∧ (Below w.heap.size w w')) ?_ ?_
             rotate_left
             ·intro hJ4_6
              refine join_ (σ := Nat) 5 #[true, true, true, true, true, true, false, true, false, true, false, false, true, false] (fun s_ => [(26, .int .u16 t219), (4, .pointer (some ⟨s_, 0, none⟩))]) (fun s_ w' => (w'.cell? ⟨ad214.block, ad214.off + 1, none⟩ = some (.int .u8 (rd l0 1))) ∧ (w'.heap[gb213]? = some (.cells #[.int .u8 0, .int .u16 0, .int .u16 0, .int .u16 0, .int .u16 0] 24 (0, 0))) ∧ (w'.heap[s_]? = some (.cells #[.int .u8 0, .int .u16 0, .int .u16 0, .int .u16 0, .int .u16 0] 24 (0, 0))) ∧ (w.heap.size ≤ s_) ∧ (w.heap.size ≤ s_) ∧ (gb213 ≠ s_) ∧ (s_ ≠ gb213) ∧ (Below w.heap.size w w')) ?_ ?_
              rotate_left
              ·intro hJ4_12
               refine join_ (σ := Unit) 6 #[true, true, true, true, true, true, false, true, false, true, false, false, false, false] (fun s_ => [(26, .int .u16 t219)]) (fun s_ w' => (w'.cell? ⟨ad214.block, ad214.off + 1, none⟩ = some (.int .u8 (rd l0 1))) ∧ (w'.heap[gb213]? = some (.cells #[.int .u8 0, .int .u16 0, .int .u16 0, .int .u16 0, .int .u16 0] 24 (0, 0))) ∧ (Below w.heap.size w w')) ?_ ?_
               rotate_left
               ·intro hJ4
                refine join_ (σ := Nat) 6 #[true, true, true, true, false, true, false, true, false, true, false, false, true, false] (fun s_ => [(4, .pointer (some ⟨s_, 0, none⟩))]) (fun s_ w' => (w'.cell? ⟨ad214.block, ad214.off + 1, none⟩ = some (.int .u8 (rd l0 1))) ∧ (w'.heap[gb213]? = some (.cells #[.int .u8 0, .int .u16 0, .int .u16 0, .int .u16 0, .int .u16 0] 24 (0, 0))) ∧ (w'.heap[s_]? = some (.cells #[.int .u8 0, .int .u16 0, .int .u16 0, .int .u16 0, .int .u16 0] 24 (0, 0))) ∧ (w.heap.size ≤ s_) ∧ (w.heap.size ≤ s_) ∧ (gb213 ≠ s_) ∧ (s_ ≠ gb213) ∧ (Below w.heap.size w w')) ?_ ?_
                rotate_left
                ·intro hJ12
                 refine two_ (i := 4) (j := 12) (Ni := some 26) (Nj := some 4) #[true, true, true, true, true, true, false, true, false, true, false, false, false, false] #[true, true, true, true, false, true, false, true, false, true, false, false, true, false] rfl rfl rfl rfl (two_of HT_.out (by kernel_rfl)) (by decide) (by decide) (fun K hK => ?_) (fun K hK => ?_)
                 ·skip
                  refine goes_ Try.func28 (by kernel_rfl) rfl #[.slice (some ad214) l0.length c0, .int .i64 2] (by rfl) rfl rfl (by (try simp only [List.map_toArray, List.map_cons, List.map_nil]); first | done | rfl | (simp only [List.length_drop, List.length_take]; rfl)) ?_
                  with_reducible refine (stillageref02_two.calls _ _ l0 2 t219 _ ?side1 ?side2 A10.out).mono ?_
                  (case side1 => repeat (first | exact (Kd.C_below HR0.out HB.out) | (with_reducible refine Kd.C_alloc ?_ _) | (with_reducible refine Kd.C_drewN ?_ _) | (with_reducible refine Kd.C_drew ?_)))
                  (case side2 => exact HC0.out)
                  rintro e w' ⟨rfl, ⟨nd, rfl⟩⟩
                  refine ⟨_, rfl, ?_⟩
                  refine hK.out _ _ (((HB.out.cell (World.block_lt_of_cell? w _ hw218_0)).trans hw218_0)) (fun hHeld => ?_)
                  clear hK K
                  refine norm_ (a' := ?_) ?_ ?_
                  rotate_left
                  ·show Act.put _ (some 26) _ = _
                   simp only [Act.put, List.setIfInBounds_toArray, List.set_cons_zero, List.set_cons_succ, i64_w, i32_w]
                   rfl
                  exact norm_ (by first | (simp only [putAll, Act.put, List.setIfInBounds_toArray, List.set_cons_zero, List.set_cons_succ]; done) | (simp only [putAll, Act.put, List.setIfInBounds_toArray, List.set_cons_zero, List.set_cons_succ]; rfl)) (hJ4 () _ ⟨hHeld, (by (with_reducible repeat (first | refine blk_drewN ?_ _ | refine blk_drew ?_ | refine blk_alloc ?_ _)); exact BK213.out), (by repeat (first | (with_reducible first | exact HB.out | apply below_alloc | apply pw_below_drewN | apply below_drew1 | refine below_set ?_ GE213.out) | exact HB.out))⟩)
                 ·skip
                  refine box_step ?hg (N := 4) ?hd (cs := #[.int .u8 0, .int .u16 0, .int .u16 0, .int .u16 0, .int .u16 0]) (t := 24) ?hr ?_; (case hd => rfl); (case hg => rfl); (case hr => first | (go_simp; done) | (go_simp; rfl))
                  intro gb223 hg w34 hbox hb
                  have n0_ := Aside0.mk (blk_below (g := gb213) (o := .cells #[.int .u8 0, .int .u16 0, .int .u16 0, .int .u16 0, .int .u16 0] 24 (0, 0)) (by (with_reducible repeat (first | refine blk_drewN ?_ _ | refine blk_drew ?_ | refine blk_alloc ?_ _)); exact BK213.out) hb)
                  have n1_ := Aside0.mk (below_step (by repeat (first | (with_reducible first | exact HB.out | apply below_alloc | apply pw_below_drewN | apply below_drew1 | refine below_set ?_ GE213.out) | exact HB.out)) hb)
                  have n2_ := Aside0.mk (hbox)
                  have n3_ := Aside0.mk ((by rw [hg]; exact (below_size (by repeat (first | (with_reducible first | exact HB.out | apply below_alloc | apply pw_below_drewN | apply below_drew1 | refine below_set ?_ GE213.out) | exact HB.out))) : w.heap.size ≤ gb223))
                  have n4_ := Aside0.mk ((by rw [hg]; exact (below_size (by repeat (first | (with_reducible first | exact HB.out | apply below_alloc | apply pw_below_drewN | apply below_drew1 | refine below_set ?_ GE213.out) | exact HB.out))) : w.heap.size ≤ gb223))
                  have n5_ := Aside0.mk ((by rw [hg]; exact Nat.ne_of_lt (blk_lt (g := gb213) (o := .cells #[.int .u8 0, .int .u16 0, .int .u16 0, .int .u16 0, .int .u16 0] 24 (0, 0)) (by (with_reducible repeat (first | refine blk_drewN ?_ _ | refine blk_drew ?_ | refine blk_alloc ?_ _)); exact BK213.out)) : gb213 ≠ gb223))
                  have n6_ := Aside0.mk ((by rw [hg]; exact Nat.ne_of_gt (blk_lt (g := gb213) (o := .cells #[.int .u8 0, .int .u16 0, .int .u16 0, .int .u16 0, .int .u16 0] 24 (0, 0)) (by (with_reducible repeat (first | refine blk_drewN ?_ _ | refine blk_drew ?_ | refine blk_alloc ?_ _)); exact BK213.out)) : gb223 ≠ gb213))
                  clear BK213
                  clear HB
                  have BK213 := n0_
                  have HB := n1_
                  have BK223 := n2_
                  have GW223 := n3_
                  have GE223 := n4_
                  have NB213_223 := n5_
                  have NB223_213 := n6_
                  clear n0_ n1_ n2_ n3_ n4_ n5_ n6_
                  clear hb hbox hg
                  refine hK.out _ _ (((HB.out.cell (World.block_lt_of_cell? w _ hw218_0)).trans hw218_0)) (fun hHeld => ?_)
                  clear hK K
                  refine norm_ (a' := ?_) ?_ ?_
                  rotate_left
                  ·show Act.put _ (some 4) _ = _
                   simp only [Act.put, List.setIfInBounds_toArray, List.set_cons_zero, List.set_cons_succ, i64_w, i32_w]
                   rfl
                  exact norm_ (by first | (simp only [putAll, Act.put, List.setIfInBounds_toArray, List.set_cons_zero, List.set_cons_succ]; done) | (simp only [putAll, Act.put, List.setIfInBounds_toArray, List.set_cons_zero, List.set_cons_succ]; rfl)) (hJ12 (gb223) _ ⟨hHeld, (by (with_reducible repeat (first | refine blk_drewN ?_ _ | refine blk_drew ?_ | refine blk_alloc ?_ _)); exact BK213.out), (by (with_reducible repeat (first | refine blk_drewN ?_ _ | refine blk_drew ?_ | refine blk_alloc ?_ _)); exact BK223.out), GW223.out, GE223.out, NB213_223.out, NB223_213.out, (by repeat (first | (with_reducible first | exact HB.out | apply below_alloc | apply pw_below_drewN | apply below_drew1 | refine below_set ?_ GE213.out | refine below_set ?_ GE223.out) | exact HB.out))⟩)
                ·skip
                 rintro gb223 w35 ⟨hS_, h0_, h1_, h2_, h3_, h4_, h5_, h6_⟩
                 have n0_ : Aside0 (w35.heap[gb213]? = some (.cells #[.int .u8 0, .int .u16 0, .int .u16 0, .int .u16 0, .int .u16 0] 24 (0, 0))) := ⟨h0_⟩
                 have n1_ : Aside0 (w35.heap[gb223]? = some (.cells #[.int .u8 0, .int .u16 0, .int .u16 0, .int .u16 0, .int .u16 0] 24 (0, 0))) := ⟨h1_⟩
                 have n2_ : Aside0 (w.heap.size ≤ gb223) := ⟨h2_⟩
                 have n3_ : Aside0 (w.heap.size ≤ gb223) := ⟨h3_⟩
                 have n4_ : Aside0 (gb213 ≠ gb223) := ⟨h4_⟩
                 have n5_ : Aside0 (gb223 ≠ gb213) := ⟨h5_⟩
                 have n6_ : Aside0 (Below w.heap.size w w35) := ⟨h6_⟩
                 clear BK213
                 clear HB
                 clear h0_ h1_ h2_ h3_ h4_ h5_ h6_
                 have BK213 := n0_
                 have BK223 := n1_
                 have GW223 := n2_
                 have GE223 := n3_
                 have NB213_223 := n4_
                 have NB223_213 := n5_
                 have HB := n6_
                 clear n0_ n1_ n2_ n3_ n4_ n5_ n6_
                 have hHeld : w35.cell? ⟨ad214.block, ad214.off + 1, none⟩ = some (.int .u8 (rd l0 1)) := hS_
                 refine norm_ (a' := ?_) ?_ ?_
                 rotate_left
                 ·simp only [putAll, Act.put, List.setIfInBounds_toArray, List.set_cons_zero, List.set_cons_succ]
                  rfl
                 refine one_ (i := 4) (N := some 26) #[true, true, true, true, true, true, false, true, false, true, false, false, true, false] rfl rfl (one_of HT_.out (by kernel_rfl)) (by decide) (fun K hK => ?_)
                 refine goes_ Try.func28 (by kernel_rfl) rfl #[.slice (some ad214) l0.length c0, .int .i64 2] (by rfl) rfl rfl (by (try simp only [List.map_toArray, List.map_cons, List.map_nil]); first | done | rfl | (simp only [List.length_drop, List.length_take]; rfl)) ?_
                 with_reducible refine (stillageref02_two.calls _ _ l0 2 t219 _ ?side1 ?side2 A10.out).mono ?_
                 (case side1 => repeat (first | exact (Kd.C_below HR0.out HB.out) | (with_reducible refine Kd.C_alloc ?_ _) | (with_reducible refine Kd.C_drewN ?_ _) | (with_reducible refine Kd.C_drew ?_)))
                 (case side2 => exact HC0.out)
                 rintro e w' ⟨rfl, ⟨nd, rfl⟩⟩
                 refine ⟨_, rfl, ?_⟩
                 refine hK.out _ _ (((HB.out.cell (World.block_lt_of_cell? w _ hw218_0)).trans hw218_0)) (fun hHeld => ?_)
                 clear hK K
                 refine norm_ (a' := ?_) ?_ ?_
                 rotate_left
                 ·show Act.put _ (some 26) _ = _
                  simp only [Act.put, List.setIfInBounds_toArray, List.set_cons_zero, List.set_cons_succ, i64_w, i32_w]
                  rfl
                 exact norm_ (by first | (simp only [putAll, Act.put, List.setIfInBounds_toArray, List.set_cons_zero, List.set_cons_succ]; done) | (simp only [putAll, Act.put, List.setIfInBounds_toArray, List.set_cons_zero, List.set_cons_succ]; rfl)) (hJ4_12 (gb223) _ ⟨hHeld, (by (with_reducible repeat (first | refine blk_drewN ?_ _ | refine blk_drew ?_ | refine blk_alloc ?_ _)); exact BK213.out), (by (with_reducible repeat (first | refine blk_drewN ?_ _ | refine blk_drew ?_ | refine blk_alloc ?_ _)); exact BK223.out), GW223.out, GE223.out, NB213_223.out, NB223_213.out, (by repeat (first | (with_reducible first | exact HB.out | apply below_alloc | apply pw_below_drewN | apply below_drew1 | refine below_set ?_ GE213.out | refine below_set ?_ GE223.out) | exact HB.out))⟩)
               ·skip
                rintro _ w34 ⟨hS_, h0_, h1_⟩
                have n0_ : Aside0 (w34.heap[gb213]? = some (.cells #[.int .u8 0, .int .u16 0, .int .u16 0, .int .u16 0, .int .u16 0] 24 (0, 0))) := ⟨h0_⟩
                have n1_ : Aside0 (Below w.heap.size w w34) := ⟨h1_⟩
                clear BK213
                clear HB
                clear h0_ h1_
                have BK213 := n0_
                have HB := n1_
                clear n0_ n1_
                have hHeld : w34.cell? ⟨ad214.block, ad214.off + 1, none⟩ = some (.int .u8 (rd l0 1)) := hS_
                refine norm_ (a' := ?_) ?_ ?_
                rotate_left
                ·simp only [putAll, Act.put, List.setIfInBounds_toArray, List.set_cons_zero, List.set_cons_succ]
                 rfl
                refine two_ (i := 6) (j := 12) (Ni := some 28) (Nj := some 4) #[true, true, true, true, true, true, true, true, false, true, false, false, false, false] #[true, true, true, true, true, true, false, true, false, true, false, false, true, false] rfl rfl rfl rfl (two_of HT_.out (by kernel_rfl)) (by decide) (by decide) (fun K hK => ?_) (fun K hK => ?_)
                ·skip
                 refine goes_ Try.func28 (by kernel_rfl) rfl #[.slice (some ad214) l0.length c0, .int .i64 4] (by rfl) rfl rfl (by (try simp only [List.map_toArray, List.map_cons, List.map_nil]); first | done | rfl | (simp only [List.length_drop, List.length_take]; rfl)) ?_
                 with_reducible refine (stillageref02_two.calls _ _ l0 4 t220 _ ?side1 ?side2 A11.out).mono ?_
                 (case side1 => repeat (first | exact (Kd.C_below HR0.out HB.out) | (with_reducible refine Kd.C_alloc ?_ _) | (with_reducible refine Kd.C_drewN ?_ _) | (with_reducible refine Kd.C_drew ?_)))
                 (case side2 => exact HC0.out)
                 rintro e w' ⟨rfl, ⟨nd, rfl⟩⟩
                 refine ⟨_, rfl, ?_⟩
                 refine hK.out _ _ (((HB.out.cell (World.block_lt_of_cell? w _ hw218_0)).trans hw218_0)) (fun hHeld => ?_)
                 clear hK K
                 refine norm_ (a' := ?_) ?_ ?_
                 rotate_left
                 ·show Act.put _ (some 28) _ = _
                  simp only [Act.put, List.setIfInBounds_toArray, List.set_cons_zero, List.set_cons_succ, i64_w, i32_w]
                  rfl
                 exact norm_ (by first | (simp only [putAll, Act.put, List.setIfInBounds_toArray, List.set_cons_zero, List.set_cons_succ]; done) | (simp only [putAll, Act.put, List.setIfInBounds_toArray, List.set_cons_zero, List.set_cons_succ]; rfl)) (hJ4_6 () _ ⟨hHeld, (by (with_reducible repeat (first | refine blk_drewN ?_ _ | refine blk_drew ?_ | refine blk_alloc ?_ _)); exact BK213.out), (by repeat (first | (with_reducible first | exact HB.out | apply below_alloc | apply pw_below_drewN | apply below_drew1 | refine below_set ?_ GE213.out) | exact HB.out))⟩)
                ·skip
                 refine box_step ?hg (N := 4) ?hd (cs := #[.int .u8 0, .int .u16 0, .int .u16 0, .int .u16 0, .int .u16 0]) (t := 24) ?hr ?_; (case hd => rfl); (case hg => rfl); (case hr => first | (go_simp; done) | (go_simp; rfl))
                 intro gb223 hg w35 hbox hb
                 have n0_ := Aside0.mk (blk_below (g := gb213) (o := .cells #[.int .u8 0, .int .u16 0, .int .u16 0, .int .u16 0, .int .u16 0] 24 (0, 0)) (by (with_reducible repeat (first | refine blk_drewN ?_ _ | refine blk_drew ?_ | refine blk_alloc ?_ _)); exact BK213.out) hb)
                 have n1_ := Aside0.mk (below_step (by repeat (first | (with_reducible first | exact HB.out | apply below_alloc | apply pw_below_drewN | apply below_drew1 | refine below_set ?_ GE213.out) | exact HB.out)) hb)
                 have n2_ := Aside0.mk (hbox)
                 have n3_ := Aside0.mk ((by rw [hg]; exact (below_size (by repeat (first | (with_reducible first | exact HB.out | apply below_alloc | apply pw_below_drewN | apply below_drew1 | refine below_set ?_ GE213.out) | exact HB.out))) : w.heap.size ≤ gb223))
                 have n4_ := Aside0.mk ((by rw [hg]; exact (below_size (by repeat (first | (with_reducible first | exact HB.out | apply below_alloc | apply pw_below_drewN | apply below_drew1 | refine below_set ?_ GE213.out) | exact HB.out))) : w.heap.size ≤ gb223))
                 have n5_ := Aside0.mk ((by rw [hg]; exact Nat.ne_of_lt (blk_lt (g := gb213) (o := .cells #[.int .u8 0, .int .u16 0, .int .u16 0, .int .u16 0, .int .u16 0] 24 (0, 0)) (by (with_reducible repeat (first | refine blk_drewN ?_ _ | refine blk_drew ?_ | refine blk_alloc ?_ _)); exact BK213.out)) : gb213 ≠ gb223))
                 have n6_ := Aside0.mk ((by rw [hg]; exact Nat.ne_of_gt (blk_lt (g := gb213) (o := .cells #[.int .u8 0, .int .u16 0, .int .u16 0, .int .u16 0, .int .u16 0] 24 (0, 0)) (by (with_reducible repeat (first | refine blk_drewN ?_ _ | refine blk_drew ?_ | refine blk_alloc ?_ _)); exact BK213.out)) : gb223 ≠ gb213))
                 clear BK213
                 clear HB
                 have BK213 := n0_
                 have HB := n1_
                 have BK223 := n2_
                 have GW223 := n3_
                 have GE223 := n4_
                 have NB213_223 := n5_
                 have NB223_213 := n6_
                 clear n0_ n1_ n2_ n3_ n4_ n5_ n6_
                 clear hb hbox hg
                 refine hK.out _ _ (((HB.out.cell (World.block_lt_of_cell? w _ hw218_0)).trans hw218_0)) (fun hHeld => ?_)
                 clear hK K
                 refine norm_ (a' := ?_) ?_ ?_
                 rotate_left
                 ·show Act.put _ (some 4) _ = _
                  simp only [Act.put, List.setIfInBounds_toArray, List.set_cons_zero, List.set_cons_succ, i64_w, i32_w]
                  rfl
                 exact norm_ (by first | (simp only [putAll, Act.put, List.setIfInBounds_toArray, List.set_cons_zero, List.set_cons_succ]; done) | (simp only [putAll, Act.put, List.setIfInBounds_toArray, List.set_cons_zero, List.set_cons_succ]; rfl)) (hJ4_12 (gb223) _ ⟨hHeld, (by (with_reducible repeat (first | refine blk_drewN ?_ _ | refine blk_drew ?_ | refine blk_alloc ?_ _)); exact BK213.out), (by (with_reducible repeat (first | refine blk_drewN ?_ _ | refine blk_drew ?_ | refine blk_alloc ?_ _)); exact BK223.out), GW223.out, GE223.out, NB213_223.out, NB223_213.out, (by repeat (first | (with_reducible first | exact HB.out | apply below_alloc | apply pw_below_drewN | apply below_drew1 | refine below_set ?_ GE213.out | refine below_set ?_ GE223.out) | exact HB.out))⟩)
              ·skip
               rintro gb223 w35 ⟨hS_, h0_, h1_, h2_, h3_, h4_, h5_, h6_⟩
               have n0_ : Aside0 (w35.heap[gb213]? = some (.cells #[.int .u8 0, .int .u16 0, .int .u16 0, .int .u16 0, .int .u16 0] 24 (0, 0))) := ⟨h0_⟩
               have n1_ : Aside0 (w35.heap[gb223]? = some (.cells #[.int .u8 0, .int .u16 0, .int .u16 0, .int .u16 0, .int .u16 0] 24 (0, 0))) := ⟨h1_⟩
               have n2_ : Aside0 (w.heap.size ≤ gb223) := ⟨h2_⟩
               have n3_ : Aside0 (w.heap.size ≤ gb223) := ⟨h3_⟩
               have n4_ : Aside0 (gb213 ≠ gb223) := ⟨h4_⟩
               have n5_ : Aside0 (gb223 ≠ gb213) := ⟨h5_⟩
               have n6_ : Aside0 (Below w.heap.size w w35) := ⟨h6_⟩
               clear BK213
               clear HB
               clear h0_ h1_ h2_ h3_ h4_ h5_ h6_
               have BK213 := n0_
               have BK223 := n1_
               have GW223 := n2_
               have GE223 := n3_
               have NB213_223 := n4_
               have NB223_213 := n5_
               have HB := n6_
               clear n0_ n1_ n2_ n3_ n4_ n5_ n6_
               have hHeld : w35.cell? ⟨ad214.block, ad214.off + 1, none⟩ = some (.int .u8 (rd l0 1)) := hS_
               refine norm_ (a' := ?_) ?_ ?_
               rotate_left
               ·simp only [putAll, Act.put, List.setIfInBounds_toArray, List.set_cons_zero, List.set_cons_succ]
                rfl
               refine one_ (i := 6) (N := some 28) #[true, true, true, true, true, true, true, true, false, true, false, false, true, false] rfl rfl (one_of HT_.out (by kernel_rfl)) (by decide) (fun K hK => ?_)
               refine goes_ Try.func28 (by kernel_rfl) rfl #[.slice (some ad214) l0.length c0, .int .i64 4] (by rfl) rfl rfl (by (try simp only [List.map_toArray, List.map_cons, List.map_nil]); first | done | rfl | (simp only [List.length_drop, List.length_take]; rfl)) ?_
               with_reducible refine (stillageref02_two.calls _ _ l0 4 t220 _ ?side1 ?side2 A11.out).mono ?_
               (case side1 => repeat (first | exact (Kd.C_below HR0.out HB.out) | (with_reducible refine Kd.C_alloc ?_ _) | (with_reducible refine Kd.C_drewN ?_ _) | (with_reducible refine Kd.C_drew ?_)))
               (case side2 => exact HC0.out)
               rintro e w' ⟨rfl, ⟨nd, rfl⟩⟩
               refine ⟨_, rfl, ?_⟩
               refine hK.out _ _ (((HB.out.cell (World.block_lt_of_cell? w _ hw218_0)).trans hw218_0)) (fun hHeld => ?_)
               clear hK K
               refine norm_ (a' := ?_) ?_ ?_
               rotate_left
               ·show Act.put _ (some 28) _ = _
                simp only [Act.put, List.setIfInBounds_toArray, List.set_cons_zero, List.set_cons_succ, i64_w, i32_w]
                rfl
               exact norm_ (by first | (simp only [putAll, Act.put, List.setIfInBounds_toArray, List.set_cons_zero, List.set_cons_succ]; done) | (simp only [putAll, Act.put, List.setIfInBounds_toArray, List.set_cons_zero, List.set_cons_succ]; rfl)) (hJ4_6_12 (gb223) _ ⟨hHeld, (by (with_reducible repeat (first | refine blk_drewN ?_ _ | refine blk_drew ?_ | refine blk_alloc ?_ _)); exact BK213.out), (by (with_reducible repeat (first | refine blk_drewN ?_ _ | refine blk_drew ?_ | refine blk_alloc ?_ _)); exact BK223.out), GW223.out, GE223.out, NB213_223.out, NB223_213.out, (by repeat (first | (with_reducible first | exact HB.out | apply below_alloc | apply pw_below_drewN | apply below_drew1 | refine below_set ?_ GE213.out | refine below_set ?_ GE223.out) | exact HB.out))⟩)
             ·skip
              rintro _ w34 ⟨hS_, h0_, h1_⟩
              have n0_ : Aside0 (w34.heap[gb213]? = some (.cells #[.int .u8 0, .int .u16 0, .int .u16 0, .int .u16 0, .int .u16 0] 24 (0, 0))) := ⟨h0_⟩
              have n1_ : Aside0 (Below w.heap.size w w34) := ⟨h1_⟩
              clear BK213
              clear HB
              clear h0_ h1_
              have BK213 := n0_
              have HB := n1_
              clear n0_ n1_
              have hHeld : w34.cell? ⟨ad214.block, ad214.off + 1, none⟩ = some (.int .u8 (rd l0 1)) := hS_
              refine norm_ (a' := ?_) ?_ ?_
              rotate_left
              ·simp only [putAll, Act.put, List.setIfInBounds_toArray, List.set_cons_zero, List.set_cons_succ]
               rfl
              refine two_ (i := 8) (j := 12) (Ni := some 30) (Nj := some 4) #[true, true, true, true, true, true, true, true, true, true, false, false, false, false] #[true, true, true, true, true, true, true, true, false, true, false, false, true, false] rfl rfl rfl rfl (two_of HT_.out (by kernel_rfl)) (by decide) (by decide) (fun K hK => ?_) (fun K hK => ?_)
              ·skip
               refine goes_ Try.func28 (by kernel_rfl) rfl #[.slice (some ad214) l0.length c0, .int .i64 6] (by rfl) rfl rfl (by (try simp only [List.map_toArray, List.map_cons, List.map_nil]); first | done | rfl | (simp only [List.length_drop, List.length_take]; rfl)) ?_
               with_reducible refine (stillageref02_two.calls _ _ l0 6 t221 _ ?side1 ?side2 A12.out).mono ?_
               (case side1 => repeat (first | exact (Kd.C_below HR0.out HB.out) | (with_reducible refine Kd.C_alloc ?_ _) | (with_reducible refine Kd.C_drewN ?_ _) | (with_reducible refine Kd.C_drew ?_)))
               (case side2 => exact HC0.out)
               rintro e w' ⟨rfl, ⟨nd, rfl⟩⟩
               refine ⟨_, rfl, ?_⟩
               refine hK.out _ _ (((HB.out.cell (World.block_lt_of_cell? w _ hw218_0)).trans hw218_0)) (fun hHeld => ?_)
               clear hK K
               refine norm_ (a' := ?_) ?_ ?_
               rotate_left
               ·show Act.put _ (some 30) _ = _
                simp only [Act.put, List.setIfInBounds_toArray, List.set_cons_zero, List.set_cons_succ, i64_w, i32_w]
                rfl
               exact norm_ (by first | (simp only [putAll, Act.put, List.setIfInBounds_toArray, List.set_cons_zero, List.set_cons_succ]; done) | (simp only [putAll, Act.put, List.setIfInBounds_toArray, List.set_cons_zero, List.set_cons_succ]; rfl)) (hJ4_6_8 () _ ⟨hHeld, (by (with_reducible repeat (first | refine blk_drewN ?_ _ | refine blk_drew ?_ | refine blk_alloc ?_ _)); exact BK213.out), (by repeat (first | (with_reducible first | exact HB.out | apply below_alloc | apply pw_below_drewN | apply below_drew1 | refine below_set ?_ GE213.out) | exact HB.out))⟩)
              ·skip
               refine box_step ?hg (N := 4) ?hd (cs := #[.int .u8 0, .int .u16 0, .int .u16 0, .int .u16 0, .int .u16 0]) (t := 24) ?hr ?_; (case hd => rfl); (case hg => rfl); (case hr => first | (go_simp; done) | (go_simp; rfl))
               intro gb223 hg w35 hbox hb
               have n0_ := Aside0.mk (blk_below (g := gb213) (o := .cells #[.int .u8 0, .int .u16 0, .int .u16 0, .int .u16 0, .int .u16 0] 24 (0, 0)) (by (with_reducible repeat (first | refine blk_drewN ?_ _ | refine blk_drew ?_ | refine blk_alloc ?_ _)); exact BK213.out) hb)
               have n1_ := Aside0.mk (below_step (by repeat (first | (with_reducible first | exact HB.out | apply below_alloc | apply pw_below_drewN | apply below_drew1 | refine below_set ?_ GE213.out) | exact HB.out)) hb)
               have n2_ := Aside0.mk (hbox)
               have n3_ := Aside0.mk ((by rw [hg]; exact (below_size (by repeat (first | (with_reducible first | exact HB.out | apply below_alloc | apply pw_below_drewN | apply below_drew1 | refine below_set ?_ GE213.out) | exact HB.out))) : w.heap.size ≤ gb223))
               have n4_ := Aside0.mk ((by rw [hg]; exact (below_size (by repeat (first | (with_reducible first | exact HB.out | apply below_alloc | apply pw_below_drewN | apply below_drew1 | refine below_set ?_ GE213.out) | exact HB.out))) : w.heap.size ≤ gb223))
               have n5_ := Aside0.mk ((by rw [hg]; exact Nat.ne_of_lt (blk_lt (g := gb213) (o := .cells #[.int .u8 0, .int .u16 0, .int .u16 0, .int .u16 0, .int .u16 0] 24 (0, 0)) (by (with_reducible repeat (first | refine blk_drewN ?_ _ | refine blk_drew ?_ | refine blk_alloc ?_ _)); exact BK213.out)) : gb213 ≠ gb223))
               have n6_ := Aside0.mk ((by rw [hg]; exact Nat.ne_of_gt (blk_lt (g := gb213) (o := .cells #[.int .u8 0, .int .u16 0, .int .u16 0, .int .u16 0, .int .u16 0] 24 (0, 0)) (by (with_reducible repeat (first | refine blk_drewN ?_ _ | refine blk_drew ?_ | refine blk_alloc ?_ _)); exact BK213.out)) : gb223 ≠ gb213))
               clear BK213
               clear HB
               have BK213 := n0_
               have HB := n1_
               have BK223 := n2_
               have GW223 := n3_
               have GE223 := n4_
               have NB213_223 := n5_
               have NB223_213 := n6_
               clear n0_ n1_ n2_ n3_ n4_ n5_ n6_
               clear hb hbox hg
               refine hK.out _ _ (((HB.out.cell (World.block_lt_of_cell? w _ hw218_0)).trans hw218_0)) (fun hHeld => ?_)
               clear hK K
               refine norm_ (a' := ?_) ?_ ?_
               rotate_left
               ·show Act.put _ (some 4) _ = _
                simp only [Act.put, List.setIfInBounds_toArray, List.set_cons_zero, List.set_cons_succ, i64_w, i32_w]
                rfl
               exact norm_ (by first | (simp only [putAll, Act.put, List.setIfInBounds_toArray, List.set_cons_zero, List.set_cons_succ]; done) | (simp only [putAll, Act.put, List.setIfInBounds_toArray, List.set_cons_zero, List.set_cons_succ]; rfl)) (hJ4_6_12 (gb223) _ ⟨hHeld, (by (with_reducible repeat (first | refine blk_drewN ?_ _ | refine blk_drew ?_ | refine blk_alloc ?_ _)); exact BK213.out), (by (with_reducible repeat (first | refine blk_drewN ?_ _ | refine blk_drew ?_ | refine blk_alloc ?_ _)); exact BK223.out), GW223.out, GE223.out, NB213_223.out, NB223_213.out, (by repeat (first | (with_reducible first | exact HB.out | apply below_alloc | apply pw_below_drewN | apply below_drew1 | refine below_set ?_ GE213.out | refine below_set ?_ GE223.out) | exact HB.out))⟩)
            ·skip
             rintro gb223 w35 ⟨hS_, h0_, h1_, h2_, h3_, h4_, h5_, h6_⟩
             have n0_ : Aside0 (w35.heap[gb213]? = some (.cells #[.int .u8 0, .int .u16 0, .int .u16 0, .int .u16 0, .int .u16 0] 24 (0, 0))) := ⟨h0_⟩
             have n1_ : Aside0 (w35.heap[gb223]? = some (.cells #[.int .u8 0, .int .u16 0, .int .u16 0, .int .u16 0, .int .u16 0] 24 (0, 0))) := ⟨h1_⟩
             have n2_ : Aside0 (w.heap.size ≤ gb223) := ⟨h2_⟩
             have n3_ : Aside0 (w.heap.size ≤ gb223) := ⟨h3_⟩
             have n4_ : Aside0 (gb213 ≠ gb223) := ⟨h4_⟩
             have n5_ : Aside0 (gb223 ≠ gb213) := ⟨h5_⟩
             have n6_ : Aside0 (Below w.heap.size w w35) := ⟨h6_⟩
             clear BK213
             clear HB
             clear h0_ h1_ h2_ h3_ h4_ h5_ h6_
             have BK213 := n0_
             have BK223 := n1_
             have GW223 := n2_
             have GE223 := n3_
             have NB213_223 := n4_
             have NB223_213 := n5_
             have HB := n6_
             clear n0_ n1_ n2_ n3_ n4_ n5_ n6_
             have hHeld : w35.cell? ⟨ad214.block, ad214.off + 1, none⟩ = some (.int .u8 (rd l0 1)) := hS_
             refine norm_ (a' := ?_) ?_ ?_
             rotate_left
             ·simp only [putAll, Act.put, List.setIfInBounds_toArray, List.set_cons_zero, List.set_cons_succ]
              rfl
             refine one_ (i := 8) (N := some 30) #[true, true, true, true, true, true, true, true, true, true, false, false, true, false] rfl rfl (one_of HT_.out (by kernel_rfl)) (by decide) (fun K hK => ?_)
             refine goes_ Try.func28 (by kernel_rfl) rfl #[.slice (some ad214) l0.length c0, .int .i64 6] (by rfl) rfl rfl (by (try simp only [List.map_toArray, List.map_cons, List.map_nil]); first | done | rfl | (simp only [List.length_drop, List.length_take]; rfl)) ?_
             with_reducible refine (stillageref02_two.calls _ _ l0 6 t221 _ ?side1 ?side2 A12.out).mono ?_
             (case side1 => repeat (first | exact (Kd.C_below HR0.out HB.out) | (with_reducible refine Kd.C_alloc ?_ _) | (with_reducible refine Kd.C_drewN ?_ _) | (with_reducible refine Kd.C_drew ?_)))
             (case side2 => exact HC0.out)
             rintro e w' ⟨rfl, ⟨nd, rfl⟩⟩
             refine ⟨_, rfl, ?_⟩
             refine hK.out _ _ (((HB.out.cell (World.block_lt_of_cell? w _ hw218_0)).trans hw218_0)) (fun hHeld => ?_)
             clear hK K
             refine norm_ (a' := ?_) ?_ ?_
             rotate_left
             ·show Act.put _ (some 30) _ = _
              simp only [Act.put, List.setIfInBounds_toArray, List.set_cons_zero, List.set_cons_succ, i64_w, i32_w]
              rfl
             exact norm_ (by first | (simp only [putAll, Act.put, List.setIfInBounds_toArray, List.set_cons_zero, List.set_cons_succ]; done) | (simp only [putAll, Act.put, List.setIfInBounds_toArray, List.set_cons_zero, List.set_cons_succ]; rfl)) (hJ4_6_8_12 (gb223) _ ⟨hHeld, (by (with_reducible repeat (first | refine blk_drewN ?_ _ | refine blk_drew ?_ | refine blk_alloc ?_ _)); exact BK213.out), (by (with_reducible repeat (first | refine blk_drewN ?_ _ | refine blk_drew ?_ | refine blk_alloc ?_ _)); exact BK223.out), GW223.out, GE223.out, NB213_223.out, NB223_213.out, (by repeat (first | (with_reducible first | exact HB.out | apply below_alloc | apply pw_below_drewN | apply below_drew1 | refine below_set ?_ GE213.out | refine below_set ?_ GE223.out) | exact HB.out))⟩)
           ·skip
            rintro _ w34 ⟨hS_, h0_, h1_⟩
            have n0_ : Aside0 (w34.heap[gb213]? = some (.cells #[.int .u8 0, .int .u16 0, .int .u16 0, .int .u16 0, .int .u16 0] 24 (0, 0))) := ⟨h0_⟩
            have n1_ : Aside0 (Below w.heap.size w w34) := ⟨h1_⟩
            clear BK213
            clear HB
            clear h0_ h1_
            have BK213 := n0_
            have HB := n1_
            clear n0_ n1_
            have hHeld : w34.cell? ⟨ad214.block, ad214.off + 1, none⟩ = some (.int .u8 (rd l0 1)) := hS_
            refine norm_ (a' := ?_) ?_ ?_
            rotate_left
            ·simp only [putAll, Act.put, List.setIfInBounds_toArray, List.set_cons_zero, List.set_cons_succ]
             rfl
            refine two_ (i := 10) (j := 12) (Ni := some 32) (Nj := some 4) #[true, true, true, true, true, true, true, true, true, true, true, false, false, false] #[true, true, true, true, true, true, true, true, true, true, false, false, true, false] rfl rfl rfl rfl (two_of HT_.out (by kernel_rfl)) (by decide) (by decide) (fun K hK => ?_) (fun K hK => ?_)
            ·skip
             refine goes_ Try.func28 (by kernel_rfl) rfl #[.slice (some ad214) l0.length c0, .int .i64 8] (by rfl) rfl rfl (by (try simp only [List.map_toArray, List.map_cons, List.map_nil]); first | done | rfl | (simp only [List.length_drop, List.length_take]; rfl)) ?_
             with_reducible refine (stillageref02_two.calls _ _ l0 8 t222 _ ?side1 ?side2 A13.out).mono ?_
             (case side1 => repeat (first | exact (Kd.C_below HR0.out HB.out) | (with_reducible refine Kd.C_alloc ?_ _) | (with_reducible refine Kd.C_drewN ?_ _) | (with_reducible refine Kd.C_drew ?_)))
             (case side2 => exact HC0.out)
             rintro e w' ⟨rfl, ⟨nd, rfl⟩⟩
             refine ⟨_, rfl, ?_⟩
             refine hK.out _ _ (((HB.out.cell (World.block_lt_of_cell? w _ hw218_0)).trans hw218_0)) (fun hHeld => ?_)
             clear hK K
             refine norm_ (a' := ?_) ?_ ?_
             rotate_left
             ·show Act.put _ (some 32) _ = _
              simp only [Act.put, List.setIfInBounds_toArray, List.set_cons_zero, List.set_cons_succ, i64_w, i32_w]
              rfl
             refine pure_ (i := 11) (N := some 33) (v := ?_) (a' := ?_) #[true, true, true, true, true, true, true, true, true, true, true, true, false, false] rfl rfl (any_of HT_.out (by kernel_rfl)) (fun _ _ _ h => h) (Or.inl ⟨by rfl, ?_⟩) ?_ ?_
             rotate_left
             ·intro w'
              go_simp
              with_reducible rfl
             rotate_left
             ·simp only [Act.put, List.setIfInBounds_toArray, List.set_cons_zero, List.set_cons_succ, i64_w, i32_w]
              rfl
             exact norm_ (by first | (simp only [putAll, Act.put, List.setIfInBounds_toArray, List.set_cons_zero, List.set_cons_succ]; done) | (simp only [putAll, Act.put, List.setIfInBounds_toArray, List.set_cons_zero, List.set_cons_succ]; rfl)) (hJ4_6_8_10 () _ ⟨hHeld, (by (with_reducible repeat (first | refine blk_drewN ?_ _ | refine blk_drew ?_ | refine blk_alloc ?_ _)); exact BK213.out), (by repeat (first | (with_reducible first | exact HB.out | apply below_alloc | apply pw_below_drewN | apply below_drew1 | refine below_set ?_ GE213.out) | exact HB.out))⟩)
            ·skip
             refine box_step ?hg (N := 4) ?hd (cs := #[.int .u8 0, .int .u16 0, .int .u16 0, .int .u16 0, .int .u16 0]) (t := 24) ?hr ?_; (case hd => rfl); (case hg => rfl); (case hr => first | (go_simp; done) | (go_simp; rfl))
             intro gb223 hg w35 hbox hb
             have n0_ := Aside0.mk (blk_below (g := gb213) (o := .cells #[.int .u8 0, .int .u16 0, .int .u16 0, .int .u16 0, .int .u16 0] 24 (0, 0)) (by (with_reducible repeat (first | refine blk_drewN ?_ _ | refine blk_drew ?_ | refine blk_alloc ?_ _)); exact BK213.out) hb)
             have n1_ := Aside0.mk (below_step (by repeat (first | (with_reducible first | exact HB.out | apply below_alloc | apply pw_below_drewN | apply below_drew1 | refine below_set ?_ GE213.out) | exact HB.out)) hb)
             have n2_ := Aside0.mk (hbox)
             have n3_ := Aside0.mk ((by rw [hg]; exact (below_size (by repeat (first | (with_reducible first | exact HB.out | apply below_alloc | apply pw_below_drewN | apply below_drew1 | refine below_set ?_ GE213.out) | exact HB.out))) : w.heap.size ≤ gb223))
             have n4_ := Aside0.mk ((by rw [hg]; exact (below_size (by repeat (first | (with_reducible first | exact HB.out | apply below_alloc | apply pw_below_drewN | apply below_drew1 | refine below_set ?_ GE213.out) | exact HB.out))) : w.heap.size ≤ gb223))
             have n5_ := Aside0.mk ((by rw [hg]; exact Nat.ne_of_lt (blk_lt (g := gb213) (o := .cells #[.int .u8 0, .int .u16 0, .int .u16 0, .int .u16 0, .int .u16 0] 24 (0, 0)) (by (with_reducible repeat (first | refine blk_drewN ?_ _ | refine blk_drew ?_ | refine blk_alloc ?_ _)); exact BK213.out)) : gb213 ≠ gb223))
             have n6_ := Aside0.mk ((by rw [hg]; exact Nat.ne_of_gt (blk_lt (g := gb213) (o := .cells #[.int .u8 0, .int .u16 0, .int .u16 0, .int .u16 0, .int .u16 0] 24 (0, 0)) (by (with_reducible repeat (first | refine blk_drewN ?_ _ | refine blk_drew ?_ | refine blk_alloc ?_ _)); exact BK213.out)) : gb223 ≠ gb213))
             clear BK213
             clear HB
             have BK213 := n0_
             have HB := n1_
             have BK223 := n2_
             have GW223 := n3_
             have GE223 := n4_
             have NB213_223 := n5_
             have NB223_213 := n6_
             clear n0_ n1_ n2_ n3_ n4_ n5_ n6_
             clear hb hbox hg
             refine hK.out _ _ (((HB.out.cell (World.block_lt_of_cell? w _ hw218_0)).trans hw218_0)) (fun hHeld => ?_)
             clear hK K
             refine norm_ (a' := ?_) ?_ ?_
             rotate_left
             ·show Act.put _ (some 4) _ = _
              simp only [Act.put, List.setIfInBounds_toArray, List.set_cons_zero, List.set_cons_succ, i64_w, i32_w]
              rfl
             exact norm_ (by first | (simp only [putAll, Act.put, List.setIfInBounds_toArray, List.set_cons_zero, List.set_cons_succ]; done) | (simp only [putAll, Act.put, List.setIfInBounds_toArray, List.set_cons_zero, List.set_cons_succ]; rfl)) (hJ4_6_8_12 (gb223) _ ⟨hHeld, (by (with_reducible repeat (first | refine blk_drewN ?_ _ | refine blk_drew ?_ | refine blk_alloc ?_ _)); exact BK213.out), (by (with_reducible repeat (first | refine blk_drewN ?_ _ | refine blk_drew ?_ | refine blk_alloc ?_ _)); exact BK223.out), GW223.out, GE223.out, NB213_223.out, NB223_213.out, (by repeat (first | (with_reducible first | exact HB.out | apply below_alloc | apply pw_below_drewN | apply below_drew1 | refine below_set ?_ GE213.out | refine below_set ?_ GE223.out) | exact HB.out))⟩)
          ·skip
           rintro gb223 w35 ⟨hS_, h0_, h1_, h2_, h3_, h4_, h5_, h6_⟩
           have n0_ : Aside0 (w35.heap[gb213]? = some (.cells #[.int .u8 0, .int .u16 0, .int .u16 0, .int .u16 0, .int .u16 0] 24 (0, 0))) := ⟨h0_⟩
           have n1_ : Aside0 (w35.heap[gb223]? = some (.cells #[.int .u8 0, .int .u16 0, .int .u16 0, .int .u16 0, .int .u16 0] 24 (0, 0))) := ⟨h1_⟩
           have n2_ : Aside0 (w.heap.size ≤ gb223) := ⟨h2_⟩
           have n3_ : Aside0 (w.heap.size ≤ gb223) := ⟨h3_⟩
           have n4_ : Aside0 (gb213 ≠ gb223) := ⟨h4_⟩
           have n5_ : Aside0 (gb223 ≠ gb213) := ⟨h5_⟩
           have n6_ : Aside0 (Below w.heap.size w w35) := ⟨h6_⟩
           clear BK213
           clear HB
           clear h0_ h1_ h2_ h3_ h4_ h5_ h6_
           have BK213 := n0_
           have BK223 := n1_
           have GW223 := n2_
           have GE223 := n3_
           have NB213_223 := n4_
           have NB223_213 := n5_
           have HB := n6_
           clear n0_ n1_ n2_ n3_ n4_ n5_ n6_
           have hHeld : w35.cell? ⟨ad214.block, ad214.off + 1, none⟩ = some (.int .u8 (rd l0 1)) := hS_
           refine norm_ (a' := ?_) ?_ ?_
           rotate_left
           ·simp only [putAll, Act.put, List.setIfInBounds_toArray, List.set_cons_zero, List.set_cons_succ]
            rfl
           refine one_ (i := 10) (N := some 32) #[true, true, true, true, true, true, true, true, true, true, true, false, true, false] rfl rfl (one_of HT_.out (by kernel_rfl)) (by decide) (fun K hK => ?_)
           refine goes_ Try.func28 (by kernel_rfl) rfl #[.slice (some ad214) l0.length c0, .int .i64 8] (by rfl) rfl rfl (by (try simp only [List.map_toArray, List.map_cons, List.map_nil]); first | done | rfl | (simp only [List.length_drop, List.length_take]; rfl)) ?_
           with_reducible refine (stillageref02_two.calls _ _ l0 8 t222 _ ?side1 ?side2 A13.out).mono ?_
           (case side1 => repeat (first | exact (Kd.C_below HR0.out HB.out) | (with_reducible refine Kd.C_alloc ?_ _) | (with_reducible refine Kd.C_drewN ?_ _) | (with_reducible refine Kd.C_drew ?_)))
           (case side2 => exact HC0.out)
           rintro e w' ⟨rfl, ⟨nd, rfl⟩⟩
           refine ⟨_, rfl, ?_⟩
           refine hK.out _ _ (((HB.out.cell (World.block_lt_of_cell? w _ hw218_0)).trans hw218_0)) (fun hHeld => ?_)
           clear hK K
           refine norm_ (a' := ?_) ?_ ?_
           rotate_left
           ·show Act.put _ (some 32) _ = _
            simp only [Act.put, List.setIfInBounds_toArray, List.set_cons_zero, List.set_cons_succ, i64_w, i32_w]
            rfl
           refine pure_ (i := 11) (N := some 33) (v := ?_) (a' := ?_) #[true, true, true, true, true, true, true, true, true, true, true, true, true, false] rfl rfl (any_of HT_.out (by kernel_rfl)) (fun _ _ _ h => h) (Or.inl ⟨by rfl, ?_⟩) ?_ ?_
           rotate_left
           ·intro w'
            go_simp
            with_reducible rfl
           rotate_left
           ·simp only [Act.put, List.setIfInBounds_toArray, List.set_cons_zero, List.set_cons_succ, i64_w, i32_w]
            rfl
           exact norm_ (by first | (simp only [putAll, Act.put, List.setIfInBounds_toArray, List.set_cons_zero, List.set_cons_succ]; done) | (simp only [putAll, Act.put, List.setIfInBounds_toArray, List.set_cons_zero, List.set_cons_succ]; rfl)) (hJ4_6_8_10_12 (gb223) _ ⟨hHeld, (by (with_reducible repeat (first | refine blk_drewN ?_ _ | refine blk_drew ?_ | refine blk_alloc ?_ _)); exact BK213.out), (by (with_reducible repeat (first | refine blk_drewN ?_ _ | refine blk_drew ?_ | refine blk_alloc ?_ _)); exact BK223.out), GW223.out, GE223.out, NB213_223.out, NB223_213.out, (by repeat (first | (with_reducible first | exact HB.out | apply below_alloc | apply pw_below_drewN | apply below_drew1 | refine below_set ?_ GE213.out | refine below_set ?_ GE223.out) | exact HB.out))⟩)
         ·skip
          rintro _ w34 ⟨hS_, h0_, h1_⟩
          have n0_ : Aside0 (w34.heap[gb213]? = some (.cells #[.int .u8 0, .int .u16 0, .int .u16 0, .int .u16 0, .int .u16 0] 24 (0, 0))) := ⟨h0_⟩
          have n1_ : Aside0 (Below w.heap.size w w34) := ⟨h1_⟩
          clear BK213
          clear HB
          clear h0_ h1_
          have BK213 := n0_
          have HB := n1_
          clear n0_ n1_
          have hHeld : w34.cell? ⟨ad214.block, ad214.off + 1, none⟩ = some (.int .u8 (rd l0 1)) := hS_
          refine norm_ (a' := ?_) ?_ ?_
          rotate_left
          ·simp only [putAll, Act.put, List.setIfInBounds_toArray, List.set_cons_zero, List.set_cons_succ]
           rfl
          refine one_ (i := 12) (N := some 4) #[true, true, true, true, true, true, true, true, true, true, true, true, true, false] rfl rfl (one_of HT_.out (by kernel_rfl)) (by decide) (fun K hK => ?_)
          refine box_step ?hg (N := 4) ?hd (cs := #[.int .u8 0, .int .u16 0, .int .u16 0, .int .u16 0, .int .u16 0]) (t := 24) ?hr ?_; (case hd => rfl); (case hg => rfl); (case hr => first | (go_simp; done) | (go_simp; rfl))
          intro gb223 hg w35 hbox hb
          have n0_ := Aside0.mk (blk_below (g := gb213) (o := .cells #[.int .u8 0, .int .u16 0, .int .u16 0, .int .u16 0, .int .u16 0] 24 (0, 0)) (by (with_reducible repeat (first | refine blk_drewN ?_ _ | refine blk_drew ?_ | refine blk_alloc ?_ _)); exact BK213.out) hb)
          have n1_ := Aside0.mk (below_step (by repeat (first | (with_reducible first | exact HB.out | apply below_alloc | apply pw_below_drewN | apply below_drew1 | refine below_set ?_ GE213.out) | exact HB.out)) hb)
          have n2_ := Aside0.mk (hbox)
          have n3_ := Aside0.mk ((by rw [hg]; exact (below_size (by repeat (first | (with_reducible first | exact HB.out | apply below_alloc | apply pw_below_drewN | apply below_drew1 | refine below_set ?_ GE213.out) | exact HB.out))) : w.heap.size ≤ gb223))
          have n4_ := Aside0.mk ((by rw [hg]; exact (below_size (by repeat (first | (with_reducible first | exact HB.out | apply below_alloc | apply pw_below_drewN | apply below_drew1 | refine below_set ?_ GE213.out) | exact HB.out))) : w.heap.size ≤ gb223))
          have n5_ := Aside0.mk ((by rw [hg]; exact Nat.ne_of_lt (blk_lt (g := gb213) (o := .cells #[.int .u8 0, .int .u16 0, .int .u16 0, .int .u16 0, .int .u16 0] 24 (0, 0)) (by (with_reducible repeat (first | refine blk_drewN ?_ _ | refine blk_drew ?_ | refine blk_alloc ?_ _)); exact BK213.out)) : gb213 ≠ gb223))
          have n6_ := Aside0.mk ((by rw [hg]; exact Nat.ne_of_gt (blk_lt (g := gb213) (o := .cells #[.int .u8 0, .int .u16 0, .int .u16 0, .int .u16 0, .int .u16 0] 24 (0, 0)) (by (with_reducible repeat (first | refine blk_drewN ?_ _ | refine blk_drew ?_ | refine blk_alloc ?_ _)); exact BK213.out)) : gb223 ≠ gb213))
          clear BK213
          clear HB
          have BK213 := n0_
          have HB := n1_
          have BK223 := n2_
          have GW223 := n3_
          have GE223 := n4_
          have NB213_223 := n5_
          have NB223_213 := n6_
          clear n0_ n1_ n2_ n3_ n4_ n5_ n6_
          clear hb hbox hg
          refine hK.out _ _ (((HB.out.cell (World.block_lt_of_cell? w _ hw218_0)).trans hw218_0)) (fun hHeld => ?_)
          clear hK K
          refine norm_ (a' := ?_) ?_ ?_
          rotate_left
          ·show Act.put _ (some 4) _ = _
           simp only [Act.put, List.setIfInBounds_toArray, List.set_cons_zero, List.set_cons_succ, i64_w, i32_w]
           rfl
          exact norm_ (by first | (simp only [putAll, Act.put, List.setIfInBounds_toArray, List.set_cons_zero, List.set_cons_succ]; done) | (simp only [putAll, Act.put, List.setIfInBounds_toArray, List.set_cons_zero, List.set_cons_succ]; rfl)) (hJ4_6_8_10_12 (gb223) _ ⟨hHeld, (by (with_reducible repeat (first | refine blk_drewN ?_ _ | refine blk_drew ?_ | refine blk_alloc ?_ _)); exact BK213.out), (by (with_reducible repeat (first | refine blk_drewN ?_ _ | refine blk_drew ?_ | refine blk_alloc ?_ _)); exact BK223.out), GW223.out, GE223.out, NB213_223.out, NB223_213.out, (by repeat (first | (with_reducible first | exact HB.out | apply below_alloc | apply pw_below_drewN | apply below_drew1 | refine below_set ?_ GE213.out | refine below_set ?_ GE223.out) | exact HB.out))⟩)
        rintro gb223 w35 ⟨hS_, h0_, h1_, h2_, h3_, h4_, h5_, h6_⟩
        have n0_ : Aside0 (w35.heap[gb213]? = some (.cells #[.int .u8 0, .int .u16 0, .int .u16 0, .int .u16 0, .int .u16 0] 24 (0, 0))) := ⟨h0_⟩
        have n1_ : Aside0 (w35.heap[gb223]? = some (.cells #[.int .u8 0, .int .u16 0, .int .u16 0, .int .u16 0, .int .u16 0] 24 (0, 0))) := ⟨h1_⟩
        have n2_ : Aside0 (w.heap.size ≤ gb223) := ⟨h2_⟩
        have n3_ : Aside0 (w.heap.size ≤ gb223) := ⟨h3_⟩
        have n4_ : Aside0 (gb213 ≠ gb223) := ⟨h4_⟩
        have n5_ : Aside0 (gb223 ≠ gb213) := ⟨h5_⟩
        have n6_ : Aside0 (Below w.heap.size w w35) := ⟨h6_⟩
        clear BK213
        clear HB
        clear h0_ h1_ h2_ h3_ h4_ h5_ h6_
        have BK213 := n0_
        have BK223 := n1_
        have GW223 := n2_
        have GE223 := n3_
        have NB213_223 := n4_
        have NB223_213 := n5_
        have HB := n6_
        clear n0_ n1_ n2_ n3_ n4_ n5_ n6_
        have hHeld : w35.cell? ⟨ad214.block, ad214.off + 1, none⟩ = some (.int .u8 (rd l0 1)) := hS_
        refine norm_ (a' := ?_) ?_ ?_
        rotate_left
        ·simp only [putAll, Act.put, List.setIfInBounds_toArray, List.set_cons_zero, List.set_cons_succ]
         rfl
        refine one_ (i := 13) (N := none) #[true, true, true, true, true, true, true, true, true, true, true, true, true, true] rfl rfl (one_of HT_.out (by kernel_rfl)) (by decide) (fun K hK => ?_)
        have hs36 : w35.cell? ⟨gb223, 0, none⟩ = some (.int .u8 0) := (blk_cell BK223.out 0).trans rfl
        have hfs36 := blk_frozen BK223.out 0
        have hns36_0 := NB213_223.out
        have hms36_0 := NB223_213.out
        have hs37 : w35.cell? ⟨gb223, 1, none⟩ = some (.int .u16 0) := (blk_cell BK223.out 1).trans rfl
        have hfs37 := blk_frozen BK223.out 1
        have hns37_0 := NB213_223.out
        have hms37_0 := NB223_213.out
        have hs38 : w35.cell? ⟨gb223, 2, none⟩ = some (.int .u16 0) := (blk_cell BK223.out 2).trans rfl
        have hfs38 := blk_frozen BK223.out 2
        have hns38_0 := NB213_223.out
        have hms38_0 := NB223_213.out
        have hs39 : w35.cell? ⟨gb223, 3, none⟩ = some (.int .u16 0) := (blk_cell BK223.out 3).trans rfl
        have hfs39 := blk_frozen BK223.out 3
        have hns39_0 := NB213_223.out
        have hms39_0 := NB223_213.out
        have hs40 : w35.cell? ⟨gb223, 4, none⟩ = some (.int .u16 0) := (blk_cell BK223.out 4).trans rfl
        have hfs40 := blk_frozen BK223.out 4
        have hns40_0 := NB213_223.out
        have hms40_0 := NB223_213.out
        refine skip_ (w1 := ?_) (by rfl) rfl ?_ ?_
        rotate_left
        ·go_simp
         rfl
        refine hK.out _ _ (((cell_far (p := ⟨gb223, _, none⟩) (by first | exact Nat.ne_of_lt (Nat.lt_of_lt_of_le (by have := World.block_lt_of_cell? _ _ hw218_0; first | rwa [add_block] at this | exact this) GW223.out) | (rw [add_block]; exact Nat.ne_of_lt (Nat.lt_of_lt_of_le (by have := World.block_lt_of_cell? _ _ hw218_0; first | rwa [add_block] at this | exact this) GW223.out)) | (show (Addr.add _ _).block ≠ _; rw [add_block]; exact Nat.ne_of_lt (Nat.lt_of_lt_of_le (by have := World.block_lt_of_cell? _ _ hw218_0; first | rwa [add_block] at this | exact this) GW223.out)) | (dsimp only; exact Nat.ne_of_lt (Nat.lt_of_lt_of_le (by have := World.block_lt_of_cell? _ _ hw218_0; first | rwa [add_block] at this | exact this) GW223.out))) _).trans (((cell_far (p := ⟨gb223, _, none⟩) (by first | exact Nat.ne_of_lt (Nat.lt_of_lt_of_le (by have := World.block_lt_of_cell? _ _ hw218_0; first | rwa [add_block] at this | exact this) GW223.out) | (rw [add_block]; exact Nat.ne_of_lt (Nat.lt_of_lt_of_le (by have := World.block_lt_of_cell? _ _ hw218_0; first | rwa [add_block] at this | exact this) GW223.out)) | (show (Addr.add _ _).block ≠ _; rw [add_block]; exact Nat.ne_of_lt (Nat.lt_of_lt_of_le (by have := World.block_lt_of_cell? _ _ hw218_0; first | rwa [add_block] at this | exact this) GW223.out)) | (dsimp only; exact Nat.ne_of_lt (Nat.lt_of_lt_of_le (by have := World.block_lt_of_cell? _ _ hw218_0; first | rwa [add_block] at this | exact this) GW223.out))) _).trans (((cell_far (p := ⟨gb223, _, none⟩) (by first | exact Nat.ne_of_lt (Nat.lt_of_lt_of_le (by have := World.block_lt_of_cell? _ _ hw218_0; first | rwa [add_block] at this | exact this) GW223.out) | (rw [add_block]; exact Nat.ne_of_lt (Nat.lt_of_lt_of_le (by have := World.block_lt_of_cell? _ _ hw218_0; first | rwa [add_block] at this | exact this) GW223.out)) | (show (Addr.add _ _).block ≠ _; rw [add_block]; exact Nat.ne_of_lt (Nat.lt_of_lt_of_le (by have := World.block_lt_of_cell? _ _ hw218_0; first | rwa [add_block] at this | exact this) GW223.out)) | (dsimp only; exact Nat.ne_of_lt (Nat.lt_of_lt_of_le (by have := World.block_lt_of_cell? _ _ hw218_0; first | rwa [add_block] at this | exact this) GW223.out))) _).trans (((cell_far (p := ⟨gb223, _, none⟩) (by first | exact Nat.ne_of_lt (Nat.lt_of_lt_of_le (by have := World.block_lt_of_cell? _ _ hw218_0; first | rwa [add_block] at this | exact this) GW223.out) | (rw [add_block]; exact Nat.ne_of_lt (Nat.lt_of_lt_of_le (by have := World.block_lt_of_cell? _ _ hw218_0; first | rwa [add_block] at this | exact this) GW223.out)) | (show (Addr.add _ _).block ≠ _; rw [add_block]; exact Nat.ne_of_lt (Nat.lt_of_lt_of_le (by have := World.block_lt_of_cell? _ _ hw218_0; first | rwa [add_block] at this | exact this) GW223.out)) | (dsimp only; exact Nat.ne_of_lt (Nat.lt_of_lt_of_le (by have := World.block_lt_of_cell? _ _ hw218_0; first | rwa [add_block] at this | exact this) GW223.out))) _).trans (((cell_far (p := ⟨gb223, _, none⟩) (by first | exact Nat.ne_of_lt (Nat.lt_of_lt_of_le (by have := World.block_lt_of_cell? _ _ hw218_0; first | rwa [add_block] at this | exact this) GW223.out) | (rw [add_block]; exact Nat.ne_of_lt (Nat.lt_of_lt_of_le (by have := World.block_lt_of_cell? _ _ hw218_0; first | rwa [add_block] at this | exact this) GW223.out)) | (show (Addr.add _ _).block ≠ _; rw [add_block]; exact Nat.ne_of_lt (Nat.lt_of_lt_of_le (by have := World.block_lt_of_cell? _ _ hw218_0; first | rwa [add_block] at this | exact this) GW223.out)) | (dsimp only; exact Nat.ne_of_lt (Nat.lt_of_lt_of_le (by have := World.block_lt_of_cell? _ _ hw218_0; first | rwa [add_block] at this | exact this) GW223.out))) _).trans (hHeld))))))))))) (fun hHeld => ?_)
        clear hK K
        refine done_ (done_of HT_.out (by kernel_rfl)) ?_
        have hnb41 := NB223_213.out
        have hnc41 := NB213_223.out
        have hcz42_0 : w35.cell? ⟨gb223, 0, none⟩ = some (.int .u8 0) := (blk_cell BK223.out 0).trans rfl
        have hcz42_1 : w35.cell? ⟨gb223, 1, none⟩ = some (.int .u16 0) := (blk_cell BK223.out 1).trans rfl
        have hcz42_2 : w35.cell? ⟨gb223, 2, none⟩ = some (.int .u16 0) := (blk_cell BK223.out 2).trans rfl
        have hcz42_3 : w35.cell? ⟨gb223, 3, none⟩ = some (.int .u16 0) := (blk_cell BK223.out 3).trans rfl
        have hcz42_4 : w35.cell? ⟨gb223, 4, none⟩ = some (.int .u16 0) := (blk_cell BK223.out 4).trans rfl
        have hfz42_0 := blk_frozen BK223.out 0
        have hfz42_1 := blk_frozen BK223.out 1
        have hfz42_2 := blk_frozen BK223.out 2
        have hfz42_3 := blk_frozen BK223.out 3
        have hfz42_4 := blk_frozen BK223.out 4
        try go_wp2_with (first | ((with_reducible refine gate_callee (f := 13) rfl ?_); refine goesL_ (some 35) rfl rfl Try.func13 (by kernel_rfl) rfl #[.agg #[.int .u8 (rd l0 1), .int .u16 t219, .int .u16 t220, .int .u16 t221, .int .u16 t222]] rfl (by (try simp only [List.map_toArray, List.map_cons, List.map_nil]); first | done | rfl | (simp only [List.length_drop, List.length_take]; rfl)) ?_; (with_reducible refine (stillageref02_Check.calls k (rd l0 1) t219 t220 t221 t222 t224 _ A14.out).mono ?_); rintro e w43 ⟨rfl, hb⟩; refine ⟨_, rfl, ?_⟩; have n0_ := Aside0.mk (blk_below (g := gb213) (o := .cells #[.int .u8 0, .int .u16 0, .int .u16 0, .int .u16 0, .int .u16 0] 24 (0, 0)) (by (with_reducible repeat (first | refine blk_drewN ?_ _ | refine blk_drew ?_ | refine blk_alloc ?_ _)); refine blk_far ?_ NB213_223.out _; (with_reducible repeat (first | refine blk_drewN ?_ _ | refine blk_drew ?_ | refine blk_alloc ?_ _)); refine blk_far ?_ NB213_223.out _; (with_reducible repeat (first | refine blk_drewN ?_ _ | refine blk_drew ?_ | refine blk_alloc ?_ _)); refine blk_far ?_ NB213_223.out _; (with_reducible repeat (first | refine blk_drewN ?_ _ | refine blk_drew ?_ | refine blk_alloc ?_ _)); refine blk_far ?_ NB213_223.out _; (with_reducible repeat (first | refine blk_drewN ?_ _ | refine blk_drew ?_ | refine blk_alloc ?_ _)); refine blk_far ?_ NB213_223.out _; (with_reducible repeat (first | refine blk_drewN ?_ _ | refine blk_drew ?_ | refine blk_alloc ?_ _)); exact BK213.out) hb); have n1_ := Aside0.mk (blk_below (g := gb223) (o := .cells #[.int .u8 (rd l0 1), .int .u16 t219, .int .u16 t220, .int .u16 t221, .int .u16 t222] 24 (0, 0)) (by (with_reducible repeat (first | refine blk_drewN ?_ _ | refine blk_drew ?_ | refine blk_alloc ?_ _)); refine blk_put (cs := #[.int .u8 (rd l0 1), .int .u16 t219, .int .u16 t220, .int .u16 t221, .int .u16 0]) ?_ 4 _ rfl; (with_reducible repeat (first | refine blk_drewN ?_ _ | refine blk_drew ?_ | refine blk_alloc ?_ _)); refine blk_put (cs := #[.int .u8 (rd l0 1), .int .u16 t219, .int .u16 t220, .int .u16 0, .int .u16 0]) ?_ 3 _ rfl; (with_reducible repeat (first | refine blk_drewN ?_ _ | refine blk_drew ?_ | refine blk_alloc ?_ _)); refine blk_put (cs := #[.int .u8 (rd l0 1), .int .u16 t219, .int .u16 0, .int .u16 0, .int .u16 0]) ?_ 2 _ rfl; (with_reducible repeat (first | refine blk_drewN ?_ _ | refine blk_drew ?_ | refine blk_alloc ?_ _)); refine blk_put (cs := #[.int .u8 (rd l0 1), .int .u16 0, .int .u16 0, .int .u16 0, .int .u16 0]) ?_ 1 _ rfl; (with_reducible repeat (first | refine blk_drewN ?_ _ | refine blk_drew ?_ | refine blk_alloc ?_ _)); refine blk_put (cs := #[.int .u8 0, .int .u16 0, .int .u16 0, .int .u16 0, .int .u16 0]) ?_ 0 _ rfl; (with_reducible repeat (first | refine blk_drewN ?_ _ | refine blk_drew ?_ | refine blk_alloc ?_ _)); exact BK223.out) hb); have n2_ := Aside0.mk (below_step (by repeat (first | (with_reducible first | exact HB.out | apply below_alloc | apply pw_below_drewN | apply below_drew1 | refine below_set ?_ GE213.out | refine below_set ?_ GE223.out) | exact HB.out)) hb); clear BK213; clear BK223; clear HB; have BK213 := n0_; have BK223 := n1_; have HB := n2_; clear n0_ n1_ n2_; (try clear hb); (try clear hb2); (try clear hk); (try clear hi); have hcz44_0 : w43.cell? ⟨gb213, 0, none⟩ = some (.int .u8 0) := (blk_cell BK213.out 0).trans rfl; have hcz44_1 : w43.cell? ⟨gb213, 1, none⟩ = some (.int .u16 0) := (blk_cell BK213.out 1).trans rfl; have hcz44_2 : w43.cell? ⟨gb213, 2, none⟩ = some (.int .u16 0) := (blk_cell BK213.out 2).trans rfl; have hcz44_3 : w43.cell? ⟨gb213, 3, none⟩ = some (.int .u16 0) := (blk_cell BK213.out 3).trans rfl; have hcz44_4 : w43.cell? ⟨gb213, 4, none⟩ = some (.int .u16 0) := (blk_cell BK213.out 4).trans rfl; have hfz44_0 := blk_frozen BK213.out 0; have hfz44_1 := blk_frozen BK213.out 1; have hfz44_2 := blk_frozen BK213.out 2; have hfz44_3 := blk_frozen BK213.out 3; have hfz44_4 := blk_frozen BK213.out 4))
        refine bodyPost_ret (results_ct rfl _ _ gb213 24 #[.int .u8 0, .int .u16 0, .int .u16 0, .int .u16 0, .int .u16 0] (0, 0) _ rfl (by (with_reducible repeat (first | refine blk_drewN ?_ _ | refine blk_drew ?_ | refine blk_alloc ?_ _)); refine blk_put (cs := #[.int .u8 0, .int .u16 0, .int .u16 0, .int .u16 0, .int .u16 0]) ?_ 4 _ rfl; (with_reducible repeat (first | refine blk_drewN ?_ _ | refine blk_drew ?_ | refine blk_alloc ?_ _)); refine blk_put (cs := #[.int .u8 0, .int .u16 0, .int .u16 0, .int .u16 0, .int .u16 0]) ?_ 3 _ rfl; (with_reducible repeat (first | refine blk_drewN ?_ _ | refine blk_drew ?_ | refine blk_alloc ?_ _)); refine blk_put (cs := #[.int .u8 0, .int .u16 0, .int .u16 0, .int .u16 0, .int .u16 0]) ?_ 2 _ rfl; (with_reducible repeat (first | refine blk_drewN ?_ _ | refine blk_drew ?_ | refine blk_alloc ?_ _)); refine blk_put (cs := #[.int .u8 0, .int .u16 0, .int .u16 0, .int .u16 0, .int .u16 0]) ?_ 1 _ rfl; (with_reducible repeat (first | refine blk_drewN ?_ _ | refine blk_drew ?_ | refine blk_alloc ?_ _)); refine blk_put (cs := #[.int .u8 0, .int .u16 0, .int .u16 0, .int .u16 0, .int .u16 0]) ?_ 0 _ rfl; (with_reducible repeat (first | refine blk_drewN ?_ _ | refine blk_drew ?_ | refine blk_alloc ?_ _)); exact BK213.out) Try.underlying24 rfl (by kernel_rfl)) rfl ?_
        exact ⟨by first | rfl | (simp [errW_none, errW_some] <;> rfl) | (simp [*, errW_none, errW_some] <;> rfl), by repeat (first | (with_reducible first | exact HB.out | apply below_alloc | apply pw_below_drewN | apply below_drew1 | refine below_set ?_ GE213.out | refine below_set ?_ GE223.out) | exact HB.out)⟩
      ·rw [if_neg c9] at H
       exact absurd H (by simp)
     ·rw [if_neg c8] at H
      have c8b0 : (t216 == t217) = false := beq_eq_false_iff_ne.mpr c8
      have c8b1 : (t216 != t217) = true := bne_iff_ne.mpr c8
      simp only [Option.some.injEq, Prod.mk.injEq] at H
      obtain ⟨rfl, rfl, rfl, rfl, rfl, rfl⟩ := H
      go_enter Try.func17, Try.ntmps17
      go_wp2_with (first | ((with_reducible refine gate_dst (N := 2) rfl ?_); refine box_event ?hg (N := 2) ?hd (cs := #[.int .u8 0, .int .u16 0, .int .u16 0, .int .u16 0, .int .u16 0]) (t := 24) ?hr ?_; (case hd => rfl); (case hg => rfl); (case hr => first | (go_simp; done) | (go_simp; rfl)); intro gb213 hg w45 hbox hb; have n0_ := Aside0.mk (below_step (by repeat (first | (with_reducible first | exact HB.out | apply below_alloc | apply pw_below_drewN | apply below_drew1) | exact HB.out)) hb); have n1_ := Aside0.mk (hbox); have n2_ := Aside0.mk ((by rw [hg]; exact (below_size (by repeat (first | (with_reducible first | exact HB.out | apply below_alloc | apply pw_below_drewN | apply below_drew1) | exact HB.out))) : w.heap.size ≤ gb213)); have n3_ := Aside0.mk ((by rw [hg]; exact (below_size (by repeat (first | (with_reducible first | exact HB.out | apply below_alloc | apply pw_below_drewN | apply below_drew1) | exact HB.out))) : w.heap.size ≤ gb213)); clear HB; have HB := n0_; have BK213 := n1_; have GW213 := n2_; have GE213 := n3_; clear n0_ n1_ n2_ n3_; clear hb hbox hg; have p214 : 0 ≤ (0 : Int) := (by omega); have q214 : 0 < (l0.length : Int) := of_decide_eq_true (by first | (with_reducible assumption) | assumption); obtain ⟨ad214, e214, hx214_0⟩ := Kd.at_int HR0.out 0 p214 q214; cases e214; have qi214 : (0 < l0.length) = True := eq_true (by omega); (try rw [show ((0 : Int)).toNat = 0 from rfl] at hx214_0); (try rw [Addr.add_zero'] at hx214_0); replace hx214_0 := (HB.out.cell (World.block_lt_of_cell? w _ hx214_0)).trans hx214_0; replace p214 := eq_true p214; replace q214 := eq_true q214; obtain ⟨i046, hi046, _, hsz46, _⟩ := info_parts info5; obtain ⟨hcut46, hA46, hC46⟩ := print_take_of (P := Try.prog) (Value.int .u8) 0 26 5 .i64 Try.underlying26 hi046 hsz46 (some ad214) c0 l0 10 (by omega) (of_decide_eq_true (by first | (with_reducible assumption) | assumption)) HC0.out; have HR215 := Aside0.mk (Kd.C_of_reads (h1 := fun _ => rfl) (hA46 _ (Kd.reads_of_C HR0.out))); have HC215 := Aside0.mk hC46; clear hA46 hC46 hi046 hsz46) | ((with_reducible refine gate_callee (f := 27) rfl ?_); refine goesL_ (some 17) rfl rfl Try.func27 (by kernel_rfl) rfl #[.slice (some ad214) (l0.take 10).length c0] rfl (by (try simp only [List.map_toArray, List.map_cons, List.map_nil]); first | done | (rw [show (l0.take 10).length = 10 from (by rw [List.length_take]; have h_ : (10 : Int) ≤ (l0.length : Int) := of_decide_eq_true (by first | (with_reducible assumption) | assumption); omega)] <;> rfl) | rfl | (simp only [List.length_drop, List.length_take]; rfl)) ?_; (with_reducible refine (stillageref01_Sum.calls k _ _ (l0.take 10) t216 _ ?side1 ?side2 A6.out).mono ?_); (case side1 => repeat (first | exact (Kd.C_below HR215.out HB.out) | (with_reducible refine Kd.C_alloc ?_ _) | (with_reducible refine Kd.C_drewN ?_ _) | (with_reducible refine Kd.C_drew ?_))); (case side2 => exact HC215.out); rintro e w' ⟨rfl, ⟨nd, rfl⟩⟩; refine ⟨_, rfl, ?_⟩; (try (rw [drewN_self w45]; generalize hq_ : World.drewN w45 _ = w45; have n0_ : Aside0 (w45.heap[gb213]? = some (.cells #[.int .u8 0, .int .u16 0, .int .u16 0, .int .u16 0, .int .u16 0] 24 (0, 0))) := ⟨by rw [← hq_]; exact (by (with_reducible repeat (first | refine blk_drewN ?_ _ | refine blk_drew ?_ | refine blk_alloc ?_ _)); exact BK213.out)⟩; have n1_ : Aside0 (Below w.heap.size w w45) := ⟨by rw [← hq_]; exact (by repeat (first | (with_reducible first | exact HB.out | apply below_alloc | apply pw_below_drewN | apply below_drew1 | refine below_set ?_ GE213.out) | exact HB.out))⟩; clear BK213 HB hq_; have BK213 := n0_; have HB := n1_; clear n0_ n1_))) | ((with_reducible refine gate_callee (f := 28) rfl ?_); refine goesL_ (some 19) rfl rfl Try.func28 (by kernel_rfl) rfl #[.slice (some ad214) l0.length c0, .int .i64 10] rfl (by (try simp only [List.map_toArray, List.map_cons, List.map_nil]); first | done | rfl | (simp only [List.length_drop, List.length_take]; rfl)) ?_; (with_reducible refine (stillageref02_two.calls _ _ l0 10 t217 _ ?side1 ?side2 A7.out).mono ?_); (case side1 => repeat (first | exact (Kd.C_below HR0.out HB.out) | (with_reducible refine Kd.C_alloc ?_ _) | (with_reducible refine Kd.C_drewN ?_ _) | (with_reducible refine Kd.C_drew ?_))); (case side2 => exact HC0.out); rintro e w' ⟨rfl, ⟨nd, rfl⟩⟩; refine ⟨_, rfl, ?_⟩; (try (rw [drewN_self w45]; generalize hq_ : World.drewN w45 _ = w45; have n0_ : Aside0 (w45.heap[gb213]? = some (.cells #[.int .u8 0, .int .u16 0, .int .u16 0, .int .u16 0, .int .u16 0] 24 (0, 0))) := ⟨by rw [← hq_]; exact (by (with_reducible repeat (first | refine blk_drewN ?_ _ | refine blk_drew ?_ | refine blk_alloc ?_ _)); exact BK213.out)⟩; have n1_ : Aside0 (Below w.heap.size w w45) := ⟨by rw [← hq_]; exact (by repeat (first | (with_reducible first | exact HB.out | apply below_alloc | apply pw_below_drewN | apply below_drew1 | refine below_set ?_ GE213.out) | exact HB.out))⟩; clear BK213 HB hq_; have BK213 := n0_; have HB := n1_; clear n0_ n1_)); have hcz47_0 : w45.cell? ⟨gb213, 0, none⟩ = some (.int .u8 0) := (blk_cell BK213.out 0).trans rfl; have hcz47_1 : w45.cell? ⟨gb213, 1, none⟩ = some (.int .u16 0) := (blk_cell BK213.out 1).trans rfl; have hcz47_2 : w45.cell? ⟨gb213, 2, none⟩ = some (.int .u16 0) := (blk_cell BK213.out 2).trans rfl; have hcz47_3 : w45.cell? ⟨gb213, 3, none⟩ = some (.int .u16 0) := (blk_cell BK213.out 3).trans rfl; have hcz47_4 : w45.cell? ⟨gb213, 4, none⟩ = some (.int .u16 0) := (blk_cell BK213.out 4).trans rfl; have hfz47_0 := blk_frozen BK213.out 0; have hfz47_1 := blk_frozen BK213.out 1; have hfz47_2 := blk_frozen BK213.out 2; have hfz47_3 := blk_frozen BK213.out 3; have hfz47_4 := blk_frozen BK213.out 4))
      refine bodyPost_ret (results_ct rfl _ _ gb213 24 #[.int .u8 0, .int .u16 0, .int .u16 0, .int .u16 0, .int .u16 0] (0, 0) _ rfl (by (with_reducible repeat (first | refine blk_drewN ?_ _ | refine blk_drew ?_ | refine blk_alloc ?_ _)); refine blk_put (cs := #[.int .u8 0, .int .u16 0, .int .u16 0, .int .u16 0, .int .u16 0]) ?_ 4 _ rfl; (with_reducible repeat (first | refine blk_drewN ?_ _ | refine blk_drew ?_ | refine blk_alloc ?_ _)); refine blk_put (cs := #[.int .u8 0, .int .u16 0, .int .u16 0, .int .u16 0, .int .u16 0]) ?_ 3 _ rfl; (with_reducible repeat (first | refine blk_drewN ?_ _ | refine blk_drew ?_ | refine blk_alloc ?_ _)); refine blk_put (cs := #[.int .u8 0, .int .u16 0, .int .u16 0, .int .u16 0, .int .u16 0]) ?_ 2 _ rfl; (with_reducible repeat (first | refine blk_drewN ?_ _ | refine blk_drew ?_ | refine blk_alloc ?_ _)); refine blk_put (cs := #[.int .u8 0, .int .u16 0, .int .u16 0, .int .u16 0, .int .u16 0]) ?_ 1 _ rfl; (with_reducible repeat (first | refine blk_drewN ?_ _ | refine blk_drew ?_ | refine blk_alloc ?_ _)); refine blk_put (cs := #[.int .u8 0, .int .u16 0, .int .u16 0, .int .u16 0, .int .u16 0]) ?_ 0 _ rfl; (with_reducible repeat (first | refine blk_drewN ?_ _ | refine blk_drew ?_ | refine blk_alloc ?_ _)); exact BK213.out) Try.underlying24 rfl (by kernel_rfl)) rfl ?_
      exact ⟨by first | rfl | (simp [errW_none, errW_some] <;> rfl) | (simp [*, errW_none, errW_some] <;> rfl), by repeat (first | (with_reducible first | exact HB.out | apply below_alloc | apply pw_below_drewN | apply below_drew1 | refine below_set ?_ GE213.out) | exact HB.out)⟩
    ·rw [if_neg c5] at H
     exact absurd H (by simp)
   ·rw [if_neg c4] at H
    have c4b0 : ((rd l0 0) == 165) = false := beq_eq_false_iff_ne.mpr c4
    have c4b1 : ((rd l0 0) != 165) = true := bne_iff_ne.mpr c4
    simp only [Option.some.injEq, Prod.mk.injEq] at H
    obtain ⟨rfl, rfl, rfl, rfl, rfl, rfl⟩ := H
    go_enter Try.func17, Try.ntmps17
    go_wp2_with (first | ((with_reducible refine gate_dst (N := 2) rfl ?_); refine box_event ?hg (N := 2) ?hd (cs := #[.int .u8 0, .int .u16 0, .int .u16 0, .int .u16 0, .int .u16 0]) (t := 24) ?hr ?_; (case hd => rfl); (case hg => rfl); (case hr => first | (go_simp; done) | (go_simp; rfl)); intro gb213 hg w48 hbox hb; have n0_ := Aside0.mk (below_step (by repeat (first | (with_reducible first | exact HB.out | apply below_alloc | apply pw_below_drewN | apply below_drew1) | exact HB.out)) hb); have n1_ := Aside0.mk (hbox); have n2_ := Aside0.mk ((by rw [hg]; exact (below_size (by repeat (first | (with_reducible first | exact HB.out | apply below_alloc | apply pw_below_drewN | apply below_drew1) | exact HB.out))) : w.heap.size ≤ gb213)); have n3_ := Aside0.mk ((by rw [hg]; exact (below_size (by repeat (first | (with_reducible first | exact HB.out | apply below_alloc | apply pw_below_drewN | apply below_drew1) | exact HB.out))) : w.heap.size ≤ gb213)); clear HB; have HB := n0_; have BK213 := n1_; have GW213 := n2_; have GE213 := n3_; clear n0_ n1_ n2_ n3_; clear hb hbox hg; have p214 : 0 ≤ (0 : Int) := (by omega); have q214 : 0 < (l0.length : Int) := of_decide_eq_true (by first | (with_reducible assumption) | assumption); obtain ⟨ad214, e214, hx214_0⟩ := Kd.at_int HR0.out 0 p214 q214; cases e214; have qi214 : (0 < l0.length) = True := eq_true (by omega); (try rw [show ((0 : Int)).toNat = 0 from rfl] at hx214_0); (try rw [Addr.add_zero'] at hx214_0); replace hx214_0 := (HB.out.cell (World.block_lt_of_cell? w _ hx214_0)).trans hx214_0; replace p214 := eq_true p214; replace q214 := eq_true q214; have hcz49_0 : w48.cell? ⟨gb213, 0, none⟩ = some (.int .u8 0) := (blk_cell BK213.out 0).trans rfl; have hcz49_1 : w48.cell? ⟨gb213, 1, none⟩ = some (.int .u16 0) := (blk_cell BK213.out 1).trans rfl; have hcz49_2 : w48.cell? ⟨gb213, 2, none⟩ = some (.int .u16 0) := (blk_cell BK213.out 2).trans rfl; have hcz49_3 : w48.cell? ⟨gb213, 3, none⟩ = some (.int .u16 0) := (blk_cell BK213.out 3).trans rfl; have hcz49_4 : w48.cell? ⟨gb213, 4, none⟩ = some (.int .u16 0) := (blk_cell BK213.out 4).trans rfl; have hfz49_0 := blk_frozen BK213.out 0; have hfz49_1 := blk_frozen BK213.out 1; have hfz49_2 := blk_frozen BK213.out 2; have hfz49_3 := blk_frozen BK213.out 3; have hfz49_4 := blk_frozen BK213.out 4))
    refine bodyPost_ret (results_ct rfl _ _ gb213 24 #[.int .u8 0, .int .u16 0, .int .u16 0, .int .u16 0, .int .u16 0] (0, 0) _ rfl (by (with_reducible repeat (first | refine blk_drewN ?_ _ | refine blk_drew ?_ | refine blk_alloc ?_ _)); refine blk_put (cs := #[.int .u8 0, .int .u16 0, .int .u16 0, .int .u16 0, .int .u16 0]) ?_ 4 _ rfl; (with_reducible repeat (first | refine blk_drewN ?_ _ | refine blk_drew ?_ | refine blk_alloc ?_ _)); refine blk_put (cs := #[.int .u8 0, .int .u16 0, .int .u16 0, .int .u16 0, .int .u16 0]) ?_ 3 _ rfl; (with_reducible repeat (first | refine blk_drewN ?_ _ | refine blk_drew ?_ | refine blk_alloc ?_ _)); refine blk_put (cs := #[.int .u8 0, .int .u16 0, .int .u16 0, .int .u16 0, .int .u16 0]) ?_ 2 _ rfl; (with_reducible repeat (first | refine blk_drewN ?_ _ | refine blk_drew ?_ | refine blk_alloc ?_ _)); refine blk_put (cs := #[.int .u8 0, .int .u16 0, .int .u16 0, .int .u16 0, .int .u16 0]) ?_ 1 _ rfl; (with_reducible repeat (first | refine blk_drewN ?_ _ | refine blk_drew ?_ | refine blk_alloc ?_ _)); refine blk_put (cs := #[.int .u8 0, .int .u16 0, .int .u16 0, .int .u16 0, .int .u16 0]) ?_ 0 _ rfl; (with_reducible repeat (first | refine blk_drewN ?_ _ | refine blk_drew ?_ | refine blk_alloc ?_ _)); exact BK213.out) Try.underlying24 rfl (by kernel_rfl)) rfl ?_
    exact ⟨by first | rfl | (simp [errW_none, errW_some] <;> rfl) | (simp [*, errW_none, errW_some] <;> rfl), by repeat (first | (with_reducible first | exact HB.out | apply below_alloc | apply pw_below_drewN | apply below_drew1 | refine below_set ?_ GE213.out) | exact HB.out)⟩
  ·rw [if_neg c3] at H
   exact absurd H (by simp)
 ·rw [if_neg c2] at H
  have c2b0 : ((l0.length : Int) == 12) = false := beq_eq_false_iff_ne.mpr c2
  have c2b1 : ((l0.length : Int) != 12) = true := bne_iff_ne.mpr c2
  simp only [Option.some.injEq, Prod.mk.injEq] at H
  obtain ⟨rfl, rfl, rfl, rfl, rfl, rfl⟩ := H
  go_enter Try.func17, Try.ntmps17
  go_wp2_with (first | ((with_reducible refine gate_dst (N := 2) rfl ?_); refine box_event ?hg (N := 2) ?hd (cs := #[.int .u8 0, .int .u16 0, .int .u16 0, .int .u16 0, .int .u16 0]) (t := 24) ?hr ?_; (case hd => rfl); (case hg => rfl); (case hr => first | (go_simp; done) | (go_simp; rfl)); intro gb213 hg w50 hbox hb; have n0_ := Aside0.mk (below_step (by repeat (first | (with_reducible first | exact HB.out | apply below_alloc | apply pw_below_drewN | apply below_drew1) | exact HB.out)) hb); have n1_ := Aside0.mk (hbox); have n2_ := Aside0.mk ((by rw [hg]; exact (below_size (by repeat (first | (with_reducible first | exact HB.out | apply below_alloc | apply pw_below_drewN | apply below_drew1) | exact HB.out))) : w.heap.size ≤ gb213)); have n3_ := Aside0.mk ((by rw [hg]; exact (below_size (by repeat (first | (with_reducible first | exact HB.out | apply below_alloc | apply pw_below_drewN | apply below_drew1) | exact HB.out))) : w.heap.size ≤ gb213)); clear HB; have HB := n0_; have BK213 := n1_; have GW213 := n2_; have GE213 := n3_; clear n0_ n1_ n2_ n3_; clear hb hbox hg; have hcz51_0 : w50.cell? ⟨gb213, 0, none⟩ = some (.int .u8 0) := (blk_cell BK213.out 0).trans rfl; have hcz51_1 : w50.cell? ⟨gb213, 1, none⟩ = some (.int .u16 0) := (blk_cell BK213.out 1).trans rfl; have hcz51_2 : w50.cell? ⟨gb213, 2, none⟩ = some (.int .u16 0) := (blk_cell BK213.out 2).trans rfl; have hcz51_3 : w50.cell? ⟨gb213, 3, none⟩ = some (.int .u16 0) := (blk_cell BK213.out 3).trans rfl; have hcz51_4 : w50.cell? ⟨gb213, 4, none⟩ = some (.int .u16 0) := (blk_cell BK213.out 4).trans rfl; have hfz51_0 := blk_frozen BK213.out 0; have hfz51_1 := blk_frozen BK213.out 1; have hfz51_2 := blk_frozen BK213.out 2; have hfz51_3 := blk_frozen BK213.out 3; have hfz51_4 := blk_frozen BK213.out 4))
  refine bodyPost_ret (results_ct rfl _ _ gb213 24 #[.int .u8 0, .int .u16 0, .int .u16 0, .int .u16 0, .int .u16 0] (0, 0) _ rfl (by (with_reducible repeat (first | refine blk_drewN ?_ _ | refine blk_drew ?_ | refine blk_alloc ?_ _)); refine blk_put (cs := #[.int .u8 0, .int .u16 0, .int .u16 0, .int .u16 0, .int .u16 0]) ?_ 4 _ rfl; (with_reducible repeat (first | refine blk_drewN ?_ _ | refine blk_drew ?_ | refine blk_alloc ?_ _)); refine blk_put (cs := #[.int .u8 0, .int .u16 0, .int .u16 0, .int .u16 0, .int .u16 0]) ?_ 3 _ rfl; (with_reducible repeat (first | refine blk_drewN ?_ _ | refine blk_drew ?_ | refine blk_alloc ?_ _)); refine blk_put (cs := #[.int .u8 0, .int .u16 0, .int .u16 0, .int .u16 0, .int .u16 0]) ?_ 2 _ rfl; (with_reducible repeat (first | refine blk_drewN ?_ _ | refine blk_drew ?_ | refine blk_alloc ?_ _)); refine blk_put (cs := #[.int .u8 0, .int .u16 0, .int .u16 0, .int .u16 0, .int .u16 0]) ?_ 1 _ rfl; (with_reducible repeat (first | refine blk_drewN ?_ _ | refine blk_drew ?_ | refine blk_alloc ?_ _)); refine blk_put (cs := #[.int .u8 0, .int .u16 0, .int .u16 0, .int .u16 0, .int .u16 0]) ?_ 0 _ rfl; (with_reducible repeat (first | refine blk_drewN ?_ _ | refine blk_drew ?_ | refine blk_alloc ?_ _)); exact BK213.out) Try.underlying24 rfl (by kernel_rfl)) rfl ?_
  exact ⟨by first | rfl | (simp [errW_none, errW_some] <;> rfl) | (simp [*, errW_none, errW_some] <;> rfl), by repeat (first | (with_reducible first | exact HB.out | apply below_alloc | apply pw_below_drewN | apply below_drew1 | refine below_set ?_ GE213.out) | exact HB.out)⟩

end Go.Proofs.Ytabkmjimdpdfaaa.PTeleSplits
