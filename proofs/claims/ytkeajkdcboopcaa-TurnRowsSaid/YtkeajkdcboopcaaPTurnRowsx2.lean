-- Written by a program of this session (wip/oprint): after the pattern of the kit's print, which does not take this law. -- trimmed
import Derived.Test.YtkeajkdcboopcaaPTurnRowsx0
import Derived.Test.YtkeajkdcboopcaaPTurnRowsx1
namespace Go.Proofs.Ytkeajkdcboopcaa.PTurnRows
open Go.RowKit Go.Proofs.YtkeajkdcboopcaaW.PrintWords Go.Proofs.YtkeajkdcboopcaaW.PrintLast Go.Proofs.YtkeajkdcboopcaaW.PrintMore
attribute [local go_sem] max2_int min2_int max_two min_two max_three min_three max_four min_four   -- for this text's walks alone
set_option linter.unusedVariables false
set_option linter.unusedSimpArgs false

/-! ### stillagelaw03_TurnRows: function 4 -/
def stillagelaw03_TurnRows.l0 : Nat → Int → Int → Int → List Int → List Int → Int → Option (Bool)
 | 0, _, _, _, _, _, _ => none
 | k + 1, x0, x1, x7, x8, x9, x10 => if x10 < x1 then (if x8.length < 70368744177664 then (if x1 = 0 then (none) else ((some (([IntKind.u16.wrap (x0 + (IntKind.u16.wrap (Int.tmod (wrap64 ((wrap64 (x10 * 7)) + x7)) x1))), IntKind.u16.wrap (x0 + (IntKind.u16.wrap (Int.tmod (wrap64 (x10 + x7)) x1)))] : List Int) : List Int)).bind fun y113 => (if x9.length + y113.length < 70368744177664 then ((turn_Within.f (IntKind.u16.wrap (x0 + (IntKind.u16.wrap (x10)))) x0 x1).bind fun t119 => (if t119 = true then (stillagelaw03_TurnRows.l0 k x0 x1 x7 (x8 ++ [IntKind.u16.wrap (x0 + (IntKind.u16.wrap (x10)))]) (x9 ++ y113) (wrap64 (x10 + 1))) else (some false))) else (none)))) else (none)) else ((turn_Within.f (IntKind.u16.wrap (x0 + (IntKind.u16.wrap (x1)))) x0 x1).bind fun t120 => (if t120 = true then (some false) else ((turn_Within.f (IntKind.u16.wrap (x0 - 1)) x0 x1).bind fun t121 => (if t121 = true then (some false) else ((turn_Order.f x9 x0).bind fun t122 => ((stillageref03_Same.f k t122 x8).bind fun t125 => (some t125)))))))
def stillagelaw03_TurnRows.f (k : Nat) (a0 : Int) (a1 : Int) (a2 : Int) : Option (Bool) := (stillagelaw03_awake.f k).bind fun t109 => (if t109 = true then (if (IntKind.u64.wrap (wrap64 ((wrap64 (Int.tmod (IntKind.u64.wrap (a1)) 200)) + 1))) = 0 then (none) else (stillagelaw03_TurnRows.l0 k a0 (wrap64 ((wrap64 (Int.tmod (IntKind.u64.wrap (a1)) 200)) + 1)) (wrap64 (Int.tmod (IntKind.u64.wrap (a2)) (IntKind.u64.wrap (wrap64 ((wrap64 (Int.tmod (IntKind.u64.wrap (a1)) 200)) + 1))))) ([] : List Int) ([] : List Int) 0)) else (some false))
theorem stillagelaw03_TurnRows.mono_l : ∀ k, (∀ y0 y1 y2 y3 y4 y5, LeO (stillagelaw03_TurnRows.l0 k y0 y1 y2 y3 y4 y5) (stillagelaw03_TurnRows.l0 (k + 1) y0 y1 y2 y3 y4 y5))
 | 0 => fun _ _ _ _ _ _ r h => by simp [stillagelaw03_TurnRows.l0] at h
 | k + 1 => by
  have ih0 := stillagelaw03_TurnRows.mono_l k
  ·intro y0 y1 y2 y3 y4 y5
   unfold stillagelaw03_TurnRows.l0
   repeat' first
   | (with_reducible exact ih0 _ _ _ _ _ _)
   | (with_reducible exact stillagelaw03_awake.mono _)
   | (with_reducible exact stillageref03_Same.mono _ _ _)
   | (with_reducible exact LeO.refl _)
   | (with_reducible exact LeO.none _)
   | (with_reducible refine LeO.ite ?_ ?_)
   | (with_reducible refine LeO.bind ?_ (fun _ => ?_))
   | exact ih0 _ _ _ _ _ _
   | exact stillagelaw03_awake.mono _
   | exact stillageref03_Same.mono _ _ _
   | exact LeO.none _
   | refine LeO.ite ?_ ?_
   | refine LeO.bind ?_ (fun _ => ?_)
theorem stillagelaw03_TurnRows.mono : ∀ a0 a1 a2 k, LeO (stillagelaw03_TurnRows.f k a0 a1 a2) (stillagelaw03_TurnRows.f (k + 1) a0 a1 a2) := by
 intro a0 a1 a2 k
 have ih0 := stillagelaw03_TurnRows.mono_l k
 unfold stillagelaw03_TurnRows.f
 repeat' first
   | (with_reducible exact ih0 _ _ _ _ _ _)
   | (with_reducible exact stillagelaw03_awake.mono _)
   | (with_reducible exact stillageref03_Same.mono _ _ _)
   | (with_reducible exact LeO.refl _)
   | (with_reducible exact LeO.none _)
   | (with_reducible refine LeO.ite ?_ ?_)
   | (with_reducible refine LeO.bind ?_ (fun _ => ?_))
   | exact ih0 _ _ _ _ _ _
   | exact stillagelaw03_awake.mono _
   | exact stillageref03_Same.mono _ _ _
   | exact LeO.none _
   | refine LeO.ite ?_ ?_
   | refine LeO.bind ?_ (fun _ => ?_)
def stillagelaw03_TurnRows.T10 : Bool × List (List Nat × List Nat) := (true, [([], []), ([], []), ([], []), ([2], [2]), ([], []), ([3, 4], [3, 4]), ([], []), ([5, 6], [5, 6]), ([7], [7]), ([1, 8], [1, 8]), ([], []), ([], []), ([], []), ([11, 12], [11, 12]), ([], []), ([13, 14], [13, 14]), ([15], [15]), ([10, 16], [10, 16]), ([9, 17], [9, 17]), ([0, 18], [0, 18]), ([19, 19, 0, 1, 2, 3, 4, 5, 6, 7, 8, 9, 10, 11, 12, 13, 14, 15, 16, 17, 18, 19], [0, 19])])
def stillagelaw03_TurnRows.B10 : List Nat := [0, 0, 0, 4, 0, 28, 0, 124, 252, 510, 0, 0, 0, 6144, 0, 30720, 63488, 130048, 262142, 524287, 1048575]
theorem stillagelaw03_TurnRows.tab10 : rtab .any (opsOf Try.f4 10) = stillagelaw03_TurnRows.T10 := by kernel_rfl
theorem stillagelaw03_TurnRows.bits10 : waitsOk stillagelaw03_TurnRows.T10.2 stillagelaw03_TurnRows.B10 = true := by kernel_rfl
set_option maxHeartbeats 8000000 in
set_option maxRecDepth 100000 in
theorem stillagelaw03_TurnRows.calls (k : Nat) (a0 : Int) (a1 : Int) (a2 : Int) (r : Bool) (w : World) (h : stillagelaw03_TurnRows.f k a0 a1 a2 = some r) :
  Calls Try.prog 4 #[.int .u16 a0, .int .i64 a1, .int .i64 a2] w fun e w' => e = .returned (.bool r) ∧ Below w.heap.size w w' := by
 have HB := Aside0.mk (Below.refl w.heap.size w)
 have H : ((stillagelaw03_awake.f k).bind fun t109 => (if t109 = true then (if (IntKind.u64.wrap (wrap64 ((wrap64 (Int.tmod (IntKind.u64.wrap (a1)) 200)) + 1))) = 0 then (none) else (stillagelaw03_TurnRows.l0 k a0 (wrap64 ((wrap64 (Int.tmod (IntKind.u64.wrap (a1)) 200)) + 1)) (wrap64 (Int.tmod (IntKind.u64.wrap (a2)) (IntKind.u64.wrap (wrap64 ((wrap64 (Int.tmod (IntKind.u64.wrap (a1)) 200)) + 1))))) ([] : List Int) ([] : List Int) 0)) else (some false))) = some r := h
 clear h
 replace H := Option.bind_eq_some_iff.mp H; obtain ⟨t109, A40, H⟩ := H
 replace H : (if t109 = true then (if (IntKind.u64.wrap (wrap64 ((wrap64 (Int.tmod (IntKind.u64.wrap (a1)) 200)) + 1))) = 0 then (none) else (stillagelaw03_TurnRows.l0 k a0 (wrap64 ((wrap64 (Int.tmod (IntKind.u64.wrap (a1)) 200)) + 1)) (wrap64 (Int.tmod (IntKind.u64.wrap (a2)) (IntKind.u64.wrap (wrap64 ((wrap64 (Int.tmod (IntKind.u64.wrap (a1)) 200)) + 1))))) ([] : List Int) ([] : List Int) 0)) else (some false)) = some r := H
 have A4 := Aside0.mk A40
 clear A40
 by_cases c5 : t109 = true
 rotate_left
 ·replace c5 := Bool.eq_false_iff.mpr c5
  subst c5
  have H1 : (some false) = some r := by rw [if_neg (show ¬ (false = true) by decide)] at H; exact H
  clear H; have H := H1; clear H1
  obtain rfl := Option.some.inj H
  go_enter Try.func4, Try.ntmps4
  go_wp2_with (first | ((with_reducible refine gate_callee (f := 5) rfl ?_); refine goesL_ (some 11) rfl rfl Try.func5 (by kernel_rfl) rfl #[] rfl (by (try simp only [List.map_toArray, List.map_cons, List.map_nil]); first | done | rfl | (simp only [List.length_drop, List.length_take]; rfl)) ?_; (with_reducible refine (stillagelaw03_awake.calls k  false _ A4.out).mono ?_); rintro e w' ⟨rfl, ⟨nd, rfl⟩⟩; refine ⟨_, rfl, ?_⟩))
  go_ret
  exact ⟨by first | rfl | (simp [errW_none, errW_some] <;> rfl) | (simp [*, errW_none, errW_some] <;> rfl), by repeat (first | (with_reducible first | exact HB.out | apply below_alloc | apply pw_below_drewN | apply below_drew1) | exact HB.out)⟩

 subst c5
 have H1 : (if (IntKind.u64.wrap (wrap64 ((wrap64 (Int.tmod (IntKind.u64.wrap (a1)) 200)) + 1))) = 0 then (none) else (stillagelaw03_TurnRows.l0 k a0 (wrap64 ((wrap64 (Int.tmod (IntKind.u64.wrap (a1)) 200)) + 1)) (wrap64 (Int.tmod (IntKind.u64.wrap (a2)) (IntKind.u64.wrap (wrap64 ((wrap64 (Int.tmod (IntKind.u64.wrap (a1)) 200)) + 1))))) ([] : List Int) ([] : List Int) 0)) = some r := by rw [if_pos rfl] at H; exact H
 clear H; have H := H1; clear H1
 by_cases c6 : (IntKind.u64.wrap (wrap64 ((wrap64 (Int.tmod (IntKind.u64.wrap (a1)) 200)) + 1))) = 0
 ·rw [if_pos c6] at H
  exact absurd H (by simp)
 rw [if_neg c6] at H
 have c6b0 : ((IntKind.u64.wrap (wrap64 ((wrap64 (Int.tmod (IntKind.u64.wrap (a1)) 200)) + 1))) == 0) = false := beq_eq_false_iff_ne.mpr c6
 have c6b1 : ((IntKind.u64.wrap (wrap64 ((wrap64 (Int.tmod (IntKind.u64.wrap (a1)) 200)) + 1))) != 0) = true := bne_iff_ne.mpr c6
 have H' := Aside0.mk H; clear H
 go_enter Try.func4, Try.ntmps4
 go_wp2_with (first | ((with_reducible refine gate_callee (f := 5) rfl ?_); refine goesL_ (some 11) rfl rfl Try.func5 (by kernel_rfl) rfl #[] rfl (by (try simp only [List.map_toArray, List.map_cons, List.map_nil]); first | done | rfl | (simp only [List.length_drop, List.length_take]; rfl)) ?_; (with_reducible refine (stillagelaw03_awake.calls k  true _ A4.out).mono ?_); rintro e w' ⟨rfl, ⟨nd, rfl⟩⟩; refine ⟨_, rfl, ?_⟩))
 go_loopg [8, 9, 10] k (fun kq v8 v9 v10 w' => ∃ (x8_1 : List Int) (x9_1 : List Int) (x10_1 : Int), v10 = .int .i64 x10_1 ∧ Aside0 (stillagelaw03_TurnRows.l0 kq a0 (wrap64 ((wrap64 (Int.tmod (IntKind.u64.wrap (a1)) 200)) + 1)) (wrap64 (Int.tmod (IntKind.u64.wrap (a2)) (IntKind.u64.wrap (wrap64 ((wrap64 (Int.tmod (IntKind.u64.wrap (a1)) 200)) + 1))))) x8_1 x9_1 x10_1 = some r) ∧ Aside0 (kq ≤ k) ∧ Aside0 (Kd.R (Kd.int .u16) 23 w' w.heap.size (fun k_ => some k_ ≠ (v9 : Value).ownBlock) v8 x8_1) ∧ Aside0 (Kd.R (Kd.int .u16) 23 w' w.heap.size (fun k_ => some k_ ≠ (v8 : Value).ownBlock) v9 x9_1) ∧ Aside0 (Below w.heap.size w w'))
 case atStart => exact ⟨(([] : List Int)), (([] : List Int)), (0), (by first | rfl | (simp; done) | (simp [*]; done)), H', ⟨Nat.le_refl _⟩, ⟨by first | exact Kd.R_nil _ _ _ _ _ | exact Kd.N_nil _ _ _ _ _ | exact Kd.V_nil _ _ _ _ _ | exact Kd.Q_nil _ _ _ _ _ | exact Kd.S_nil _ _ _ _ _⟩, ⟨by first | exact Kd.R_nil _ _ _ _ _ | exact Kd.N_nil _ _ _ _ _ | exact Kd.V_nil _ _ _ _ _ | exact Kd.Q_nil _ _ _ _ _ | exact Kd.S_nil _ _ _ _ _⟩, ⟨by repeat (first | (with_reducible first | exact HB.out | apply below_alloc | apply pw_below_drewN | apply below_drew1) | exact HB.out)⟩⟩
 case round =>
  clear H'
  obtain ⟨x8_1, x9_1, x10_1, rfl, HA, HK1, HO_8, HO_9, HB⟩ := hrel
  cases gk with
  | zero => exact absurd HA.out (by simp [stillagelaw03_TurnRows.l0])
  | succ k1 =>
   have H := HA.out
   clear HA
   simp only [stillagelaw03_TurnRows.l0] at H
   by_cases c7 : x10_1 < (wrap64 ((wrap64 (Int.tmod (IntKind.u64.wrap (a1)) 200)) + 1))
   rotate_left
   ·rw [if_neg c7] at H
    have c7b0 : decide (x10_1 < (wrap64 ((wrap64 (Int.tmod (IntKind.u64.wrap (a1)) 200)) + 1))) = false := decide_eq_false c7
    clear c7
    replace H := Option.bind_eq_some_iff.mp H; obtain ⟨t120, A250, H⟩ := H
    replace H : (if t120 = true then (some false) else ((turn_Within.f (IntKind.u16.wrap (a0 - 1)) a0 (wrap64 ((wrap64 (Int.tmod (IntKind.u64.wrap (a1)) 200)) + 1))).bind fun t121 => (if t121 = true then (some false) else ((turn_Order.f x9_1 a0).bind fun t122 => ((stillageref03_Same.f k1 t122 x8_1).bind fun t125 => (some t125)))))) = some r := H
    have A25 := Aside0.mk A250
    clear A250
    by_cases c26 : t120 = true
    ·subst c26
     have H1 : (some false) = some r := by rw [if_pos rfl] at H; exact H
     clear H; have H := H1; clear H1
     obtain rfl := Option.some.inj H
     go_wp2_with (first | ((with_reducible refine gate_callee (f := 9) rfl ?_); refine goesL_ (some 70) rfl rfl Try.func9 (by kernel_rfl) rfl #[.int .u16 (IntKind.u16.wrap (a0 + (IntKind.u16.wrap ((wrap64 ((wrap64 (Int.tmod (IntKind.u64.wrap (a1)) 200)) + 1)))))), .int .u16 a0, .int .i64 (wrap64 ((wrap64 (Int.tmod (IntKind.u64.wrap (a1)) 200)) + 1))] rfl (by (try simp only [List.map_toArray, List.map_cons, List.map_nil]); first | done | rfl | (simp only [List.length_drop, List.length_take]; rfl)) ?_; (with_reducible refine (turn_Within.calls (IntKind.u16.wrap (a0 + (IntKind.u16.wrap ((wrap64 ((wrap64 (Int.tmod (IntKind.u64.wrap (a1)) 200)) + 1)))))) a0 (wrap64 ((wrap64 (Int.tmod (IntKind.u64.wrap (a1)) 200)) + 1)) true _ A25.out).mono ?_); rintro e w' ⟨rfl, ⟨nd, rfl⟩⟩; refine ⟨_, rfl, ?_⟩))
     go_ret
     exact ⟨by first | rfl | (simp [errW_none, errW_some] <;> rfl) | (simp [*, errW_none, errW_some] <;> rfl), by repeat (first | (with_reducible first | exact HB.out | apply below_alloc | apply pw_below_drewN | apply below_drew1) | exact HB.out)⟩
    replace c26 := Bool.eq_false_iff.mpr c26
    subst c26
    have H1 : ((turn_Within.f (IntKind.u16.wrap (a0 - 1)) a0 (wrap64 ((wrap64 (Int.tmod (IntKind.u64.wrap (a1)) 200)) + 1))).bind fun t121 => (if t121 = true then (some false) else ((turn_Order.f x9_1 a0).bind fun t122 => ((stillageref03_Same.f k1 t122 x8_1).bind fun t125 => (some t125))))) = some r := by rw [if_neg (show ¬ (false = true) by decide)] at H; exact H
    clear H; have H := H1; clear H1
    replace H := Option.bind_eq_some_iff.mp H; obtain ⟨t121, A270, H⟩ := H
    replace H : (if t121 = true then (some false) else ((turn_Order.f x9_1 a0).bind fun t122 => ((stillageref03_Same.f k1 t122 x8_1).bind fun t125 => (some t125)))) = some r := H
    have A27 := Aside0.mk A270
    clear A270
    by_cases c28 : t121 = true
    ·subst c28
     have H1 : (some false) = some r := by rw [if_pos rfl] at H; exact H
     clear H; have H := H1; clear H1
     obtain rfl := Option.some.inj H
     go_wp2_with (first | ((with_reducible refine gate_callee (f := 9) rfl ?_); refine goesL_ (some 70) rfl rfl Try.func9 (by kernel_rfl) rfl #[.int .u16 (IntKind.u16.wrap (a0 + (IntKind.u16.wrap ((wrap64 ((wrap64 (Int.tmod (IntKind.u64.wrap (a1)) 200)) + 1)))))), .int .u16 a0, .int .i64 (wrap64 ((wrap64 (Int.tmod (IntKind.u64.wrap (a1)) 200)) + 1))] rfl (by (try simp only [List.map_toArray, List.map_cons, List.map_nil]); first | done | rfl | (simp only [List.length_drop, List.length_take]; rfl)) ?_; (with_reducible refine (turn_Within.calls (IntKind.u16.wrap (a0 + (IntKind.u16.wrap ((wrap64 ((wrap64 (Int.tmod (IntKind.u64.wrap (a1)) 200)) + 1)))))) a0 (wrap64 ((wrap64 (Int.tmod (IntKind.u64.wrap (a1)) 200)) + 1)) false _ A25.out).mono ?_); rintro e w' ⟨rfl, ⟨nd, rfl⟩⟩; refine ⟨_, rfl, ?_⟩) | (go_at_call 9; (with_reducible refine (turn_Within.calls (IntKind.u16.wrap (a0 - 1)) a0 (wrap64 ((wrap64 (Int.tmod (IntKind.u64.wrap (a1)) 200)) + 1)) true _ A27.out).mono ?_); rintro e w' ⟨rfl, ⟨nd, rfl⟩⟩))
     go_ret
     exact ⟨by first | rfl | (simp [errW_none, errW_some] <;> rfl) | (simp [*, errW_none, errW_some] <;> rfl), by repeat (first | (with_reducible first | exact HB.out | apply below_alloc | apply pw_below_drewN | apply below_drew1) | exact HB.out)⟩
    replace c28 := Bool.eq_false_iff.mpr c28
    subst c28
    have H1 : ((turn_Order.f x9_1 a0).bind fun t122 => ((stillageref03_Same.f k1 t122 x8_1).bind fun t125 => (some t125))) = some r := by rw [if_neg (show ¬ (false = true) by decide)] at H; exact H
    clear H; have H := H1; clear H1
    replace H := Option.bind_eq_some_iff.mp H; obtain ⟨t122, A290, H⟩ := H
    replace H : ((stillageref03_Same.f k1 t122 x8_1).bind fun t125 => (some t125)) = some r := H
    have A29 := Aside0.mk A290
    clear A290
    replace H := Option.bind_eq_some_iff.mp H; obtain ⟨t125, A300, H⟩ := H
    replace H : (some t125) = some r := H
    have A30 := Aside0.mk A300
    clear A300
    obtain rfl := Option.some.inj H
    go_wp2_with (first | ((with_reducible refine gate_callee (f := 9) rfl ?_); refine goesL_ (some 70) rfl rfl Try.func9 (by kernel_rfl) rfl #[.int .u16 (IntKind.u16.wrap (a0 + (IntKind.u16.wrap ((wrap64 ((wrap64 (Int.tmod (IntKind.u64.wrap (a1)) 200)) + 1)))))), .int .u16 a0, .int .i64 (wrap64 ((wrap64 (Int.tmod (IntKind.u64.wrap (a1)) 200)) + 1))] rfl (by (try simp only [List.map_toArray, List.map_cons, List.map_nil]); first | done | rfl | (simp only [List.length_drop, List.length_take]; rfl)) ?_; (with_reducible refine (turn_Within.calls (IntKind.u16.wrap (a0 + (IntKind.u16.wrap ((wrap64 ((wrap64 (Int.tmod (IntKind.u64.wrap (a1)) 200)) + 1)))))) a0 (wrap64 ((wrap64 (Int.tmod (IntKind.u64.wrap (a1)) 200)) + 1)) false _ A25.out).mono ?_); rintro e w' ⟨rfl, ⟨nd, rfl⟩⟩; refine ⟨_, rfl, ?_⟩) | (go_at_call 9; (with_reducible refine (turn_Within.calls (IntKind.u16.wrap (a0 - 1)) a0 (wrap64 ((wrap64 (Int.tmod (IntKind.u64.wrap (a1)) 200)) + 1)) false _ A27.out).mono ?_); rintro e w' ⟨rfl, ⟨nd, rfl⟩⟩; obtain ⟨Ao31, co31, eo31⟩ := Kd.R_slice HO_9.out; subst eo31) | (go_at_call 6; (with_reducible refine (turn_Order.calls _ _ x9_1 a0 t122 _ ?side1 ?side2 A29.out).mono ?_); (case side1 => repeat (first | exact (Kd.R_reads' HO_9.out).2.2 | (with_reducible refine Kd.C_alloc ?_ _) | (with_reducible refine Kd.C_drewN ?_ _) | (with_reducible refine Kd.C_drew ?_))); (case side2 => exact (Kd.R_reads' HO_9.out).2.1); rintro e w32 ⟨v123, rfl, ho0, hb⟩; have HO124 := Aside0.mk (Kd.P_lower (Kd.P_new' (Kd.P_new' ho0 (Kd.R_lt (by (with_reducible repeat (first | apply Kd.R_alloc | apply Kd.R_drewN | apply Kd.R_drew)); exact HO_8.out))) (Kd.R_lt (by (with_reducible repeat (first | apply Kd.R_alloc | apply Kd.R_drewN | apply Kd.R_drew)); exact HO_9.out))) (below_size (by repeat (first | (with_reducible first | exact HB.out | apply below_alloc | apply pw_below_drewN | apply below_drew1) | exact HB.out)))); replace HO_8 := Aside0.mk (Kd.R_elder' (by (with_reducible repeat (first | apply Kd.R_alloc | apply Kd.R_drewN | apply Kd.R_drew)); exact HO_8.out) (Kd.P_base ho0) hb); replace HO_9 := Aside0.mk (Kd.R_elder' (by (with_reducible repeat (first | apply Kd.R_alloc | apply Kd.R_drewN | apply Kd.R_drew)); exact HO_9.out) (Kd.P_base ho0) hb); replace HB := Aside0.mk (below_step (by repeat (first | (with_reducible first | exact HB.out | apply below_alloc | apply pw_below_drewN | apply below_drew1) | exact HB.out)) hb); (try clear hb); (try clear ho0); obtain ⟨Ao33, co33, eo33⟩ := Kd.P_slice HO124.out; subst eo33; obtain ⟨Ao34, co34, eo34⟩ := Kd.R_slice HO_8.out; subst eo34) | (go_at_call 7; (with_reducible refine (stillageref03_Same.calls k1 _ _ t122 _ _ x8_1 t125 _ ?side1 ?side2 ?side3 ?side4 A30.out).mono ?_); (case side1 => repeat (first | exact (Kd.P_reads' HO124.out).2.2 | (with_reducible refine Kd.C_alloc ?_ _) | (with_reducible refine Kd.C_drewN ?_ _) | (with_reducible refine Kd.C_drew ?_))); (case side2 => exact (Kd.P_reads' HO124.out).2.1); (case side3 => repeat (first | exact (Kd.R_reads' HO_8.out).2.2 | (with_reducible refine Kd.C_alloc ?_ _) | (with_reducible refine Kd.C_drewN ?_ _) | (with_reducible refine Kd.C_drew ?_))); (case side4 => exact (Kd.R_reads' HO_8.out).2.1); rintro e w' ⟨rfl, ⟨nd, rfl⟩⟩))
    go_ret
    exact ⟨by first | rfl | (simp [errW_none, errW_some] <;> rfl) | (simp [*, errW_none, errW_some] <;> rfl), by repeat (first | (with_reducible first | exact HB.out | apply below_alloc | apply pw_below_drewN | apply below_drew1) | exact HB.out)⟩
   rw [if_pos c7] at H
   have c7b0 : decide (x10_1 < (wrap64 ((wrap64 (Int.tmod (IntKind.u64.wrap (a1)) 200)) + 1))) = true := decide_eq_true c7
   clear c7
   by_cases c8 : x8_1.length < 70368744177664
   rotate_left; ·rw [if_neg c8] at H; exact absurd H (by simp)
   rw [if_pos c8] at H
   have LMc8 := Aside0.mk c8
   clear c8
   obtain ⟨y110, hy110⟩ : ∃ y_ : List Int, y_ = (x8_1 ++ [IntKind.u16.wrap (a0 + (IntKind.u16.wrap (x10_1)))]) := ⟨_, rfl⟩
   replace H : (if (wrap64 ((wrap64 (Int.tmod (IntKind.u64.wrap (a1)) 200)) + 1)) = 0 then (none) else ((some (([IntKind.u16.wrap (a0 + (IntKind.u16.wrap (Int.tmod (wrap64 ((wrap64 (x10_1 * 7)) + (wrap64 (Int.tmod (IntKind.u64.wrap (a2)) (IntKind.u64.wrap (wrap64 ((wrap64 (Int.tmod (IntKind.u64.wrap (a1)) 200)) + 1))))))) (wrap64 ((wrap64 (Int.tmod (IntKind.u64.wrap (a1)) 200)) + 1))))), IntKind.u16.wrap (a0 + (IntKind.u16.wrap (Int.tmod (wrap64 (x10_1 + (wrap64 (Int.tmod (IntKind.u64.wrap (a2)) (IntKind.u64.wrap (wrap64 ((wrap64 (Int.tmod (IntKind.u64.wrap (a1)) 200)) + 1))))))) (wrap64 ((wrap64 (Int.tmod (IntKind.u64.wrap (a1)) 200)) + 1)))))] : List Int) : List Int)).bind fun y113 => (if x9_1.length + y113.length < 70368744177664 then ((turn_Within.f (IntKind.u16.wrap (a0 + (IntKind.u16.wrap (x10_1)))) a0 (wrap64 ((wrap64 (Int.tmod (IntKind.u64.wrap (a1)) 200)) + 1))).bind fun t119 => (if t119 = true then (stillagelaw03_TurnRows.l0 k1 a0 (wrap64 ((wrap64 (Int.tmod (IntKind.u64.wrap (a1)) 200)) + 1)) (wrap64 (Int.tmod (IntKind.u64.wrap (a2)) (IntKind.u64.wrap (wrap64 ((wrap64 (Int.tmod (IntKind.u64.wrap (a1)) 200)) + 1))))) y110 (x9_1 ++ y113) (wrap64 (x10_1 + 1))) else (some false))) else (none)))) = some r := by first | (rw [hy110]; with_reducible exact H) | (have H2_ := (Option.bind_some _ _).symm.trans H; rw [hy110]; with_reducible exact H2_) | (have H2_ := (Option.bind_some _ _).symm.trans H; with_reducible exact H2_) | with_reducible exact H | (rw [hy110]; exact H) | exact H
   have Ny110 := Aside0.mk hy110
   clear hy110
   by_cases c9 : (wrap64 ((wrap64 (Int.tmod (IntKind.u64.wrap (a1)) 200)) + 1)) = 0
   ·rw [if_pos c9] at H
    exact absurd H (by simp)
   rw [if_neg c9] at H
   have c9b0 : ((wrap64 ((wrap64 (Int.tmod (IntKind.u64.wrap (a1)) 200)) + 1)) == 0) = false := beq_eq_false_iff_ne.mpr c9
   have c9b1 : ((wrap64 ((wrap64 (Int.tmod (IntKind.u64.wrap (a1)) 200)) + 1)) != 0) = true := bne_iff_ne.mpr c9
   obtain ⟨y113, hy113⟩ : ∃ y_ : List Int, y_ = (([IntKind.u16.wrap (a0 + (IntKind.u16.wrap (Int.tmod (wrap64 ((wrap64 (x10_1 * 7)) + (wrap64 (Int.tmod (IntKind.u64.wrap (a2)) (IntKind.u64.wrap (wrap64 ((wrap64 (Int.tmod (IntKind.u64.wrap (a1)) 200)) + 1))))))) (wrap64 ((wrap64 (Int.tmod (IntKind.u64.wrap (a1)) 200)) + 1))))), IntKind.u16.wrap (a0 + (IntKind.u16.wrap (Int.tmod (wrap64 (x10_1 + (wrap64 (Int.tmod (IntKind.u64.wrap (a2)) (IntKind.u64.wrap (wrap64 ((wrap64 (Int.tmod (IntKind.u64.wrap (a1)) 200)) + 1))))))) (wrap64 ((wrap64 (Int.tmod (IntKind.u64.wrap (a1)) 200)) + 1)))))] : List Int)) := ⟨_, rfl⟩
   replace H : (if x9_1.length + y113.length < 70368744177664 then ((turn_Within.f (IntKind.u16.wrap (a0 + (IntKind.u16.wrap (x10_1)))) a0 (wrap64 ((wrap64 (Int.tmod (IntKind.u64.wrap (a1)) 200)) + 1))).bind fun t119 => (if t119 = true then (stillagelaw03_TurnRows.l0 k1 a0 (wrap64 ((wrap64 (Int.tmod (IntKind.u64.wrap (a1)) 200)) + 1)) (wrap64 (Int.tmod (IntKind.u64.wrap (a2)) (IntKind.u64.wrap (wrap64 ((wrap64 (Int.tmod (IntKind.u64.wrap (a1)) 200)) + 1))))) y110 (x9_1 ++ y113) (wrap64 (x10_1 + 1))) else (some false))) else (none)) = some r := by first | (rw [hy113]; with_reducible exact H) | (have H2_ := (Option.bind_some _ _).symm.trans H; rw [hy113]; with_reducible exact H2_) | (have H2_ := (Option.bind_some _ _).symm.trans H; with_reducible exact H2_) | with_reducible exact H | (rw [hy113]; exact H) | exact H
   have Ny113 := Aside0.mk hy113
   clear hy113
   by_cases c10 : x9_1.length + y113.length < 70368744177664
   rotate_left; ·rw [if_neg c10] at H; exact absurd H (by simp)
   rw [if_pos c10] at H
   have LMc10 := Aside0.mk c10
   clear c10
   obtain ⟨y116, hy116⟩ : ∃ y_ : List Int, y_ = (x9_1 ++ y113) := ⟨_, rfl⟩
   replace H : ((turn_Within.f (IntKind.u16.wrap (a0 + (IntKind.u16.wrap (x10_1)))) a0 (wrap64 ((wrap64 (Int.tmod (IntKind.u64.wrap (a1)) 200)) + 1))).bind fun t119 => (if t119 = true then (stillagelaw03_TurnRows.l0 k1 a0 (wrap64 ((wrap64 (Int.tmod (IntKind.u64.wrap (a1)) 200)) + 1)) (wrap64 (Int.tmod (IntKind.u64.wrap (a2)) (IntKind.u64.wrap (wrap64 ((wrap64 (Int.tmod (IntKind.u64.wrap (a1)) 200)) + 1))))) y110 y116 (wrap64 (x10_1 + 1))) else (some false))) = some r := by first | (rw [hy116]; with_reducible exact H) | (have H2_ := (Option.bind_some _ _).symm.trans H; rw [hy116]; with_reducible exact H2_) | (have H2_ := (Option.bind_some _ _).symm.trans H; with_reducible exact H2_) | with_reducible exact H | (rw [hy116]; exact H) | exact H
   have Ny116 := Aside0.mk hy116
   clear hy116
   replace H := Option.bind_eq_some_iff.mp H; obtain ⟨t119, A110, H⟩ := H
   replace H : (if t119 = true then (stillagelaw03_TurnRows.l0 k1 a0 (wrap64 ((wrap64 (Int.tmod (IntKind.u64.wrap (a1)) 200)) + 1)) (wrap64 (Int.tmod (IntKind.u64.wrap (a2)) (IntKind.u64.wrap (wrap64 ((wrap64 (Int.tmod (IntKind.u64.wrap (a1)) 200)) + 1))))) y110 y116 (wrap64 (x10_1 + 1))) else (some false)) = some r := H
   have A11 := Aside0.mk A110
   clear A110
   by_cases c12 : t119 = true
   rotate_left
   ·replace c12 := Bool.eq_false_iff.mpr c12
    subst c12
    have H1 : (some false) = some r := by rw [if_neg (show ¬ (false = true) by decide)] at H; exact H
    clear H; have H := H1; clear H1
    obtain rfl := Option.some.inj H
    try go_wp2_with (first | ((with_reducible refine gate_builtin (b := .append) (xs := #[.tmp 29, .tmp 34]) rfl ?_); at_builtin; refine Kd.R_append (Kd.int .u16) (w0 := w) w.heap.size rfl (.tmp 29) (.tmp 34) 22 23 (.int .u16 0) 2 rfl Try.underlying22 info23 rfl (by decide) (by omega) u8 x8_1 (IntKind.u16.wrap (a0 + (IntKind.u16.wrap (x10_1)))) [.int .u16 (IntKind.u16.wrap (a0 + (IntKind.u16.wrap (x10_1))))] (fun k_ => some k_ ≠ (u9 : Value).ownBlock) (fun _ => False) rfl rfl ?aP (fun _ hk => hk.elim) ?aF ?aO ?aB ?aS ?aL ?_; (case aP => exact rfl); (case aB => exact (by repeat (first | (with_reducible first | exact HB.out | apply below_alloc | apply pw_below_drewN | apply below_drew1) | exact HB.out))); (case aF => exact (fun k_ hk => Kd.fresh' (Kd.R_lt (by (with_reducible repeat (first | apply Kd.R_alloc | apply Kd.R_drewN | apply Kd.R_drew)); exact HO_9.out)) k_ hk)); (case aO => exact (by (with_reducible repeat (first | apply Kd.R_alloc | apply Kd.R_drewN | apply Kd.R_drew)); exact HO_8.out)); (case aS => exact (below_size (by repeat (first | (with_reducible first | exact HB.out | apply below_alloc | apply pw_below_drewN | apply below_drew1) | exact HB.out)))); (case aL => have := LMc8.out; omega); intro v111 w19 ho hb hg hat; rw [← Ny110.out] at ho; replace HO_9 := Aside0.mk (Kd.R_after (ok := (fun _ => True)) (by (with_reducible repeat (first | apply Kd.R_alloc | apply Kd.R_drewN | apply Kd.R_drew)); exact Kd.R_mono HO_9.out (fun _ hk => ⟨trivial, hk⟩)) hg hat); replace HB := Aside0.mk (hb); have HO112 := Aside0.mk (ho); clear HO_8; clear ho hb hg hat))
    have n0_ := Aside0.mk (Kd.R_drew HO_9.out)
    have n1_ := Aside0.mk (Kd.R_drew HO112.out)
    have n2_ := Aside0.mk (below_drew1 HB.out)
    clear HO_9
    clear HO112
    clear HB
    have HO_9 := n0_
    have HO112 := n1_
    have HB := n2_
    clear n0_ n1_ n2_
    refine start_ (n := 21) (S := fun w' => True) (ds := []) #[false, false, false, false, false, false, false, false, false, false, false, false, false, false, false, false, false, false, false, false, false] (by kernel_rfl) rfl rfl trivial (fun hHeld => ?_); refine with_tabW stillagelaw03_TurnRows.tab10 stillagelaw03_TurnRows.bits10 (fun HT_ HW_ => ?_)
    generalize w19.drew = w20 at HO_9 HO112 HB hHeld ⊢
    refine pure_ (i := 0) (N := some 36) (v := ?_) (a' := ?_) #[true, false, false, false, false, false, false, false, false, false, false, false, false, false, false, false, false, false, false, false, false] rfl rfl (any_of HT_.out (by kernel_rfl)) (fun _ _ _ h => h) (Or.inl ⟨by rfl, ?_⟩) ?_ ?_
    rotate_left; ·intro w'; go_simp; with_reducible rfl
    rotate_left; ·simp only [Act.put, List.setIfInBounds_toArray, List.set_cons_zero, List.set_cons_succ, i64_w, i32_w]; rfl
    refine pure_ (i := 1) (N := some 37) (v := ?_) (a' := ?_) #[true, true, false, false, false, false, false, false, false, false, false, false, false, false, false, false, false, false, false, false, false] rfl rfl (any_of HT_.out (by kernel_rfl)) (fun _ _ _ h => h) (Or.inl ⟨by rfl, ?_⟩) ?_ ?_
    rotate_left; ·intro w'; go_simp; with_reducible rfl
    rotate_left; ·simp only [Act.put, List.setIfInBounds_toArray, List.set_cons_zero, List.set_cons_succ, i64_w, i32_w]; rfl
    refine pure_ (i := 2) (N := some 38) (v := ?_) (a' := ?_) #[true, true, true, false, false, false, false, false, false, false, false, false, false, false, false, false, false, false, false, false, false] rfl rfl (any_of HT_.out (by kernel_rfl)) (fun _ _ _ h => h) (Or.inl ⟨by rfl, ?_⟩) ?_ ?_
    rotate_left; ·intro w'; go_simp; with_reducible rfl
    rotate_left; ·simp only [Act.put, List.setIfInBounds_toArray, List.set_cons_zero, List.set_cons_succ, i64_w, i32_w]; rfl
    refine pure_ (i := 3) (N := some 39) (v := ?_) (a' := ?_) #[true, true, true, true, false, false, false, false, false, false, false, false, false, false, false, false, false, false, false, false, false] rfl rfl (any_of HT_.out (by kernel_rfl)) (fun _ _ _ h => h) (Or.inl ⟨by rfl, ?_⟩) ?_ ?_
    rotate_left; ·intro w'; go_simp; with_reducible rfl
    rotate_left; ·simp only [Act.put, List.setIfInBounds_toArray, List.set_cons_zero, List.set_cons_succ, i64_w, i32_w]; rfl
    refine pure_ (i := 4) (N := some 40) (v := ?_) (a' := ?_) #[true, true, true, true, true, false, false, false, false, false, false, false, false, false, false, false, false, false, false, false, false] rfl rfl (any_of HT_.out (by kernel_rfl)) (fun _ _ _ h => h) (Or.inl ⟨by rfl, ?_⟩) ?_ ?_
    rotate_left; ·intro w'; go_simp; with_reducible rfl
    rotate_left; ·simp only [Act.put, List.setIfInBounds_toArray, List.set_cons_zero, List.set_cons_succ, i64_w, i32_w]; rfl
    refine pure_ (i := 5) (N := some 41) (v := ?_) (a' := ?_) #[true, true, true, true, true, true, false, false, false, false, false, false, false, false, false, false, false, false, false, false, false] rfl rfl (any_of HT_.out (by kernel_rfl)) (fun _ _ _ h => h) (Or.inl ⟨by rfl, ?_⟩) ?_ ?_
    rotate_left; ·intro w'; go_simp; with_reducible rfl
    rotate_left; ·simp only [Act.put, List.setIfInBounds_toArray, List.set_cons_zero, List.set_cons_succ, i64_w, i32_w]; rfl
    refine pure_ (i := 6) (N := some 42) (v := ?_) (a' := ?_) #[true, true, true, true, true, true, true, false, false, false, false, false, false, false, false, false, false, false, false, false, false] rfl rfl (any_of HT_.out (by kernel_rfl)) (fun _ _ _ h => h) (Or.inl ⟨by rfl, ?_⟩) ?_ ?_
    rotate_left; ·intro w'; go_simp; with_reducible rfl
    rotate_left; ·simp only [Act.put, List.setIfInBounds_toArray, List.set_cons_zero, List.set_cons_succ, i64_w, i32_w]; rfl
    refine pure_ (i := 7) (N := some 43) (v := ?_) (a' := ?_) #[true, true, true, true, true, true, true, true, false, false, false, false, false, false, false, false, false, false, false, false, false] rfl rfl (any_of HT_.out (by kernel_rfl)) (fun _ _ _ h => h) (Or.inl ⟨by rfl, ?_⟩) ?_ ?_
    rotate_left; ·intro w'; go_simp; with_reducible rfl
    rotate_left; ·simp only [Act.put, List.setIfInBounds_toArray, List.set_cons_zero, List.set_cons_succ, i64_w, i32_w]; rfl
    refine pure_ (i := 8) (N := some 44) (v := ?_) (a' := ?_) #[true, true, true, true, true, true, true, true, true, false, false, false, false, false, false, false, false, false, false, false, false] rfl rfl (any_of HT_.out (by kernel_rfl)) (fun _ _ _ h => h) (Or.inl ⟨by rfl, ?_⟩) ?_ ?_
    rotate_left; ·intro w'; go_simp; with_reducible rfl
    rotate_left; ·simp only [Act.put, List.setIfInBounds_toArray, List.set_cons_zero, List.set_cons_succ, i64_w, i32_w]; rfl
    refine pure_ (i := 9) (N := some 45) (v := ?_) (a' := ?_) #[true, true, true, true, true, true, true, true, true, true, false, false, false, false, false, false, false, false, false, false, false] rfl rfl (any_of HT_.out (by kernel_rfl)) (fun _ _ _ h => h) (Or.inl ⟨by rfl, ?_⟩) ?_ ?_
    rotate_left; ·intro w'; go_simp; with_reducible rfl
    rotate_left; ·simp only [Act.put, List.setIfInBounds_toArray, List.set_cons_zero, List.set_cons_succ, i64_w, i32_w]; rfl
    refine pure_ (i := 10) (N := some 46) (v := ?_) (a' := ?_) #[true, true, true, true, true, true, true, true, true, true, true, false, false, false, false, false, false, false, false, false, false] rfl rfl (any_of HT_.out (by kernel_rfl)) (fun _ _ _ h => h) (Or.inl ⟨by rfl, ?_⟩) ?_ ?_
    rotate_left; ·intro w'; go_simp; with_reducible rfl
    rotate_left; ·simp only [Act.put, List.setIfInBounds_toArray, List.set_cons_zero, List.set_cons_succ, i64_w, i32_w]; rfl
    refine pure_ (i := 11) (N := some 47) (v := ?_) (a' := ?_) #[true, true, true, true, true, true, true, true, true, true, true, true, false, false, false, false, false, false, false, false, false] rfl rfl (any_of HT_.out (by kernel_rfl)) (fun _ _ _ h => h) (Or.inl ⟨by rfl, ?_⟩) ?_ ?_
    rotate_left; ·intro w'; go_simp; with_reducible rfl
    rotate_left; ·simp only [Act.put, List.setIfInBounds_toArray, List.set_cons_zero, List.set_cons_succ, i64_w, i32_w]; rfl
    refine pure_ (i := 12) (N := some 48) (v := ?_) (a' := ?_) #[true, true, true, true, true, true, true, true, true, true, true, true, true, false, false, false, false, false, false, false, false] rfl rfl (any_of HT_.out (by kernel_rfl)) (fun _ _ _ h => h) (Or.inl ⟨by rfl, ?_⟩) ?_ ?_
    rotate_left; ·intro w'; go_simp; with_reducible rfl
    rotate_left; ·simp only [Act.put, List.setIfInBounds_toArray, List.set_cons_zero, List.set_cons_succ, i64_w, i32_w]; rfl
    refine pure_ (i := 13) (N := some 49) (v := ?_) (a' := ?_) #[true, true, true, true, true, true, true, true, true, true, true, true, true, true, false, false, false, false, false, false, false] rfl rfl (any_of HT_.out (by kernel_rfl)) (fun _ _ _ h => h) (Or.inl ⟨by rfl, ?_⟩) ?_ ?_
    rotate_left; ·intro w'; go_simp; with_reducible rfl
    rotate_left; ·simp only [Act.put, List.setIfInBounds_toArray, List.set_cons_zero, List.set_cons_succ, i64_w, i32_w]; rfl
    refine pure_ (i := 14) (N := some 50) (v := ?_) (a' := ?_) #[true, true, true, true, true, true, true, true, true, true, true, true, true, true, true, false, false, false, false, false, false] rfl rfl (any_of HT_.out (by kernel_rfl)) (fun _ _ _ h => h) (Or.inl ⟨by rfl, ?_⟩) ?_ ?_
    rotate_left; ·intro w'; go_simp; with_reducible rfl
    rotate_left; ·simp only [Act.put, List.setIfInBounds_toArray, List.set_cons_zero, List.set_cons_succ, i64_w, i32_w]; rfl
    refine pure_ (i := 15) (N := some 51) (v := ?_) (a' := ?_) #[true, true, true, true, true, true, true, true, true, true, true, true, true, true, true, true, false, false, false, false, false] rfl rfl (any_of HT_.out (by kernel_rfl)) (fun _ _ _ h => h) (Or.inl ⟨by rfl, ?_⟩) ?_ ?_
    rotate_left; ·intro w'; go_simp; with_reducible rfl
    rotate_left; ·simp only [Act.put, List.setIfInBounds_toArray, List.set_cons_zero, List.set_cons_succ, i64_w, i32_w]; rfl
    refine pure_ (i := 16) (N := some 52) (v := ?_) (a' := ?_) #[true, true, true, true, true, true, true, true, true, true, true, true, true, true, true, true, true, false, false, false, false] rfl rfl (any_of HT_.out (by kernel_rfl)) (fun _ _ _ h => h) (Or.inl ⟨by rfl, ?_⟩) ?_ ?_
    rotate_left; ·intro w'; go_simp; with_reducible rfl
    rotate_left; ·simp only [Act.put, List.setIfInBounds_toArray, List.set_cons_zero, List.set_cons_succ, i64_w, i32_w]; rfl
    refine pure_ (i := 17) (N := some 53) (v := ?_) (a' := ?_) #[true, true, true, true, true, true, true, true, true, true, true, true, true, true, true, true, true, true, false, false, false] rfl rfl (any_of HT_.out (by kernel_rfl)) (fun _ _ _ h => h) (Or.inl ⟨by rfl, ?_⟩) ?_ ?_
    rotate_left; ·intro w'; go_simp; with_reducible rfl
    rotate_left; ·simp only [Act.put, List.setIfInBounds_toArray, List.set_cons_zero, List.set_cons_succ, i64_w, i32_w]; rfl
    refine one_ (i := 18) (N := some 54) #[true, true, true, true, true, true, true, true, true, true, true, true, true, true, true, true, true, true, true, false, false] rfl rfl (one_of HT_.out (by kernel_rfl)) (by decide) (fun K hK => ?_)
    refine Kd.R_lit_step (Kd.int .u16) _ 23 ?hg (N := 54) ?hd (xs := ([IntKind.u16.wrap (a0 + (IntKind.u16.wrap (Int.tmod (wrap64 ((wrap64 (x10_1 * 7)) + (wrap64 (Int.tmod (IntKind.u64.wrap (a2)) (IntKind.u64.wrap (wrap64 ((wrap64 (Int.tmod (IntKind.u64.wrap (a1)) 200)) + 1))))))) (wrap64 ((wrap64 (Int.tmod (IntKind.u64.wrap (a1)) 200)) + 1))))), IntKind.u16.wrap (a0 + (IntKind.u16.wrap (Int.tmod (wrap64 (x10_1 + (wrap64 (Int.tmod (IntKind.u64.wrap (a2)) (IntKind.u64.wrap (wrap64 ((wrap64 (Int.tmod (IntKind.u64.wrap (a1)) 200)) + 1))))))) (wrap64 ((wrap64 (Int.tmod (IntKind.u64.wrap (a1)) 200)) + 1)))))] : List Int)) (inner := [.int .u16 (IntKind.u16.wrap (a0 + (IntKind.u16.wrap (Int.tmod (wrap64 ((wrap64 (x10_1 * 7)) + (wrap64 (Int.tmod (IntKind.u64.wrap (a2)) (IntKind.u64.wrap (wrap64 ((wrap64 (Int.tmod (IntKind.u64.wrap (a1)) 200)) + 1))))))) (wrap64 ((wrap64 (Int.tmod (IntKind.u64.wrap (a1)) 200)) + 1)))))), .int .u16 (IntKind.u16.wrap (a0 + (IntKind.u16.wrap (Int.tmod (wrap64 (x10_1 + (wrap64 (Int.tmod (IntKind.u64.wrap (a2)) (IntKind.u64.wrap (wrap64 ((wrap64 (Int.tmod (IntKind.u64.wrap (a1)) 200)) + 1))))))) (wrap64 ((wrap64 (Int.tmod (IntKind.u64.wrap (a1)) 200)) + 1))))))]) (ok := fun _ => True) (okp := fun _ => True) ?hr ?hp (fun _ hk => hk) trivial (Below.refl _ _) (Nat.le_refl _) (by simp) ?_; (case hd => rfl); (case hg => rfl); (case hr => first | (go_simp; done) | (go_simp; rfl)); (case hp => exact (Reps.one (show Kd.M (Kd.int .u16) _ _ _ (IntKind.u16.wrap (a0 + (IntKind.u16.wrap (Int.tmod (wrap64 ((wrap64 (x10_1 * 7)) + (wrap64 (Int.tmod (IntKind.u64.wrap (a2)) (IntKind.u64.wrap (wrap64 ((wrap64 (Int.tmod (IntKind.u64.wrap (a1)) 200)) + 1))))))) (wrap64 ((wrap64 (Int.tmod (IntKind.u64.wrap (a1)) 200)) + 1)))))) [.int .u16 (IntKind.u16.wrap (a0 + (IntKind.u16.wrap (Int.tmod (wrap64 ((wrap64 (x10_1 * 7)) + (wrap64 (Int.tmod (IntKind.u64.wrap (a2)) (IntKind.u64.wrap (wrap64 ((wrap64 (Int.tmod (IntKind.u64.wrap (a1)) 200)) + 1))))))) (wrap64 ((wrap64 (Int.tmod (IntKind.u64.wrap (a1)) 200)) + 1))))))] from rfl) (Reps.one (show Kd.M (Kd.int .u16) _ _ _ (IntKind.u16.wrap (a0 + (IntKind.u16.wrap (Int.tmod (wrap64 (x10_1 + (wrap64 (Int.tmod (IntKind.u64.wrap (a2)) (IntKind.u64.wrap (wrap64 ((wrap64 (Int.tmod (IntKind.u64.wrap (a1)) 200)) + 1))))))) (wrap64 ((wrap64 (Int.tmod (IntKind.u64.wrap (a1)) 200)) + 1)))))) [.int .u16 (IntKind.u16.wrap (a0 + (IntKind.u16.wrap (Int.tmod (wrap64 (x10_1 + (wrap64 (Int.tmod (IntKind.u64.wrap (a2)) (IntKind.u64.wrap (wrap64 ((wrap64 (Int.tmod (IntKind.u64.wrap (a1)) 200)) + 1))))))) (wrap64 ((wrap64 (Int.tmod (IntKind.u64.wrap (a1)) 200)) + 1))))))] from rfl) (Reps.none _ _))))
    intro v114 w21 ho22 hb hg_ hnew_
    clear hg_ hnew_
    (first | rw [← Ny113.out] at ho22 | (simp only [Int.reduceToNat] at ho22; rw [← Ny113.out] at ho22))
    have n0_ := Aside0.mk (Kd.R_elder' (by (with_reducible repeat (first | apply Kd.R_alloc | apply Kd.R_drewN | apply Kd.R_drew)); exact HO_9.out) (Kd.R_base ho22) hb)
    have n1_ := Aside0.mk (Kd.R_elder' (by (with_reducible repeat (first | apply Kd.R_alloc | apply Kd.R_drewN | apply Kd.R_drew)); exact HO112.out) (Kd.R_base ho22) hb)
    have n2_ := Aside0.mk (Kd.R_lower (Kd.R_new' (Kd.R_new' ho22 (Kd.R_lt (by (with_reducible repeat (first | apply Kd.R_alloc | apply Kd.R_drewN | apply Kd.R_drew)); exact HO_9.out))) (Kd.R_lt (by (with_reducible repeat (first | apply Kd.R_alloc | apply Kd.R_drewN | apply Kd.R_drew)); exact HO112.out))) (below_size (by repeat (first | (with_reducible first | exact HB.out | apply below_alloc | apply pw_below_drewN | apply below_drew1) | exact HB.out))))
    have n3_ := Aside0.mk (below_step (by repeat (first | (with_reducible first | exact HB.out | apply below_alloc | apply pw_below_drewN | apply below_drew1) | exact HB.out)) hb)
    clear HO_9
    clear HO112
    clear HB
    have HO_9 := n0_
    have HO112 := n1_
    have HO115 := n2_
    have HB := n3_
    clear n0_ n1_ n2_ n3_
    clear hb ho22
    obtain ⟨Ao24, co24, eo24⟩ := Kd.R_slice HO115.out
    (first | subst eo24 | (injection eo24 with f1_ f2_ f3_; have f4_ := f1_.symm; have f5_ := f3_.symm; clear f1_ f2_ f3_; subst f4_; subst f5_))
    refine hK.out _ _ trivial (fun hHeld => ?_)
    clear hK K
    refine norm_ (a' := ?_) ?_ ?_
    rotate_left
    ·show Act.put _ (some 54) _ = _
     simp only [Act.put, List.setIfInBounds_toArray, List.set_cons_zero, List.set_cons_succ, i64_w, i32_w]
     rfl
    refine one_ (i := 19) (N := some 55) #[true, true, true, true, true, true, true, true, true, true, true, true, true, true, true, true, true, true, true, true, false] rfl rfl (one_of HT_.out (by kernel_rfl)) (by decide) (fun K hK => ?_)
    refine Kd.R_append_rows_step (Kd.int .u16) (w0 := w) w.heap.size (by rfl) (.tmp 36) (.tmp 54) 22 23 (.int .u16 0) 2 rfl Try.underlying22 info23 rfl (by decide) (by omega) u9 x9_1 y113 _ _ _ (fun k_ => some k_ ≠ (v111 : Value).ownBlock ∧ some k_ ≠ (.slice Ao24 y113.length co24 : Value).ownBlock) (fun _ => False) rfl rfl ?aO ?aR (fun _ _ h => h) (fun _ h => h.elim) ?aF ?aB ?aS ?aL ?_
    (case aR => repeat (first | exact (Kd.R_reads' HO115.out).2.2 | (with_reducible refine Kd.C_alloc ?_ _) | (with_reducible refine Kd.C_drewN ?_ _) | (with_reducible refine Kd.C_drew ?_)))
    (case aB => exact (by repeat (first | (with_reducible first | exact HB.out | apply below_alloc | apply pw_below_drewN | apply below_drew1) | exact HB.out)))
    (case aF => exact (fun k_ hk => ⟨Kd.fresh' (Kd.R_lt (by (with_reducible repeat (first | apply Kd.R_alloc | apply Kd.R_drewN | apply Kd.R_drew)); exact HO112.out)) k_ hk, Kd.fresh' (Kd.R_lt (by (with_reducible repeat (first | apply Kd.R_alloc | apply Kd.R_drewN | apply Kd.R_drew)); exact HO115.out)) k_ hk⟩))
    (case aO => exact (by (with_reducible repeat (first | apply Kd.R_alloc | apply Kd.R_drewN | apply Kd.R_drew)); exact Kd.R_mono HO_9.out (fun _ hk => ⟨hk.1.2, hk.2⟩)))
    (case aS => exact (below_size (by repeat (first | (with_reducible first | exact HB.out | apply below_alloc | apply pw_below_drewN | apply below_drew1) | exact HB.out))))
    (case aL => have := LMc10.out; omega)
    intro v117 w23 ho hb hg hat
    rw [← Ny116.out] at ho
    have n0_ := Aside0.mk (Kd.R_after (ok := (fun k_ => some k_ ≠ (.slice Ao24 y113.length co24 : Value).ownBlock)) (by (with_reducible repeat (first | apply Kd.R_alloc | apply Kd.R_drewN | apply Kd.R_drew)); exact Kd.R_mono HO112.out (fun _ hk => ⟨hk.2, hk.1⟩)) hg hat)
    have n1_ := Aside0.mk (Kd.R_after (ok := (fun k_ => some k_ ≠ (v111 : Value).ownBlock)) (by (with_reducible repeat (first | apply Kd.R_alloc | apply Kd.R_drewN | apply Kd.R_drew)); exact Kd.R_mono HO115.out (fun _ hk => ⟨hk.2, hk.1.2⟩)) hg hat)
    have n2_ := Aside0.mk (hb)
    have n3_ := Aside0.mk (ho)
    clear HO112
    clear HO115
    clear HB
    clear HO_9
    have HO112 := n0_
    have HO115 := n1_
    have HB := n2_
    have HO118 := n3_
    clear n0_ n1_ n2_ n3_
    clear ho hb hg hat
    refine hK.out _ _ trivial (fun hHeld => ?_)
    clear hK K
    refine norm_ (a' := ?_) ?_ ?_
    rotate_left
    ·show Act.put _ (some 55) _ = _
     simp only [Act.put, List.setIfInBounds_toArray, List.set_cons_zero, List.set_cons_succ, i64_w, i32_w]
     rfl
    refine pure_ (i := 20) (N := some 9) (v := ?_) (a' := ?_) #[true, true, true, true, true, true, true, true, true, true, true, true, true, true, true, true, true, true, true, true, true] rfl rfl (any_of HT_.out (by kernel_rfl)) (fun _ _ _ h => h) (Or.inl ⟨by rfl, ?_⟩) ?_ ?_
    rotate_left; ·intro w'; go_simp; with_reducible rfl
    rotate_left; ·simp only [Act.put, List.setIfInBounds_toArray, List.set_cons_zero, List.set_cons_succ, i64_w, i32_w]; rfl
    refine done_ (done_of HT_.out (by kernel_rfl)) ?_
    try go_wp2_with (first | ((with_reducible refine gate_callee (f := 9) rfl ?_); refine goesL_ (some 62) rfl rfl Try.func9 (by kernel_rfl) rfl #[.int .u16 (IntKind.u16.wrap (a0 + (IntKind.u16.wrap (x10_1)))), .int .u16 a0, .int .i64 (wrap64 ((wrap64 (Int.tmod (IntKind.u64.wrap (a1)) 200)) + 1))] rfl (by (try simp only [List.map_toArray, List.map_cons, List.map_nil]); first | done | rfl | (simp only [List.length_drop, List.length_take]; rfl)) ?_; (with_reducible refine (turn_Within.calls (IntKind.u16.wrap (a0 + (IntKind.u16.wrap (x10_1)))) a0 (wrap64 ((wrap64 (Int.tmod (IntKind.u64.wrap (a1)) 200)) + 1)) false _ A11.out).mono ?_); rintro e w' ⟨rfl, ⟨nd, rfl⟩⟩; refine ⟨_, rfl, ?_⟩))
    go_ret
    exact ⟨by first | rfl | (simp [errW_none, errW_some] <;> rfl) | (simp [*, errW_none, errW_some] <;> rfl), by repeat (first | (with_reducible first | exact HB.out | apply below_alloc | apply pw_below_drewN | apply below_drew1) | exact HB.out)⟩
   subst c12
   have H1 : (stillagelaw03_TurnRows.l0 k1 a0 (wrap64 ((wrap64 (Int.tmod (IntKind.u64.wrap (a1)) 200)) + 1)) (wrap64 (Int.tmod (IntKind.u64.wrap (a2)) (IntKind.u64.wrap (wrap64 ((wrap64 (Int.tmod (IntKind.u64.wrap (a1)) 200)) + 1))))) y110 y116 (wrap64 (x10_1 + 1))) = some r := by rw [if_pos rfl] at H; exact H
   clear H; have H := H1; clear H1
   have H' := Aside0.mk H; clear H
   try go_wp2_with (first | ((with_reducible refine gate_builtin (b := .append) (xs := #[.tmp 29, .tmp 34]) rfl ?_); at_builtin; refine Kd.R_append (Kd.int .u16) (w0 := w) w.heap.size rfl (.tmp 29) (.tmp 34) 22 23 (.int .u16 0) 2 rfl Try.underlying22 info23 rfl (by decide) (by omega) u8 x8_1 (IntKind.u16.wrap (a0 + (IntKind.u16.wrap (x10_1)))) [.int .u16 (IntKind.u16.wrap (a0 + (IntKind.u16.wrap (x10_1))))] (fun k_ => some k_ ≠ (u9 : Value).ownBlock) (fun _ => False) rfl rfl ?aP (fun _ hk => hk.elim) ?aF ?aO ?aB ?aS ?aL ?_; (case aP => exact rfl); (case aB => exact (by repeat (first | (with_reducible first | exact HB.out | apply below_alloc | apply pw_below_drewN | apply below_drew1) | exact HB.out))); (case aF => exact (fun k_ hk => Kd.fresh' (Kd.R_lt (by (with_reducible repeat (first | apply Kd.R_alloc | apply Kd.R_drewN | apply Kd.R_drew)); exact HO_9.out)) k_ hk)); (case aO => exact (by (with_reducible repeat (first | apply Kd.R_alloc | apply Kd.R_drewN | apply Kd.R_drew)); exact HO_8.out)); (case aS => exact (below_size (by repeat (first | (with_reducible first | exact HB.out | apply below_alloc | apply pw_below_drewN | apply below_drew1) | exact HB.out)))); (case aL => have := LMc8.out; omega); intro v111 w13 ho hb hg hat; rw [← Ny110.out] at ho; replace HO_9 := Aside0.mk (Kd.R_after (ok := (fun _ => True)) (by (with_reducible repeat (first | apply Kd.R_alloc | apply Kd.R_drewN | apply Kd.R_drew)); exact Kd.R_mono HO_9.out (fun _ hk => ⟨trivial, hk⟩)) hg hat); replace HB := Aside0.mk (hb); have HO112 := Aside0.mk (ho); clear HO_8; clear ho hb hg hat))
   have n0_ := Aside0.mk (Kd.R_drew HO_9.out)
   have n1_ := Aside0.mk (Kd.R_drew HO112.out)
   have n2_ := Aside0.mk (below_drew1 HB.out)
   clear HO_9
   clear HO112
   clear HB
   have HO_9 := n0_
   have HO112 := n1_
   have HB := n2_
   clear n0_ n1_ n2_
   refine start_ (n := 21) (S := fun w' => True) (ds := []) #[false, false, false, false, false, false, false, false, false, false, false, false, false, false, false, false, false, false, false, false, false] (by kernel_rfl) rfl rfl trivial (fun hHeld => ?_); refine with_tabW stillagelaw03_TurnRows.tab10 stillagelaw03_TurnRows.bits10 (fun HT_ HW_ => ?_)
   generalize w13.drew = w14 at HO_9 HO112 HB hHeld ⊢
   refine pure_ (i := 0) (N := some 36) (v := ?_) (a' := ?_) #[true, false, false, false, false, false, false, false, false, false, false, false, false, false, false, false, false, false, false, false, false] rfl rfl (any_of HT_.out (by kernel_rfl)) (fun _ _ _ h => h) (Or.inl ⟨by rfl, ?_⟩) ?_ ?_
   rotate_left; ·intro w'; go_simp; with_reducible rfl
   rotate_left; ·simp only [Act.put, List.setIfInBounds_toArray, List.set_cons_zero, List.set_cons_succ, i64_w, i32_w]; rfl
   refine pure_ (i := 1) (N := some 37) (v := ?_) (a' := ?_) #[true, true, false, false, false, false, false, false, false, false, false, false, false, false, false, false, false, false, false, false, false] rfl rfl (any_of HT_.out (by kernel_rfl)) (fun _ _ _ h => h) (Or.inl ⟨by rfl, ?_⟩) ?_ ?_
   rotate_left; ·intro w'; go_simp; with_reducible rfl
   rotate_left; ·simp only [Act.put, List.setIfInBounds_toArray, List.set_cons_zero, List.set_cons_succ, i64_w, i32_w]; rfl
   refine pure_ (i := 2) (N := some 38) (v := ?_) (a' := ?_) #[true, true, true, false, false, false, false, false, false, false, false, false, false, false, false, false, false, false, false, false, false] rfl rfl (any_of HT_.out (by kernel_rfl)) (fun _ _ _ h => h) (Or.inl ⟨by rfl, ?_⟩) ?_ ?_
   rotate_left; ·intro w'; go_simp; with_reducible rfl
   rotate_left; ·simp only [Act.put, List.setIfInBounds_toArray, List.set_cons_zero, List.set_cons_succ, i64_w, i32_w]; rfl
   refine pure_ (i := 3) (N := some 39) (v := ?_) (a' := ?_) #[true, true, true, true, false, false, false, false, false, false, false, false, false, false, false, false, false, false, false, false, false] rfl rfl (any_of HT_.out (by kernel_rfl)) (fun _ _ _ h => h) (Or.inl ⟨by rfl, ?_⟩) ?_ ?_
   rotate_left; ·intro w'; go_simp; with_reducible rfl
   rotate_left; ·simp only [Act.put, List.setIfInBounds_toArray, List.set_cons_zero, List.set_cons_succ, i64_w, i32_w]; rfl
   refine pure_ (i := 4) (N := some 40) (v := ?_) (a' := ?_) #[true, true, true, true, true, false, false, false, false, false, false, false, false, false, false, false, false, false, false, false, false] rfl rfl (any_of HT_.out (by kernel_rfl)) (fun _ _ _ h => h) (Or.inl ⟨by rfl, ?_⟩) ?_ ?_
   rotate_left; ·intro w'; go_simp; with_reducible rfl
   rotate_left; ·simp only [Act.put, List.setIfInBounds_toArray, List.set_cons_zero, List.set_cons_succ, i64_w, i32_w]; rfl
   refine pure_ (i := 5) (N := some 41) (v := ?_) (a' := ?_) #[true, true, true, true, true, true, false, false, false, false, false, false, false, false, false, false, false, false, false, false, false] rfl rfl (any_of HT_.out (by kernel_rfl)) (fun _ _ _ h => h) (Or.inl ⟨by rfl, ?_⟩) ?_ ?_
   rotate_left; ·intro w'; go_simp; with_reducible rfl
   rotate_left; ·simp only [Act.put, List.setIfInBounds_toArray, List.set_cons_zero, List.set_cons_succ, i64_w, i32_w]; rfl
   refine pure_ (i := 6) (N := some 42) (v := ?_) (a' := ?_) #[true, true, true, true, true, true, true, false, false, false, false, false, false, false, false, false, false, false, false, false, false] rfl rfl (any_of HT_.out (by kernel_rfl)) (fun _ _ _ h => h) (Or.inl ⟨by rfl, ?_⟩) ?_ ?_
   rotate_left; ·intro w'; go_simp; with_reducible rfl
   rotate_left; ·simp only [Act.put, List.setIfInBounds_toArray, List.set_cons_zero, List.set_cons_succ, i64_w, i32_w]; rfl
   refine pure_ (i := 7) (N := some 43) (v := ?_) (a' := ?_) #[true, true, true, true, true, true, true, true, false, false, false, false, false, false, false, false, false, false, false, false, false] rfl rfl (any_of HT_.out (by kernel_rfl)) (fun _ _ _ h => h) (Or.inl ⟨by rfl, ?_⟩) ?_ ?_
   rotate_left; ·intro w'; go_simp; with_reducible rfl
   rotate_left; ·simp only [Act.put, List.setIfInBounds_toArray, List.set_cons_zero, List.set_cons_succ, i64_w, i32_w]; rfl
   refine pure_ (i := 8) (N := some 44) (v := ?_) (a' := ?_) #[true, true, true, true, true, true, true, true, true, false, false, false, false, false, false, false, false, false, false, false, false] rfl rfl (any_of HT_.out (by kernel_rfl)) (fun _ _ _ h => h) (Or.inl ⟨by rfl, ?_⟩) ?_ ?_
   rotate_left; ·intro w'; go_simp; with_reducible rfl
   rotate_left; ·simp only [Act.put, List.setIfInBounds_toArray, List.set_cons_zero, List.set_cons_succ, i64_w, i32_w]; rfl
   refine pure_ (i := 9) (N := some 45) (v := ?_) (a' := ?_) #[true, true, true, true, true, true, true, true, true, true, false, false, false, false, false, false, false, false, false, false, false] rfl rfl (any_of HT_.out (by kernel_rfl)) (fun _ _ _ h => h) (Or.inl ⟨by rfl, ?_⟩) ?_ ?_
   rotate_left; ·intro w'; go_simp; with_reducible rfl
   rotate_left; ·simp only [Act.put, List.setIfInBounds_toArray, List.set_cons_zero, List.set_cons_succ, i64_w, i32_w]; rfl
   refine pure_ (i := 10) (N := some 46) (v := ?_) (a' := ?_) #[true, true, true, true, true, true, true, true, true, true, true, false, false, false, false, false, false, false, false, false, false] rfl rfl (any_of HT_.out (by kernel_rfl)) (fun _ _ _ h => h) (Or.inl ⟨by rfl, ?_⟩) ?_ ?_
   rotate_left; ·intro w'; go_simp; with_reducible rfl
   rotate_left; ·simp only [Act.put, List.setIfInBounds_toArray, List.set_cons_zero, List.set_cons_succ, i64_w, i32_w]; rfl
   refine pure_ (i := 11) (N := some 47) (v := ?_) (a' := ?_) #[true, true, true, true, true, true, true, true, true, true, true, true, false, false, false, false, false, false, false, false, false] rfl rfl (any_of HT_.out (by kernel_rfl)) (fun _ _ _ h => h) (Or.inl ⟨by rfl, ?_⟩) ?_ ?_
   rotate_left; ·intro w'; go_simp; with_reducible rfl
   rotate_left; ·simp only [Act.put, List.setIfInBounds_toArray, List.set_cons_zero, List.set_cons_succ, i64_w, i32_w]; rfl
   refine pure_ (i := 12) (N := some 48) (v := ?_) (a' := ?_) #[true, true, true, true, true, true, true, true, true, true, true, true, true, false, false, false, false, false, false, false, false] rfl rfl (any_of HT_.out (by kernel_rfl)) (fun _ _ _ h => h) (Or.inl ⟨by rfl, ?_⟩) ?_ ?_
   rotate_left; ·intro w'; go_simp; with_reducible rfl
   rotate_left; ·simp only [Act.put, List.setIfInBounds_toArray, List.set_cons_zero, List.set_cons_succ, i64_w, i32_w]; rfl
   refine pure_ (i := 13) (N := some 49) (v := ?_) (a' := ?_) #[true, true, true, true, true, true, true, true, true, true, true, true, true, true, false, false, false, false, false, false, false] rfl rfl (any_of HT_.out (by kernel_rfl)) (fun _ _ _ h => h) (Or.inl ⟨by rfl, ?_⟩) ?_ ?_
   rotate_left; ·intro w'; go_simp; with_reducible rfl
   rotate_left; ·simp only [Act.put, List.setIfInBounds_toArray, List.set_cons_zero, List.set_cons_succ, i64_w, i32_w]; rfl
   refine pure_ (i := 14) (N := some 50) (v := ?_) (a' := ?_) #[true, true, true, true, true, true, true, true, true, true, true, true, true, true, true, false, false, false, false, false, false] rfl rfl (any_of HT_.out (by kernel_rfl)) (fun _ _ _ h => h) (Or.inl ⟨by rfl, ?_⟩) ?_ ?_
   rotate_left; ·intro w'; go_simp; with_reducible rfl
   rotate_left; ·simp only [Act.put, List.setIfInBounds_toArray, List.set_cons_zero, List.set_cons_succ, i64_w, i32_w]; rfl
   refine pure_ (i := 15) (N := some 51) (v := ?_) (a' := ?_) #[true, true, true, true, true, true, true, true, true, true, true, true, true, true, true, true, false, false, false, false, false] rfl rfl (any_of HT_.out (by kernel_rfl)) (fun _ _ _ h => h) (Or.inl ⟨by rfl, ?_⟩) ?_ ?_
   rotate_left; ·intro w'; go_simp; with_reducible rfl
   rotate_left; ·simp only [Act.put, List.setIfInBounds_toArray, List.set_cons_zero, List.set_cons_succ, i64_w, i32_w]; rfl
   refine pure_ (i := 16) (N := some 52) (v := ?_) (a' := ?_) #[true, true, true, true, true, true, true, true, true, true, true, true, true, true, true, true, true, false, false, false, false] rfl rfl (any_of HT_.out (by kernel_rfl)) (fun _ _ _ h => h) (Or.inl ⟨by rfl, ?_⟩) ?_ ?_
   rotate_left; ·intro w'; go_simp; with_reducible rfl
   rotate_left; ·simp only [Act.put, List.setIfInBounds_toArray, List.set_cons_zero, List.set_cons_succ, i64_w, i32_w]; rfl
   refine pure_ (i := 17) (N := some 53) (v := ?_) (a' := ?_) #[true, true, true, true, true, true, true, true, true, true, true, true, true, true, true, true, true, true, false, false, false] rfl rfl (any_of HT_.out (by kernel_rfl)) (fun _ _ _ h => h) (Or.inl ⟨by rfl, ?_⟩) ?_ ?_
   rotate_left; ·intro w'; go_simp; with_reducible rfl
   rotate_left; ·simp only [Act.put, List.setIfInBounds_toArray, List.set_cons_zero, List.set_cons_succ, i64_w, i32_w]; rfl
   refine one_ (i := 18) (N := some 54) #[true, true, true, true, true, true, true, true, true, true, true, true, true, true, true, true, true, true, true, false, false] rfl rfl (one_of HT_.out (by kernel_rfl)) (by decide) (fun K hK => ?_)
   refine Kd.R_lit_step (Kd.int .u16) _ 23 ?hg (N := 54) ?hd (xs := ([IntKind.u16.wrap (a0 + (IntKind.u16.wrap (Int.tmod (wrap64 ((wrap64 (x10_1 * 7)) + (wrap64 (Int.tmod (IntKind.u64.wrap (a2)) (IntKind.u64.wrap (wrap64 ((wrap64 (Int.tmod (IntKind.u64.wrap (a1)) 200)) + 1))))))) (wrap64 ((wrap64 (Int.tmod (IntKind.u64.wrap (a1)) 200)) + 1))))), IntKind.u16.wrap (a0 + (IntKind.u16.wrap (Int.tmod (wrap64 (x10_1 + (wrap64 (Int.tmod (IntKind.u64.wrap (a2)) (IntKind.u64.wrap (wrap64 ((wrap64 (Int.tmod (IntKind.u64.wrap (a1)) 200)) + 1))))))) (wrap64 ((wrap64 (Int.tmod (IntKind.u64.wrap (a1)) 200)) + 1)))))] : List Int)) (inner := [.int .u16 (IntKind.u16.wrap (a0 + (IntKind.u16.wrap (Int.tmod (wrap64 ((wrap64 (x10_1 * 7)) + (wrap64 (Int.tmod (IntKind.u64.wrap (a2)) (IntKind.u64.wrap (wrap64 ((wrap64 (Int.tmod (IntKind.u64.wrap (a1)) 200)) + 1))))))) (wrap64 ((wrap64 (Int.tmod (IntKind.u64.wrap (a1)) 200)) + 1)))))), .int .u16 (IntKind.u16.wrap (a0 + (IntKind.u16.wrap (Int.tmod (wrap64 (x10_1 + (wrap64 (Int.tmod (IntKind.u64.wrap (a2)) (IntKind.u64.wrap (wrap64 ((wrap64 (Int.tmod (IntKind.u64.wrap (a1)) 200)) + 1))))))) (wrap64 ((wrap64 (Int.tmod (IntKind.u64.wrap (a1)) 200)) + 1))))))]) (ok := fun _ => True) (okp := fun _ => True) ?hr ?hp (fun _ hk => hk) trivial (Below.refl _ _) (Nat.le_refl _) (by simp) ?_; (case hd => rfl); (case hg => rfl); (case hr => first | (go_simp; done) | (go_simp; rfl)); (case hp => exact (Reps.one (show Kd.M (Kd.int .u16) _ _ _ (IntKind.u16.wrap (a0 + (IntKind.u16.wrap (Int.tmod (wrap64 ((wrap64 (x10_1 * 7)) + (wrap64 (Int.tmod (IntKind.u64.wrap (a2)) (IntKind.u64.wrap (wrap64 ((wrap64 (Int.tmod (IntKind.u64.wrap (a1)) 200)) + 1))))))) (wrap64 ((wrap64 (Int.tmod (IntKind.u64.wrap (a1)) 200)) + 1)))))) [.int .u16 (IntKind.u16.wrap (a0 + (IntKind.u16.wrap (Int.tmod (wrap64 ((wrap64 (x10_1 * 7)) + (wrap64 (Int.tmod (IntKind.u64.wrap (a2)) (IntKind.u64.wrap (wrap64 ((wrap64 (Int.tmod (IntKind.u64.wrap (a1)) 200)) + 1))))))) (wrap64 ((wrap64 (Int.tmod (IntKind.u64.wrap (a1)) 200)) + 1))))))] from rfl) (Reps.one (show Kd.M (Kd.int .u16) _ _ _ (IntKind.u16.wrap (a0 + (IntKind.u16.wrap (Int.tmod (wrap64 (x10_1 + (wrap64 (Int.tmod (IntKind.u64.wrap (a2)) (IntKind.u64.wrap (wrap64 ((wrap64 (Int.tmod (IntKind.u64.wrap (a1)) 200)) + 1))))))) (wrap64 ((wrap64 (Int.tmod (IntKind.u64.wrap (a1)) 200)) + 1)))))) [.int .u16 (IntKind.u16.wrap (a0 + (IntKind.u16.wrap (Int.tmod (wrap64 (x10_1 + (wrap64 (Int.tmod (IntKind.u64.wrap (a2)) (IntKind.u64.wrap (wrap64 ((wrap64 (Int.tmod (IntKind.u64.wrap (a1)) 200)) + 1))))))) (wrap64 ((wrap64 (Int.tmod (IntKind.u64.wrap (a1)) 200)) + 1))))))] from rfl) (Reps.none _ _))))
   intro v114 w15 ho16 hb hg_ hnew_
   clear hg_ hnew_
   (first | rw [← Ny113.out] at ho16 | (simp only [Int.reduceToNat] at ho16; rw [← Ny113.out] at ho16))
   have n0_ := Aside0.mk (Kd.R_elder' (by (with_reducible repeat (first | apply Kd.R_alloc | apply Kd.R_drewN | apply Kd.R_drew)); exact HO_9.out) (Kd.R_base ho16) hb)
   have n1_ := Aside0.mk (Kd.R_elder' (by (with_reducible repeat (first | apply Kd.R_alloc | apply Kd.R_drewN | apply Kd.R_drew)); exact HO112.out) (Kd.R_base ho16) hb)
   have n2_ := Aside0.mk (Kd.R_lower (Kd.R_new' (Kd.R_new' ho16 (Kd.R_lt (by (with_reducible repeat (first | apply Kd.R_alloc | apply Kd.R_drewN | apply Kd.R_drew)); exact HO_9.out))) (Kd.R_lt (by (with_reducible repeat (first | apply Kd.R_alloc | apply Kd.R_drewN | apply Kd.R_drew)); exact HO112.out))) (below_size (by repeat (first | (with_reducible first | exact HB.out | apply below_alloc | apply pw_below_drewN | apply below_drew1) | exact HB.out))))
   have n3_ := Aside0.mk (below_step (by repeat (first | (with_reducible first | exact HB.out | apply below_alloc | apply pw_below_drewN | apply below_drew1) | exact HB.out)) hb)
   clear HO_9
   clear HO112
   clear HB
   have HO_9 := n0_
   have HO112 := n1_
   have HO115 := n2_
   have HB := n3_
   clear n0_ n1_ n2_ n3_
   clear hb ho16
   obtain ⟨Ao18, co18, eo18⟩ := Kd.R_slice HO115.out
   (first | subst eo18 | (injection eo18 with f1_ f2_ f3_; have f4_ := f1_.symm; have f5_ := f3_.symm; clear f1_ f2_ f3_; subst f4_; subst f5_))
   refine hK.out _ _ trivial (fun hHeld => ?_)
   clear hK K
   refine norm_ (a' := ?_) ?_ ?_
   rotate_left
   ·show Act.put _ (some 54) _ = _
    simp only [Act.put, List.setIfInBounds_toArray, List.set_cons_zero, List.set_cons_succ, i64_w, i32_w]
    rfl
   refine one_ (i := 19) (N := some 55) #[true, true, true, true, true, true, true, true, true, true, true, true, true, true, true, true, true, true, true, true, false] rfl rfl (one_of HT_.out (by kernel_rfl)) (by decide) (fun K hK => ?_)
   refine Kd.R_append_rows_step (Kd.int .u16) (w0 := w) w.heap.size (by rfl) (.tmp 36) (.tmp 54) 22 23 (.int .u16 0) 2 rfl Try.underlying22 info23 rfl (by decide) (by omega) u9 x9_1 y113 _ _ _ (fun k_ => some k_ ≠ (v111 : Value).ownBlock ∧ some k_ ≠ (.slice Ao18 y113.length co18 : Value).ownBlock) (fun _ => False) rfl rfl ?aO ?aR (fun _ _ h => h) (fun _ h => h.elim) ?aF ?aB ?aS ?aL ?_
   (case aR => repeat (first | exact (Kd.R_reads' HO115.out).2.2 | (with_reducible refine Kd.C_alloc ?_ _) | (with_reducible refine Kd.C_drewN ?_ _) | (with_reducible refine Kd.C_drew ?_)))
   (case aB => exact (by repeat (first | (with_reducible first | exact HB.out | apply below_alloc | apply pw_below_drewN | apply below_drew1) | exact HB.out)))
   (case aF => exact (fun k_ hk => ⟨Kd.fresh' (Kd.R_lt (by (with_reducible repeat (first | apply Kd.R_alloc | apply Kd.R_drewN | apply Kd.R_drew)); exact HO112.out)) k_ hk, Kd.fresh' (Kd.R_lt (by (with_reducible repeat (first | apply Kd.R_alloc | apply Kd.R_drewN | apply Kd.R_drew)); exact HO115.out)) k_ hk⟩))
   (case aO => exact (by (with_reducible repeat (first | apply Kd.R_alloc | apply Kd.R_drewN | apply Kd.R_drew)); exact Kd.R_mono HO_9.out (fun _ hk => ⟨hk.1.2, hk.2⟩)))
   (case aS => exact (below_size (by repeat (first | (with_reducible first | exact HB.out | apply below_alloc | apply pw_below_drewN | apply below_drew1) | exact HB.out))))
   (case aL => have := LMc10.out; omega)
   intro v117 w17 ho hb hg hat
   rw [← Ny116.out] at ho
   have n0_ := Aside0.mk (Kd.R_after (ok := (fun k_ => some k_ ≠ (.slice Ao18 y113.length co18 : Value).ownBlock)) (by (with_reducible repeat (first | apply Kd.R_alloc | apply Kd.R_drewN | apply Kd.R_drew)); exact Kd.R_mono HO112.out (fun _ hk => ⟨hk.2, hk.1⟩)) hg hat)
   have n1_ := Aside0.mk (Kd.R_after (ok := (fun k_ => some k_ ≠ (v111 : Value).ownBlock)) (by (with_reducible repeat (first | apply Kd.R_alloc | apply Kd.R_drewN | apply Kd.R_drew)); exact Kd.R_mono HO115.out (fun _ hk => ⟨hk.2, hk.1.2⟩)) hg hat)
   have n2_ := Aside0.mk (hb)
   have n3_ := Aside0.mk (ho)
   clear HO112
   clear HO115
   clear HB
   clear HO_9
   have HO112 := n0_
   have HO115 := n1_
   have HB := n2_
   have HO118 := n3_
   clear n0_ n1_ n2_ n3_
   clear ho hb hg hat
   refine hK.out _ _ trivial (fun hHeld => ?_)
   clear hK K
   refine norm_ (a' := ?_) ?_ ?_
   rotate_left
   ·show Act.put _ (some 55) _ = _
    simp only [Act.put, List.setIfInBounds_toArray, List.set_cons_zero, List.set_cons_succ, i64_w, i32_w]
    rfl
   refine pure_ (i := 20) (N := some 9) (v := ?_) (a' := ?_) #[true, true, true, true, true, true, true, true, true, true, true, true, true, true, true, true, true, true, true, true, true] rfl rfl (any_of HT_.out (by kernel_rfl)) (fun _ _ _ h => h) (Or.inl ⟨by rfl, ?_⟩) ?_ ?_
   rotate_left; ·intro w'; go_simp; with_reducible rfl
   rotate_left; ·simp only [Act.put, List.setIfInBounds_toArray, List.set_cons_zero, List.set_cons_succ, i64_w, i32_w]; rfl
   refine done_ (done_of HT_.out (by kernel_rfl)) ?_
   try go_wp2_with (first | ((with_reducible refine gate_callee (f := 9) rfl ?_); refine goesL_ (some 62) rfl rfl Try.func9 (by kernel_rfl) rfl #[.int .u16 (IntKind.u16.wrap (a0 + (IntKind.u16.wrap (x10_1)))), .int .u16 a0, .int .i64 (wrap64 ((wrap64 (Int.tmod (IntKind.u64.wrap (a1)) 200)) + 1))] rfl (by (try simp only [List.map_toArray, List.map_cons, List.map_nil]); first | done | rfl | (simp only [List.length_drop, List.length_take]; rfl)) ?_; (with_reducible refine (turn_Within.calls (IntKind.u16.wrap (a0 + (IntKind.u16.wrap (x10_1)))) a0 (wrap64 ((wrap64 (Int.tmod (IntKind.u64.wrap (a1)) 200)) + 1)) true _ A11.out).mono ?_); rintro e w' ⟨rfl, ⟨nd, rfl⟩⟩; refine ⟨_, rfl, ?_⟩))
   go_roundg k1
   case measure => have := HK1.out; omega
   case rel => exact ⟨(y110), (y116), (wrap64 (x10_1 + 1)), (by first | rfl | (simp; done) | (simp [*]; done)), H', ⟨by have := HK1.out; omega⟩, ⟨by (with_reducible repeat (first | apply Kd.R_alloc | apply Kd.R_drewN | apply Kd.R_drew)); exact Kd.R_mono HO112.out (fun _ hk => hk.2)⟩, ⟨by (with_reducible repeat (first | apply Kd.R_alloc | apply Kd.R_drewN | apply Kd.R_drew)); exact Kd.R_mono HO118.out (fun _ hk => hk.1)⟩, ⟨by repeat (first | (with_reducible first | exact HB.out | apply below_alloc | apply pw_below_drewN | apply below_drew1) | exact HB.out)⟩⟩
/-- THE ONE PURE STATEMENT of stillagelaw03_TurnRows: yours. -/
def stillagelaw03_TurnRows.Pure : Prop := ∀ (a0 : Int) (a1 : Int) (a2 : Int), (Lit.int .u16 a0).wf = true → (Lit.int .i64 a1).wf = true → (Lit.int .i64 a2).wf = true → ∃ k, stillagelaw03_TurnRows.f k a0 a1 a2 = some true
theorem stillagelaw03_TurnRows.walk (P : stillagelaw03_TurnRows.Pure) (a0 : Int) (a1 : Int) (a2 : Int) (w : World) (w0 : (Lit.int .u16 a0).wf = true) (w1 : (Lit.int .i64 a1).wf = true) (w2 : (Lit.int .i64 a2).wf = true) :
  Calls Try.prog 4 #[.int .u16 a0, .int .i64 a1, .int .i64 a2] w fun e w' => e = .returned (.bool true) ∧ Below w.heap.size w w' := by
 obtain ⟨k, h⟩ := P a0 a1 a2 w0 w1 w2
 refine (stillagelaw03_TurnRows.calls k a0 a1 a2 true w h).mono ?_
 rintro e w' ⟨rfl, hd⟩
 exact ⟨rfl, hd⟩

end Go.Proofs.Ytkeajkdcboopcaa.PTurnRows
