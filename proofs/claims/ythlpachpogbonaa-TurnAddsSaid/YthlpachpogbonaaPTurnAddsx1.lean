-- Written by a program of this session (wip/oprint): after the pattern of the kit's print, which does not take this law.
import Derived.Test.YthlpachpogbonaaPTurnAddsx0
namespace Go.Proofs.Ythlpachpogbonaa.PTurnAdds
open Go.RowKit Go.Proofs.YthlpachpogbonaaW.PrintWords Go.Proofs.YthlpachpogbonaaW.PrintLast Go.Proofs.YthlpachpogbonaaW.PrintMore
attribute [local go_sem] max2_int min2_int max_two min_two max_three min_three max_four min_four   -- for this text's walks alone
set_option linter.unusedVariables false
set_option linter.unusedSimpArgs false

/-! ### turn_Within: function 9 -/
def turn_Within.f (a0 : Int) (a1 : Int) (a2 : Int) : Option (Bool) := some (decide ((wrap64 (IntKind.u16.wrap (a0 - a1))) < a2))
set_option maxHeartbeats 8000000 in
set_option maxRecDepth 100000 in
theorem turn_Within.calls (a0 : Int) (a1 : Int) (a2 : Int) (r : Bool) (w : World) (h : turn_Within.f a0 a1 a2 = some r) :
    Calls Try.prog 9 #[.int .u16 a0, .int .u16 a1, .int .i64 a2] w fun e w' => e = .returned (.bool r) ∧ Drawn0 w w' := by
  have H : (some (decide ((wrap64 (IntKind.u16.wrap (a0 - a1))) < a2))) = some r := h
  clear h
  obtain rfl := Option.some.inj H
  go_enter Try.func9, Try.ntmps9
  go_wp2
  go_ret
  exact ⟨by first | rfl | (simp; done) | (simp [*]; done), by repeat (first | exact Drawn0.refl _ | apply Drawn0.step)⟩

/-! ### turn_Dist: function 13 -/
def turn_Dist.f (a0 : Int) (a1 : Int) : Option (Int) := some (wrap64 (IntKind.i16.wrap (IntKind.u16.wrap (a1 - a0))))
set_option maxHeartbeats 8000000 in
set_option maxRecDepth 100000 in
theorem turn_Dist.calls (a0 : Int) (a1 : Int) (r : Int) (w : World) (h : turn_Dist.f a0 a1 = some r) :
    Calls Try.prog 13 #[.int .u16 a0, .int .u16 a1] w fun e w' => e = .returned (.int .i64 r) ∧ Drawn0 w w' := by
  have H : (some (wrap64 (IntKind.i16.wrap (IntKind.u16.wrap (a1 - a0))))) = some r := h
  clear h
  obtain rfl := Option.some.inj H
  go_enter Try.func13, Try.ntmps13
  go_wp2
  go_ret
  exact ⟨by first | rfl | (simp; done) | (simp [*]; done), by repeat (first | exact Drawn0.refl _ | apply Drawn0.step)⟩

/-! ### turn_Likely: function 11 -/
def turn_Likely.j0 : Nat → Int → Int → Bool → Option (Int × Int)
  | 0, _, _, _ => none
  | k + 1, x0, x1, x12 => if x12 = true then (some (0, 1)) else ((turn_Dist.f (IntKind.u16.wrap (x0)) x1).bind fun t101 => (if (wrap64 (x0 + t101)) < 0 then (some (wrap64 ((wrap64 (x0 + t101)) + 65536), 0)) else (some (wrap64 (x0 + t101), 0))))
def turn_Likely.f (k : Nat) (a0 : Int) (a1 : Int) : Option (Int × Int) := if a0 < 0 then (turn_Likely.j0 k a0 a1 true) else (turn_Likely.j0 k a0 a1 (decide (a0 > 4611686018427387904)))
theorem turn_Likely.mono_l : ∀ k, (∀ y0 y1 y2, LeO (turn_Likely.j0 k y0 y1 y2) (turn_Likely.j0 (k + 1) y0 y1 y2))
  | 0 => fun _ _ _ r h => by simp [turn_Likely.j0] at h
  | k + 1 => by
    have ih0 := turn_Likely.mono_l k
    · intro y0 y1 y2
      unfold turn_Likely.j0
      repeat' first
      | (with_reducible exact ih0 _ _ _)
      | (with_reducible exact LeO.refl _)
      | (with_reducible exact LeO.none _)
      | (with_reducible refine LeO.ite ?_ ?_)
      | (with_reducible refine LeO.bind ?_ (fun _ => ?_))
      | exact ih0 _ _ _
      | exact LeO.none _
      | refine LeO.ite ?_ ?_
      | refine LeO.bind ?_ (fun _ => ?_)
theorem turn_Likely.mono : ∀ a0 a1 k, LeO (turn_Likely.f k a0 a1) (turn_Likely.f (k + 1) a0 a1) := by
  intro a0 a1 k
  have ih0 := turn_Likely.mono_l k
  unfold turn_Likely.f
  repeat' first
      | (with_reducible exact ih0 _ _ _)
      | (with_reducible exact LeO.refl _)
      | (with_reducible exact LeO.none _)
      | (with_reducible refine LeO.ite ?_ ?_)
      | (with_reducible refine LeO.bind ?_ (fun _ => ?_))
      | exact ih0 _ _ _
      | exact LeO.none _
      | refine LeO.ite ?_ ?_
      | refine LeO.bind ?_ (fun _ => ?_)
set_option maxHeartbeats 8000000 in
set_option maxRecDepth 100000 in
theorem turn_Likely.calls (k : Nat) (a0 : Int) (a1 : Int) (r1 : Int) (r2 : Int) (w : World) (h : turn_Likely.f k a0 a1 = some (r1, r2)) :
    Calls Try.prog 11 #[.int .i64 a0, .int .u16 a1] w fun e w' => e = .returned (.tuple #[.int .i64 r1, .int .i64 r2]) ∧ Drawn0 w w' := by
  have H : (if a0 < 0 then (turn_Likely.j0 k a0 a1 true) else (turn_Likely.j0 k a0 a1 (decide (a0 > 4611686018427387904)))) = some (r1, r2) := h
  clear h
  have HC3 := Aside0.mk H
  clear H
  go_enter Try.func11, Try.ntmps11
  go_upto_region 1 with (fail)
  go_cut [12] (fun v12 wc => ∃ (kq : Nat) (x12_2 : Bool), v12 = .bool x12_2 ∧ Aside0 (turn_Likely.j0 kq a0 a1 x12_2 = some (r1, r2)) ∧ Aside0 (kq ≤ k) ∧ Drawn0 w wc)
  case first =>
    have H := HC3.out
    clear HC3
    by_cases c4 : a0 < 0
    · rw [if_pos c4] at H
      have c4b0 : decide (a0 < 0) = true := decide_eq_true c4
      clear c4
      (first | rw [c4b0] | (simp only [i64_w, i32_w]; rw [c4b0]) | skip)
      have H' := Aside0.mk H
      clear H
      go_wp2
      go_meet
      case rel => exact ⟨_, (true), (by first | rfl | (simp; done) | (simp [*]; done)), H', ⟨by first | omega | exact Nat.le_refl _⟩, by repeat (first | exact Drawn0.refl _ | apply Drawn0.step)⟩
    · rw [if_neg c4] at H
      have c4b0 : decide (a0 < 0) = false := decide_eq_false c4
      clear c4
      (first | rw [c4b0] | (simp only [i64_w, i32_w]; rw [c4b0]) | skip)
      have H' := Aside0.mk H
      clear H
      go_wp2
      go_meet
      case rel => exact ⟨_, (decide (a0 > 4611686018427387904)), (by first | rfl | (simp; done) | (simp [*]; done)), H', ⟨by first | omega | exact Nat.le_refl _⟩, by repeat (first | exact Drawn0.refl _ | apply Drawn0.step)⟩
  case rest =>
    clear HC3
    try clear c1
    try clear p2
    try clear c4
    try clear c4b0
    obtain ⟨kq, x12_2, rfl, HA, HJ2, ⟨mc2, rfl⟩⟩ := hcut
    cases kq with
    | zero => exact absurd HA.out (by simp [turn_Likely.j0])
    | succ kj2 =>
      have H := HA.out
      clear HA
      simp only [turn_Likely.j0] at H
      by_cases c5 : x12_2 = true
      · subst c5
        have H1 : (some (0, 1)) = some (r1, r2) := by rw [if_pos rfl] at H; exact H
        clear H
        have H := H1
        clear H1
        simp only [Option.some.injEq, Prod.mk.injEq] at H
        obtain ⟨rfl, rfl⟩ := H
        go_wp2
        go_ret2
        exact ⟨by first | rfl | (simp; done) | (simp [*]; done), by repeat (first | exact Drawn0.refl _ | apply Drawn0.step)⟩
      · replace c5 := Bool.eq_false_iff.mpr c5
        subst c5
        have H1 : ((turn_Dist.f (IntKind.u16.wrap (a0)) a1).bind fun t101 => (if (wrap64 (a0 + t101)) < 0 then (some (wrap64 ((wrap64 (a0 + t101)) + 65536), 0)) else (some (wrap64 (a0 + t101), 0)))) = some (r1, r2) := by rw [if_neg (show ¬ (false = true) by decide)] at H; exact H
        clear H
        have H := H1
        clear H1
        replace H := Option.bind_eq_some_iff.mp H
        obtain ⟨t101, A60, H⟩ := H
        replace H : (if (wrap64 (a0 + t101)) < 0 then (some (wrap64 ((wrap64 (a0 + t101)) + 65536), 0)) else (some (wrap64 (a0 + t101), 0))) = some (r1, r2) := H
        have A6 := Aside0.mk A60
        clear A60
        by_cases c7 : (wrap64 (a0 + t101)) < 0
        · rw [if_pos c7] at H
          have c7b0 : decide ((wrap64 (a0 + t101)) < 0) = true := decide_eq_true c7
          clear c7
          simp only [Option.some.injEq, Prod.mk.injEq] at H
          obtain ⟨rfl, rfl⟩ := H
          go_wp2_with (first | ((with_reducible refine gate_callee (f := 13) rfl ?_); refine goesL_ (some 17) rfl rfl Try.func13 (by kernel_rfl) rfl #[.int .u16 (IntKind.u16.wrap (a0)), .int .u16 a1] rfl (by (try simp only [List.map_toArray, List.map_cons, List.map_nil]); first | done | rfl | (simp only [List.length_drop, List.length_take]; rfl)) ?_; (with_reducible refine (turn_Dist.calls (IntKind.u16.wrap (a0)) a1 t101 _ A6.out).mono ?_); rintro e w' ⟨rfl, ⟨nd, rfl⟩⟩; refine ⟨_, rfl, ?_⟩))
          go_ret2
          exact ⟨by first | rfl | (simp; done) | (simp [*]; done), by repeat (first | exact Drawn0.refl _ | apply Drawn0.step)⟩
        · rw [if_neg c7] at H
          have c7b0 : decide ((wrap64 (a0 + t101)) < 0) = false := decide_eq_false c7
          clear c7
          simp only [Option.some.injEq, Prod.mk.injEq] at H
          obtain ⟨rfl, rfl⟩ := H
          go_wp2_with (first | ((with_reducible refine gate_callee (f := 13) rfl ?_); refine goesL_ (some 17) rfl rfl Try.func13 (by kernel_rfl) rfl #[.int .u16 (IntKind.u16.wrap (a0)), .int .u16 a1] rfl (by (try simp only [List.map_toArray, List.map_cons, List.map_nil]); first | done | rfl | (simp only [List.length_drop, List.length_take]; rfl)) ?_; (with_reducible refine (turn_Dist.calls (IntKind.u16.wrap (a0)) a1 t101 _ A6.out).mono ?_); rintro e w' ⟨rfl, ⟨nd, rfl⟩⟩; refine ⟨_, rfl, ?_⟩))
          go_ret2
          exact ⟨by first | rfl | (simp; done) | (simp [*]; done), by repeat (first | exact Drawn0.refl _ | apply Drawn0.step)⟩

/-! ### stillagelaw03_awake: function 8 -/
def stillagelaw03_awake.f (k : Nat)  : Option (Bool) := (turn_Likely.f k 65540 65535).bind fun bt102 => ((turn_Dist.f 65535 0).bind fun t104 => (if t104 = 1 then ((turn_Dist.f 0 32768).bind fun t105 => (if t105 = (-32768) then ((turn_Within.f 1 65535 3).bind fun t106 => (if t106 = true then (if bt102.1 = 65535 then (some (bt102.2 == 0)) else (some false)) else (some false))) else (some false))) else (some false)))
theorem stillagelaw03_awake.mono : ∀ k, LeO (stillagelaw03_awake.f k ) (stillagelaw03_awake.f (k + 1) ) := by
  intro  k
  unfold stillagelaw03_awake.f
  repeat' first
      | (with_reducible exact turn_Likely.mono _ _ _)
      | (with_reducible exact LeO.refl _)
      | (with_reducible exact LeO.none _)
      | (with_reducible refine LeO.ite ?_ ?_)
      | (with_reducible refine LeO.bind ?_ (fun _ => ?_))
      | exact turn_Likely.mono _ _ _
      | exact LeO.none _
      | refine LeO.ite ?_ ?_
      | refine LeO.bind ?_ (fun _ => ?_)
set_option maxHeartbeats 8000000 in
set_option maxRecDepth 100000 in
theorem stillagelaw03_awake.calls (k : Nat)  (r : Bool) (w : World) (h : stillagelaw03_awake.f k  = some r) :
    Calls Try.prog 8 #[] w fun e w' => e = .returned (.bool r) ∧ Drawn0 w w' := by
  have H : ((turn_Likely.f k 65540 65535).bind fun bt102 => ((turn_Dist.f 65535 0).bind fun t104 => (if t104 = 1 then ((turn_Dist.f 0 32768).bind fun t105 => (if t105 = (-32768) then ((turn_Within.f 1 65535 3).bind fun t106 => (if t106 = true then (if bt102.1 = 65535 then (some (bt102.2 == 0)) else (some false)) else (some false))) else (some false))) else (some false)))) = some r := h
  clear h
  replace H := Option.bind_eq_some_iff.mp H
  obtain ⟨⟨t102, t103⟩, A10, H⟩ := H
  replace H : ((turn_Dist.f 65535 0).bind fun t104 => (if t104 = 1 then ((turn_Dist.f 0 32768).bind fun t105 => (if t105 = (-32768) then ((turn_Within.f 1 65535 3).bind fun t106 => (if t106 = true then (if t102 = 65535 then (some (t103 == 0)) else (some false)) else (some false))) else (some false))) else (some false))) = some r := H
  have A1 := Aside0.mk A10
  clear A10
  replace H := Option.bind_eq_some_iff.mp H
  obtain ⟨t104, A20, H⟩ := H
  replace H : (if t104 = 1 then ((turn_Dist.f 0 32768).bind fun t105 => (if t105 = (-32768) then ((turn_Within.f 1 65535 3).bind fun t106 => (if t106 = true then (if t102 = 65535 then (some (t103 == 0)) else (some false)) else (some false))) else (some false))) else (some false)) = some r := H
  have A2 := Aside0.mk A20
  clear A20
  by_cases c3 : t104 = 1
  · rw [if_pos c3] at H
    have c3b0 : (t104 == 1) = true := beq_iff_eq.mpr c3
    have c3b1 : (t104 != 1) = false := bne_eq_false_iff_eq.mpr c3
    clear c3
    replace H := Option.bind_eq_some_iff.mp H
    obtain ⟨t105, A40, H⟩ := H
    replace H : (if t105 = (-32768) then ((turn_Within.f 1 65535 3).bind fun t106 => (if t106 = true then (if t102 = 65535 then (some (t103 == 0)) else (some false)) else (some false))) else (some false)) = some r := H
    have A4 := Aside0.mk A40
    clear A40
    by_cases c5 : t105 = (-32768)
    · rw [if_pos c5] at H
      have c5b0 : (t105 == (-32768)) = true := beq_iff_eq.mpr c5
      have c5b1 : (t105 != (-32768)) = false := bne_eq_false_iff_eq.mpr c5
      clear c5
      replace H := Option.bind_eq_some_iff.mp H
      obtain ⟨t106, A60, H⟩ := H
      replace H : (if t106 = true then (if t102 = 65535 then (some (t103 == 0)) else (some false)) else (some false)) = some r := H
      have A6 := Aside0.mk A60
      clear A60
      by_cases c7 : t106 = true
      · subst c7
        have H1 : (if t102 = 65535 then (some (t103 == 0)) else (some false)) = some r := by rw [if_pos rfl] at H; exact H
        clear H
        have H := H1
        clear H1
        by_cases c8 : t102 = 65535
        · rw [if_pos c8] at H
          have c8b0 : (t102 == 65535) = true := beq_iff_eq.mpr c8
          have c8b1 : (t102 != 65535) = false := bne_eq_false_iff_eq.mpr c8
          clear c8
          obtain rfl := Option.some.inj H
          go_enter Try.func8, Try.ntmps8
          go_wp2_with (first | ((with_reducible refine gate_callee (f := 11) rfl ?_); refine goesL_ (some 4) rfl rfl Try.func11 (by kernel_rfl) rfl #[.int .i64 65540, .int .u16 65535] rfl (by (try simp only [List.map_toArray, List.map_cons, List.map_nil]); first | done | rfl | (simp only [List.length_drop, List.length_take]; rfl)) ?_; (with_reducible refine (turn_Likely.calls k 65540 65535 t102 t103 _ A1.out).mono ?_); rintro e w' ⟨rfl, ⟨nd, rfl⟩⟩; refine ⟨_, rfl, ?_⟩) | ((with_reducible refine gate_callee (f := 13) rfl ?_); refine goesL_ (some 7) rfl rfl Try.func13 (by kernel_rfl) rfl #[.int .u16 65535, .int .u16 0] rfl (by (try simp only [List.map_toArray, List.map_cons, List.map_nil]); first | done | rfl | (simp only [List.length_drop, List.length_take]; rfl)) ?_; (with_reducible refine (turn_Dist.calls 65535 0 t104 _ A2.out).mono ?_); rintro e w' ⟨rfl, ⟨nd, rfl⟩⟩; refine ⟨_, rfl, ?_⟩) | (go_at_call 13; (with_reducible refine (turn_Dist.calls 0 32768 t105 _ A4.out).mono ?_); rintro e w' ⟨rfl, ⟨nd, rfl⟩⟩) | (go_at_call 9; (with_reducible refine (turn_Within.calls 1 65535 3 true _ A6.out).mono ?_); rintro e w' ⟨rfl, ⟨nd, rfl⟩⟩))
          go_ret
          exact ⟨by first | rfl | (simp; done) | (simp [*]; done), by repeat (first | exact Drawn0.refl _ | apply Drawn0.step)⟩
        · rw [if_neg c8] at H
          have c8b0 : (t102 == 65535) = false := beq_eq_false_iff_ne.mpr c8
          have c8b1 : (t102 != 65535) = true := bne_iff_ne.mpr c8
          obtain rfl := Option.some.inj H
          go_enter Try.func8, Try.ntmps8
          go_wp2_with (first | ((with_reducible refine gate_callee (f := 11) rfl ?_); refine goesL_ (some 4) rfl rfl Try.func11 (by kernel_rfl) rfl #[.int .i64 65540, .int .u16 65535] rfl (by (try simp only [List.map_toArray, List.map_cons, List.map_nil]); first | done | rfl | (simp only [List.length_drop, List.length_take]; rfl)) ?_; (with_reducible refine (turn_Likely.calls k 65540 65535 t102 t103 _ A1.out).mono ?_); rintro e w' ⟨rfl, ⟨nd, rfl⟩⟩; refine ⟨_, rfl, ?_⟩) | ((with_reducible refine gate_callee (f := 13) rfl ?_); refine goesL_ (some 7) rfl rfl Try.func13 (by kernel_rfl) rfl #[.int .u16 65535, .int .u16 0] rfl (by (try simp only [List.map_toArray, List.map_cons, List.map_nil]); first | done | rfl | (simp only [List.length_drop, List.length_take]; rfl)) ?_; (with_reducible refine (turn_Dist.calls 65535 0 t104 _ A2.out).mono ?_); rintro e w' ⟨rfl, ⟨nd, rfl⟩⟩; refine ⟨_, rfl, ?_⟩) | (go_at_call 13; (with_reducible refine (turn_Dist.calls 0 32768 t105 _ A4.out).mono ?_); rintro e w' ⟨rfl, ⟨nd, rfl⟩⟩) | (go_at_call 9; (with_reducible refine (turn_Within.calls 1 65535 3 true _ A6.out).mono ?_); rintro e w' ⟨rfl, ⟨nd, rfl⟩⟩))
          go_ret
          exact ⟨by first | rfl | (simp; done) | (simp [*]; done), by repeat (first | exact Drawn0.refl _ | apply Drawn0.step)⟩
      · replace c7 := Bool.eq_false_iff.mpr c7
        subst c7
        have H1 : (some false) = some r := by rw [if_neg (show ¬ (false = true) by decide)] at H; exact H
        clear H
        have H := H1
        clear H1
        obtain rfl := Option.some.inj H
        go_enter Try.func8, Try.ntmps8
        go_wp2_with (first | ((with_reducible refine gate_callee (f := 11) rfl ?_); refine goesL_ (some 4) rfl rfl Try.func11 (by kernel_rfl) rfl #[.int .i64 65540, .int .u16 65535] rfl (by (try simp only [List.map_toArray, List.map_cons, List.map_nil]); first | done | rfl | (simp only [List.length_drop, List.length_take]; rfl)) ?_; (with_reducible refine (turn_Likely.calls k 65540 65535 t102 t103 _ A1.out).mono ?_); rintro e w' ⟨rfl, ⟨nd, rfl⟩⟩; refine ⟨_, rfl, ?_⟩) | ((with_reducible refine gate_callee (f := 13) rfl ?_); refine goesL_ (some 7) rfl rfl Try.func13 (by kernel_rfl) rfl #[.int .u16 65535, .int .u16 0] rfl (by (try simp only [List.map_toArray, List.map_cons, List.map_nil]); first | done | rfl | (simp only [List.length_drop, List.length_take]; rfl)) ?_; (with_reducible refine (turn_Dist.calls 65535 0 t104 _ A2.out).mono ?_); rintro e w' ⟨rfl, ⟨nd, rfl⟩⟩; refine ⟨_, rfl, ?_⟩) | (go_at_call 13; (with_reducible refine (turn_Dist.calls 0 32768 t105 _ A4.out).mono ?_); rintro e w' ⟨rfl, ⟨nd, rfl⟩⟩) | (go_at_call 9; (with_reducible refine (turn_Within.calls 1 65535 3 false _ A6.out).mono ?_); rintro e w' ⟨rfl, ⟨nd, rfl⟩⟩))
        go_ret
        exact ⟨by first | rfl | (simp; done) | (simp [*]; done), by repeat (first | exact Drawn0.refl _ | apply Drawn0.step)⟩
    · rw [if_neg c5] at H
      have c5b0 : (t105 == (-32768)) = false := beq_eq_false_iff_ne.mpr c5
      have c5b1 : (t105 != (-32768)) = true := bne_iff_ne.mpr c5
      obtain rfl := Option.some.inj H
      go_enter Try.func8, Try.ntmps8
      go_wp2_with (first | ((with_reducible refine gate_callee (f := 11) rfl ?_); refine goesL_ (some 4) rfl rfl Try.func11 (by kernel_rfl) rfl #[.int .i64 65540, .int .u16 65535] rfl (by (try simp only [List.map_toArray, List.map_cons, List.map_nil]); first | done | rfl | (simp only [List.length_drop, List.length_take]; rfl)) ?_; (with_reducible refine (turn_Likely.calls k 65540 65535 t102 t103 _ A1.out).mono ?_); rintro e w' ⟨rfl, ⟨nd, rfl⟩⟩; refine ⟨_, rfl, ?_⟩) | ((with_reducible refine gate_callee (f := 13) rfl ?_); refine goesL_ (some 7) rfl rfl Try.func13 (by kernel_rfl) rfl #[.int .u16 65535, .int .u16 0] rfl (by (try simp only [List.map_toArray, List.map_cons, List.map_nil]); first | done | rfl | (simp only [List.length_drop, List.length_take]; rfl)) ?_; (with_reducible refine (turn_Dist.calls 65535 0 t104 _ A2.out).mono ?_); rintro e w' ⟨rfl, ⟨nd, rfl⟩⟩; refine ⟨_, rfl, ?_⟩) | (go_at_call 13; (with_reducible refine (turn_Dist.calls 0 32768 t105 _ A4.out).mono ?_); rintro e w' ⟨rfl, ⟨nd, rfl⟩⟩))
      go_ret
      exact ⟨by first | rfl | (simp; done) | (simp [*]; done), by repeat (first | exact Drawn0.refl _ | apply Drawn0.step)⟩
  · rw [if_neg c3] at H
    have c3b0 : (t104 == 1) = false := beq_eq_false_iff_ne.mpr c3
    have c3b1 : (t104 != 1) = true := bne_iff_ne.mpr c3
    obtain rfl := Option.some.inj H
    go_enter Try.func8, Try.ntmps8
    go_wp2_with (first | ((with_reducible refine gate_callee (f := 11) rfl ?_); refine goesL_ (some 4) rfl rfl Try.func11 (by kernel_rfl) rfl #[.int .i64 65540, .int .u16 65535] rfl (by (try simp only [List.map_toArray, List.map_cons, List.map_nil]); first | done | rfl | (simp only [List.length_drop, List.length_take]; rfl)) ?_; (with_reducible refine (turn_Likely.calls k 65540 65535 t102 t103 _ A1.out).mono ?_); rintro e w' ⟨rfl, ⟨nd, rfl⟩⟩; refine ⟨_, rfl, ?_⟩) | ((with_reducible refine gate_callee (f := 13) rfl ?_); refine goesL_ (some 7) rfl rfl Try.func13 (by kernel_rfl) rfl #[.int .u16 65535, .int .u16 0] rfl (by (try simp only [List.map_toArray, List.map_cons, List.map_nil]); first | done | rfl | (simp only [List.length_drop, List.length_take]; rfl)) ?_; (with_reducible refine (turn_Dist.calls 65535 0 t104 _ A2.out).mono ?_); rintro e w' ⟨rfl, ⟨nd, rfl⟩⟩; refine ⟨_, rfl, ?_⟩))
    go_ret
    exact ⟨by first | rfl | (simp; done) | (simp [*]; done), by repeat (first | exact Drawn0.refl _ | apply Drawn0.step)⟩

/-! ### stillagelaw03_TurnAdds: function 6 -/
mutual
def stillagelaw03_TurnAdds.j0 : Nat → Int → List Int → Bool → Option (Bool)
  | 0, _, _, _ => none
  | k + 1, x0, x1, x16 => if x16 = true then ((stillagelaw03_awake.f k).bind fun t108 => (some t108)) else (stillagelaw03_TurnAdds.l0 k x0 x1 0 x0 (x1.length : Int) 0)
def stillagelaw03_TurnAdds.l0 : Nat → Int → List Int → Int → Int → Int → Int → Option (Bool)
  | 0, _, _, _, _, _, _ => none
  | k + 1, x0, x1, x5, x6, x20, x21 => if x21 < x20 then (if 0 ≤ x21 then (if x21 < (x1.length : Int) then ((turn_Dist.f x6 (IntKind.u16.wrap (Int.tmod (wrap64 ((wrap64 ((wrap64 (x6)) + (Int.tmod (wrap64 (rd x1 x21)) 30))) + 65536)) 65536))).bind fun t110 => (if t110 = (Int.tmod (wrap64 (rd x1 x21)) 30) then (stillagelaw03_TurnAdds.l0 k x0 x1 (wrap64 (x5 + (Int.tmod (wrap64 (rd x1 x21)) 30))) (IntKind.u16.wrap (Int.tmod (wrap64 ((wrap64 ((wrap64 (x6)) + (Int.tmod (wrap64 (rd x1 x21)) 30))) + 65536)) 65536)) x20 (wrap64 (x21 + 1))) else (some false))) else (none)) else (none)) else ((turn_Dist.f x0 x6).bind fun t111 => (some (t111 == x5)))
end
def stillagelaw03_TurnAdds.f (k : Nat) (a0 : Int) (l1 : List Int) : Option (Bool) := (stillagelaw03_awake.f k).bind fun t107 => (if t107 = true then (stillagelaw03_TurnAdds.j0 k a0 l1 (decide ((l1.length : Int) > 1000))) else (stillagelaw03_TurnAdds.j0 k a0 l1 true))
theorem stillagelaw03_TurnAdds.mono_l : ∀ k, (∀ y0 y1 y2, LeO (stillagelaw03_TurnAdds.j0 k y0 y1 y2) (stillagelaw03_TurnAdds.j0 (k + 1) y0 y1 y2)) ∧ (∀ y0 y1 y2 y3 y4 y5, LeO (stillagelaw03_TurnAdds.l0 k y0 y1 y2 y3 y4 y5) (stillagelaw03_TurnAdds.l0 (k + 1) y0 y1 y2 y3 y4 y5))
  | 0 => ⟨fun _ _ _ r h => by simp [stillagelaw03_TurnAdds.j0] at h, fun _ _ _ _ _ _ r h => by simp [stillagelaw03_TurnAdds.l0] at h⟩
  | k + 1 => by
    obtain ⟨ih0, ih1⟩ := stillagelaw03_TurnAdds.mono_l k
    refine ⟨?_, ?_⟩
    · intro y0 y1 y2
      unfold stillagelaw03_TurnAdds.j0
      repeat' first
      | (with_reducible exact ih0 _ _ _)
      | (with_reducible exact ih1 _ _ _ _ _ _)
      | (with_reducible exact stillagelaw03_awake.mono _)
      | (with_reducible exact LeO.refl _)
      | (with_reducible exact LeO.none _)
      | (with_reducible refine LeO.ite ?_ ?_)
      | (with_reducible refine LeO.bind ?_ (fun _ => ?_))
      | exact ih0 _ _ _
      | exact ih1 _ _ _ _ _ _
      | exact stillagelaw03_awake.mono _
      | exact LeO.none _
      | refine LeO.ite ?_ ?_
      | refine LeO.bind ?_ (fun _ => ?_)
    · intro y0 y1 y2 y3 y4 y5
      unfold stillagelaw03_TurnAdds.l0
      repeat' first
      | (with_reducible exact ih0 _ _ _)
      | (with_reducible exact ih1 _ _ _ _ _ _)
      | (with_reducible exact stillagelaw03_awake.mono _)
      | (with_reducible exact LeO.refl _)
      | (with_reducible exact LeO.none _)
      | (with_reducible refine LeO.ite ?_ ?_)
      | (with_reducible refine LeO.bind ?_ (fun _ => ?_))
      | exact ih0 _ _ _
      | exact ih1 _ _ _ _ _ _
      | exact stillagelaw03_awake.mono _
      | exact LeO.none _
      | refine LeO.ite ?_ ?_
      | refine LeO.bind ?_ (fun _ => ?_)
theorem stillagelaw03_TurnAdds.mono : ∀ a0 a1 k, LeO (stillagelaw03_TurnAdds.f k a0 a1) (stillagelaw03_TurnAdds.f (k + 1) a0 a1) := by
  intro a0 a1 k
  obtain ⟨ih0, ih1⟩ := stillagelaw03_TurnAdds.mono_l k
  unfold stillagelaw03_TurnAdds.f
  repeat' first
      | (with_reducible exact ih0 _ _ _)
      | (with_reducible exact ih1 _ _ _ _ _ _)
      | (with_reducible exact stillagelaw03_awake.mono _)
      | (with_reducible exact LeO.refl _)
      | (with_reducible exact LeO.none _)
      | (with_reducible refine LeO.ite ?_ ?_)
      | (with_reducible refine LeO.bind ?_ (fun _ => ?_))
      | exact ih0 _ _ _
      | exact ih1 _ _ _ _ _ _
      | exact stillagelaw03_awake.mono _
      | exact LeO.none _
      | refine LeO.ite ?_ ?_
      | refine LeO.bind ?_ (fun _ => ?_)
set_option maxHeartbeats 8000000 in
set_option maxRecDepth 100000 in
theorem stillagelaw03_TurnAdds.calls (k : Nat) (a0 : Int) (A1 : Option Addr) (c1 : Nat) (l1 : List Int) (r : Bool) (w : World) (hr1 : Kd.C (Kd.int .i16) w A1 l1.length l1) (hc1 : l1.length ≤ c1) (h : stillagelaw03_TurnAdds.f k a0 l1 = some r) :
    Calls Try.prog 6 #[.int .u16 a0, .slice A1 l1.length c1] w fun e w' => e = .returned (.bool r) ∧ Drawn0 w w' := by
  have HR1 := Aside0.mk hr1
  have HC1 := Aside0.mk hc1
  clear hr1 hc1
  have H : ((stillagelaw03_awake.f k).bind fun t107 => (if t107 = true then (stillagelaw03_TurnAdds.j0 k a0 l1 (decide ((l1.length : Int) > 1000))) else (stillagelaw03_TurnAdds.j0 k a0 l1 true))) = some r := h
  clear h
  have HC3 := Aside0.mk H
  clear H
  go_enter Try.func6, Try.ntmps6
  go_upto_region 1 with (fail)
  go_cut [16] (fun v16 wc => ∃ (kq : Nat) (x16_2 : Bool), v16 = .bool x16_2 ∧ Aside0 (stillagelaw03_TurnAdds.j0 kq a0 l1 x16_2 = some r) ∧ Aside0 (kq ≤ k) ∧ Drawn0 w wc)
  case first =>
    have H := HC3.out
    clear HC3
    replace H := Option.bind_eq_some_iff.mp H
    obtain ⟨t107, A40, H⟩ := H
    replace H : (if t107 = true then (stillagelaw03_TurnAdds.j0 k a0 l1 (decide ((l1.length : Int) > 1000))) else (stillagelaw03_TurnAdds.j0 k a0 l1 true)) = some r := H
    have A4 := Aside0.mk A40
    clear A40
    by_cases c5 : t107 = true
    · subst c5
      have H1 : (stillagelaw03_TurnAdds.j0 k a0 l1 (decide ((l1.length : Int) > 1000))) = some r := by rw [if_pos rfl] at H; exact H
      clear H
      have H := H1
      clear H1
      have H' := Aside0.mk H
      clear H
      go_wp2_with (first | ((with_reducible refine gate_callee (f := 8) rfl ?_); refine goesL_ (some 10) rfl rfl Try.func8 (by kernel_rfl) rfl #[] rfl (by (try simp only [List.map_toArray, List.map_cons, List.map_nil]); first | done | rfl | (simp only [List.length_drop, List.length_take]; rfl)) ?_; (with_reducible refine (stillagelaw03_awake.calls k  true _ A4.out).mono ?_); rintro e w' ⟨rfl, ⟨nd, rfl⟩⟩; refine ⟨_, rfl, ?_⟩))
      go_meet
      case rel => exact ⟨_, (decide ((l1.length : Int) > 1000)), (by first | rfl | (simp; done) | (simp [*]; done)), H', ⟨by first | omega | exact Nat.le_refl _⟩, by repeat (first | exact Drawn0.refl _ | apply Drawn0.step)⟩
    · replace c5 := Bool.eq_false_iff.mpr c5
      subst c5
      have H1 : (stillagelaw03_TurnAdds.j0 k a0 l1 true) = some r := by rw [if_neg (show ¬ (false = true) by decide)] at H; exact H
      clear H
      have H := H1
      clear H1
      have H' := Aside0.mk H
      clear H
      go_wp2_with (first | ((with_reducible refine gate_callee (f := 8) rfl ?_); refine goesL_ (some 10) rfl rfl Try.func8 (by kernel_rfl) rfl #[] rfl (by (try simp only [List.map_toArray, List.map_cons, List.map_nil]); first | done | rfl | (simp only [List.length_drop, List.length_take]; rfl)) ?_; (with_reducible refine (stillagelaw03_awake.calls k  false _ A4.out).mono ?_); rintro e w' ⟨rfl, ⟨nd, rfl⟩⟩; refine ⟨_, rfl, ?_⟩))
      go_meet
      case rel => exact ⟨_, (true), (by first | rfl | (simp; done) | (simp [*]; done)), H', ⟨by first | omega | exact Nat.le_refl _⟩, by repeat (first | exact Drawn0.refl _ | apply Drawn0.step)⟩
  case rest =>
    clear HC3
    try clear c1
    try clear p2
    try clear c5
    obtain ⟨kq, x16_2, rfl, HA, HJ2, ⟨mc2, rfl⟩⟩ := hcut
    cases kq with
    | zero => exact absurd HA.out (by simp [stillagelaw03_TurnAdds.j0])
    | succ kj2 =>
      have H := HA.out
      clear HA
      simp only [stillagelaw03_TurnAdds.j0] at H
      by_cases c6 : x16_2 = true
      · subst c6
        have H1 : ((stillagelaw03_awake.f kj2).bind fun t108 => (some t108)) = some r := by rw [if_pos rfl] at H; exact H
        clear H
        have H := H1
        clear H1
        replace H := Option.bind_eq_some_iff.mp H
        obtain ⟨t108, A70, H⟩ := H
        replace H : (some t108) = some r := H
        have A7 := Aside0.mk A70
        clear A70
        obtain rfl := Option.some.inj H
        go_wp2_with (first | ((with_reducible refine gate_callee (f := 8) rfl ?_); refine goesL_ (some 17) rfl rfl Try.func8 (by kernel_rfl) rfl #[] rfl (by (try simp only [List.map_toArray, List.map_cons, List.map_nil]); first | done | rfl | (simp only [List.length_drop, List.length_take]; rfl)) ?_; (with_reducible refine (stillagelaw03_awake.calls kj2  t108 _ A7.out).mono ?_); rintro e w' ⟨rfl, ⟨nd, rfl⟩⟩; refine ⟨_, rfl, ?_⟩))
        go_ret
        exact ⟨by first | rfl | (simp; done) | (simp [*]; done), by repeat (first | exact Drawn0.refl _ | apply Drawn0.step)⟩
      · replace c6 := Bool.eq_false_iff.mpr c6
        subst c6
        have H1 : (stillagelaw03_TurnAdds.l0 kj2 a0 l1 0 a0 (l1.length : Int) 0) = some r := by rw [if_neg (show ¬ (false = true) by decide)] at H; exact H
        clear H
        have H := H1
        clear H1
        have H' := Aside0.mk H
        clear H
        go_wp2
        go_loopg [5, 6, 21] kj2 (fun kq v5 v6 v21 w' => ∃ (x5_2 : Int) (x6_2 : Int) (x21_2 : Int), v5 = .int .i64 x5_2 ∧ v6 = .int .u16 x6_2 ∧ v21 = .int .i64 x21_2 ∧ Aside0 (stillagelaw03_TurnAdds.l0 kq a0 l1 x5_2 x6_2 (l1.length : Int) x21_2 = some r) ∧ Aside0 (kq ≤ kj2) ∧ Drawn0 w w')
        case atStart => exact ⟨(0), (a0), (0), (by first | rfl | (simp; done) | (simp [*]; done)), (by first | rfl | (simp; done) | (simp [*]; done)), (by first | rfl | (simp; done) | (simp [*]; done)), H', ⟨Nat.le_refl _⟩, by repeat (first | exact Drawn0.refl _ | apply Drawn0.step)⟩
        case round =>
          clear H'
          try clear c1
          try clear c2
          try clear p2
          try clear c5
          try clear c6
          try clear p2
          obtain ⟨x5_2, x6_2, x21_2, rfl, rfl, rfl, HA, HK2, ⟨m2, rfl⟩⟩ := hrel
          cases gk with
          | zero => exact absurd HA.out (by simp [stillagelaw03_TurnAdds.l0])
          | succ k2 =>
            have H := HA.out
            clear HA
            simp only [stillagelaw03_TurnAdds.l0] at H
            by_cases c8 : x21_2 < (l1.length : Int)
            · rw [if_pos c8] at H
              have c8b0 : decide (x21_2 < (l1.length : Int)) = true := decide_eq_true c8
              clear c8
              by_cases c9 : 0 ≤ x21_2
              · rw [if_pos c9] at H
                have c9b0 : decide (0 ≤ x21_2) = true := decide_eq_true c9
                clear c9
                by_cases c10 : x21_2 < (l1.length : Int)
                · rw [if_pos c10] at H
                  have c10b0 : decide (x21_2 < (l1.length : Int)) = true := decide_eq_true c10
                  clear c10
                  replace H := Option.bind_eq_some_iff.mp H
                  obtain ⟨t110, A110, H⟩ := H
                  replace H : (if t110 = (Int.tmod (wrap64 (rd l1 x21_2)) 30) then (stillagelaw03_TurnAdds.l0 k2 a0 l1 (wrap64 (x5_2 + (Int.tmod (wrap64 (rd l1 x21_2)) 30))) (IntKind.u16.wrap (Int.tmod (wrap64 ((wrap64 ((wrap64 (x6_2)) + (Int.tmod (wrap64 (rd l1 x21_2)) 30))) + 65536)) 65536)) (l1.length : Int) (wrap64 (x21_2 + 1))) else (some false)) = some r := H
                  have A11 := Aside0.mk A110
                  clear A110
                  by_cases c12 : t110 = (Int.tmod (wrap64 (rd l1 x21_2)) 30)
                  · rw [if_pos c12] at H
                    have c12b0 : (t110 == (Int.tmod (wrap64 (rd l1 x21_2)) 30)) = true := beq_iff_eq.mpr c12
                    have c12b1 : (t110 != (Int.tmod (wrap64 (rd l1 x21_2)) 30)) = false := bne_eq_false_iff_eq.mpr c12
                    clear c12
                    have H' := Aside0.mk H
                    clear H
                    have p109 : 0 ≤ (x21_2 : Int) := of_decide_eq_true (by first | (with_reducible assumption) | assumption)
                    have q109 : x21_2 < (l1.length : Int) := of_decide_eq_true (by first | (with_reducible assumption) | assumption)
                    obtain ⟨ad109, e109, hx109_0⟩ := Kd.at_int HR1.out x21_2 p109 q109
                    cases e109
                    replace p109 := eq_true p109
                    replace q109 := eq_true q109
                    go_wp2_with (first | ((with_reducible refine gate_callee (f := 13) rfl ?_); refine goesL_ (some 39) rfl rfl Try.func13 (by kernel_rfl) rfl #[.int .u16 x6_2, .int .u16 (IntKind.u16.wrap (Int.tmod (wrap64 ((wrap64 ((wrap64 (x6_2)) + (Int.tmod (wrap64 (rd l1 x21_2)) 30))) + 65536)) 65536))] rfl (by (try simp only [List.map_toArray, List.map_cons, List.map_nil]); first | done | rfl | (simp only [List.length_drop, List.length_take]; rfl)) ?_; (with_reducible refine (turn_Dist.calls x6_2 (IntKind.u16.wrap (Int.tmod (wrap64 ((wrap64 ((wrap64 (x6_2)) + (Int.tmod (wrap64 (rd l1 x21_2)) 30))) + 65536)) 65536)) t110 _ A11.out).mono ?_); rintro e w' ⟨rfl, ⟨nd, rfl⟩⟩; refine ⟨_, rfl, ?_⟩))
                    go_roundg k2
                    case measure => have := HJ2.out; have := HK2.out; omega
                    case rel => exact ⟨(wrap64 (x5_2 + (Int.tmod (wrap64 (rd l1 x21_2)) 30))), (IntKind.u16.wrap (Int.tmod (wrap64 ((wrap64 ((wrap64 (x6_2)) + (Int.tmod (wrap64 (rd l1 x21_2)) 30))) + 65536)) 65536)), (wrap64 (x21_2 + 1)), (by first | rfl | (simp; done) | (simp [*]; done)), (by first | rfl | (simp; done) | (simp [*]; done)), (by first | rfl | (simp; done) | (simp [*]; done)), H', ⟨by have := HJ2.out; have := HK2.out; omega⟩, by repeat (first | exact Drawn0.refl _ | apply Drawn0.step)⟩
                  · rw [if_neg c12] at H
                    have c12b0 : (t110 == (Int.tmod (wrap64 (rd l1 x21_2)) 30)) = false := beq_eq_false_iff_ne.mpr c12
                    have c12b1 : (t110 != (Int.tmod (wrap64 (rd l1 x21_2)) 30)) = true := bne_iff_ne.mpr c12
                    obtain rfl := Option.some.inj H
                    have p109 : 0 ≤ (x21_2 : Int) := of_decide_eq_true (by first | (with_reducible assumption) | assumption)
                    have q109 : x21_2 < (l1.length : Int) := of_decide_eq_true (by first | (with_reducible assumption) | assumption)
                    obtain ⟨ad109, e109, hx109_0⟩ := Kd.at_int HR1.out x21_2 p109 q109
                    cases e109
                    replace p109 := eq_true p109
                    replace q109 := eq_true q109
                    go_wp2_with (first | ((with_reducible refine gate_callee (f := 13) rfl ?_); refine goesL_ (some 39) rfl rfl Try.func13 (by kernel_rfl) rfl #[.int .u16 x6_2, .int .u16 (IntKind.u16.wrap (Int.tmod (wrap64 ((wrap64 ((wrap64 (x6_2)) + (Int.tmod (wrap64 (rd l1 x21_2)) 30))) + 65536)) 65536))] rfl (by (try simp only [List.map_toArray, List.map_cons, List.map_nil]); first | done | rfl | (simp only [List.length_drop, List.length_take]; rfl)) ?_; (with_reducible refine (turn_Dist.calls x6_2 (IntKind.u16.wrap (Int.tmod (wrap64 ((wrap64 ((wrap64 (x6_2)) + (Int.tmod (wrap64 (rd l1 x21_2)) 30))) + 65536)) 65536)) t110 _ A11.out).mono ?_); rintro e w' ⟨rfl, ⟨nd, rfl⟩⟩; refine ⟨_, rfl, ?_⟩))
                    go_ret
                    exact ⟨by first | rfl | (simp; done) | (simp [*]; done), by repeat (first | exact Drawn0.refl _ | apply Drawn0.step)⟩
                · rw [if_neg c10] at H
                  exact absurd H (by simp)
              · rw [if_neg c9] at H
                exact absurd H (by simp)
            · rw [if_neg c8] at H
              have c8b0 : decide (x21_2 < (l1.length : Int)) = false := decide_eq_false c8
              clear c8
              replace H := Option.bind_eq_some_iff.mp H
              obtain ⟨t111, A130, H⟩ := H
              replace H : (some (t111 == x5_2)) = some r := H
              have A13 := Aside0.mk A130
              clear A130
              obtain rfl := Option.some.inj H
              go_wp2_with (first | ((with_reducible refine gate_callee (f := 13) rfl ?_); refine goesL_ (some 49) rfl rfl Try.func13 (by kernel_rfl) rfl #[.int .u16 a0, .int .u16 x6_2] rfl (by (try simp only [List.map_toArray, List.map_cons, List.map_nil]); first | done | rfl | (simp only [List.length_drop, List.length_take]; rfl)) ?_; (with_reducible refine (turn_Dist.calls a0 x6_2 t111 _ A13.out).mono ?_); rintro e w' ⟨rfl, ⟨nd, rfl⟩⟩; refine ⟨_, rfl, ?_⟩))
              go_ret
              exact ⟨by first | rfl | (simp; done) | (simp [*]; done), by repeat (first | exact Drawn0.refl _ | apply Drawn0.step)⟩

/-- THE ONE PURE STATEMENT of stillagelaw03_TurnAdds: yours. -/
def stillagelaw03_TurnAdds.Pure : Prop := ∀ (a0 : Int) (l1 : List Int), (Lit.int .u16 a0).wf = true → l1.length ≤ maxLen → l1.length * 2 ≤ 140737488351232 → (∀ x ∈ l1, (Lit.int .i16 x).wf = true) → ∃ k, stillagelaw03_TurnAdds.f k a0 l1 = some true
theorem stillagelaw03_TurnAdds.walk (P : stillagelaw03_TurnAdds.Pure) (a0 : Int) (a1 : Option Addr) (len1 cap1 : Nat) (z1 : List Int) (w : World) (w0 : (Lit.int .u16 a0).wf = true) (w1 : (a1 = none ∧ len1 = 0 ∧ cap1 = 0 ∧ z1 = []) ∨ ∃ x, a1 = some x ∧ len1 ≤ cap1 ∧ cap1 ≤ maxLen ∧ z1.length = cap1 ∧ (∀ i, i < z1.length → w.cell? (x.add i) = some (.int .i16 (z1.getD i 0))) ∧ ∀ n ∈ z1, (Lit.int .i16 n).wf = true) (y1 : len1 * 2 ≤ 140737488351232) :
    Calls Try.prog 6 #[.int .u16 a0, .slice a1 len1 cap1] w fun e w' => e = .returned (.bool true) ∧ Below w.heap.size w w' := by
  obtain ⟨l1, rfl, hr1, hm1, hw1, hc1⟩ := ReadsInt.ofRowC w1
  obtain ⟨k, h⟩ := P a0 l1 w0 hm1 y1 hw1
  refine (stillagelaw03_TurnAdds.calls k a0 _ _ l1 true w (Kd.C_of_reads (d := (0 : Int)) (h1 := fun _ => rfl) hr1) hc1 h).mono ?_
  rintro e w' ⟨rfl, hd⟩
  exact ⟨rfl, hd.below⟩

end Go.Proofs.Ythlpachpogbonaa.PTurnAdds
