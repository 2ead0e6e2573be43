-- PRINTED BY print.sh 35421559b90ae4d0a3588c463048766b98c2df88dd9212a6774a882060cdf62d: not written by this session
import Derived.Test.YthlpachpogbonaaPTurnFoundx0
namespace Go.Proofs.Ythlpachpogbonaa.PTurnFound
open Go.RowKit Go.Proofs.YthlpachpogbonaaW.PrintWords Go.Proofs.YthlpachpogbonaaW.PrintLast Go.Proofs.YthlpachpogbonaaW.PrintMore
attribute [local go_sem] max2_int min2_int max_two min_two max_three min_three max_four min_four   -- for this text's walks alone
set_option linter.unusedVariables false
set_option linter.unusedSimpArgs false

/-! ### turn_Within: function 9 -/
def turn_Within.f (a0 : Int) (a1 : Int) (a2 : Int) : Option (Bool) := some (decide ((wrap64 (IntKind.u16.wrap (a0 - a1))) < a2))
set_option maxHeartbeats 8000000 in
set_option maxRecDepth 100000 in
theorem turn_Within.calls (a0 : Int) (a1 : Int) (a2 : Int) (r : Bool) (w : World) (h : turn_Within.f a0 a1 a2 = some r) :
    Calls Try.prog 9 #[.int .u16 a0, .int .u16 a1, .int .i64 a2] w fun e w' => e = .returned (.bool r) ∧ Drawn0 w w' := by
  have H : (some (decide ((wrap64 (IntKind.u16.wrap (a0 - a1))) < a2))) = some r := h
  clear h
  obtain rfl := Option.some.inj H
  go_enter Try.func9, Try.ntmps9
  go_wp2
  go_ret
  exact ⟨by first | rfl | (simp; done) | (simp [*]; done), by repeat (first | exact Drawn0.refl _ | apply Drawn0.step)⟩

/-! ### turn_Dist: function 13 -/
def turn_Dist.f (a0 : Int) (a1 : Int) : Option (Int) := some (wrap64 (IntKind.i16.wrap (IntKind.u16.wrap (a1 - a0))))
set_option maxHeartbeats 8000000 in
set_option maxRecDepth 100000 in
theorem turn_Dist.calls (a0 : Int) (a1 : Int) (r : Int) (w : World) (h : turn_Dist.f a0 a1 = some r) :
    Calls Try.prog 13 #[.int .u16 a0, .int .u16 a1] w fun e w' => e = .returned (.int .i64 r) ∧ Drawn0 w w' := by
  have H : (some (wrap64 (IntKind.i16.wrap (IntKind.u16.wrap (a1 - a0))))) = some r := h
  clear h
  obtain rfl := Option.some.inj H
  go_enter Try.func13, Try.ntmps13
  go_wp2
  go_ret
  exact ⟨by first | rfl | (simp; done) | (simp [*]; done), by repeat (first | exact Drawn0.refl _ | apply Drawn0.step)⟩

/-! ### turn_Likely: function 11 -/
def turn_Likely.j0 : Nat → Int → Int → Bool → Option (Int × Int)
  | 0, _, _, _ => none
  | k + 1, x0, x1, x12 => if x12 = true then (some (0, 1)) else ((turn_Dist.f (IntKind.u16.wrap (x0)) x1).bind fun t101 => (if (wrap64 (x0 + t101)) < 0 then (some (wrap64 ((wrap64 (x0 + t101)) + 65536), 0)) else (some (wrap64 (x0 + t101), 0))))
def turn_Likely.f (k : Nat) (a0 : Int) (a1 : Int) : Option (Int × Int) := if a0 < 0 then (turn_Likely.j0 k a0 a1 true) else (turn_Likely.j0 k a0 a1 (decide (a0 > 4611686018427387904)))
theorem turn_Likely.mono_l : ∀ k, (∀ y0 y1 y2, LeO (turn_Likely.j0 k y0 y1 y2) (turn_Likely.j0 (k + 1) y0 y1 y2))
  | 0 => fun _ _ _ r h => by simp [turn_Likely.j0] at h
  | k + 1 => by
    have ih0 := turn_Likely.mono_l k
    · intro y0 y1 y2
      unfold turn_Likely.j0
      repeat' first
      | (with_reducible exact ih0 _ _ _)
      | (with_reducible exact LeO.refl _)
      | (with_reducible exact LeO.none _)
      | (with_reducible refine LeO.ite ?_ ?_)
      | (with_reducible refine LeO.bind ?_ (fun _ => ?_))
      | exact ih0 _ _ _
      | exact LeO.none _
      | refine LeO.ite ?_ ?_
      | refine LeO.bind ?_ (fun _ => ?_)
theorem turn_Likely.mono : ∀ a0 a1 k, LeO (turn_Likely.f k a0 a1) (turn_Likely.f (k + 1) a0 a1) := by
  intro a0 a1 k
  have ih0 := turn_Likely.mono_l k
  unfold turn_Likely.f
  repeat' first
      | (with_reducible exact ih0 _ _ _)
      | (with_reducible exact LeO.refl _)
      | (with_reducible exact LeO.none _)
      | (with_reducible refine LeO.ite ?_ ?_)
      | (with_reducible refine LeO.bind ?_ (fun _ => ?_))
      | exact ih0 _ _ _
      | exact LeO.none _
      | refine LeO.ite ?_ ?_
      | refine LeO.bind ?_ (fun _ => ?_)
set_option maxHeartbeats 8000000 in
set_option maxRecDepth 100000 in
theorem turn_Likely.calls (k : Nat) (a0 : Int) (a1 : Int) (r1 : Int) (r2 : Int) (w : World) (h : turn_Likely.f k a0 a1 = some (r1, r2)) :
    Calls Try.prog 11 #[.int .i64 a0, .int .u16 a1] w fun e w' => e = .returned (.tuple #[.int .i64 r1, .int .i64 r2]) ∧ Drawn0 w w' := by
  have H : (if a0 < 0 then (turn_Likely.j0 k a0 a1 true) else (turn_Likely.j0 k a0 a1 (decide (a0 > 4611686018427387904)))) = some (r1, r2) := h
  clear h
  have HC3 := Aside0.mk H
  clear H
  go_enter Try.func11, Try.ntmps11
  go_upto_region 1 with (fail)
  go_cut [12] (fun v12 wc => ∃ (kq : Nat) (x12_2 : Bool), v12 = .bool x12_2 ∧ Aside0 (turn_Likely.j0 kq a0 a1 x12_2 = some (r1, r2)) ∧ Aside0 (kq ≤ k) ∧ Drawn0 w wc)
  case first =>
    have H := HC3.out
    clear HC3
    by_cases c4 : a0 < 0
    · rw [if_pos c4] at H
      have c4b0 : decide (a0 < 0) = true := decide_eq_true c4
      clear c4
      (first | rw [c4b0] | (simp only [i64_w, i32_w]; rw [c4b0]) | skip)
      have H' := Aside0.mk H
      clear H
      go_wp2
      go_meet
      case rel => exact ⟨_, (true), (by first | rfl | (simp; done) | (simp [*]; done)), H', ⟨by first | omega | exact Nat.le_refl _⟩, by repeat (first | exact Drawn0.refl _ | apply Drawn0.step)⟩
    · rw [if_neg c4] at H
      have c4b0 : decide (a0 < 0) = false := decide_eq_false c4
      clear c4
      (first | rw [c4b0] | (simp only [i64_w, i32_w]; rw [c4b0]) | skip)
      have H' := Aside0.mk H
      clear H
      go_wp2
      go_meet
      case rel => exact ⟨_, (decide (a0 > 4611686018427387904)), (by first | rfl | (simp; done) | (simp [*]; done)), H', ⟨by first | omega | exact Nat.le_refl _⟩, by repeat (first | exact Drawn0.refl _ | apply Drawn0.step)⟩
  case rest =>
    clear HC3
    try clear c1
    try clear p2
    try clear c4
    try clear c4b0
    obtain ⟨kq, x12_2, rfl, HA, HJ2, ⟨mc2, rfl⟩⟩ := hcut
    cases kq with
    | zero => exact absurd HA.out (by simp [turn_Likely.j0])
    | succ kj2 =>
      have H := HA.out
      clear HA
      simp only [turn_Likely.j0] at H
      by_cases c5 : x12_2 = true
      · subst c5
        have H1 : (some (0, 1)) = some (r1, r2) := by rw [if_pos rfl] at H; exact H
        clear H
        have H := H1
        clear H1
        simp only [Option.some.injEq, Prod.mk.injEq] at H
        obtain ⟨rfl, rfl⟩ := H
        go_wp2
        go_ret2
        exact ⟨by first | rfl | (simp; done) | (simp [*]; done), by repeat (first | exact Drawn0.refl _ | apply Drawn0.step)⟩
      · replace c5 := Bool.eq_false_iff.mpr c5
        subst c5
        have H1 : ((turn_Dist.f (IntKind.u16.wrap (a0)) a1).bind fun t101 => (if (wrap64 (a0 + t101)) < 0 then (some (wrap64 ((wrap64 (a0 + t101)) + 65536), 0)) else (some (wrap64 (a0 + t101), 0)))) = some (r1, r2) := by rw [if_neg (show ¬ (false = true) by decide)] at H; exact H
        clear H
        have H := H1
        clear H1
        replace H := Option.bind_eq_some_iff.mp H
        obtain ⟨t101, A60, H⟩ := H
        replace H : (if (wrap64 (a0 + t101)) < 0 then (some (wrap64 ((wrap64 (a0 + t101)) + 65536), 0)) else (some (wrap64 (a0 + t101), 0))) = some (r1, r2) := H
        have A6 := Aside0.mk A60
        clear A60
        by_cases c7 : (wrap64 (a0 + t101)) < 0
        · rw [if_pos c7] at H
          have c7b0 : decide ((wrap64 (a0 + t101)) < 0) = true := decide_eq_true c7
          clear c7
          simp only [Option.some.injEq, Prod.mk.injEq] at H
          obtain ⟨rfl, rfl⟩ := H
          go_wp2_with (first | ((with_reducible refine gate_callee (f := 13) rfl ?_); refine goesL_ (some 17) rfl rfl Try.func13 (by kernel_rfl) rfl #[.int .u16 (IntKind.u16.wrap (a0)), .int .u16 a1] rfl (by (try simp only [List.map_toArray, List.map_cons, List.map_nil]); first | done | rfl | (simp only [List.length_drop, List.length_take]; rfl)) ?_; (with_reducible refine (turn_Dist.calls (IntKind.u16.wrap (a0)) a1 t101 _ A6.out).mono ?_); rintro e w' ⟨rfl, ⟨nd, rfl⟩⟩; refine ⟨_, rfl, ?_⟩))
          go_ret2
          exact ⟨by first | rfl | (simp; done) | (simp [*]; done), by repeat (first | exact Drawn0.refl _ | apply Drawn0.step)⟩
        · rw [if_neg c7] at H
          have c7b0 : decide ((wrap64 (a0 + t101)) < 0) = false := decide_eq_false c7
          clear c7
          simp only [Option.some.injEq, Prod.mk.injEq] at H
          obtain ⟨rfl, rfl⟩ := H
          go_wp2_with (first | ((with_reducible refine gate_callee (f := 13) rfl ?_); refine goesL_ (some 17) rfl rfl Try.func13 (by kernel_rfl) rfl #[.int .u16 (IntKind.u16.wrap (a0)), .int .u16 a1] rfl (by (try simp only [List.map_toArray, List.map_cons, List.map_nil]); first | done | rfl | (simp only [List.length_drop, List.length_take]; rfl)) ?_; (with_reducible refine (turn_Dist.calls (IntKind.u16.wrap (a0)) a1 t101 _ A6.out).mono ?_); rintro e w' ⟨rfl, ⟨nd, rfl⟩⟩; refine ⟨_, rfl, ?_⟩))
          go_ret2
          exact ⟨by first | rfl | (simp; done) | (simp [*]; done), by repeat (first | exact Drawn0.refl _ | apply Drawn0.step)⟩

/-! ### stillagelaw03_awake: function 8 -/
def stillagelaw03_awake.f (k : Nat)  : Option (Bool) := (turn_Likely.f k 65540 65535).bind fun bt102 => ((turn_Dist.f 65535 0).bind fun t104 => (if t104 = 1 then ((turn_Dist.f 0 32768).bind fun t105 => (if t105 = (-32768) then ((turn_Within.f 1 65535 3).bind fun t106 => (if t106 = true then (if bt102.1 = 65535 then (some (bt102.2 == 0)) else (some false)) else (some false))) else (some false))) else (some false)))
theorem stillagelaw03_awake.mono : ∀ k, LeO (stillagelaw03_awake.f k ) (stillagelaw03_awake.f (k + 1) ) := by
  intro  k
  unfold stillagelaw03_awake.f
  repeat' first
      | (with_reducible exact turn_Likely.mono _ _ _)
      | (with_reducible exact LeO.refl _)
      | (with_reducible exact LeO.none _)
      | (with_reducible refine LeO.ite ?_ ?_)
      | (with_reducible refine LeO.bind ?_ (fun _ => ?_))
      | exact turn_Likely.mono _ _ _
      | exact LeO.none _
      | refine LeO.ite ?_ ?_
      | refine LeO.bind ?_ (fun _ => ?_)
set_option maxHeartbeats 8000000 in
set_option maxRecDepth 100000 in
theorem stillagelaw03_awake.calls (k : Nat)  (r : Bool) (w : World) (h : stillagelaw03_awake.f k  = some r) :
    Calls Try.prog 8 #[] w fun e w' => e = .returned (.bool r) ∧ Drawn0 w w' := by
  have H : ((turn_Likely.f k 65540 65535).bind fun bt102 => ((turn_Dist.f 65535 0).bind fun t104 => (if t104 = 1 then ((turn_Dist.f 0 32768).bind fun t105 => (if t105 = (-32768) then ((turn_Within.f 1 65535 3).bind fun t106 => (if t106 = true then (if bt102.1 = 65535 then (some (bt102.2 == 0)) else (some false)) else (some false))) else (some false))) else (some false)))) = some r := h
  clear h
  replace H := Option.bind_eq_some_iff.mp H
  obtain ⟨⟨t102, t103⟩, A10, H⟩ := H
  replace H : ((turn_Dist.f 65535 0).bind fun t104 => (if t104 = 1 then ((turn_Dist.f 0 32768).bind fun t105 => (if t105 = (-32768) then ((turn_Within.f 1 65535 3).bind fun t106 => (if t106 = true then (if t102 = 65535 then (some (t103 == 0)) else (some false)) else (some false))) else (some false))) else (some false))) = some r := H
  have A1 := Aside0.mk A10
  clear A10
  replace H := Option.bind_eq_some_iff.mp H
  obtain ⟨t104, A20, H⟩ := H
  replace H : (if t104 = 1 then ((turn_Dist.f 0 32768).bind fun t105 => (if t105 = (-32768) then ((turn_Within.f 1 65535 3).bind fun t106 => (if t106 = true then (if t102 = 65535 then (some (t103 == 0)) else (some false)) else (some false))) else (some false))) else (some false)) = some r := H
  have A2 := Aside0.mk A20
  clear A20
  by_cases c3 : t104 = 1
  · rw [if_pos c3] at H
    have c3b0 : (t104 == 1) = true := beq_iff_eq.mpr c3
    have c3b1 : (t104 != 1) = false := bne_eq_false_iff_eq.mpr c3
    clear c3
    replace H := Option.bind_eq_some_iff.mp H
    obtain ⟨t105, A40, H⟩ := H
    replace H : (if t105 = (-32768) then ((turn_Within.f 1 65535 3).bind fun t106 => (if t106 = true then (if t102 = 65535 then (some (t103 == 0)) else (some false)) else (some false))) else (some false)) = some r := H
    have A4 := Aside0.mk A40
    clear A40
    by_cases c5 : t105 = (-32768)
    · rw [if_pos c5] at H
      have c5b0 : (t105 == (-32768)) = true := beq_iff_eq.mpr c5
      have c5b1 : (t105 != (-32768)) = false := bne_eq_false_iff_eq.mpr c5
      clear c5
      replace H := Option.bind_eq_some_iff.mp H
      obtain ⟨t106, A60, H⟩ := H
      replace H : (if t106 = true then (if t102 = 65535 then (some (t103 == 0)) else (some false)) else (some false)) = some r := H
      have A6 := Aside0.mk A60
      clear A60
      by_cases c7 : t106 = true
      · subst c7
        have H1 : (if t102 = 65535 then (some (t103 == 0)) else (some false)) = some r := by rw [if_pos rfl] at H; exact H
        clear H
        have H := H1
        clear H1
        by_cases c8 : t102 = 65535
        · rw [if_pos c8] at H
          have c8b0 : (t102 == 65535) = true := beq_iff_eq.mpr c8
          have c8b1 : (t102 != 65535) = false := bne_eq_false_iff_eq.mpr c8
          clear c8
          obtain rfl := Option.some.inj H
          go_enter Try.func8, Try.ntmps8
          go_wp2_with (first | ((with_reducible refine gate_callee (f := 11) rfl ?_); refine goesL_ (some 4) rfl rfl Try.func11 (by kernel_rfl) rfl #[.int .i64 65540, .int .u16 65535] rfl (by (try simp only [List.map_toArray, List.map_cons, List.map_nil]); first | done | rfl | (simp only [List.length_drop, List.length_take]; rfl)) ?_; (with_reducible refine (turn_Likely.calls k 65540 65535 t102 t103 _ A1.out).mono ?_); rintro e w' ⟨rfl, ⟨nd, rfl⟩⟩; refine ⟨_, rfl, ?_⟩) | ((with_reducible refine gate_callee (f := 13) rfl ?_); refine goesL_ (some 7) rfl rfl Try.func13 (by kernel_rfl) rfl #[.int .u16 65535, .int .u16 0] rfl (by (try simp only [List.map_toArray, List.map_cons, List.map_nil]); first | done | rfl | (simp only [List.length_drop, List.length_take]; rfl)) ?_; (with_reducible refine (turn_Dist.calls 65535 0 t104 _ A2.out).mono ?_); rintro e w' ⟨rfl, ⟨nd, rfl⟩⟩; refine ⟨_, rfl, ?_⟩) | (go_at_call 13; (with_reducible refine (turn_Dist.calls 0 32768 t105 _ A4.out).mono ?_); rintro e w' ⟨rfl, ⟨nd, rfl⟩⟩) | (go_at_call 9; (with_reducible refine (turn_Within.calls 1 65535 3 true _ A6.out).mono ?_); rintro e w' ⟨rfl, ⟨nd, rfl⟩⟩))
          go_ret
          exact ⟨by first | rfl | (simp; done) | (simp [*]; done), by repeat (first | exact Drawn0.refl _ | apply Drawn0.step)⟩
        · rw [if_neg c8] at H
          have c8b0 : (t102 == 65535) = false := beq_eq_false_iff_ne.mpr c8
          have c8b1 : (t102 != 65535) = true := bne_iff_ne.mpr c8
          obtain rfl := Option.some.inj H
          go_enter Try.func8, Try.ntmps8
          go_wp2_with (first | ((with_reducible refine gate_callee (f := 11) rfl ?_); refine goesL_ (some 4) rfl rfl Try.func11 (by kernel_rfl) rfl #[.int .i64 65540, .int .u16 65535] rfl (by (try simp only [List.map_toArray, List.map_cons, List.map_nil]); first | done | rfl | (simp only [List.length_drop, List.length_take]; rfl)) ?_; (with_reducible refine (turn_Likely.calls k 65540 65535 t102 t103 _ A1.out).mono ?_); rintro e w' ⟨rfl, ⟨nd, rfl⟩⟩; refine ⟨_, rfl, ?_⟩) | ((with_reducible refine gate_callee (f := 13) rfl ?_); refine goesL_ (some 7) rfl rfl Try.func13 (by kernel_rfl) rfl #[.int .u16 65535, .int .u16 0] rfl (by (try simp only [List.map_toArray, List.map_cons, List.map_nil]); first | done | rfl | (simp only [List.length_drop, List.length_take]; rfl)) ?_; (with_reducible refine (turn_Dist.calls 65535 0 t104 _ A2.out).mono ?_); rintro e w' ⟨rfl, ⟨nd, rfl⟩⟩; refine ⟨_, rfl, ?_⟩) | (go_at_call 13; (with_reducible refine (turn_Dist.calls 0 32768 t105 _ A4.out).mono ?_); rintro e w' ⟨rfl, ⟨nd, rfl⟩⟩) | (go_at_call 9; (with_reducible refine (turn_Within.calls 1 65535 3 true _ A6.out).mono ?_); rintro e w' ⟨rfl, ⟨nd, rfl⟩⟩))
          go_ret
          exact ⟨by first | rfl | (simp; done) | (simp [*]; done), by repeat (first | exact Drawn0.refl _ | apply Drawn0.step)⟩
      · replace c7 := Bool.eq_false_iff.mpr c7
        subst c7
        have H1 : (some false) = some r := by rw [if_neg (show ¬ (false = true) by decide)] at H; exact H
        clear H
        have H := H1
        clear H1
        obtain rfl := Option.some.inj H
        go_enter Try.func8, Try.ntmps8
        go_wp2_with (first | ((with_reducible refine gate_callee (f := 11) rfl ?_); refine goesL_ (some 4) rfl rfl Try.func11 (by kernel_rfl) rfl #[.int .i64 65540, .int .u16 65535] rfl (by (try simp only [List.map_toArray, List.map_cons, List.map_nil]); first | done | rfl | (simp only [List.length_drop, List.length_take]; rfl)) ?_; (with_reducible refine (turn_Likely.calls k 65540 65535 t102 t103 _ A1.out).mono ?_); rintro e w' ⟨rfl, ⟨nd, rfl⟩⟩; refine ⟨_, rfl, ?_⟩) | ((with_reducible refine gate_callee (f := 13) rfl ?_); refine goesL_ (some 7) rfl rfl Try.func13 (by kernel_rfl) rfl #[.int .u16 65535, .int .u16 0] rfl (by (try simp only [List.map_toArray, List.map_cons, List.map_nil]); first | done | rfl | (simp only [List.length_drop, List.length_take]; rfl)) ?_; (with_reducible refine (turn_Dist.calls 65535 0 t104 _ A2.out).mono ?_); rintro e w' ⟨rfl, ⟨nd, rfl⟩⟩; refine ⟨_, rfl, ?_⟩) | (go_at_call 13; (with_reducible refine (turn_Dist.calls 0 32768 t105 _ A4.out).mono ?_); rintro e w' ⟨rfl, ⟨nd, rfl⟩⟩) | (go_at_call 9; (with_reducible refine (turn_Within.calls 1 65535 3 false _ A6.out).mono ?_); rintro e w' ⟨rfl, ⟨nd, rfl⟩⟩))
        go_ret
        exact ⟨by first | rfl | (simp; done) | (simp [*]; done), by repeat (first | exact Drawn0.refl _ | apply Drawn0.step)⟩
    · rw [if_neg c5] at H
      have c5b0 : (t105 == (-32768)) = false := beq_eq_false_iff_ne.mpr c5
      have c5b1 : (t105 != (-32768)) = true := bne_iff_ne.mpr c5
      obtain rfl := Option.some.inj H
      go_enter Try.func8, Try.ntmps8
      go_wp2_with (first | ((with_reducible refine gate_callee (f := 11) rfl ?_); refine goesL_ (some 4) rfl rfl Try.func11 (by kernel_rfl) rfl #[.int .i64 65540, .int .u16 65535] rfl (by (try simp only [List.map_toArray, List.map_cons, List.map_nil]); first | done | rfl | (simp only [List.length_drop, List.length_take]; rfl)) ?_; (with_reducible refine (turn_Likely.calls k 65540 65535 t102 t103 _ A1.out).mono ?_); rintro e w' ⟨rfl, ⟨nd, rfl⟩⟩; refine ⟨_, rfl, ?_⟩) | ((with_reducible refine gate_callee (f := 13) rfl ?_); refine goesL_ (some 7) rfl rfl Try.func13 (by kernel_rfl) rfl #[.int .u16 65535, .int .u16 0] rfl (by (try simp only [List.map_toArray, List.map_cons, List.map_nil]); first | done | rfl | (simp only [List.length_drop, List.length_take]; rfl)) ?_; (with_reducible refine (turn_Dist.calls 65535 0 t104 _ A2.out).mono ?_); rintro e w' ⟨rfl, ⟨nd, rfl⟩⟩; refine ⟨_, rfl, ?_⟩) | (go_at_call 13; (with_reducible refine (turn_Dist.calls 0 32768 t105 _ A4.out).mono ?_); rintro e w' ⟨rfl, ⟨nd, rfl⟩⟩))
      go_ret
      exact ⟨by first | rfl | (simp; done) | (simp [*]; done), by repeat (first | exact Drawn0.refl _ | apply Drawn0.step)⟩
  · rw [if_neg c3] at H
    have c3b0 : (t104 == 1) = false := beq_eq_false_iff_ne.mpr c3
    have c3b1 : (t104 != 1) = true := bne_iff_ne.mpr c3
    obtain rfl := Option.some.inj H
    go_enter Try.func8, Try.ntmps8
    go_wp2_with (first | ((with_reducible refine gate_callee (f := 11) rfl ?_); refine goesL_ (some 4) rfl rfl Try.func11 (by kernel_rfl) rfl #[.int .i64 65540, .int .u16 65535] rfl (by (try simp only [List.map_toArray, List.map_cons, List.map_nil]); first | done | rfl | (simp only [List.length_drop, List.length_take]; rfl)) ?_; (with_reducible refine (turn_Likely.calls k 65540 65535 t102 t103 _ A1.out).mono ?_); rintro e w' ⟨rfl, ⟨nd, rfl⟩⟩; refine ⟨_, rfl, ?_⟩) | ((with_reducible refine gate_callee (f := 13) rfl ?_); refine goesL_ (some 7) rfl rfl Try.func13 (by kernel_rfl) rfl #[.int .u16 65535, .int .u16 0] rfl (by (try simp only [List.map_toArray, List.map_cons, List.map_nil]); first | done | rfl | (simp only [List.length_drop, List.length_take]; rfl)) ?_; (with_reducible refine (turn_Dist.calls 65535 0 t104 _ A2.out).mono ?_); rintro e w' ⟨rfl, ⟨nd, rfl⟩⟩; refine ⟨_, rfl, ?_⟩))
    go_ret
    exact ⟨by first | rfl | (simp; done) | (simp [*]; done), by repeat (first | exact Drawn0.refl _ | apply Drawn0.step)⟩

/-! ### stillagelaw03_TurnFound: function 5 -/
def stillagelaw03_TurnFound.f (k : Nat) (a0 : Int) (a1 : Int) : Option (Bool) := (stillagelaw03_awake.f k).bind fun t107 => (if t107 = true then (if (wrap64 ((Go.bits .and .i64 a0 2305843009213693951) + (wrap64 ((wrap64 (Int.tmod (IntKind.u64.wrap (a1)) 65535)) - 32767)))) < 0 then ((turn_Likely.f k (Go.bits .and .i64 a0 2305843009213693951) (IntKind.u16.wrap (Int.tmod (Go.bits .and .i64 a0 2305843009213693951) 65536))).bind fun bt108 => (if bt108.2 = 0 then (if bt108.1 = (Go.bits .and .i64 a0 2305843009213693951) then ((turn_Dist.f (IntKind.u16.wrap (Int.tmod (Go.bits .and .i64 a0 2305843009213693951) 65536)) (IntKind.u16.wrap (Int.tmod (Go.bits .and .i64 a0 2305843009213693951) 65536))).bind fun t110 => (some (t110 == 0))) else (some false)) else (some false))) else ((turn_Likely.f k (wrap64 ((Go.bits .and .i64 a0 2305843009213693951) + (wrap64 ((wrap64 (Int.tmod (IntKind.u64.wrap (a1)) 65535)) - 32767)))) (IntKind.u16.wrap (Int.tmod (Go.bits .and .i64 a0 2305843009213693951) 65536))).bind fun bt111 => (if bt111.2 = 0 then (if bt111.1 = (Go.bits .and .i64 a0 2305843009213693951) then ((turn_Dist.f (IntKind.u16.wrap (Int.tmod (Go.bits .and .i64 a0 2305843009213693951) 65536)) (IntKind.u16.wrap (Int.tmod (wrap64 ((Go.bits .and .i64 a0 2305843009213693951) + (wrap64 ((wrap64 (Int.tmod (IntKind.u64.wrap (a1)) 65535)) - 32767)))) 65536))).bind fun t113 => (some (t113 == (wrap64 ((wrap64 (Int.tmod (IntKind.u64.wrap (a1)) 65535)) - 32767))))) else (some false)) else (some false)))) else (some false))
theorem stillagelaw03_TurnFound.mono : ∀ a0 a1 k, LeO (stillagelaw03_TurnFound.f k a0 a1) (stillagelaw03_TurnFound.f (k + 1) a0 a1) := by
  intro a0 a1 k
  unfold stillagelaw03_TurnFound.f
  repeat' first
      | (with_reducible exact stillagelaw03_awake.mono _)
      | (with_reducible exact turn_Likely.mono _ _ _)
      | (with_reducible exact LeO.refl _)
      | (with_reducible exact LeO.none _)
      | (with_reducible refine LeO.ite ?_ ?_)
      | (with_reducible refine LeO.bind ?_ (fun _ => ?_))
      | exact stillagelaw03_awake.mono _
      | exact turn_Likely.mono _ _ _
      | exact LeO.none _
      | refine LeO.ite ?_ ?_
      | refine LeO.bind ?_ (fun _ => ?_)
set_option maxHeartbeats 8000000 in
set_option maxRecDepth 100000 in
theorem stillagelaw03_TurnFound.calls (k : Nat) (a0 : Int) (a1 : Int) (r : Bool) (w : World) (h : stillagelaw03_TurnFound.f k a0 a1 = some r) :
    Calls Try.prog 5 #[.int .i64 a0, .int .i64 a1] w fun e w' => e = .returned (.bool r) ∧ Drawn0 w w' := by
  have H : ((stillagelaw03_awake.f k).bind fun t107 => (if t107 = true then (if (wrap64 ((Go.bits .and .i64 a0 2305843009213693951) + (wrap64 ((wrap64 (Int.tmod (IntKind.u64.wrap (a1)) 65535)) - 32767)))) < 0 then ((turn_Likely.f k (Go.bits .and .i64 a0 2305843009213693951) (IntKind.u16.wrap (Int.tmod (Go.bits .and .i64 a0 2305843009213693951) 65536))).bind fun bt108 => (if bt108.2 = 0 then (if bt108.1 = (Go.bits .and .i64 a0 2305843009213693951) then ((turn_Dist.f (IntKind.u16.wrap (Int.tmod (Go.bits .and .i64 a0 2305843009213693951) 65536)) (IntKind.u16.wrap (Int.tmod (Go.bits .and .i64 a0 2305843009213693951) 65536))).bind fun t110 => (some (t110 == 0))) else (some false)) else (some false))) else ((turn_Likely.f k (wrap64 ((Go.bits .and .i64 a0 2305843009213693951) + (wrap64 ((wrap64 (Int.tmod (IntKind.u64.wrap (a1)) 65535)) - 32767)))) (IntKind.u16.wrap (Int.tmod (Go.bits .and .i64 a0 2305843009213693951) 65536))).bind fun bt111 => (if bt111.2 = 0 then (if bt111.1 = (Go.bits .and .i64 a0 2305843009213693951) then ((turn_Dist.f (IntKind.u16.wrap (Int.tmod (Go.bits .and .i64 a0 2305843009213693951) 65536)) (IntKind.u16.wrap (Int.tmod (wrap64 ((Go.bits .and .i64 a0 2305843009213693951) + (wrap64 ((wrap64 (Int.tmod (IntKind.u64.wrap (a1)) 65535)) - 32767)))) 65536))).bind fun t113 => (some (t113 == (wrap64 ((wrap64 (Int.tmod (IntKind.u64.wrap (a1)) 65535)) - 32767))))) else (some false)) else (some false)))) else (some false))) = some r := h
  clear h
  replace H := Option.bind_eq_some_iff.mp H
  obtain ⟨t107, A30, H⟩ := H
  replace H : (if t107 = true then (if (wrap64 ((Go.bits .and .i64 a0 2305843009213693951) + (wrap64 ((wrap64 (Int.tmod (IntKind.u64.wrap (a1)) 65535)) - 32767)))) < 0 then ((turn_Likely.f k (Go.bits .and .i64 a0 2305843009213693951) (IntKind.u16.wrap (Int.tmod (Go.bits .and .i64 a0 2305843009213693951) 65536))).bind fun bt108 => (if bt108.2 = 0 then (if bt108.1 = (Go.bits .and .i64 a0 2305843009213693951) then ((turn_Dist.f (IntKind.u16.wrap (Int.tmod (Go.bits .and .i64 a0 2305843009213693951) 65536)) (IntKind.u16.wrap (Int.tmod (Go.bits .and .i64 a0 2305843009213693951) 65536))).bind fun t110 => (some (t110 == 0))) else (some false)) else (some false))) else ((turn_Likely.f k (wrap64 ((Go.bits .and .i64 a0 2305843009213693951) + (wrap64 ((wrap64 (Int.tmod (IntKind.u64.wrap (a1)) 65535)) - 32767)))) (IntKind.u16.wrap (Int.tmod (Go.bits .and .i64 a0 2305843009213693951) 65536))).bind fun bt111 => (if bt111.2 = 0 then (if bt111.1 = (Go.bits .and .i64 a0 2305843009213693951) then ((turn_Dist.f (IntKind.u16.wrap (Int.tmod (Go.bits .and .i64 a0 2305843009213693951) 65536)) (IntKind.u16.wrap (Int.tmod (wrap64 ((Go.bits .and .i64 a0 2305843009213693951) + (wrap64 ((wrap64 (Int.tmod (IntKind.u64.wrap (a1)) 65535)) - 32767)))) 65536))).bind fun t113 => (some (t113 == (wrap64 ((wrap64 (Int.tmod (IntKind.u64.wrap (a1)) 65535)) - 32767))))) else (some false)) else (some false)))) else (some false)) = some r := H
  have A3 := Aside0.mk A30
  clear A30
  by_cases c4 : t107 = true
  · subst c4
    have H1 : (if (wrap64 ((Go.bits .and .i64 a0 2305843009213693951) + (wrap64 ((wrap64 (Int.tmod (IntKind.u64.wrap (a1)) 65535)) - 32767)))) < 0 then ((turn_Likely.f k (Go.bits .and .i64 a0 2305843009213693951) (IntKind.u16.wrap (Int.tmod (Go.bits .and .i64 a0 2305843009213693951) 65536))).bind fun bt108 => (if bt108.2 = 0 then (if bt108.1 = (Go.bits .and .i64 a0 2305843009213693951) then ((turn_Dist.f (IntKind.u16.wrap (Int.tmod (Go.bits .and .i64 a0 2305843009213693951) 65536)) (IntKind.u16.wrap (Int.tmod (Go.bits .and .i64 a0 2305843009213693951) 65536))).bind fun t110 => (some (t110 == 0))) else (some false)) else (some false))) else ((turn_Likely.f k (wrap64 ((Go.bits .and .i64 a0 2305843009213693951) + (wrap64 ((wrap64 (Int.tmod (IntKind.u64.wrap (a1)) 65535)) - 32767)))) (IntKind.u16.wrap (Int.tmod (Go.bits .and .i64 a0 2305843009213693951) 65536))).bind fun bt111 => (if bt111.2 = 0 then (if bt111.1 = (Go.bits .and .i64 a0 2305843009213693951) then ((turn_Dist.f (IntKind.u16.wrap (Int.tmod (Go.bits .and .i64 a0 2305843009213693951) 65536)) (IntKind.u16.wrap (Int.tmod (wrap64 ((Go.bits .and .i64 a0 2305843009213693951) + (wrap64 ((wrap64 (Int.tmod (IntKind.u64.wrap (a1)) 65535)) - 32767)))) 65536))).bind fun t113 => (some (t113 == (wrap64 ((wrap64 (Int.tmod (IntKind.u64.wrap (a1)) 65535)) - 32767))))) else (some false)) else (some false)))) = some r := by rw [if_pos rfl] at H; exact H
    clear H
    have H := H1
    clear H1
    by_cases c5 : (wrap64 ((Go.bits .and .i64 a0 2305843009213693951) + (wrap64 ((wrap64 (Int.tmod (IntKind.u64.wrap (a1)) 65535)) - 32767)))) < 0
    · rw [if_pos c5] at H
      have c5b0 : decide ((wrap64 ((Go.bits .and .i64 a0 2305843009213693951) + (wrap64 ((wrap64 (Int.tmod (IntKind.u64.wrap (a1)) 65535)) - 32767)))) < 0) = true := decide_eq_true c5
      clear c5
      replace H := Option.bind_eq_some_iff.mp H
      obtain ⟨⟨t108, t109⟩, A60, H⟩ := H
      replace H : (if t109 = 0 then (if t108 = (Go.bits .and .i64 a0 2305843009213693951) then ((turn_Dist.f (IntKind.u16.wrap (Int.tmod (Go.bits .and .i64 a0 2305843009213693951) 65536)) (IntKind.u16.wrap (Int.tmod (Go.bits .and .i64 a0 2305843009213693951) 65536))).bind fun t110 => (some (t110 == 0))) else (some false)) else (some false)) = some r := H
      have A6 := Aside0.mk A60
      clear A60
      by_cases c7 : t109 = 0
      · rw [if_pos c7] at H
        have c7b0 : (t109 == 0) = true := beq_iff_eq.mpr c7
        have c7b1 : (t109 != 0) = false := bne_eq_false_iff_eq.mpr c7
        clear c7
        by_cases c8 : t108 = (Go.bits .and .i64 a0 2305843009213693951)
        · rw [if_pos c8] at H
          have c8b0 : (t108 == (Go.bits .and .i64 a0 2305843009213693951)) = true := beq_iff_eq.mpr c8
          have c8b1 : (t108 != (Go.bits .and .i64 a0 2305843009213693951)) = false := bne_eq_false_iff_eq.mpr c8
          clear c8
          replace H := Option.bind_eq_some_iff.mp H
          obtain ⟨t110, A90, H⟩ := H
          replace H : (some (t110 == 0)) = some r := H
          have A9 := Aside0.mk A90
          clear A90
          obtain rfl := Option.some.inj H
          go_enter Try.func5, Try.ntmps5
          go_wp2_with (first | ((with_reducible refine gate_callee (f := 8) rfl ?_); refine goesL_ (some 8) rfl rfl Try.func8 (by kernel_rfl) rfl #[] rfl (by (try simp only [List.map_toArray, List.map_cons, List.map_nil]); first | done | rfl | (simp only [List.length_drop, List.length_take]; rfl)) ?_; (with_reducible refine (stillagelaw03_awake.calls k  true _ A3.out).mono ?_); rintro e w' ⟨rfl, ⟨nd, rfl⟩⟩; refine ⟨_, rfl, ?_⟩) | ((with_reducible refine gate_callee (f := 11) rfl ?_); refine goesL_ (some 28) rfl rfl Try.func11 (by kernel_rfl) rfl #[.int .i64 (Go.bits .and .i64 a0 2305843009213693951), .int .u16 (IntKind.u16.wrap (Int.tmod (Go.bits .and .i64 a0 2305843009213693951) 65536))] rfl (by (try simp only [List.map_toArray, List.map_cons, List.map_nil]); first | done | rfl | (simp only [List.length_drop, List.length_take]; rfl)) ?_; (with_reducible refine (turn_Likely.calls k (Go.bits .and .i64 a0 2305843009213693951) (IntKind.u16.wrap (Int.tmod (Go.bits .and .i64 a0 2305843009213693951) 65536)) t108 t109 _ A6.out).mono ?_); rintro e w' ⟨rfl, ⟨nd, rfl⟩⟩; refine ⟨_, rfl, ?_⟩) | (go_at_call 13; (with_reducible refine (turn_Dist.calls (IntKind.u16.wrap (Int.tmod (Go.bits .and .i64 a0 2305843009213693951) 65536)) (IntKind.u16.wrap (Int.tmod (Go.bits .and .i64 a0 2305843009213693951) 65536)) t110 _ A9.out).mono ?_); rintro e w' ⟨rfl, ⟨nd, rfl⟩⟩))
          go_ret
          exact ⟨by first | rfl | (simp; done) | (simp [*]; done), by repeat (first | exact Drawn0.refl _ | apply Drawn0.step)⟩
        · rw [if_neg c8] at H
          have c8b0 : (t108 == (Go.bits .and .i64 a0 2305843009213693951)) = false := beq_eq_false_iff_ne.mpr c8
          have c8b1 : (t108 != (Go.bits .and .i64 a0 2305843009213693951)) = true := bne_iff_ne.mpr c8
          obtain rfl := Option.some.inj H
          go_enter Try.func5, Try.ntmps5
          go_wp2_with (first | ((with_reducible refine gate_callee (f := 8) rfl ?_); refine goesL_ (some 8) rfl rfl Try.func8 (by kernel_rfl) rfl #[] rfl (by (try simp only [List.map_toArray, List.map_cons, List.map_nil]); first | done | rfl | (simp only [List.length_drop, List.length_take]; rfl)) ?_; (with_reducible refine (stillagelaw03_awake.calls k  true _ A3.out).mono ?_); rintro e w' ⟨rfl, ⟨nd, rfl⟩⟩; refine ⟨_, rfl, ?_⟩) | ((with_reducible refine gate_callee (f := 11) rfl ?_); refine goesL_ (some 28) rfl rfl Try.func11 (by kernel_rfl) rfl #[.int .i64 (Go.bits .and .i64 a0 2305843009213693951), .int .u16 (IntKind.u16.wrap (Int.tmod (Go.bits .and .i64 a0 2305843009213693951) 65536))] rfl (by (try simp only [List.map_toArray, List.map_cons, List.map_nil]); first | done | rfl | (simp only [List.length_drop, List.length_take]; rfl)) ?_; (with_reducible refine (turn_Likely.calls k (Go.bits .and .i64 a0 2305843009213693951) (IntKind.u16.wrap (Int.tmod (Go.bits .and .i64 a0 2305843009213693951) 65536)) t108 t109 _ A6.out).mono ?_); rintro e w' ⟨rfl, ⟨nd, rfl⟩⟩; refine ⟨_, rfl, ?_⟩))
          go_ret
          exact ⟨by first | rfl | (simp; done) | (simp [*]; done), by repeat (first | exact Drawn0.refl _ | apply Drawn0.step)⟩
      · rw [if_neg c7] at H
        have c7b0 : (t109 == 0) = false := beq_eq_false_iff_ne.mpr c7
        have c7b1 : (t109 != 0) = true := bne_iff_ne.mpr c7
        obtain rfl := Option.some.inj H
        go_enter Try.func5, Try.ntmps5
        go_wp2_with (first | ((with_reducible refine gate_callee (f := 8) rfl ?_); refine goesL_ (some 8) rfl rfl Try.func8 (by kernel_rfl) rfl #[] rfl (by (try simp only [List.map_toArray, List.map_cons, List.map_nil]); first | done | rfl | (simp only [List.length_drop, List.length_take]; rfl)) ?_; (with_reducible refine (stillagelaw03_awake.calls k  true _ A3.out).mono ?_); rintro e w' ⟨rfl, ⟨nd, rfl⟩⟩; refine ⟨_, rfl, ?_⟩) | ((with_reducible refine gate_callee (f := 11) rfl ?_); refine goesL_ (some 28) rfl rfl Try.func11 (by kernel_rfl) rfl #[.int .i64 (Go.bits .and .i64 a0 2305843009213693951), .int .u16 (IntKind.u16.wrap (Int.tmod (Go.bits .and .i64 a0 2305843009213693951) 65536))] rfl (by (try simp only [List.map_toArray, List.map_cons, List.map_nil]); first | done | rfl | (simp only [List.length_drop, List.length_take]; rfl)) ?_; (with_reducible refine (turn_Likely.calls k (Go.bits .and .i64 a0 2305843009213693951) (IntKind.u16.wrap (Int.tmod (Go.bits .and .i64 a0 2305843009213693951) 65536)) t108 t109 _ A6.out).mono ?_); rintro e w' ⟨rfl, ⟨nd, rfl⟩⟩; refine ⟨_, rfl, ?_⟩))
        go_ret
        exact ⟨by first | rfl | (simp; done) | (simp [*]; done), by repeat (first | exact Drawn0.refl _ | apply Drawn0.step)⟩
    · rw [if_neg c5] at H
      have c5b0 : decide ((wrap64 ((Go.bits .and .i64 a0 2305843009213693951) + (wrap64 ((wrap64 (Int.tmod (IntKind.u64.wrap (a1)) 65535)) - 32767)))) < 0) = false := decide_eq_false c5
      clear c5
      replace H := Option.bind_eq_some_iff.mp H
      obtain ⟨⟨t111, t112⟩, A100, H⟩ := H
      replace H : (if t112 = 0 then (if t111 = (Go.bits .and .i64 a0 2305843009213693951) then ((turn_Dist.f (IntKind.u16.wrap (Int.tmod (Go.bits .and .i64 a0 2305843009213693951) 65536)) (IntKind.u16.wrap (Int.tmod (wrap64 ((Go.bits .and .i64 a0 2305843009213693951) + (wrap64 ((wrap64 (Int.tmod (IntKind.u64.wrap (a1)) 65535)) - 32767)))) 65536))).bind fun t113 => (some (t113 == (wrap64 ((wrap64 (Int.tmod (IntKind.u64.wrap (a1)) 65535)) - 32767))))) else (some false)) else (some false)) = some r := H
      have A10 := Aside0.mk A100
      clear A100
      by_cases c11 : t112 = 0
      · rw [if_pos c11] at H
        have c11b0 : (t112 == 0) = true := beq_iff_eq.mpr c11
        have c11b1 : (t112 != 0) = false := bne_eq_false_iff_eq.mpr c11
        clear c11
        by_cases c12 : t111 = (Go.bits .and .i64 a0 2305843009213693951)
        · rw [if_pos c12] at H
          have c12b0 : (t111 == (Go.bits .and .i64 a0 2305843009213693951)) = true := beq_iff_eq.mpr c12
          have c12b1 : (t111 != (Go.bits .and .i64 a0 2305843009213693951)) = false := bne_eq_false_iff_eq.mpr c12
          clear c12
          replace H := Option.bind_eq_some_iff.mp H
          obtain ⟨t113, A130, H⟩ := H
          replace H : (some (t113 == (wrap64 ((wrap64 (Int.tmod (IntKind.u64.wrap (a1)) 65535)) - 32767)))) = some r := H
          have A13 := Aside0.mk A130
          clear A130
          obtain rfl := Option.some.inj H
          go_enter Try.func5, Try.ntmps5
          go_wp2_with (first | ((with_reducible refine gate_callee (f := 8) rfl ?_); refine goesL_ (some 8) rfl rfl Try.func8 (by kernel_rfl) rfl #[] rfl (by (try simp only [List.map_toArray, List.map_cons, List.map_nil]); first | done | rfl | (simp only [List.length_drop, List.length_take]; rfl)) ?_; (with_reducible refine (stillagelaw03_awake.calls k  true _ A3.out).mono ?_); rintro e w' ⟨rfl, ⟨nd, rfl⟩⟩; refine ⟨_, rfl, ?_⟩) | ((with_reducible refine gate_callee (f := 11) rfl ?_); refine goesL_ (some 28) rfl rfl Try.func11 (by kernel_rfl) rfl #[.int .i64 (wrap64 ((Go.bits .and .i64 a0 2305843009213693951) + (wrap64 ((wrap64 (Int.tmod (IntKind.u64.wrap (a1)) 65535)) - 32767)))), .int .u16 (IntKind.u16.wrap (Int.tmod (Go.bits .and .i64 a0 2305843009213693951) 65536))] rfl (by (try simp only [List.map_toArray, List.map_cons, List.map_nil]); first | done | rfl | (simp only [List.length_drop, List.length_take]; rfl)) ?_; (with_reducible refine (turn_Likely.calls k (wrap64 ((Go.bits .and .i64 a0 2305843009213693951) + (wrap64 ((wrap64 (Int.tmod (IntKind.u64.wrap (a1)) 65535)) - 32767)))) (IntKind.u16.wrap (Int.tmod (Go.bits .and .i64 a0 2305843009213693951) 65536)) t111 t112 _ A10.out).mono ?_); rintro e w' ⟨rfl, ⟨nd, rfl⟩⟩; refine ⟨_, rfl, ?_⟩) | (go_at_call 13; (with_reducible refine (turn_Dist.calls (IntKind.u16.wrap (Int.tmod (Go.bits .and .i64 a0 2305843009213693951) 65536)) (IntKind.u16.wrap (Int.tmod (wrap64 ((Go.bits .and .i64 a0 2305843009213693951) + (wrap64 ((wrap64 (Int.tmod (IntKind.u64.wrap (a1)) 65535)) - 32767)))) 65536)) t113 _ A13.out).mono ?_); rintro e w' ⟨rfl, ⟨nd, rfl⟩⟩))
          go_ret
          exact ⟨by first | rfl | (simp; done) | (simp [*]; done), by repeat (first | exact Drawn0.refl _ | apply Drawn0.step)⟩
        · rw [if_neg c12] at H
          have c12b0 : (t111 == (Go.bits .and .i64 a0 2305843009213693951)) = false := beq_eq_false_iff_ne.mpr c12
          have c12b1 : (t111 != (Go.bits .and .i64 a0 2305843009213693951)) = true := bne_iff_ne.mpr c12
          obtain rfl := Option.some.inj H
          go_enter Try.func5, Try.ntmps5
          go_wp2_with (first | ((with_reducible refine gate_callee (f := 8) rfl ?_); refine goesL_ (some 8) rfl rfl Try.func8 (by kernel_rfl) rfl #[] rfl (by (try simp only [List.map_toArray, List.map_cons, List.map_nil]); first | done | rfl | (simp only [List.length_drop, List.length_take]; rfl)) ?_; (with_reducible refine (stillagelaw03_awake.calls k  true _ A3.out).mono ?_); rintro e w' ⟨rfl, ⟨nd, rfl⟩⟩; refine ⟨_, rfl, ?_⟩) | ((with_reducible refine gate_callee (f := 11) rfl ?_); refine goesL_ (some 28) rfl rfl Try.func11 (by kernel_rfl) rfl #[.int .i64 (wrap64 ((Go.bits .and .i64 a0 2305843009213693951) + (wrap64 ((wrap64 (Int.tmod (IntKind.u64.wrap (a1)) 65535)) - 32767)))), .int .u16 (IntKind.u16.wrap (Int.tmod (Go.bits .and .i64 a0 2305843009213693951) 65536))] rfl (by (try simp only [List.map_toArray, List.map_cons, List.map_nil]); first | done | rfl | (simp only [List.length_drop, List.length_take]; rfl)) ?_; (with_reducible refine (turn_Likely.calls k (wrap64 ((Go.bits .and .i64 a0 2305843009213693951) + (wrap64 ((wrap64 (Int.tmod (IntKind.u64.wrap (a1)) 65535)) - 32767)))) (IntKind.u16.wrap (Int.tmod (Go.bits .and .i64 a0 2305843009213693951) 65536)) t111 t112 _ A10.out).mono ?_); rintro e w' ⟨rfl, ⟨nd, rfl⟩⟩; refine ⟨_, rfl, ?_⟩))
          go_ret
          exact ⟨by first | rfl | (simp; done) | (simp [*]; done), by repeat (first | exact Drawn0.refl _ | apply Drawn0.step)⟩
      · rw [if_neg c11] at H
        have c11b0 : (t112 == 0) = false := beq_eq_false_iff_ne.mpr c11
        have c11b1 : (t112 != 0) = true := bne_iff_ne.mpr c11
        obtain rfl := Option.some.inj H
        go_enter Try.func5, Try.ntmps5
        go_wp2_with (first | ((with_reducible refine gate_callee (f := 8) rfl ?_); refine goesL_ (some 8) rfl rfl Try.func8 (by kernel_rfl) rfl #[] rfl (by (try simp only [List.map_toArray, List.map_cons, List.map_nil]); first | done | rfl | (simp only [List.length_drop, List.length_take]; rfl)) ?_; (with_reducible refine (stillagelaw03_awake.calls k  true _ A3.out).mono ?_); rintro e w' ⟨rfl, ⟨nd, rfl⟩⟩; refine ⟨_, rfl, ?_⟩) | ((with_reducible refine gate_callee (f := 11) rfl ?_); refine goesL_ (some 28) rfl rfl Try.func11 (by kernel_rfl) rfl #[.int .i64 (wrap64 ((Go.bits .and .i64 a0 2305843009213693951) + (wrap64 ((wrap64 (Int.tmod (IntKind.u64.wrap (a1)) 65535)) - 32767)))), .int .u16 (IntKind.u16.wrap (Int.tmod (Go.bits .and .i64 a0 2305843009213693951) 65536))] rfl (by (try simp only [List.map_toArray, List.map_cons, List.map_nil]); first | done | rfl | (simp only [List.length_drop, List.length_take]; rfl)) ?_; (with_reducible refine (turn_Likely.calls k (wrap64 ((Go.bits .and .i64 a0 2305843009213693951) + (wrap64 ((wrap64 (Int.tmod (IntKind.u64.wrap (a1)) 65535)) - 32767)))) (IntKind.u16.wrap (Int.tmod (Go.bits .and .i64 a0 2305843009213693951) 65536)) t111 t112 _ A10.out).mono ?_); rintro e w' ⟨rfl, ⟨nd, rfl⟩⟩; refine ⟨_, rfl, ?_⟩))
        go_ret
        exact ⟨by first | rfl | (simp; done) | (simp [*]; done), by repeat (first | exact Drawn0.refl _ | apply Drawn0.step)⟩
  · replace c4 := Bool.eq_false_iff.mpr c4
    subst c4
    have H1 : (some false) = some r := by rw [if_neg (show ¬ (false = true) by decide)] at H; exact H
    clear H
    have H := H1
    clear H1
    obtain rfl := Option.some.inj H
    go_enter Try.func5, Try.ntmps5
    go_wp2_with (first | ((with_reducible refine gate_callee (f := 8) rfl ?_); refine goesL_ (some 8) rfl rfl Try.func8 (by kernel_rfl) rfl #[] rfl (by (try simp only [List.map_toArray, List.map_cons, List.map_nil]); first | done | rfl | (simp only [List.length_drop, List.length_take]; rfl)) ?_; (with_reducible refine (stillagelaw03_awake.calls k  false _ A3.out).mono ?_); rintro e w' ⟨rfl, ⟨nd, rfl⟩⟩; refine ⟨_, rfl, ?_⟩))
    go_ret
    exact ⟨by first | rfl | (simp; done) | (simp [*]; done), by repeat (first | exact Drawn0.refl _ | apply Drawn0.step)⟩

/-- THE ONE PURE STATEMENT of stillagelaw03_TurnFound: yours. -/
def stillagelaw03_TurnFound.Pure : Prop := ∀ (a0 : Int) (a1 : Int), (Lit.int .i64 a0).wf = true → (Lit.int .i64 a1).wf = true → ∃ k, stillagelaw03_TurnFound.f k a0 a1 = some true
theorem stillagelaw03_TurnFound.walk (P : stillagelaw03_TurnFound.Pure) (a0 : Int) (a1 : Int) (w : World) (w0 : (Lit.int .i64 a0).wf = true) (w1 : (Lit.int .i64 a1).wf = true) :
    Calls Try.prog 5 #[.int .i64 a0, .int .i64 a1] w fun e w' => e = .returned (.bool true) ∧ Below w.heap.size w w' := by
  obtain ⟨k, h⟩ := P a0 a1 w0 w1
  refine (stillagelaw03_TurnFound.calls k a0 a1 true w h).mono ?_
  rintro e w' ⟨rfl, hd⟩
  exact ⟨rfl, hd.below⟩

end Go.Proofs.Ythlpachpogbonaa.PTurnFound
