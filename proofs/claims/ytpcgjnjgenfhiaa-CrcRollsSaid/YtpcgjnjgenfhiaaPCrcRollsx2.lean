-- Written by a program of this session (wip/oprint): after the pattern of the kit's print, which does not take this law.
import Derived.Test.YtpcgjnjgenfhiaaPCrcRollsx0
import Derived.Test.YtpcgjnjgenfhiaaPCrcRollsx1
namespace Go.Proofs.Ytpcgjnjgenfhiaa.PCrcRolls
open Go.RowKit Go.Proofs.YtpcgjnjgenfhiaaW.PrintWords Go.Proofs.YtpcgjnjgenfhiaaW.PrintLast Go.Proofs.YtpcgjnjgenfhiaaW.PrintMore
attribute [local go_sem] max2_int min2_int max_two min_two max_three min_three max_four min_four   -- for this text's walks alone
set_option linter.unusedVariables false
set_option linter.unusedSimpArgs false

/-! ### stillageref01_Step: function 13 -/
def stillageref01_Step.l0 : Nat → Int → Int → Option (Int)
  | 0, _, _ => none
  | k + 1, x0, x5 => if x5 < 8 then (if x0 ≥ 32768 then (stillageref01_Step.l0 k (Go.bits .xor .u16 (IntKind.u16.wrap (x0 * 2)) 4129) (wrap64 (x5 + 1))) else (stillageref01_Step.l0 k (IntKind.u16.wrap (x0 * 2)) (wrap64 (x5 + 1)))) else (some x0)
def stillageref01_Step.f (k : Nat) (a0 : Int) (a1 : Int) : Option (Int) := stillageref01_Step.l0 k (Go.bits .xor .u16 a0 (IntKind.u16.wrap ((IntKind.u16.wrap (a1)) * 256))) 0
theorem stillageref01_Step.mono_l : ∀ k, (∀ y0 y1, LeO (stillageref01_Step.l0 k y0 y1) (stillageref01_Step.l0 (k + 1) y0 y1))
  | 0 => fun _ _ r h => by simp [stillageref01_Step.l0] at h
  | k + 1 => by
    have ih0 := stillageref01_Step.mono_l k
    · intro y0 y1
      unfold stillageref01_Step.l0
      repeat' first
      | (with_reducible exact ih0 _ _)
      | (with_reducible exact LeO.refl _)
      | (with_reducible exact LeO.none _)
      | (with_reducible refine LeO.ite ?_ ?_)
      | (with_reducible refine LeO.bind ?_ (fun _ => ?_))
      | exact ih0 _ _
      | exact LeO.none _
      | refine LeO.ite ?_ ?_
      | refine LeO.bind ?_ (fun _ => ?_)
theorem stillageref01_Step.mono : ∀ a0 a1 k, LeO (stillageref01_Step.f k a0 a1) (stillageref01_Step.f (k + 1) a0 a1) := by
  intro a0 a1 k
  have ih0 := stillageref01_Step.mono_l k
  unfold stillageref01_Step.f
  repeat' first
      | (with_reducible exact ih0 _ _)
      | (with_reducible exact LeO.refl _)
      | (with_reducible exact LeO.none _)
      | (with_reducible refine LeO.ite ?_ ?_)
      | (with_reducible refine LeO.bind ?_ (fun _ => ?_))
      | exact ih0 _ _
      | exact LeO.none _
      | refine LeO.ite ?_ ?_
      | refine LeO.bind ?_ (fun _ => ?_)
set_option maxHeartbeats 8000000 in
set_option maxRecDepth 100000 in
theorem stillageref01_Step.calls (k : Nat) (a0 : Int) (a1 : Int) (r : Int) (w : World) (h : stillageref01_Step.f k a0 a1 = some r) :
    Calls Try.prog 13 #[.int .u16 a0, .int .u8 a1] w fun e w' => e = .returned (.int .u16 r) ∧ Drawn0 w w' := by
  have H : (stillageref01_Step.l0 k (Go.bits .xor .u16 a0 (IntKind.u16.wrap ((IntKind.u16.wrap (a1)) * 256))) 0) = some r := h
  clear h
  have H' := Aside0.mk H
  clear H
  go_enter Try.func13, Try.ntmps13
  go_wp2
  go_loopg [0, 5] k (fun kq v0 v5 w' => ∃ (x0_1 : Int) (x5_1 : Int), v0 = .int .u16 x0_1 ∧ v5 = .int .i64 x5_1 ∧ Aside0 (stillageref01_Step.l0 kq x0_1 x5_1 = some r) ∧ Aside0 (kq ≤ k) ∧ Drawn0 w w')
  case atStart => exact ⟨(Go.bits .xor .u16 a0 (IntKind.u16.wrap ((IntKind.u16.wrap (a1)) * 256))), (0), (by first | rfl | (simp; done) | (simp [*]; done)), (by first | rfl | (simp; done) | (simp [*]; done)), H', ⟨Nat.le_refl _⟩, by repeat (first | exact Drawn0.refl _ | apply Drawn0.step)⟩
  case round =>
    clear H'
    try clear c1
    try clear p2
    obtain ⟨x0_1, x5_1, rfl, rfl, HA, HK1, ⟨m1, rfl⟩⟩ := hrel
    cases gk with
    | zero => exact absurd HA.out (by simp [stillageref01_Step.l0])
    | succ k1 =>
      have H := HA.out
      clear HA
      simp only [stillageref01_Step.l0] at H
      by_cases c3 : x5_1 < 8
      · rw [if_pos c3] at H
        have c3b0 : decide (x5_1 < 8) = true := decide_eq_true c3
        clear c3
        by_cases c4 : x0_1 ≥ 32768
        · rw [if_pos c4] at H
          have c4b0 : decide (32768 ≤ x0_1) = true := decide_eq_true c4
          clear c4
          have H' := Aside0.mk H
          clear H
          go_wp2
          go_roundg k1
          case measure => have := HK1.out; omega
          case rel => exact ⟨(Go.bits .xor .u16 (IntKind.u16.wrap (x0_1 * 2)) 4129), (wrap64 (x5_1 + 1)), (by first | rfl | (simp; done) | (simp [*]; done)), (by first | rfl | (simp; done) | (simp [*]; done)), H', ⟨by have := HK1.out; omega⟩, by repeat (first | exact Drawn0.refl _ | apply Drawn0.step)⟩
        · rw [if_neg c4] at H
          have c4b0 : decide (32768 ≤ x0_1) = false := decide_eq_false c4
          clear c4
          have H' := Aside0.mk H
          clear H
          go_wp2
          go_roundg k1
          case measure => have := HK1.out; omega
          case rel => exact ⟨(IntKind.u16.wrap (x0_1 * 2)), (wrap64 (x5_1 + 1)), (by first | rfl | (simp; done) | (simp [*]; done)), (by first | rfl | (simp; done) | (simp [*]; done)), H', ⟨by have := HK1.out; omega⟩, by repeat (first | exact Drawn0.refl _ | apply Drawn0.step)⟩
      · rw [if_neg c3] at H
        have c3b0 : decide (x5_1 < 8) = false := decide_eq_false c3
        clear c3
        obtain rfl := Option.some.inj H
        go_wp2
        go_ret
        exact ⟨by first | rfl | (simp; done) | (simp [*]; done), by repeat (first | exact Drawn0.refl _ | apply Drawn0.step)⟩

/-! ### stillageref01_Roll: function 17 -/
def stillageref01_Roll.l0 : Nat → Int → Int → Int → Option (Int)
  | 0, _, _, _ => none
  | k + 1, x0, x1, x5 => if x5 < x1 then ((stillageref01_Step.f k x0 0).bind fun t108 => (stillageref01_Roll.l0 k t108 x1 (wrap64 (x5 + 1)))) else (some x0)
def stillageref01_Roll.f (k : Nat) (a0 : Int) (a1 : Int) : Option (Int) := stillageref01_Roll.l0 k a0 a1 0
theorem stillageref01_Roll.mono_l : ∀ k, (∀ y0 y1 y2, LeO (stillageref01_Roll.l0 k y0 y1 y2) (stillageref01_Roll.l0 (k + 1) y0 y1 y2))
  | 0 => fun _ _ _ r h => by simp [stillageref01_Roll.l0] at h
  | k + 1 => by
    have ih0 := stillageref01_Roll.mono_l k
    · intro y0 y1 y2
      unfold stillageref01_Roll.l0
      repeat' first
      | (with_reducible exact ih0 _ _ _)
      | (with_reducible exact stillageref01_Step.mono _ _ _)
      | (with_reducible exact LeO.refl _)
      | (with_reducible exact LeO.none _)
      | (with_reducible refine LeO.ite ?_ ?_)
      | (with_reducible refine LeO.bind ?_ (fun _ => ?_))
      | exact ih0 _ _ _
      | exact stillageref01_Step.mono _ _ _
      | exact LeO.none _
      | refine LeO.ite ?_ ?_
      | refine LeO.bind ?_ (fun _ => ?_)
theorem stillageref01_Roll.mono : ∀ a0 a1 k, LeO (stillageref01_Roll.f k a0 a1) (stillageref01_Roll.f (k + 1) a0 a1) := by
  intro a0 a1 k
  have ih0 := stillageref01_Roll.mono_l k
  unfold stillageref01_Roll.f
  repeat' first
      | (with_reducible exact ih0 _ _ _)
      | (with_reducible exact stillageref01_Step.mono _ _ _)
      | (with_reducible exact LeO.refl _)
      | (with_reducible exact LeO.none _)
      | (with_reducible refine LeO.ite ?_ ?_)
      | (with_reducible refine LeO.bind ?_ (fun _ => ?_))
      | exact ih0 _ _ _
      | exact stillageref01_Step.mono _ _ _
      | exact LeO.none _
      | refine LeO.ite ?_ ?_
      | refine LeO.bind ?_ (fun _ => ?_)
set_option maxHeartbeats 8000000 in
set_option maxRecDepth 100000 in
theorem stillageref01_Roll.calls (k : Nat) (a0 : Int) (a1 : Int) (r : Int) (w : World) (h : stillageref01_Roll.f k a0 a1 = some r) :
    Calls Try.prog 17 #[.int .u16 a0, .int .i64 a1] w fun e w' => e = .returned (.int .u16 r) ∧ Drawn0 w w' := by
  have H : (stillageref01_Roll.l0 k a0 a1 0) = some r := h
  clear h
  have H' := Aside0.mk H
  clear H
  go_enter Try.func17, Try.ntmps17
  go_wp2
  go_loopg [0, 5] k (fun kq v0 v5 w' => ∃ (x0_1 : Int) (x5_1 : Int), v0 = .int .u16 x0_1 ∧ v5 = .int .i64 x5_1 ∧ Aside0 (stillageref01_Roll.l0 kq x0_1 a1 x5_1 = some r) ∧ Aside0 (kq ≤ k) ∧ Drawn0 w w')
  case atStart => exact ⟨(a0), (0), (by first | rfl | (simp; done) | (simp [*]; done)), (by first | rfl | (simp; done) | (simp [*]; done)), H', ⟨Nat.le_refl _⟩, by repeat (first | exact Drawn0.refl _ | apply Drawn0.step)⟩
  case round =>
    clear H'
    try clear c1
    try clear p2
    obtain ⟨x0_1, x5_1, rfl, rfl, HA, HK1, ⟨m1, rfl⟩⟩ := hrel
    cases gk with
    | zero => exact absurd HA.out (by simp [stillageref01_Roll.l0])
    | succ k1 =>
      have H := HA.out
      clear HA
      simp only [stillageref01_Roll.l0] at H
      by_cases c3 : x5_1 < a1
      · rw [if_pos c3] at H
        have c3b0 : decide (x5_1 < a1) = true := decide_eq_true c3
        clear c3
        replace H := Option.bind_eq_some_iff.mp H
        obtain ⟨t108, A40, H⟩ := H
        replace H : (stillageref01_Roll.l0 k1 t108 a1 (wrap64 (x5_1 + 1))) = some r := H
        have A4 := Aside0.mk A40
        clear A40
        have H' := Aside0.mk H
        clear H
        go_wp2_with (first | ((with_reducible refine gate_callee (f := 13) rfl ?_); refine goesL_ (some 12) rfl rfl Try.func13 (by kernel_rfl) rfl #[.int .u16 x0_1, .int .u8 0] rfl (by (try simp only [List.map_toArray, List.map_cons, List.map_nil]); first | done | rfl | (simp only [List.length_drop, List.length_take]; rfl)) ?_; (with_reducible refine (stillageref01_Step.calls k1 x0_1 0 t108 _ A4.out).mono ?_); rintro e w' ⟨rfl, ⟨nd, rfl⟩⟩; refine ⟨_, rfl, ?_⟩))
        go_roundg k1
        case measure => have := HK1.out; omega
        case rel => exact ⟨(t108), (wrap64 (x5_1 + 1)), (by first | rfl | (simp; done) | (simp [*]; done)), (by first | rfl | (simp; done) | (simp [*]; done)), H', ⟨by have := HK1.out; omega⟩, by repeat (first | exact Drawn0.refl _ | apply Drawn0.step)⟩
      · rw [if_neg c3] at H
        have c3b0 : decide (x5_1 < a1) = false := decide_eq_false c3
        clear c3
        obtain rfl := Option.some.inj H
        go_wp2
        go_ret
        exact ⟨by first | rfl | (simp; done) | (simp [*]; done), by repeat (first | exact Drawn0.refl _ | apply Drawn0.step)⟩

/-! ### stillagelaw01_CrcRolls: function 5 -/
mutual
def stillagelaw01_CrcRolls.j0 : Nat → Int → Int → Int → Int → Bool → Option (Bool)
  | 0, _, _, _, _, _ => none
  | k + 1, x0, x1, x2, x7, x35 => if x35 = true then (some false) else ((crc_Roll.f k x0 x2).bind fun bt113 => (if x2 < 0 then (stillagelaw01_CrcRolls.j1 k x0 x1 x2 x7 bt113.2 bt113.1 true) else (stillagelaw01_CrcRolls.j1 k x0 x1 x2 x7 bt113.2 bt113.1 (decide (x2 > 1099511627776)))))
def stillagelaw01_CrcRolls.j1 : Nat → Int → Int → Int → Int → Int → Int → Bool → Option (Bool)
  | 0, _, _, _, _, _, _, _ => none
  | k + 1, x0, x1, x2, x7, x8, x9, x47 => if x47 = true then (if x8 = 1 then (some (x9 == 0)) else (some false)) else (if x8 = 0 then (if x2 > (wrap64 (1099511627776 - x1)) then (some true) else ((crc_Roll.f k x9 x1).bind fun bt115 => ((crc_Roll.f k x0 (wrap64 (x2 + x1))).bind fun bt117 => ((crc_Roll.f k x7 x2).bind fun bt119 => (if bt115.2 = 0 then (if bt117.2 = 0 then (if bt119.2 = 0 then (if bt115.1 = bt117.1 then (some (bt119.1 == bt117.1)) else (some false)) else (some false)) else (some false)) else (some false)))))) else (some false))
end
def stillagelaw01_CrcRolls.f (k : Nat) (a0 : Int) (a1 : Int) (a2 : Int) : Option (Bool) := (stillagelaw01_awake.f).bind fun t109 => (if t109 = true then ((crc_Roll.f k a0 (wrap64 (Int.tmod (IntKind.u64.wrap (a1)) 400))).bind fun bt110 => (if bt110.2 = 0 then ((stillageref01_Roll.f k a0 (wrap64 (Int.tmod (IntKind.u64.wrap (a1)) 400))).bind fun t112 => (stillagelaw01_CrcRolls.j0 k a0 (wrap64 (Int.tmod (IntKind.u64.wrap (a1)) 400)) a2 bt110.1 (bt110.1 != t112))) else (stillagelaw01_CrcRolls.j0 k a0 (wrap64 (Int.tmod (IntKind.u64.wrap (a1)) 400)) a2 bt110.1 true))) else (some false))
theorem stillagelaw01_CrcRolls.mono_l : ∀ k, (∀ y0 y1 y2 y3 y4, LeO (stillagelaw01_CrcRolls.j0 k y0 y1 y2 y3 y4) (stillagelaw01_CrcRolls.j0 (k + 1) y0 y1 y2 y3 y4)) ∧ (∀ y0 y1 y2 y3 y4 y5 y6, LeO (stillagelaw01_CrcRolls.j1 k y0 y1 y2 y3 y4 y5 y6) (stillagelaw01_CrcRolls.j1 (k + 1) y0 y1 y2 y3 y4 y5 y6))
  | 0 => ⟨fun _ _ _ _ _ r h => by simp [stillagelaw01_CrcRolls.j0] at h, fun _ _ _ _ _ _ _ r h => by simp [stillagelaw01_CrcRolls.j1] at h⟩
  | k + 1 => by
    obtain ⟨ih0, ih1⟩ := stillagelaw01_CrcRolls.mono_l k
    refine ⟨?_, ?_⟩
    · intro y0 y1 y2 y3 y4
      unfold stillagelaw01_CrcRolls.j0
      repeat' first
      | (with_reducible exact ih0 _ _ _ _ _)
      | (with_reducible exact ih1 _ _ _ _ _ _ _)
      | (with_reducible exact crc_Roll.mono _ _ _)
      | (with_reducible exact stillageref01_Roll.mono _ _ _)
      | (with_reducible exact LeO.refl _)
      | (with_reducible exact LeO.none _)
      | (with_reducible refine LeO.ite ?_ ?_)
      | (with_reducible refine LeO.bind ?_ (fun _ => ?_))
      | exact ih0 _ _ _ _ _
      | exact ih1 _ _ _ _ _ _ _
      | exact crc_Roll.mono _ _ _
      | exact stillageref01_Roll.mono _ _ _
      | exact LeO.none _
      | refine LeO.ite ?_ ?_
      | refine LeO.bind ?_ (fun _ => ?_)
    · intro y0 y1 y2 y3 y4 y5 y6
      unfold stillagelaw01_CrcRolls.j1
      repeat' first
      | (with_reducible exact ih0 _ _ _ _ _)
      | (with_reducible exact ih1 _ _ _ _ _ _ _)
      | (with_reducible exact crc_Roll.mono _ _ _)
      | (with_reducible exact stillageref01_Roll.mono _ _ _)
      | (with_reducible exact LeO.refl _)
      | (with_reducible exact LeO.none _)
      | (with_reducible refine LeO.ite ?_ ?_)
      | (with_reducible refine LeO.bind ?_ (fun _ => ?_))
      | exact ih0 _ _ _ _ _
      | exact ih1 _ _ _ _ _ _ _
      | exact crc_Roll.mono _ _ _
      | exact stillageref01_Roll.mono _ _ _
      | exact LeO.none _
      | refine LeO.ite ?_ ?_
      | refine LeO.bind ?_ (fun _ => ?_)
theorem stillagelaw01_CrcRolls.mono : ∀ a0 a1 a2 k, LeO (stillagelaw01_CrcRolls.f k a0 a1 a2) (stillagelaw01_CrcRolls.f (k + 1) a0 a1 a2) := by
  intro a0 a1 a2 k
  obtain ⟨ih0, ih1⟩ := stillagelaw01_CrcRolls.mono_l k
  unfold stillagelaw01_CrcRolls.f
  repeat' first
      | (with_reducible exact ih0 _ _ _ _ _)
      | (with_reducible exact ih1 _ _ _ _ _ _ _)
      | (with_reducible exact crc_Roll.mono _ _ _)
      | (with_reducible exact stillageref01_Roll.mono _ _ _)
      | (with_reducible exact LeO.refl _)
      | (with_reducible exact LeO.none _)
      | (with_reducible refine LeO.ite ?_ ?_)
      | (with_reducible refine LeO.bind ?_ (fun _ => ?_))
      | exact ih0 _ _ _ _ _
      | exact ih1 _ _ _ _ _ _ _
      | exact crc_Roll.mono _ _ _
      | exact stillageref01_Roll.mono _ _ _
      | exact LeO.none _
      | refine LeO.ite ?_ ?_
      | refine LeO.bind ?_ (fun _ => ?_)
set_option maxHeartbeats 8000000 in
set_option maxRecDepth 100000 in
theorem stillagelaw01_CrcRolls.calls (k : Nat) (a0 : Int) (a1 : Int) (a2 : Int) (r : Bool) (w : World) (h : stillagelaw01_CrcRolls.f k a0 a1 a2 = some r) :
    Calls Try.prog 5 #[.int .u16 a0, .int .i64 a1, .int .i64 a2] w fun e w' => e = .returned (.bool r) ∧ Below w.heap.size w w' := by
  have HB := Aside0.mk (Below.refl w.heap.size w)
  have H : ((stillagelaw01_awake.f).bind fun t109 => (if t109 = true then ((crc_Roll.f k a0 (wrap64 (Int.tmod (IntKind.u64.wrap (a1)) 400))).bind fun bt110 => (if bt110.2 = 0 then ((stillageref01_Roll.f k a0 (wrap64 (Int.tmod (IntKind.u64.wrap (a1)) 400))).bind fun t112 => (stillagelaw01_CrcRolls.j0 k a0 (wrap64 (Int.tmod (IntKind.u64.wrap (a1)) 400)) a2 bt110.1 (bt110.1 != t112))) else (stillagelaw01_CrcRolls.j0 k a0 (wrap64 (Int.tmod (IntKind.u64.wrap (a1)) 400)) a2 bt110.1 true))) else (some false))) = some r := h
  clear h
  replace H := Option.bind_eq_some_iff.mp H
  obtain ⟨t109, A40, H⟩ := H
  replace H : (if t109 = true then ((crc_Roll.f k a0 (wrap64 (Int.tmod (IntKind.u64.wrap (a1)) 400))).bind fun bt110 => (if bt110.2 = 0 then ((stillageref01_Roll.f k a0 (wrap64 (Int.tmod (IntKind.u64.wrap (a1)) 400))).bind fun t112 => (stillagelaw01_CrcRolls.j0 k a0 (wrap64 (Int.tmod (IntKind.u64.wrap (a1)) 400)) a2 bt110.1 (bt110.1 != t112))) else (stillagelaw01_CrcRolls.j0 k a0 (wrap64 (Int.tmod (IntKind.u64.wrap (a1)) 400)) a2 bt110.1 true))) else (some false)) = some r := H
  have A4 := Aside0.mk A40
  clear A40
  by_cases c5 : t109 = true
  · subst c5
    have H1 : ((crc_Roll.f k a0 (wrap64 (Int.tmod (IntKind.u64.wrap (a1)) 400))).bind fun bt110 => (if bt110.2 = 0 then ((stillageref01_Roll.f k a0 (wrap64 (Int.tmod (IntKind.u64.wrap (a1)) 400))).bind fun t112 => (stillagelaw01_CrcRolls.j0 k a0 (wrap64 (Int.tmod (IntKind.u64.wrap (a1)) 400)) a2 bt110.1 (bt110.1 != t112))) else (stillagelaw01_CrcRolls.j0 k a0 (wrap64 (Int.tmod (IntKind.u64.wrap (a1)) 400)) a2 bt110.1 true))) = some r := by rw [if_pos rfl] at H; exact H
    clear H
    have H := H1
    clear H1
    replace H := Option.bind_eq_some_iff.mp H
    obtain ⟨⟨t110, t111⟩, A60, H⟩ := H
    replace H : (if t111 = 0 then ((stillageref01_Roll.f k a0 (wrap64 (Int.tmod (IntKind.u64.wrap (a1)) 400))).bind fun t112 => (stillagelaw01_CrcRolls.j0 k a0 (wrap64 (Int.tmod (IntKind.u64.wrap (a1)) 400)) a2 t110 (t110 != t112))) else (stillagelaw01_CrcRolls.j0 k a0 (wrap64 (Int.tmod (IntKind.u64.wrap (a1)) 400)) a2 t110 true)) = some r := H
    have A6 := Aside0.mk A60
    clear A60
    have HC7 := Aside0.mk H
    clear H
    go_enter Try.func5, Try.ntmps5
    go_upto_region 5 with (first | ((with_reducible refine gate_callee (f := 11) rfl ?_); refine goesL_ (some 15) rfl rfl Try.func11 (by kernel_rfl) rfl #[] rfl (by (try simp only [List.map_toArray, List.map_cons, List.map_nil]); first | done | rfl | (simp only [List.length_drop, List.length_take]; rfl)) ?_; (with_reducible refine (stillagelaw01_awake.calls  true _ A4.out).mono ?_); rintro e w8 ⟨rfl, hb⟩; refine ⟨_, rfl, ?_⟩; have n0_ := Aside0.mk (below_step (by repeat (first | (with_reducible first | exact HB.out | apply below_alloc | apply pw_below_drewN | apply below_drew1) | exact HB.out)) hb); clear HB; have HB := n0_; clear n0_; (try clear hb); (try clear hb2); (try clear hk); (try clear hi)) | ((with_reducible refine gate_callee (f := 16) rfl ?_); refine goesL_ (some 24) rfl rfl Try.func16 (by kernel_rfl) rfl #[.int .u16 a0, .int .i64 (wrap64 (Int.tmod (IntKind.u64.wrap (a1)) 400))] rfl (by (try simp only [List.map_toArray, List.map_cons, List.map_nil]); first | done | rfl | (simp only [List.length_drop, List.length_take]; rfl)) ?_; (with_reducible refine (crc_Roll.calls k a0 (wrap64 (Int.tmod (IntKind.u64.wrap (a1)) 400)) t110 t111 _ A6.out).mono ?_); rintro e w' ⟨rfl, ⟨nd, rfl⟩⟩; refine ⟨_, rfl, ?_⟩))
    (try simp only [Act.put, List.setIfInBounds_toArray, List.set_cons_zero, List.set_cons_succ])
    go_cut [35] (fun v35 wc => ∃ (kq : Nat) (x35_6 : Bool), v35 = .bool x35_6 ∧ Aside0 (stillagelaw01_CrcRolls.j0 kq a0 (wrap64 (Int.tmod (IntKind.u64.wrap (a1)) 400)) a2 t110 x35_6 = some r) ∧ Aside0 (kq ≤ k) ∧ Aside0 (Below w.heap.size w wc))
    case first =>
      have H := HC7.out
      clear HC7
      by_cases c9 : t111 = 0
      · rw [if_pos c9] at H
        have c9b0 : (t111 == 0) = true := beq_iff_eq.mpr c9
        have c9b1 : (t111 != 0) = false := bne_eq_false_iff_eq.mpr c9
        clear c9
        (first | rw [c9b0] | (simp only [i64_w, i32_w]; rw [c9b0]) | skip)
        replace H := Option.bind_eq_some_iff.mp H
        obtain ⟨t112, A100, H⟩ := H
        replace H : (stillagelaw01_CrcRolls.j0 k a0 (wrap64 (Int.tmod (IntKind.u64.wrap (a1)) 400)) a2 t110 (t110 != t112)) = some r := H
        have A10 := Aside0.mk A100
        clear A100
        have H' := Aside0.mk H
        clear H
        go_wp2_with (first | (go_at_call 17; (with_reducible refine (stillageref01_Roll.calls k a0 (wrap64 (Int.tmod (IntKind.u64.wrap (a1)) 400)) t112 _ A10.out).mono ?_); rintro e w' ⟨rfl, ⟨nd, rfl⟩⟩))
        go_meet
        case rel => exact ⟨_, ((t110 != t112)), (by first | rfl | (simp; done) | (simp [*]; done)), H', ⟨by first | omega | exact Nat.le_refl _⟩, ⟨by repeat (first | (with_reducible first | exact HB.out | apply below_alloc | apply pw_below_drewN | apply below_drew1) | exact HB.out)⟩⟩
      · rw [if_neg c9] at H
        have c9b0 : (t111 == 0) = false := beq_eq_false_iff_ne.mpr c9
        have c9b1 : (t111 != 0) = true := bne_iff_ne.mpr c9
        (first | rw [c9b0] | (simp only [i64_w, i32_w]; rw [c9b0]) | skip)
        have H' := Aside0.mk H
        clear H
        go_wp2
        go_meet
        case rel => exact ⟨_, (true), (by first | rfl | (simp; done) | (simp [*]; done)), H', ⟨by first | omega | exact Nat.le_refl _⟩, ⟨by repeat (first | (with_reducible first | exact HB.out | apply below_alloc | apply pw_below_drewN | apply below_drew1) | exact HB.out)⟩⟩
    case rest =>
      clear HC7
      try clear c1
      try clear p2
      try clear c5
      try clear p6
      try clear c9
      try clear c9b0
      try clear c9b1
      obtain ⟨kq, x35_6, rfl, HA, HJ6, HB⟩ := hcut
      cases kq with
      | zero => exact absurd HA.out (by simp [stillagelaw01_CrcRolls.j0])
      | succ kj6 =>
        have H := HA.out
        clear HA
        simp only [stillagelaw01_CrcRolls.j0] at H
        by_cases c11 : x35_6 = true
        · subst c11
          have H1 : (some false) = some r := by rw [if_pos rfl] at H; exact H
          clear H
          have H := H1
          clear H1
          obtain rfl := Option.some.inj H
          go_wp2
          go_ret
          exact ⟨by first | rfl | (simp [errW_none, errW_some] <;> rfl) | (simp [*, errW_none, errW_some] <;> rfl), by repeat (first | (with_reducible first | exact HB.out | apply below_alloc | apply pw_below_drewN | apply below_drew1) | exact HB.out)⟩
        · replace c11 := Bool.eq_false_iff.mpr c11
          subst c11
          have H1 : ((crc_Roll.f kj6 a0 a2).bind fun bt113 => (if a2 < 0 then (stillagelaw01_CrcRolls.j1 kj6 a0 (wrap64 (Int.tmod (IntKind.u64.wrap (a1)) 400)) a2 t110 bt113.2 bt113.1 true) else (stillagelaw01_CrcRolls.j1 kj6 a0 (wrap64 (Int.tmod (IntKind.u64.wrap (a1)) 400)) a2 t110 bt113.2 bt113.1 (decide (a2 > 1099511627776))))) = some r := by rw [if_neg (show ¬ (false = true) by decide)] at H; exact H
          clear H
          have H := H1
          clear H1
          replace H := Option.bind_eq_some_iff.mp H
          obtain ⟨⟨t113, t114⟩, A120, H⟩ := H
          replace H : (if a2 < 0 then (stillagelaw01_CrcRolls.j1 kj6 a0 (wrap64 (Int.tmod (IntKind.u64.wrap (a1)) 400)) a2 t110 t114 t113 true) else (stillagelaw01_CrcRolls.j1 kj6 a0 (wrap64 (Int.tmod (IntKind.u64.wrap (a1)) 400)) a2 t110 t114 t113 (decide (a2 > 1099511627776)))) = some r := H
          have A12 := Aside0.mk A120
          clear A120
          have HC13 := Aside0.mk H
          clear H
          go_upto_region 8 with (first | ((with_reducible refine gate_callee (f := 16) rfl ?_); refine goesL_ (some 39) rfl rfl Try.func16 (by kernel_rfl) rfl #[.int .u16 a0, .int .i64 a2] rfl (by (try simp only [List.map_toArray, List.map_cons, List.map_nil]); first | done | rfl | (simp only [List.length_drop, List.length_take]; rfl)) ?_; (with_reducible refine (crc_Roll.calls kj6 a0 a2 t113 t114 _ A12.out).mono ?_); rintro e w' ⟨rfl, ⟨nd, rfl⟩⟩; refine ⟨_, rfl, ?_⟩))
          (try simp only [Act.put, List.setIfInBounds_toArray, List.set_cons_zero, List.set_cons_succ])
          go_cut [47] (fun v47 wc => ∃ (kq : Nat) (x47_12 : Bool), v47 = .bool x47_12 ∧ Aside0 (stillagelaw01_CrcRolls.j1 kq a0 (wrap64 (Int.tmod (IntKind.u64.wrap (a1)) 400)) a2 t110 t114 t113 x47_12 = some r) ∧ Aside0 (kq ≤ kj6) ∧ Aside0 (Below w.heap.size w wc))
          case first =>
            have H := HC13.out
            clear HC13
            by_cases c14 : a2 < 0
            · rw [if_pos c14] at H
              have c14b0 : decide (a2 < 0) = true := decide_eq_true c14
              clear c14
              (first | rw [c14b0] | (simp only [i64_w, i32_w]; rw [c14b0]) | skip)
              have H' := Aside0.mk H
              clear H
              go_wp2
              go_meet
              case rel => exact ⟨_, (true), (by first | rfl | (simp; done) | (simp [*]; done)), H', ⟨by have := HJ6.out; first | omega | exact Nat.le_refl _⟩, ⟨by repeat (first | (with_reducible first | exact HB.out | apply below_alloc | apply pw_below_drewN | apply below_drew1) | exact HB.out)⟩⟩
            · rw [if_neg c14] at H
              have c14b0 : decide (a2 < 0) = false := decide_eq_false c14
              clear c14
              (first | rw [c14b0] | (simp only [i64_w, i32_w]; rw [c14b0]) | skip)
              have H' := Aside0.mk H
              clear H
              go_wp2
              go_meet
              case rel => exact ⟨_, (decide (a2 > 1099511627776)), (by first | rfl | (simp; done) | (simp [*]; done)), H', ⟨by have := HJ6.out; first | omega | exact Nat.le_refl _⟩, ⟨by repeat (first | (with_reducible first | exact HB.out | apply below_alloc | apply pw_below_drewN | apply below_drew1) | exact HB.out)⟩⟩
          case rest =>
            clear HC13
            try clear c1
            try clear p2
            try clear c5
            try clear p6
            try clear c9
            try clear c9b0
            try clear c9b1
            try clear c11
            try clear c14
            try clear c14b0
            try clear p2
            try clear p6
            obtain ⟨kq, x47_12, rfl, HA, HJ12, HB⟩ := hcut
            cases kq with
            | zero => exact absurd HA.out (by simp [stillagelaw01_CrcRolls.j1])
            | succ kj12 =>
              have H := HA.out
              clear HA
              simp only [stillagelaw01_CrcRolls.j1] at H
              by_cases c15 : x47_12 = true
              · subst c15
                have H1 : (if t114 = 1 then (some (t113 == 0)) else (some false)) = some r := by rw [if_pos rfl] at H; exact H
                clear H
                have H := H1
                clear H1
                by_cases c16 : t114 = 1
                · rw [if_pos c16] at H
                  have c16b0 : (t114 == 1) = true := beq_iff_eq.mpr c16
                  have c16b1 : (t114 != 1) = false := bne_eq_false_iff_eq.mpr c16
                  clear c16
                  obtain rfl := Option.some.inj H
                  go_wp2
                  go_ret
                  exact ⟨by first | rfl | (simp [errW_none, errW_some] <;> rfl) | (simp [*, errW_none, errW_some] <;> rfl), by repeat (first | (with_reducible first | exact HB.out | apply below_alloc | apply pw_below_drewN | apply below_drew1) | exact HB.out)⟩
                · rw [if_neg c16] at H
                  have c16b0 : (t114 == 1) = false := beq_eq_false_iff_ne.mpr c16
                  have c16b1 : (t114 != 1) = true := bne_iff_ne.mpr c16
                  obtain rfl := Option.some.inj H
                  go_wp2
                  go_ret
                  exact ⟨by first | rfl | (simp [errW_none, errW_some] <;> rfl) | (simp [*, errW_none, errW_some] <;> rfl), by repeat (first | (with_reducible first | exact HB.out | apply below_alloc | apply pw_below_drewN | apply below_drew1) | exact HB.out)⟩
              · replace c15 := Bool.eq_false_iff.mpr c15
                subst c15
                have H1 : (if t114 = 0 then (if a2 > (wrap64 (1099511627776 - (wrap64 (Int.tmod (IntKind.u64.wrap (a1)) 400)))) then (some true) else ((crc_Roll.f kj12 t113 (wrap64 (Int.tmod (IntKind.u64.wrap (a1)) 400))).bind fun bt115 => ((crc_Roll.f kj12 a0 (wrap64 (a2 + (wrap64 (Int.tmod (IntKind.u64.wrap (a1)) 400))))).bind fun bt117 => ((crc_Roll.f kj12 t110 a2).bind fun bt119 => (if bt115.2 = 0 then (if bt117.2 = 0 then (if bt119.2 = 0 then (if bt115.1 = bt117.1 then (some (bt119.1 == bt117.1)) else (some false)) else (some false)) else (some false)) else (some false)))))) else (some false)) = some r := by rw [if_neg (show ¬ (false = true) by decide)] at H; exact H
                clear H
                have H := H1
                clear H1
                by_cases c17 : t114 = 0
                · rw [if_pos c17] at H
                  have c17b0 : (t114 == 0) = true := beq_iff_eq.mpr c17
                  have c17b1 : (t114 != 0) = false := bne_eq_false_iff_eq.mpr c17
                  clear c17
                  by_cases c18 : a2 > (wrap64 (1099511627776 - (wrap64 (Int.tmod (IntKind.u64.wrap (a1)) 400))))
                  · rw [if_pos c18] at H
                    have c18b0 : decide ((wrap64 (1099511627776 - (wrap64 (Int.tmod (IntKind.u64.wrap (a1)) 400)))) < a2) = true := decide_eq_true c18
                    clear c18
                    obtain rfl := Option.some.inj H
                    go_wp2
                    go_ret
                    exact ⟨by first | rfl | (simp [errW_none, errW_some] <;> rfl) | (simp [*, errW_none, errW_some] <;> rfl), by repeat (first | (with_reducible first | exact HB.out | apply below_alloc | apply pw_below_drewN | apply below_drew1) | exact HB.out)⟩
                  · rw [if_neg c18] at H
                    have c18b0 : decide ((wrap64 (1099511627776 - (wrap64 (Int.tmod (IntKind.u64.wrap (a1)) 400)))) < a2) = false := decide_eq_false c18
                    clear c18
                    replace H := Option.bind_eq_some_iff.mp H
                    obtain ⟨⟨t115, t116⟩, A190, H⟩ := H
                    replace H : ((crc_Roll.f kj12 a0 (wrap64 (a2 + (wrap64 (Int.tmod (IntKind.u64.wrap (a1)) 400))))).bind fun bt117 => ((crc_Roll.f kj12 t110 a2).bind fun bt119 => (if t116 = 0 then (if bt117.2 = 0 then (if bt119.2 = 0 then (if t115 = bt117.1 then (some (bt119.1 == bt117.1)) else (some false)) else (some false)) else (some false)) else (some false)))) = some r := H
                    have A19 := Aside0.mk A190
                    clear A190
                    replace H := Option.bind_eq_some_iff.mp H
                    obtain ⟨⟨t117, t118⟩, A200, H⟩ := H
                    replace H : ((crc_Roll.f kj12 t110 a2).bind fun bt119 => (if t116 = 0 then (if t118 = 0 then (if bt119.2 = 0 then (if t115 = t117 then (some (bt119.1 == t117)) else (some false)) else (some false)) else (some false)) else (some false))) = some r := H
                    have A20 := Aside0.mk A200
                    clear A200
                    replace H := Option.bind_eq_some_iff.mp H
                    obtain ⟨⟨t119, t120⟩, A210, H⟩ := H
                    replace H : (if t116 = 0 then (if t118 = 0 then (if t120 = 0 then (if t115 = t117 then (some (t119 == t117)) else (some false)) else (some false)) else (some false)) else (some false)) = some r := H
                    have A21 := Aside0.mk A210
                    clear A210
                    by_cases c22 : t116 = 0
                    · rw [if_pos c22] at H
                      have c22b0 : (t116 == 0) = true := beq_iff_eq.mpr c22
                      have c22b1 : (t116 != 0) = false := bne_eq_false_iff_eq.mpr c22
                      clear c22
                      by_cases c23 : t118 = 0
                      · rw [if_pos c23] at H
                        have c23b0 : (t118 == 0) = true := beq_iff_eq.mpr c23
                        have c23b1 : (t118 != 0) = false := bne_eq_false_iff_eq.mpr c23
                        clear c23
                        by_cases c24 : t120 = 0
                        · rw [if_pos c24] at H
                          have c24b0 : (t120 == 0) = true := beq_iff_eq.mpr c24
                          have c24b1 : (t120 != 0) = false := bne_eq_false_iff_eq.mpr c24
                          clear c24
                          by_cases c25 : t115 = t117
                          · rw [if_pos c25] at H
                            have c25b0 : (t115 == t117) = true := beq_iff_eq.mpr c25
                            have c25b1 : (t115 != t117) = false := bne_eq_false_iff_eq.mpr c25
                            clear c25
                            obtain rfl := Option.some.inj H
                            go_wp2_with (first | ((with_reducible refine gate_callee (f := 16) rfl ?_); refine goesL_ (some 63) rfl rfl Try.func16 (by kernel_rfl) rfl #[.int .u16 t113, .int .i64 (wrap64 (Int.tmod (IntKind.u64.wrap (a1)) 400))] rfl (by (try simp only [List.map_toArray, List.map_cons, List.map_nil]); first | done | rfl | (simp only [List.length_drop, List.length_take]; rfl)) ?_; (with_reducible refine (crc_Roll.calls kj12 t113 (wrap64 (Int.tmod (IntKind.u64.wrap (a1)) 400)) t115 t116 _ A19.out).mono ?_); rintro e w' ⟨rfl, ⟨nd, rfl⟩⟩; refine ⟨_, rfl, ?_⟩) | ((with_reducible refine gate_callee (f := 16) rfl ?_); refine goesL_ (some 71) rfl rfl Try.func16 (by kernel_rfl) rfl #[.int .u16 a0, .int .i64 (wrap64 (a2 + (wrap64 (Int.tmod (IntKind.u64.wrap (a1)) 400))))] rfl (by (try simp only [List.map_toArray, List.map_cons, List.map_nil]); first | done | rfl | (simp only [List.length_drop, List.length_take]; rfl)) ?_; (with_reducible refine (crc_Roll.calls kj12 a0 (wrap64 (a2 + (wrap64 (Int.tmod (IntKind.u64.wrap (a1)) 400)))) t117 t118 _ A20.out).mono ?_); rintro e w' ⟨rfl, ⟨nd, rfl⟩⟩; refine ⟨_, rfl, ?_⟩) | ((with_reducible refine gate_callee (f := 16) rfl ?_); refine goesL_ (some 77) rfl rfl Try.func16 (by kernel_rfl) rfl #[.int .u16 t110, .int .i64 a2] rfl (by (try simp only [List.map_toArray, List.map_cons, List.map_nil]); first | done | rfl | (simp only [List.length_drop, List.length_take]; rfl)) ?_; (with_reducible refine (crc_Roll.calls kj12 t110 a2 t119 t120 _ A21.out).mono ?_); rintro e w' ⟨rfl, ⟨nd, rfl⟩⟩; refine ⟨_, rfl, ?_⟩))
                            go_ret
                            exact ⟨by first | rfl | (simp [errW_none, errW_some] <;> rfl) | (simp [*, errW_none, errW_some] <;> rfl), by repeat (first | (with_reducible first | exact HB.out | apply below_alloc | apply pw_below_drewN | apply below_drew1) | exact HB.out)⟩
                          · rw [if_neg c25] at H
                            have c25b0 : (t115 == t117) = false := beq_eq_false_iff_ne.mpr c25
                            have c25b1 : (t115 != t117) = true := bne_iff_ne.mpr c25
                            obtain rfl := Option.some.inj H
                            go_wp2_with (first | ((with_reducible refine gate_callee (f := 16) rfl ?_); refine goesL_ (some 63) rfl rfl Try.func16 (by kernel_rfl) rfl #[.int .u16 t113, .int .i64 (wrap64 (Int.tmod (IntKind.u64.wrap (a1)) 400))] rfl (by (try simp only [List.map_toArray, List.map_cons, List.map_nil]); first | done | rfl | (simp only [List.length_drop, List.length_take]; rfl)) ?_; (with_reducible refine (crc_Roll.calls kj12 t113 (wrap64 (Int.tmod (IntKind.u64.wrap (a1)) 400)) t115 t116 _ A19.out).mono ?_); rintro e w' ⟨rfl, ⟨nd, rfl⟩⟩; refine ⟨_, rfl, ?_⟩) | ((with_reducible refine gate_callee (f := 16) rfl ?_); refine goesL_ (some 71) rfl rfl Try.func16 (by kernel_rfl) rfl #[.int .u16 a0, .int .i64 (wrap64 (a2 + (wrap64 (Int.tmod (IntKind.u64.wrap (a1)) 400))))] rfl (by (try simp only [List.map_toArray, List.map_cons, List.map_nil]); first | done | rfl | (simp only [List.length_drop, List.length_take]; rfl)) ?_; (with_reducible refine (crc_Roll.calls kj12 a0 (wrap64 (a2 + (wrap64 (Int.tmod (IntKind.u64.wrap (a1)) 400)))) t117 t118 _ A20.out).mono ?_); rintro e w' ⟨rfl, ⟨nd, rfl⟩⟩; refine ⟨_, rfl, ?_⟩) | ((with_reducible refine gate_callee (f := 16) rfl ?_); refine goesL_ (some 77) rfl rfl Try.func16 (by kernel_rfl) rfl #[.int .u16 t110, .int .i64 a2] rfl (by (try simp only [List.map_toArray, List.map_cons, List.map_nil]); first | done | rfl | (simp only [List.length_drop, List.length_take]; rfl)) ?_; (with_reducible refine (crc_Roll.calls kj12 t110 a2 t119 t120 _ A21.out).mono ?_); rintro e w' ⟨rfl, ⟨nd, rfl⟩⟩; refine ⟨_, rfl, ?_⟩))
                            go_ret
                            exact ⟨by first | rfl | (simp [errW_none, errW_some] <;> rfl) | (simp [*, errW_none, errW_some] <;> rfl), by repeat (first | (with_reducible first | exact HB.out | apply below_alloc | apply pw_below_drewN | apply below_drew1) | exact HB.out)⟩
                        · rw [if_neg c24] at H
                          have c24b0 : (t120 == 0) = false := beq_eq_false_iff_ne.mpr c24
                          have c24b1 : (t120 != 0) = true := bne_iff_ne.mpr c24
                          obtain rfl := Option.some.inj H
                          go_wp2_with (first | ((with_reducible refine gate_callee (f := 16) rfl ?_); refine goesL_ (some 63) rfl rfl Try.func16 (by kernel_rfl) rfl #[.int .u16 t113, .int .i64 (wrap64 (Int.tmod (IntKind.u64.wrap (a1)) 400))] rfl (by (try simp only [List.map_toArray, List.map_cons, List.map_nil]); first | done | rfl | (simp only [List.length_drop, List.length_take]; rfl)) ?_; (with_reducible refine (crc_Roll.calls kj12 t113 (wrap64 (Int.tmod (IntKind.u64.wrap (a1)) 400)) t115 t116 _ A19.out).mono ?_); rintro e w' ⟨rfl, ⟨nd, rfl⟩⟩; refine ⟨_, rfl, ?_⟩) | ((with_reducible refine gate_callee (f := 16) rfl ?_); refine goesL_ (some 71) rfl rfl Try.func16 (by kernel_rfl) rfl #[.int .u16 a0, .int .i64 (wrap64 (a2 + (wrap64 (Int.tmod (IntKind.u64.wrap (a1)) 400))))] rfl (by (try simp only [List.map_toArray, List.map_cons, List.map_nil]); first | done | rfl | (simp only [List.length_drop, List.length_take]; rfl)) ?_; (with_reducible refine (crc_Roll.calls kj12 a0 (wrap64 (a2 + (wrap64 (Int.tmod (IntKind.u64.wrap (a1)) 400)))) t117 t118 _ A20.out).mono ?_); rintro e w' ⟨rfl, ⟨nd, rfl⟩⟩; refine ⟨_, rfl, ?_⟩) | ((with_reducible refine gate_callee (f := 16) rfl ?_); refine goesL_ (some 77) rfl rfl Try.func16 (by kernel_rfl) rfl #[.int .u16 t110, .int .i64 a2] rfl (by (try simp only [List.map_toArray, List.map_cons, List.map_nil]); first | done | rfl | (simp only [List.length_drop, List.length_take]; rfl)) ?_; (with_reducible refine (crc_Roll.calls kj12 t110 a2 t119 t120 _ A21.out).mono ?_); rintro e w' ⟨rfl, ⟨nd, rfl⟩⟩; refine ⟨_, rfl, ?_⟩))
                          go_ret
                          exact ⟨by first | rfl | (simp [errW_none, errW_some] <;> rfl) | (simp [*, errW_none, errW_some] <;> rfl), by repeat (first | (with_reducible first | exact HB.out | apply below_alloc | apply pw_below_drewN | apply below_drew1) | exact HB.out)⟩
                      · rw [if_neg c23] at H
                        have c23b0 : (t118 == 0) = false := beq_eq_false_iff_ne.mpr c23
                        have c23b1 : (t118 != 0) = true := bne_iff_ne.mpr c23
                        obtain rfl := Option.some.inj H
                        go_wp2_with (first | ((with_reducible refine gate_callee (f := 16) rfl ?_); refine goesL_ (some 63) rfl rfl Try.func16 (by kernel_rfl) rfl #[.int .u16 t113, .int .i64 (wrap64 (Int.tmod (IntKind.u64.wrap (a1)) 400))] rfl (by (try simp only [List.map_toArray, List.map_cons, List.map_nil]); first | done | rfl | (simp only [List.length_drop, List.length_take]; rfl)) ?_; (with_reducible refine (crc_Roll.calls kj12 t113 (wrap64 (Int.tmod (IntKind.u64.wrap (a1)) 400)) t115 t116 _ A19.out).mono ?_); rintro e w' ⟨rfl, ⟨nd, rfl⟩⟩; refine ⟨_, rfl, ?_⟩) | ((with_reducible refine gate_callee (f := 16) rfl ?_); refine goesL_ (some 71) rfl rfl Try.func16 (by kernel_rfl) rfl #[.int .u16 a0, .int .i64 (wrap64 (a2 + (wrap64 (Int.tmod (IntKind.u64.wrap (a1)) 400))))] rfl (by (try simp only [List.map_toArray, List.map_cons, List.map_nil]); first | done | rfl | (simp only [List.length_drop, List.length_take]; rfl)) ?_; (with_reducible refine (crc_Roll.calls kj12 a0 (wrap64 (a2 + (wrap64 (Int.tmod (IntKind.u64.wrap (a1)) 400)))) t117 t118 _ A20.out).mono ?_); rintro e w' ⟨rfl, ⟨nd, rfl⟩⟩; refine ⟨_, rfl, ?_⟩) | ((with_reducible refine gate_callee (f := 16) rfl ?_); refine goesL_ (some 77) rfl rfl Try.func16 (by kernel_rfl) rfl #[.int .u16 t110, .int .i64 a2] rfl (by (try simp only [List.map_toArray, List.map_cons, List.map_nil]); first | done | rfl | (simp only [List.length_drop, List.length_take]; rfl)) ?_; (with_reducible refine (crc_Roll.calls kj12 t110 a2 t119 t120 _ A21.out).mono ?_); rintro e w' ⟨rfl, ⟨nd, rfl⟩⟩; refine ⟨_, rfl, ?_⟩))
                        go_ret
                        exact ⟨by first | rfl | (simp [errW_none, errW_some] <;> rfl) | (simp [*, errW_none, errW_some] <;> rfl), by repeat (first | (with_reducible first | exact HB.out | apply below_alloc | apply pw_below_drewN | apply below_drew1) | exact HB.out)⟩
                    · rw [if_neg c22] at H
                      have c22b0 : (t116 == 0) = false := beq_eq_false_iff_ne.mpr c22
                      have c22b1 : (t116 != 0) = true := bne_iff_ne.mpr c22
                      obtain rfl := Option.some.inj H
                      go_wp2_with (first | ((with_reducible refine gate_callee (f := 16) rfl ?_); refine goesL_ (some 63) rfl rfl Try.func16 (by kernel_rfl) rfl #[.int .u16 t113, .int .i64 (wrap64 (Int.tmod (IntKind.u64.wrap (a1)) 400))] rfl (by (try simp only [List.map_toArray, List.map_cons, List.map_nil]); first | done | rfl | (simp only [List.length_drop, List.length_take]; rfl)) ?_; (with_reducible refine (crc_Roll.calls kj12 t113 (wrap64 (Int.tmod (IntKind.u64.wrap (a1)) 400)) t115 t116 _ A19.out).mono ?_); rintro e w' ⟨rfl, ⟨nd, rfl⟩⟩; refine ⟨_, rfl, ?_⟩) | ((with_reducible refine gate_callee (f := 16) rfl ?_); refine goesL_ (some 71) rfl rfl Try.func16 (by kernel_rfl) rfl #[.int .u16 a0, .int .i64 (wrap64 (a2 + (wrap64 (Int.tmod (IntKind.u64.wrap (a1)) 400))))] rfl (by (try simp only [List.map_toArray, List.map_cons, List.map_nil]); first | done | rfl | (simp only [List.length_drop, List.length_take]; rfl)) ?_; (with_reducible refine (crc_Roll.calls kj12 a0 (wrap64 (a2 + (wrap64 (Int.tmod (IntKind.u64.wrap (a1)) 400)))) t117 t118 _ A20.out).mono ?_); rintro e w' ⟨rfl, ⟨nd, rfl⟩⟩; refine ⟨_, rfl, ?_⟩) | ((with_reducible refine gate_callee (f := 16) rfl ?_); refine goesL_ (some 77) rfl rfl Try.func16 (by kernel_rfl) rfl #[.int .u16 t110, .int .i64 a2] rfl (by (try simp only [List.map_toArray, List.map_cons, List.map_nil]); first | done | rfl | (simp only [List.length_drop, List.length_take]; rfl)) ?_; (with_reducible refine (crc_Roll.calls kj12 t110 a2 t119 t120 _ A21.out).mono ?_); rintro e w' ⟨rfl, ⟨nd, rfl⟩⟩; refine ⟨_, rfl, ?_⟩))
                      go_ret
                      exact ⟨by first | rfl | (simp [errW_none, errW_some] <;> rfl) | (simp [*, errW_none, errW_some] <;> rfl), by repeat (first | (with_reducible first | exact HB.out | apply below_alloc | apply pw_below_drewN | apply below_drew1) | exact HB.out)⟩
                · rw [if_neg c17] at H
                  have c17b0 : (t114 == 0) = false := beq_eq_false_iff_ne.mpr c17
                  have c17b1 : (t114 != 0) = true := bne_iff_ne.mpr c17
                  obtain rfl := Option.some.inj H
                  go_wp2
                  go_ret
                  exact ⟨by first | rfl | (simp [errW_none, errW_some] <;> rfl) | (simp [*, errW_none, errW_some] <;> rfl), by repeat (first | (with_reducible first | exact HB.out | apply below_alloc | apply pw_below_drewN | apply below_drew1) | exact HB.out)⟩
  · replace c5 := Bool.eq_false_iff.mpr c5
    subst c5
    have H1 : (some false) = some r := by rw [if_neg (show ¬ (false = true) by decide)] at H; exact H
    clear H
    have H := H1
    clear H1
    obtain rfl := Option.some.inj H
    go_enter Try.func5, Try.ntmps5
    go_wp2_with (first | ((with_reducible refine gate_callee (f := 11) rfl ?_); refine goesL_ (some 15) rfl rfl Try.func11 (by kernel_rfl) rfl #[] rfl (by (try simp only [List.map_toArray, List.map_cons, List.map_nil]); first | done | rfl | (simp only [List.length_drop, List.length_take]; rfl)) ?_; (with_reducible refine (stillagelaw01_awake.calls  false _ A4.out).mono ?_); rintro e w26 ⟨rfl, hb⟩; refine ⟨_, rfl, ?_⟩; have n0_ := Aside0.mk (below_step (by repeat (first | (with_reducible first | exact HB.out | apply below_alloc | apply pw_below_drewN | apply below_drew1) | exact HB.out)) hb); clear HB; have HB := n0_; clear n0_; (try clear hb); (try clear hb2); (try clear hk); (try clear hi)))
    go_ret
    exact ⟨by first | rfl | (simp [errW_none, errW_some] <;> rfl) | (simp [*, errW_none, errW_some] <;> rfl), by repeat (first | (with_reducible first | exact HB.out | apply below_alloc | apply pw_below_drewN | apply below_drew1) | exact HB.out)⟩

/-- THE ONE PURE STATEMENT of stillagelaw01_CrcRolls: yours. -/
def stillagelaw01_CrcRolls.Pure : Prop := ∀ (a0 : Int) (a1 : Int) (a2 : Int), (Lit.int .u16 a0).wf = true → (Lit.int .i64 a1).wf = true → (Lit.int .i64 a2).wf = true → ∃ k, stillagelaw01_CrcRolls.f k a0 a1 a2 = some true
theorem stillagelaw01_CrcRolls.walk (P : stillagelaw01_CrcRolls.Pure) (a0 : Int) (a1 : Int) (a2 : Int) (w : World) (w0 : (Lit.int .u16 a0).wf = true) (w1 : (Lit.int .i64 a1).wf = true) (w2 : (Lit.int .i64 a2).wf = true) :
    Calls Try.prog 5 #[.int .u16 a0, .int .i64 a1, .int .i64 a2] w fun e w' => e = .returned (.bool true) ∧ Below w.heap.size w w' := by
  obtain ⟨k, h⟩ := P a0 a1 a2 w0 w1 w2
  refine (stillagelaw01_CrcRolls.calls k a0 a1 a2 true w h).mono ?_
  rintro e w' ⟨rfl, hd⟩
  exact ⟨rfl, hd⟩

end Go.Proofs.Ytpcgjnjgenfhiaa.PCrcRolls
