-- Written by a program of this session (wip/oprint): after the pattern of the kit's print, which does not take this law.
import Derived.Test.YtpcgjnjgenfhiaaPCrcStepsx0
import Derived.Test.YtpcgjnjgenfhiaaPCrcStepsx1
namespace Go.Proofs.Ytpcgjnjgenfhiaa.PCrcSteps
open Go.RowKit Go.Proofs.YtpcgjnjgenfhiaaW.PrintWords Go.Proofs.YtpcgjnjgenfhiaaW.PrintLast Go.Proofs.YtpcgjnjgenfhiaaW.PrintMore
attribute [local go_sem] max2_int min2_int max_two min_two max_three min_three max_four min_four   -- for this text's walks alone
set_option linter.unusedVariables false
set_option linter.unusedSimpArgs false

/-! ### stillageref01_Step: function 13 -/
def stillageref01_Step.l0 : Nat → Int → Int → Option (Int)
  | 0, _, _ => none
  | k + 1, x0, x5 => if x5 < 8 then (if x0 ≥ 32768 then (stillageref01_Step.l0 k (Go.bits .xor .u16 (IntKind.u16.wrap (x0 * 2)) 4129) (wrap64 (x5 + 1))) else (stillageref01_Step.l0 k (IntKind.u16.wrap (x0 * 2)) (wrap64 (x5 + 1)))) else (some x0)
def stillageref01_Step.f (k : Nat) (a0 : Int) (a1 : Int) : Option (Int) := stillageref01_Step.l0 k (Go.bits .xor .u16 a0 (IntKind.u16.wrap ((IntKind.u16.wrap (a1)) * 256))) 0
theorem stillageref01_Step.mono_l : ∀ k, (∀ y0 y1, LeO (stillageref01_Step.l0 k y0 y1) (stillageref01_Step.l0 (k + 1) y0 y1))
  | 0 => fun _ _ r h => by simp [stillageref01_Step.l0] at h
  | k + 1 => by
    have ih0 := stillageref01_Step.mono_l k
    · intro y0 y1
      unfold stillageref01_Step.l0
      repeat' first
      | (with_reducible exact ih0 _ _)
      | (with_reducible exact LeO.refl _)
      | (with_reducible exact LeO.none _)
      | (with_reducible refine LeO.ite ?_ ?_)
      | (with_reducible refine LeO.bind ?_ (fun _ => ?_))
      | exact ih0 _ _
      | exact LeO.none _
      | refine LeO.ite ?_ ?_
      | refine LeO.bind ?_ (fun _ => ?_)
theorem stillageref01_Step.mono : ∀ a0 a1 k, LeO (stillageref01_Step.f k a0 a1) (stillageref01_Step.f (k + 1) a0 a1) := by
  intro a0 a1 k
  have ih0 := stillageref01_Step.mono_l k
  unfold stillageref01_Step.f
  repeat' first
      | (with_reducible exact ih0 _ _)
      | (with_reducible exact LeO.refl _)
      | (with_reducible exact LeO.none _)
      | (with_reducible refine LeO.ite ?_ ?_)
      | (with_reducible refine LeO.bind ?_ (fun _ => ?_))
      | exact ih0 _ _
      | exact LeO.none _
      | refine LeO.ite ?_ ?_
      | refine LeO.bind ?_ (fun _ => ?_)
set_option maxHeartbeats 8000000 in
set_option maxRecDepth 100000 in
theorem stillageref01_Step.calls (k : Nat) (a0 : Int) (a1 : Int) (r : Int) (w : World) (h : stillageref01_Step.f k a0 a1 = some r) :
    Calls Try.prog 13 #[.int .u16 a0, .int .u8 a1] w fun e w' => e = .returned (.int .u16 r) ∧ Drawn0 w w' := by
  have H : (stillageref01_Step.l0 k (Go.bits .xor .u16 a0 (IntKind.u16.wrap ((IntKind.u16.wrap (a1)) * 256))) 0) = some r := h
  clear h
  have H' := Aside0.mk H
  clear H
  go_enter Try.func13, Try.ntmps13
  go_wp2
  go_loopg [0, 5] k (fun kq v0 v5 w' => ∃ (x0_1 : Int) (x5_1 : Int), v0 = .int .u16 x0_1 ∧ v5 = .int .i64 x5_1 ∧ Aside0 (stillageref01_Step.l0 kq x0_1 x5_1 = some r) ∧ Aside0 (kq ≤ k) ∧ Drawn0 w w')
  case atStart => exact ⟨(Go.bits .xor .u16 a0 (IntKind.u16.wrap ((IntKind.u16.wrap (a1)) * 256))), (0), (by first | rfl | (simp; done) | (simp [*]; done)), (by first | rfl | (simp; done) | (simp [*]; done)), H', ⟨Nat.le_refl _⟩, by repeat (first | exact Drawn0.refl _ | apply Drawn0.step)⟩
  case round =>
    clear H'
    try clear c1
    try clear p2
    obtain ⟨x0_1, x5_1, rfl, rfl, HA, HK1, ⟨m1, rfl⟩⟩ := hrel
    cases gk with
    | zero => exact absurd HA.out (by simp [stillageref01_Step.l0])
    | succ k1 =>
      have H := HA.out
      clear HA
      simp only [stillageref01_Step.l0] at H
      by_cases c3 : x5_1 < 8
      · rw [if_pos c3] at H
        have c3b0 : decide (x5_1 < 8) = true := decide_eq_true c3
        clear c3
        by_cases c4 : x0_1 ≥ 32768
        · rw [if_pos c4] at H
          have c4b0 : decide (32768 ≤ x0_1) = true := decide_eq_true c4
          clear c4
          have H' := Aside0.mk H
          clear H
          go_wp2
          go_roundg k1
          case measure => have := HK1.out; omega
          case rel => exact ⟨(Go.bits .xor .u16 (IntKind.u16.wrap (x0_1 * 2)) 4129), (wrap64 (x5_1 + 1)), (by first | rfl | (simp; done) | (simp [*]; done)), (by first | rfl | (simp; done) | (simp [*]; done)), H', ⟨by have := HK1.out; omega⟩, by repeat (first | exact Drawn0.refl _ | apply Drawn0.step)⟩
        · rw [if_neg c4] at H
          have c4b0 : decide (32768 ≤ x0_1) = false := decide_eq_false c4
          clear c4
          have H' := Aside0.mk H
          clear H
          go_wp2
          go_roundg k1
          case measure => have := HK1.out; omega
          case rel => exact ⟨(IntKind.u16.wrap (x0_1 * 2)), (wrap64 (x5_1 + 1)), (by first | rfl | (simp; done) | (simp [*]; done)), (by first | rfl | (simp; done) | (simp [*]; done)), H', ⟨by have := HK1.out; omega⟩, by repeat (first | exact Drawn0.refl _ | apply Drawn0.step)⟩
      · rw [if_neg c3] at H
        have c3b0 : decide (x5_1 < 8) = false := decide_eq_false c3
        clear c3
        obtain rfl := Option.some.inj H
        go_wp2
        go_ret
        exact ⟨by first | rfl | (simp; done) | (simp [*]; done), by repeat (first | exact Drawn0.refl _ | apply Drawn0.step)⟩

/-! ### stillagelaw01_CrcSteps: function 3 -/
def stillagelaw01_CrcSteps.f (k : Nat) (a0 : Int) (a1 : Int) : Option (Bool) := (stillagelaw01_awake.f).bind fun t108 => (if t108 = true then ((crc_Step.f a0 a1).bind fun t109 => ((stillageref01_Step.f k a0 a1).bind fun t110 => (some (t109 == t110)))) else (some false))
theorem stillagelaw01_CrcSteps.mono : ∀ a0 a1 k, LeO (stillagelaw01_CrcSteps.f k a0 a1) (stillagelaw01_CrcSteps.f (k + 1) a0 a1) := by
  intro a0 a1 k
  unfold stillagelaw01_CrcSteps.f
  repeat' first
      | (with_reducible exact stillageref01_Step.mono _ _ _)
      | (with_reducible exact LeO.refl _)
      | (with_reducible exact LeO.none _)
      | (with_reducible refine LeO.ite ?_ ?_)
      | (with_reducible refine LeO.bind ?_ (fun _ => ?_))
      | exact stillageref01_Step.mono _ _ _
      | exact LeO.none _
      | refine LeO.ite ?_ ?_
      | refine LeO.bind ?_ (fun _ => ?_)
set_option maxHeartbeats 8000000 in
set_option maxRecDepth 100000 in
theorem stillagelaw01_CrcSteps.calls (k : Nat) (a0 : Int) (a1 : Int) (r : Bool) (w : World) (h : stillagelaw01_CrcSteps.f k a0 a1 = some r) :
    Calls Try.prog 3 #[.int .u16 a0, .int .u8 a1] w fun e w' => e = .returned (.bool r) ∧ Below w.heap.size w w' := by
  have HB := Aside0.mk (Below.refl w.heap.size w)
  have H : ((stillagelaw01_awake.f).bind fun t108 => (if t108 = true then ((crc_Step.f a0 a1).bind fun t109 => ((stillageref01_Step.f k a0 a1).bind fun t110 => (some (t109 == t110)))) else (some false))) = some r := h
  clear h
  replace H := Option.bind_eq_some_iff.mp H
  obtain ⟨t108, A30, H⟩ := H
  replace H : (if t108 = true then ((crc_Step.f a0 a1).bind fun t109 => ((stillageref01_Step.f k a0 a1).bind fun t110 => (some (t109 == t110)))) else (some false)) = some r := H
  have A3 := Aside0.mk A30
  clear A30
  by_cases c4 : t108 = true
  · subst c4
    have H1 : ((crc_Step.f a0 a1).bind fun t109 => ((stillageref01_Step.f k a0 a1).bind fun t110 => (some (t109 == t110)))) = some r := by rw [if_pos rfl] at H; exact H
    clear H
    have H := H1
    clear H1
    replace H := Option.bind_eq_some_iff.mp H
    obtain ⟨t109, A50, H⟩ := H
    replace H : ((stillageref01_Step.f k a0 a1).bind fun t110 => (some (t109 == t110))) = some r := H
    have A5 := Aside0.mk A50
    clear A50
    replace H := Option.bind_eq_some_iff.mp H
    obtain ⟨t110, A60, H⟩ := H
    replace H : (some (t109 == t110)) = some r := H
    have A6 := Aside0.mk A60
    clear A60
    obtain rfl := Option.some.inj H
    go_enter Try.func3, Try.ntmps3
    go_wp2_with (first | ((with_reducible refine gate_callee (f := 11) rfl ?_); refine goesL_ (some 5) rfl rfl Try.func11 (by kernel_rfl) rfl #[] rfl (by (try simp only [List.map_toArray, List.map_cons, List.map_nil]); first | done | rfl | (simp only [List.length_drop, List.length_take]; rfl)) ?_; (with_reducible refine (stillagelaw01_awake.calls  true _ A3.out).mono ?_); rintro e w7 ⟨rfl, hb⟩; refine ⟨_, rfl, ?_⟩; have n0_ := Aside0.mk (below_step (by repeat (first | (with_reducible first | exact HB.out | apply below_alloc | apply pw_below_drewN | apply below_drew1) | exact HB.out)) hb); clear HB; have HB := n0_; clear n0_; (try clear hb); (try clear hb2); (try clear hk); (try clear hi)) | (go_at_call 12; (with_reducible refine (crc_Step.calls a0 a1 t109 _ A5.out).mono ?_); rintro e w' ⟨rfl, ⟨nd, rfl⟩⟩) | (go_at_call 13; (with_reducible refine (stillageref01_Step.calls k a0 a1 t110 _ A6.out).mono ?_); rintro e w' ⟨rfl, ⟨nd, rfl⟩⟩))
    go_ret
    exact ⟨by first | rfl | (simp [errW_none, errW_some] <;> rfl) | (simp [*, errW_none, errW_some] <;> rfl), by repeat (first | (with_reducible first | exact HB.out | apply below_alloc | apply pw_below_drewN | apply below_drew1) | exact HB.out)⟩
  · replace c4 := Bool.eq_false_iff.mpr c4
    subst c4
    have H1 : (some false) = some r := by rw [if_neg (show ¬ (false = true) by decide)] at H; exact H
    clear H
    have H := H1
    clear H1
    obtain rfl := Option.some.inj H
    go_enter Try.func3, Try.ntmps3
    go_wp2_with (first | ((with_reducible refine gate_callee (f := 11) rfl ?_); refine goesL_ (some 5) rfl rfl Try.func11 (by kernel_rfl) rfl #[] rfl (by (try simp only [List.map_toArray, List.map_cons, List.map_nil]); first | done | rfl | (simp only [List.length_drop, List.length_take]; rfl)) ?_; (with_reducible refine (stillagelaw01_awake.calls  false _ A3.out).mono ?_); rintro e w8 ⟨rfl, hb⟩; refine ⟨_, rfl, ?_⟩; have n0_ := Aside0.mk (below_step (by repeat (first | (with_reducible first | exact HB.out | apply below_alloc | apply pw_below_drewN | apply below_drew1) | exact HB.out)) hb); clear HB; have HB := n0_; clear n0_; (try clear hb); (try clear hb2); (try clear hk); (try clear hi)))
    go_ret
    exact ⟨by first | rfl | (simp [errW_none, errW_some] <;> rfl) | (simp [*, errW_none, errW_some] <;> rfl), by repeat (first | (with_reducible first | exact HB.out | apply below_alloc | apply pw_below_drewN | apply below_drew1) | exact HB.out)⟩

/-- THE ONE PURE STATEMENT of stillagelaw01_CrcSteps: yours. -/
def stillagelaw01_CrcSteps.Pure : Prop := ∀ (a0 : Int) (a1 : Int), (Lit.int .u16 a0).wf = true → (Lit.int .u8 a1).wf = true → ∃ k, stillagelaw01_CrcSteps.f k a0 a1 = some true
theorem stillagelaw01_CrcSteps.walk (P : stillagelaw01_CrcSteps.Pure) (a0 : Int) (a1 : Int) (w : World) (w0 : (Lit.int .u16 a0).wf = true) (w1 : (Lit.int .u8 a1).wf = true) :
    Calls Try.prog 3 #[.int .u16 a0, .int .u8 a1] w fun e w' => e = .returned (.bool true) ∧ Below w.heap.size w w' := by
  obtain ⟨k, h⟩ := P a0 a1 w0 w1
  refine (stillagelaw01_CrcSteps.calls k a0 a1 true w h).mono ?_
  rintro e w' ⟨rfl, hd⟩
  exact ⟨rfl, hd⟩

end Go.Proofs.Ytpcgjnjgenfhiaa.PCrcSteps
