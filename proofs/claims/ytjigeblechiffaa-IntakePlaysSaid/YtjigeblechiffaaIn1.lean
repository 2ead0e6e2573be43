-- Written by a program of this session (wip/oprint): after the pattern of the kit's print, which does not take this law.
import Derived.Test.YtjigeblechiffaaIn0
namespace Go.Proofs.Ytjigeblechiffaa.PIntake
open Go.RowKit Go.Proofs.YtjigeblechiffaaW.PrintWords Go.Proofs.YtjigeblechiffaaW.PrintLast Go.Proofs.YtjigeblechiffaaW.PrintMore
attribute [local go_sem] max2_int min2_int max_two min_two max_three min_three max_four min_four   -- for this text's walks alone
set_option linter.unusedVariables false
set_option linter.unusedSimpArgs false


/-! ### turn_Within: function 18 -/
def turn_Within.f (a0 : Int) (a1 : Int) (a2 : Int) : Option (Bool) := some (decide ((wrap64 (IntKind.u16.wrap (a0 - a1))) < a2))
set_option maxHeartbeats 8000000 in
set_option maxRecDepth 100000 in
theorem turn_Within.calls (a0 : Int) (a1 : Int) (a2 : Int) (r : Bool) (w : World) (h : turn_Within.f a0 a1 a2 = some r) :
    Calls Try.prog 18 #[.int .u16 a0, .int .u16 a1, .int .i64 a2] w fun e w' => e = .returned (.bool r) ∧ Drawn0 w w' := by
  have H : (some (decide ((wrap64 (IntKind.u16.wrap (a0 - a1))) < a2))) = some r := h
  clear h
  obtain rfl := Option.some.inj H
  go_enter Try.func18, Try.ntmps18
  go_wp2
  go_ret
  exact ⟨by first | rfl | (simp; done) | (simp [*]; done), by repeat (first | exact Drawn0.refl _ | apply Drawn0.step)⟩

/-! ### slices_Clone_byte_byte: function 19, given -/
def slices_Clone_byte_byte.f (l0 : List Int) : Option (List Int) := if l0.length * 1 ≤ 140737488355328 then some l0 else none
set_option maxHeartbeats 1000000 in
set_option maxRecDepth 100000 in
theorem slices_Clone_byte_byte.calls (A0 : Option Addr) (c0 : Nat) (l0 : List Int) (r : List Int) (w : World) (hr0 : Kd.C (Kd.int .u8) w A0 l0.length l0) (hc0 : l0.length ≤ c0) (h : slices_Clone_byte_byte.f l0 = some r) :
    Calls Try.prog 19 #[.slice A0 l0.length c0] w fun e w' => ∃ v0_ : Value, e = .returned (v0_) ∧ Kd.R (Kd.int .u8) 5 w' w.heap.size (fun _ => True) v0_ r ∧ Below w.heap.size w w' := by
  unfold slices_Clone_byte_byte.f at h
  split at h
  · rename_i hb
    obtain rfl := Option.some.inj h
    clear h
    have q : ∀ (w : World) (a : Option Addr) (n c n' c' : Nat), (binOp .eql 31 (.slice a n c) (.slice none n' c')).run Try.prog w = .ok (.bool a.isNone) w := fun w a n c n' c' => Lib.run_eql_slice_nil w _ _ a n c n' c' Try.underlying31
    have HR0 := Aside0.mk hr0
    have HL := Aside0.mk hb
    clear hb
    cases A0 with
    | none =>
      have hl : l0 = [] := by
        rcases Nat.eq_zero_or_pos l0.length with h0 | h0
        · exact List.eq_nil_of_length_eq_zero h0
        · obtain ⟨ad, hx, _⟩ := hr0.2.2 h0
          cases hx
      subst hl
      clear hr0
      go_enter Try.func19, Try.ntmps19
      go_wp2
      go_ret
      exact ⟨_, rfl, Kd.R_nil _ _ _ _ _, Below.refl _ _⟩
    | some ad =>
      clear hr0
      go_enter Try.func19, Try.ntmps19
      go_wp2_with (first | ((with_reducible refine gate_builtin (b := .append) (xs := #[.tmp 5, .tmp 6]) rfl ?_); at_builtin; refine Kd.R_append_rows (Kd.int .u8) (w0 := w) w.heap.size rfl (.tmp 5) (.tmp 6) 31 5 (.int .u8 0) 1 rfl Try.underlying31 info5 rfl (by decide) (by omega) (.slice (some ⟨w.heap.size, 0, none⟩) 0 0) [] l0 _ _ _ (fun _ => True) (fun _ => False) rfl rfl ?aO ?aR (fun _ _ h => h) (fun _ h => h.elim) ?aF ?aB ?aS ?aL ?_))
      case aO => exact ⟨fun _ _ => trivial, [], by simpa using World.ownsRow_made w #[] 0 (Nat.le_refl _) (Nat.zero_le _) (by simp), Reps.none _ _⟩
      case aR => exact Kd.C_below HR0.out (below_alloc (Below.refl _ _) _)
      case aF => exact (fun _ _ => trivial)
      case aB => exact below_alloc (Below.refl _ _) _
      case aS => simp
      case aL => have := HL.out; simpa using this
      intro v1 w1 ho hb hg hat
      go_wp2
      go_ret
      exact ⟨_, rfl, by simpa using Kd.R_mono ho (fun _ _ => trivial), hb⟩
  · cases h







end Go.Proofs.Ytjigeblechiffaa.PIntake
