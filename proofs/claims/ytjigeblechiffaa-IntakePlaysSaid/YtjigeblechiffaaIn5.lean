/- An intake in memory, and its small functions: New, Ready, Next, Get. -/
import Derived.Test.YtjigeblechiffaaIn4
namespace Go.Proofs.Ytjigeblechiffaa.PIntake
open Go.RowKit Go.Proofs.YtjigeblechiffaaW.PrintWords Go.Proofs.YtjigeblechiffaaW.PrintLast Go.Proofs.YtjigeblechiffaaW.PrintMore
attribute [local go_sem] max2_int min2_int max_two min_two max_three min_three max_four min_four   -- for this text's walks alone
set_option linter.unusedVariables false
set_option linter.unusedSimpArgs false

variable {w0 w w1 : World} {B : Nat} {s : St}
def within (x lo n : Int) : Bool := decide ((IntKind.u16.wrap (x - lo)) < n)
/-- The loop: what is next is sent, while it is there. -/
def drain : Nat → St → St
  | 0, s => s
  | k + 1, s => match at_ s.next s.came with
    | none => s
    | some r => if (s.queue.length : Int) < 2 * s.window then drain k { s with came := cut s.next s.came, queue := s.queue ++ [r], next := IntKind.u16.wrap (s.next + 1) } else s
/-- Take: the intake behind it, the error. -/
def takeF (s : St) (x : Int) (d : P) : St × Int :=
  if 256 < d.1.length then (s, 3)
  else if (at_ x s.came).isSome || within x (IntKind.u16.wrap (s.next - IntKind.u16.wrap s.window)) s.window then (s, 2)
  else if !within x s.next s.window || decide (s.window ≤ (s.queue.length : Int)) then (s, 40)
  else (drain (s.came.length + 2) { s with came := s.came ++ [(x, d)] }, 0)

set_option maxHeartbeats 1000000 in
set_option maxRecDepth 100000 in
theorem Within_calls (x lo n : Int) (w : World) : Calls Try.prog 18 #[.int .u16 x, .int .u16 lo, .int .i64 n] w fun e w' => e = .returned (.bool (within x lo n)) ∧ w' = w := by
  have hw : wrap64 (IntKind.u16.wrap (x - lo)) = IntKind.u16.wrap (x - lo) := by
    have : IntKind.u16.wrap (x - lo) = (x - lo) % 65536 := by simp [IntKind.wrap, IntKind.bits, IntKind.signed]
    rw [this]; unfold wrap64; omega
  go_enter Try.func18, Try.ntmps18
  go_wp2
  go_ret
  exact ⟨by simp [within, hw], rfl⟩

set_option maxHeartbeats 1000000 in
set_option maxRecDepth 100000 in
theorem Take_long (h : IV w0 B w s) (x : Int) (A : Option Addr) (c : Nat) (d : List Int) (hd : 256 < d.length) (hm : d.length ≤ 9223372036854775807) :
    Calls Try.prog 11 #[.pointer (some ⟨B + 2, 0, none⟩), .int .u16 x, .slice A d.length c] w fun e w' => e = .returned (.int .i64 3) ∧ w' = w := by
  have h2 := h.cell2
  obtain ⟨v, hl, _⟩ := h.look x
  have hl0 := hl 0
  rw [show w.drewN 0 = w from rfl] at hl0
  have hg : decide (256 < (d.length : Int)) = true := decide_eq_true (by omega)
  clear h hl hd
  go_enter Try.func11, Try.ntmps11
  go_wp2
  go_ret
  exact ⟨rfl, rfl⟩

set_option maxHeartbeats 1000000 in
set_option maxRecDepth 100000 in
theorem Take_waits (h : IV w0 B w s) (x : Int) (A : Option Addr) (c : Nat) (d : List Int) (hd : ¬ 256 < d.length) (hx : (at_ x s.came).isSome = true) :
    Calls Try.prog 11 #[.pointer (some ⟨B + 2, 0, none⟩), .int .u16 x, .slice A d.length c] w fun e w' => e = .returned (.int .i64 2) ∧ ∃ n, w' = w.drewN n := by
  have h2 := h.cell2
  have h1 := h.cell1
  have h0 := h.cell0
  obtain ⟨v, hl, _⟩ := h.look x
  rw [hx] at hl
  have hl0 := hl 0
  rw [show w.drewN 0 = w from rfl] at hl0
  have hg : decide (256 < (d.length : Int)) = false := decide_eq_false (by omega)
  clear h hl hd hx
  go_enter Try.func11, Try.ntmps11
  go_wp2
  go_quiet (fail)
  go_wp2
  go_ret
  exact ⟨rfl, _, rfl⟩

set_option maxHeartbeats 1000000 in
set_option maxRecDepth 100000 in
theorem Take_behind (h : IV w0 B w s) (x : Int) (A : Option Addr) (c : Nat) (d : List Int) (hd : ¬ 256 < d.length) (hx : (at_ x s.came).isSome = false) (hb : within x (IntKind.u16.wrap (s.next - IntKind.u16.wrap s.window)) s.window = true) :
    Calls Try.prog 11 #[.pointer (some ⟨B + 2, 0, none⟩), .int .u16 x, .slice A d.length c] w fun e w' => e = .returned (.int .i64 2) ∧ ∃ n, w' = w.drewN n := by
  have h2 := h.cell2
  have h1 := h.cell1
  have h0 := h.cell0
  obtain ⟨v, hl, _⟩ := h.look x
  rw [hx] at hl
  have hl0 := hl 0
  rw [show w.drewN 0 = w from rfl] at hl0
  have hg : decide (256 < (d.length : Int)) = false := decide_eq_false (by omega)
  have hW : ∀ w, Calls Try.prog 18 #[.int .u16 x, .int .u16 (IntKind.u16.wrap (s.next - IntKind.u16.wrap s.window)), .int .i64 s.window] w fun e w' => e = .returned (.bool true) ∧ w' = w := fun w => by
    have := Within_calls x (IntKind.u16.wrap (s.next - IntKind.u16.wrap s.window)) s.window w
    rw [hb] at this
    exact this
  clear h hl hd hx hb
  go_enter Try.func11, Try.ntmps11
  go_wp2
  go_quiet ((go_at_call 18; exact Calls.quiet_of_same (hW _)))
  go_wp2
  go_ret
  exact ⟨rfl, _, rfl⟩

set_option maxHeartbeats 2000000 in
set_option maxRecDepth 100000 in
theorem Take_far (h : IV w0 B w s) (x : Int) (A : Option Addr) (c : Nat) (d : List Int) (hd : ¬ 256 < d.length) (hx : (at_ x s.came).isSome = false) (hb : within x (IntKind.u16.wrap (s.next - IntKind.u16.wrap s.window)) s.window = false)
    (hf : (!within x s.next s.window || decide (s.window ≤ (s.queue.length : Int))) = true) :
    Calls Try.prog 11 #[.pointer (some ⟨B + 2, 0, none⟩), .int .u16 x, .slice A d.length c] w fun e w' => e = .returned (.int .i64 40) ∧ ∃ n, w' = w.drewN n := by
  have h3 := h.cell3
  have h2 := h.cell2
  have h1 := h.cell1
  have h0 := h.cell0
  obtain ⟨v, hl, _⟩ := h.look x
  rw [hx] at hl
  have hl0 := hl 0
  rw [show w.drewN 0 = w from rfl] at hl0
  have hlen := h.len
  have hg : decide (256 < (d.length : Int)) = false := decide_eq_false (by omega)
  have hW : ∀ w, Calls Try.prog 18 #[.int .u16 x, .int .u16 (IntKind.u16.wrap (s.next - IntKind.u16.wrap s.window)), .int .i64 s.window] w fun e w' => e = .returned (.bool false) ∧ w' = w := fun w => by
    have := Within_calls x (IntKind.u16.wrap (s.next - IntKind.u16.wrap s.window)) s.window w
    rw [hb] at this
    exact this
  cases hw : within x s.next s.window with
  | false =>
    have hV : ∀ w, Calls Try.prog 18 #[.int .u16 x, .int .u16 s.next, .int .i64 s.window] w fun e w' => e = .returned (.bool false) ∧ w' = w := fun w => by
      have := Within_calls x s.next s.window w
      rw [hw] at this
      exact this
    clear h hl hd hx hb hf hw hlen
    go_enter Try.func11, Try.ntmps11
    go_wp2
    go_quiet ((go_at_call 18; exact Calls.quiet_of_same (hW _)))
    go_wp2
    go_quiet ((go_at_call 18; exact (hV _).mono fun _ _ h => ⟨h.1, _, h.2⟩))
    go_wp2
    go_ret
    exact ⟨rfl, _, World.drewN_drewN _ _ _⟩
  | true =>
    have hV : ∀ w, Calls Try.prog 18 #[.int .u16 x, .int .u16 s.next, .int .i64 s.window] w fun e w' => e = .returned (.bool true) ∧ w' = w := fun w => by
      have := Within_calls x s.next s.window w
      rw [hw] at this
      exact this
    have hq : decide (s.window ≤ (s.queue.length : Int)) = true := by rw [hw] at hf; simpa using hf
    clear h hl hd hx hb hf hw
    go_enter Try.func11, Try.ntmps11
    go_wp2
    go_quiet ((go_at_call 18; exact Calls.quiet_of_same (hW _)))
    go_wp2
    go_quiet ((go_at_call 18; exact (hV _).mono fun _ _ h => ⟨h.1, _, h.2⟩))
    go_wp2
    go_ret
    exact ⟨rfl, _, World.drewN_drewN _ _ _⟩
end Go.Proofs.Ytjigeblechiffaa.PIntake
