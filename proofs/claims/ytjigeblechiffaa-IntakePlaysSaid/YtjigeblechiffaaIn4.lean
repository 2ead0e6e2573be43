/- An intake in memory, and its small functions: New, Ready, Next, Get. -/
import Derived.Test.YtjigeblechiffaaIn3
namespace Go.Proofs.Ytjigeblechiffaa.PIntake
open Go.RowKit Go.Proofs.YtjigeblechiffaaW.PrintWords Go.Proofs.YtjigeblechiffaaW.PrintLast Go.Proofs.YtjigeblechiffaaW.PrintMore
attribute [local go_sem] max2_int min2_int max_two min_two max_three min_three max_four min_four   -- for this text's walks alone
set_option linter.unusedVariables false
set_option linter.unusedSimpArgs false

variable {w0 w w1 : World} {B : Nat} {s : St}
theorem bytes31 : ∃ i, Try.prog.info? 31 = some i ∧ i.bytes = 24 := by
  have h : (Try.prog.info? 31).map (·.bytes) = some 24 := by kernel_rfl
  obtain ⟨i, hi, hb⟩ := Option.map_eq_some_iff.1 h
  exact ⟨i, hi, hb⟩
theorem mkch (w : World) (n : Int) (h0 : 0 ≤ n) (h1 : n ≤ 128) : (Instr.makeChan 56 (.int .i64 n)).run Try.prog w = .ok (.chan (some w.heap.size)) (w.alloc (.chan n.toNat #[] false 0 0 false)) := by
  obtain ⟨i, hi, hb⟩ := bytes31
  obtain ⟨m, rfl⟩ := Int.eq_ofNat_of_zero_le h0
  simpa using Go.Conc.run_makeChan (P := Try.prog) (w := w) Try.underlying56 hi .i64 m (by omega) (by rw [hb]; omega)
theorem mkmp (w : World) : (Instr.makeMap 55 none).run Try.prog w = .ok (.map (some w.heap.size)) (w.alloc (.map #[] 0)) := rfl

set_option maxHeartbeats 1000000 in
set_option maxRecDepth 100000 in
theorem New_ok (hb : Below w0.heap.size w0 w) (a b : Int) (ha : 1 ≤ a ∧ a ≤ 64) (hf : 0 ≤ b ∧ b < 65536) :
    Calls Try.prog 10 #[.int .i64 a, .int .u16 b] w fun e w' => e = .returned (.tuple #[.pointer (some ⟨w.heap.size + 2, 0, none⟩), .int .i64 0]) ∧ IV w0 w.heap.size w' ⟨a, b, [], []⟩ := by
  have HB := Aside0.mk hb
  have HA := Aside0.mk ha
  have HF := Aside0.mk hf
  have h1 : decide (a < 1) = false := decide_eq_false (by omega)
  have h2 : decide (64 < a) = false := decide_eq_false (by omega)
  have hw : wrap64 (2 * a) = 2 * a := by unfold wrap64; omega
  have hm : ∀ w, (Instr.makeMap 55 none).run Try.prog w = .ok (.map (some w.heap.size)) (w.alloc (.map #[] 0)) := mkmp
  have hc : ∀ w, (Instr.makeChan 56 (.int .i64 (2 * a))).run Try.prog w = .ok (.chan (some w.heap.size)) (w.alloc (.chan (2 * a).toNat #[] false 0 0 false)) := fun w => mkch w _ (by omega) (by omega)
  clear hb ha hf
  go_enter Try.func10, Try.ntmps10
  go_wp2
  go_ret2
  have e1 := blk_new w (.map #[] 0)
  have e2 := blk_alloc e1 (.chan (2 * a).toNat #[] false 0 0 false)
  have e3 := blk_alloc e2 (.cells #[.int .i64 a, .int .u16 b, .map (some w.heap.size), .chan (some (w.heap.size + 1))] 58)
  have f2 := blk_new (w.alloc (.map #[] 0)) (.chan (2 * a).toNat #[] false 0 0 false)
  have f3 := blk_alloc f2 (.cells #[.int .i64 a, .int .u16 b, .map (some w.heap.size), .chan (some (w.heap.size + 1))] 58)
  have g3 := blk_new ((w.alloc (.map #[] 0)).alloc (.chan (2 * a).toNat #[] false 0 0 false)) (.cells #[.int .i64 a, .int .u16 b, .map (some w.heap.size), .chan (some (w.heap.size + 1))] 58)
  simp only [World.size_alloc] at f3 g3
  exact ⟨rfl, HB.out.size, below_alloc (below_alloc (below_alloc HB.out _) _) _, HA.out, HF.out, g3, (fun es cl he => by have e4 := e3.symm.trans he; cases e4; exact ⟨MapKept.stamped_empty 0, by simp⟩), ⟨#[], 0, [], e3, rfl, trivial⟩, ⟨#[], 0, 0, f3, trivial⟩, by have := HA.out; simp; omega⟩

set_option maxHeartbeats 1000000 in
set_option maxRecDepth 100000 in
theorem New_bad (a b : Int) (ha : a < 1 ∨ 64 < a) (w : World) : Calls Try.prog 10 #[.int .i64 a, .int .u16 b] w fun e w' => e = .returned (.tuple #[.pointer none, .int .i64 1]) ∧ w' = w := by
  by_cases h : a < 1
  · have h1 : decide (a < 1) = true := decide_eq_true h
    clear ha h
    go_enter Try.func10, Try.ntmps10
    go_wp2
    go_ret2
    exact ⟨rfl, rfl⟩
  · have h1 : decide (a < 1) = false := decide_eq_false h
    have h2 : decide (64 < a) = true := decide_eq_true (ha.resolve_left h)
    clear ha h
    go_enter Try.func10, Try.ntmps10
    go_wp2
    go_ret2
    exact ⟨rfl, rfl⟩
end Go.Proofs.Ytjigeblechiffaa.PIntake
