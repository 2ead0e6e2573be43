-- Written by a program of this session (wip/oprint): after the pattern of the kit's print, which does not take this law. -- trimmed
import Derived.Test.YtpcgjnjgenfhiaaPCrcTellsx0
import Derived.Test.YtpcgjnjgenfhiaaPCrcTellsx1
namespace Go.Proofs.Ytpcgjnjgenfhiaa.PCrcTells
open Go.RowKit Go.Proofs.YtpcgjnjgenfhiaaW.PrintWords Go.Proofs.YtpcgjnjgenfhiaaW.PrintLast Go.Proofs.YtpcgjnjgenfhiaaW.PrintMore
attribute [local go_sem] max2_int min2_int max_two min_two max_three min_three max_four min_four   -- for this text's walks alone
set_option linter.unusedVariables false
set_option linter.unusedSimpArgs false

/-! ### crc_Find: function 20 -/
def crc_Find.l0 : Nat → Int → Int → Int → Option (Int × Int)
 | 0, _, _, _ => none
 | k + 1, x6, x7, x8 => if x8 ≥ 0 then (if x7 = x6 then (some (x8, 0)) else ((crc_times.f k x7 2).bind fun t109 => (crc_Find.l0 k x6 t109 (wrap64 (x8 - 1))))) else (some ((-1), 4))
def crc_Find.f (k : Nat) (l0 : List Int) (a1 : Int) : Option (Int × Int) := if (l0.length : Int) > 4000 then (some (0, 1)) else ((crc_Sum.f k l0).bind fun t108 => (if (Go.bits .xor .u16 t108 a1) = 0 then (some ((-1), 0)) else (crc_Find.l0 k (Go.bits .xor .u16 t108 a1) 4129 (wrap64 ((wrap64 (8 * (l0.length : Int))) - 1)))))
theorem crc_Find.mono_l : ∀ k, (∀ y0 y1 y2, LeO (crc_Find.l0 k y0 y1 y2) (crc_Find.l0 (k + 1) y0 y1 y2))
 | 0 => fun _ _ _ r h => by simp [crc_Find.l0] at h
 | k + 1 => by
  have ih0 := crc_Find.mono_l k
  ·intro y0 y1 y2
   unfold crc_Find.l0
   repeat' first
   | (with_reducible exact ih0 _ _ _)
   | (with_reducible exact crc_Sum.mono _ _)
   | (with_reducible exact crc_times.mono _ _ _)
   | (with_reducible exact LeO.refl _)
   | (with_reducible exact LeO.none _)
   | (with_reducible refine LeO.ite ?_ ?_)
   | (with_reducible refine LeO.bind ?_ (fun _ => ?_))
   | exact ih0 _ _ _
   | exact crc_Sum.mono _ _
   | exact crc_times.mono _ _ _
   | exact LeO.none _
   | refine LeO.ite ?_ ?_
   | refine LeO.bind ?_ (fun _ => ?_)
theorem crc_Find.mono : ∀ a0 a1 k, LeO (crc_Find.f k a0 a1) (crc_Find.f (k + 1) a0 a1) := by
 intro a0 a1 k
 have ih0 := crc_Find.mono_l k
 unfold crc_Find.f
 repeat' first
   | (with_reducible exact ih0 _ _ _)
   | (with_reducible exact crc_Sum.mono _ _)
   | (with_reducible exact crc_times.mono _ _ _)
   | (with_reducible exact LeO.refl _)
   | (with_reducible exact LeO.none _)
   | (with_reducible refine LeO.ite ?_ ?_)
   | (with_reducible refine LeO.bind ?_ (fun _ => ?_))
   | exact ih0 _ _ _
   | exact crc_Sum.mono _ _
   | exact crc_times.mono _ _ _
   | exact LeO.none _
   | refine LeO.ite ?_ ?_
   | refine LeO.bind ?_ (fun _ => ?_)
set_option maxHeartbeats 8000000 in
set_option maxRecDepth 100000 in
theorem crc_Find.calls (k : Nat) (A0 : Option Addr) (c0 : Nat) (l0 : List Int) (a1 : Int) (r1 : Int) (r2 : Int) (w : World) (hr0 : Kd.C (Kd.int .u8) w A0 l0.length l0) (hc0 : l0.length ≤ c0) (h : crc_Find.f k l0 a1 = some (r1, r2)) :
  Calls Try.prog 20 #[.slice A0 l0.length c0, .int .u16 a1] w fun e w' => e = .returned (.tuple #[.int .i64 r1, .int .i64 r2]) ∧ Drawn0 w w' := by
 have HR0 := Aside0.mk hr0
 have HC0 := Aside0.mk hc0
 clear hr0 hc0
 have H : (if (l0.length : Int) > 4000 then (some (0, 1)) else ((crc_Sum.f k l0).bind fun t108 => (if (Go.bits .xor .u16 t108 a1) = 0 then (some ((-1), 0)) else (crc_Find.l0 k (Go.bits .xor .u16 t108 a1) 4129 (wrap64 ((wrap64 (8 * (l0.length : Int))) - 1)))))) = some (r1, r2) := h
 clear h
 by_cases c3 : (l0.length : Int) > 4000
 ·rw [if_pos c3] at H
  have c3b0 : decide (4000 < (l0.length : Int)) = true := decide_eq_true c3
  have c3b1 : decide (4000 < l0.length) = true := decide_eq_true (by omega)
  clear c3
  simp only [Option.some.injEq, Prod.mk.injEq] at H
  obtain ⟨rfl, rfl⟩ := H
  go_enter Try.func20, Try.ntmps20
  go_wp2
  go_ret2
  exact ⟨by first | rfl | (simp; done) | (simp [*]; done), by repeat (first | exact Drawn0.refl _ | apply Drawn0.step)⟩
 rw [if_neg c3] at H
 have c3b0 : decide (4000 < (l0.length : Int)) = false := decide_eq_false c3
 have c3b1 : decide (4000 < l0.length) = false := decide_eq_false (by omega)
 clear c3
 replace H := Option.bind_eq_some_iff.mp H
 obtain ⟨t108, A40, H⟩ := H
 replace H : (if (Go.bits .xor .u16 t108 a1) = 0 then (some ((-1), 0)) else (crc_Find.l0 k (Go.bits .xor .u16 t108 a1) 4129 (wrap64 ((wrap64 (8 * (l0.length : Int))) - 1)))) = some (r1, r2) := H
 have A4 := Aside0.mk A40
 clear A40
 by_cases c5 : (Go.bits .xor .u16 t108 a1) = 0
 ·rw [if_pos c5] at H
  have c5b0 : ((Go.bits .xor .u16 t108 a1) == 0) = true := beq_iff_eq.mpr c5
  have c5b1 : ((Go.bits .xor .u16 t108 a1) != 0) = false := bne_eq_false_iff_eq.mpr c5
  clear c5
  simp only [Option.some.injEq, Prod.mk.injEq] at H
  obtain ⟨rfl, rfl⟩ := H
  go_enter Try.func20, Try.ntmps20
  go_wp2_with (first | ((with_reducible refine gate_callee (f := 14) rfl ?_); refine goesL_ (some 13) rfl rfl Try.func14 (by kernel_rfl) rfl #[.slice A0 l0.length c0] rfl (by (try simp only [List.map_toArray, List.map_cons, List.map_nil]); first | done | rfl | (simp only [List.length_drop, List.length_take]; rfl)) ?_; (with_reducible refine (crc_Sum.calls k _ _ l0 t108 _ ?side1 ?side2 A4.out).mono ?_); (case side1 => repeat (first | exact HR0.out | (with_reducible refine Kd.C_alloc ?_ _) | (with_reducible refine Kd.C_drewN ?_ _) | (with_reducible refine Kd.C_drew ?_))); (case side2 => exact HC0.out); rintro e w' ⟨rfl, ⟨nd, rfl⟩⟩; refine ⟨_, rfl, ?_⟩))
  go_ret2
  exact ⟨by first | rfl | (simp; done) | (simp [*]; done), by repeat (first | exact Drawn0.refl _ | apply Drawn0.step)⟩
 rw [if_neg c5] at H
 have c5b0 : ((Go.bits .xor .u16 t108 a1) == 0) = false := beq_eq_false_iff_ne.mpr c5
 have c5b1 : ((Go.bits .xor .u16 t108 a1) != 0) = true := bne_iff_ne.mpr c5
 have H' := Aside0.mk H
 clear H
 go_enter Try.func20, Try.ntmps20
 go_wp2_with (first | ((with_reducible refine gate_callee (f := 14) rfl ?_); refine goesL_ (some 13) rfl rfl Try.func14 (by kernel_rfl) rfl #[.slice A0 l0.length c0] rfl (by (try simp only [List.map_toArray, List.map_cons, List.map_nil]); first | done | rfl | (simp only [List.length_drop, List.length_take]; rfl)) ?_; (with_reducible refine (crc_Sum.calls k _ _ l0 t108 _ ?side1 ?side2 A4.out).mono ?_); (case side1 => repeat (first | exact HR0.out | (with_reducible refine Kd.C_alloc ?_ _) | (with_reducible refine Kd.C_drewN ?_ _) | (with_reducible refine Kd.C_drew ?_))); (case side2 => exact HC0.out); rintro e w' ⟨rfl, ⟨nd, rfl⟩⟩; refine ⟨_, rfl, ?_⟩))
 go_loopg [7, 8] k (fun kq v7 v8 w' => ∃ (x7_1 : Int) (x8_1 : Int), v7 = .int .u16 x7_1 ∧ v8 = .int .i64 x8_1 ∧ Aside0 (crc_Find.l0 kq (Go.bits .xor .u16 t108 a1) x7_1 x8_1 = some (r1, r2)) ∧ Aside0 (kq ≤ k) ∧ Drawn0 w w')
 case atStart => exact ⟨(4129), (wrap64 ((wrap64 (8 * (l0.length : Int))) - 1)), (by first | rfl | (simp; done) | (simp [*]; done)), (by first | rfl | (simp; done) | (simp [*]; done)), H', ⟨Nat.le_refl _⟩, by repeat (first | exact Drawn0.refl _ | apply Drawn0.step)⟩
 case round =>
  clear H'
  obtain ⟨x7_1, x8_1, rfl, rfl, HA, HK1, ⟨m1, rfl⟩⟩ := hrel
  cases gk with
  | zero => exact absurd HA.out (by simp [crc_Find.l0])
  | succ k1 =>
   have H := HA.out
   clear HA
   simp only [crc_Find.l0] at H
   by_cases c6 : x8_1 ≥ 0
   rotate_left
   ·rw [if_neg c6] at H
    have c6b0 : decide (0 ≤ x8_1) = false := decide_eq_false c6
    clear c6
    simp only [Option.some.injEq, Prod.mk.injEq] at H
    obtain ⟨rfl, rfl⟩ := H
    go_wp2
    go_ret2
    exact ⟨by first | rfl | (simp; done) | (simp [*]; done), by repeat (first | exact Drawn0.refl _ | apply Drawn0.step)⟩

   rw [if_pos c6] at H
   have c6b0 : decide (0 ≤ x8_1) = true := decide_eq_true c6
   clear c6
   by_cases c7 : x7_1 = (Go.bits .xor .u16 t108 a1)
   ·rw [if_pos c7] at H
    have c7b0 : (x7_1 == (Go.bits .xor .u16 t108 a1)) = true := beq_iff_eq.mpr c7
    have c7b1 : (x7_1 != (Go.bits .xor .u16 t108 a1)) = false := bne_eq_false_iff_eq.mpr c7
    clear c7
    simp only [Option.some.injEq, Prod.mk.injEq] at H
    obtain ⟨rfl, rfl⟩ := H
    go_wp2
    go_ret2
    exact ⟨by first | rfl | (simp; done) | (simp [*]; done), by repeat (first | exact Drawn0.refl _ | apply Drawn0.step)⟩
   rw [if_neg c7] at H
   have c7b0 : (x7_1 == (Go.bits .xor .u16 t108 a1)) = false := beq_eq_false_iff_ne.mpr c7
   have c7b1 : (x7_1 != (Go.bits .xor .u16 t108 a1)) = true := bne_iff_ne.mpr c7
   replace H := Option.bind_eq_some_iff.mp H
   obtain ⟨t109, A80, H⟩ := H
   replace H : (crc_Find.l0 k1 (Go.bits .xor .u16 t108 a1) t109 (wrap64 (x8_1 - 1))) = some (r1, r2) := H
   have A8 := Aside0.mk A80
   clear A80
   have H' := Aside0.mk H
   clear H
   go_wp2_with (first | ((with_reducible refine gate_callee (f := 23) rfl ?_); refine goesL_ (some 31) rfl rfl Try.func23 (by kernel_rfl) rfl #[.int .u16 x7_1, .int .u16 2] rfl (by (try simp only [List.map_toArray, List.map_cons, List.map_nil]); first | done | rfl | (simp only [List.length_drop, List.length_take]; rfl)) ?_; (with_reducible refine (crc_times.calls k1 x7_1 2 t109 _ A8.out).mono ?_); rintro e w' ⟨rfl, ⟨nd, rfl⟩⟩; refine ⟨_, rfl, ?_⟩))
   go_roundg k1
   case measure => have := HK1.out; omega
   case rel => exact ⟨(t109), (wrap64 (x8_1 - 1)), (by first | rfl | (simp; done) | (simp [*]; done)), (by first | rfl | (simp; done) | (simp [*]; done)), H', ⟨by have := HK1.out; omega⟩, by repeat (first | exact Drawn0.refl _ | apply Drawn0.step)⟩
end Go.Proofs.Ytpcgjnjgenfhiaa.PCrcTells
