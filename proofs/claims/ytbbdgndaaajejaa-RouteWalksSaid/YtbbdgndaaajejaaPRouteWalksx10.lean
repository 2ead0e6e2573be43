-- Written by a program of this session (wip/oprint): after the pattern of the kit's print, which does not take this law. -- trimmed
import Derived.Test.YtbbdgndaaajejaaPRouteWalksx0
namespace Go.Proofs.Ytbbdgndaaajejaa.PRouteWalks
open Go.RowKit Go.Proofs.YtbbdgndaaajejaaW.PrintWords Go.Proofs.YtbbdgndaaajejaaW.PrintLast Go.Proofs.YtbbdgndaaajejaaW.PrintMore
attribute [local go_sem] max2_int min2_int max_two min_two max_three min_three max_four min_four   -- for this text's walks alone
set_option linter.unusedVariables false
set_option linter.unusedSimpArgs false

/-! ### stillageref06_Name: function 38 -/
mutual
def stillageref06_Name.j0 : Nat → ByteArray → Bool → Option (Bool)
 | 0, _, _ => none
 | k + 1, x0, x13 => if x13 = true then (some false) else (stillageref06_Name.l0 k x0 0)
def stillageref06_Name.l0 : Nat → ByteArray → Int → Option (Bool)
 | 0, _, _ => none
 | k + 1, x0, x3 => if x3 < (x0.size : Int) then (if 0 ≤ x3 then (if (bt x0 x3) ≥ 97 then (if (bt x0 x3) ≥ 48 then (if ((bt x0 x3) ≤ 122) then (stillageref06_Name.l0 k x0 (wrap64 (x3 + 1))) else (if x3 = 0 then (some false) else (if ((bt x0 x3) ≤ 57) then (stillageref06_Name.l0 k x0 (wrap64 (x3 + 1))) else (some false)))) else (if ((bt x0 x3) ≤ 122) then (stillageref06_Name.l0 k x0 (wrap64 (x3 + 1))) else (if x3 = 0 then (some false) else (some false)))) else (if (bt x0 x3) ≥ 48 then (if x3 = 0 then (some false) else (if ((bt x0 x3) ≤ 57) then (stillageref06_Name.l0 k x0 (wrap64 (x3 + 1))) else (some false))) else (if x3 = 0 then (some false) else (some false)))) else (none)) else (some true)
end
def stillageref06_Name.f (k : Nat) (a0 : ByteArray) : Option (Bool) := if (a0.size : Int) < 1 then (stillageref06_Name.j0 k a0 true) else (stillageref06_Name.j0 k a0 (decide ((a0.size : Int) > 8)))
theorem stillageref06_Name.mono_l : ∀ k, (∀ y0 y1, LeO (stillageref06_Name.j0 k y0 y1) (stillageref06_Name.j0 (k + 1) y0 y1)) ∧ (∀ y0 y1, LeO (stillageref06_Name.l0 k y0 y1) (stillageref06_Name.l0 (k + 1) y0 y1))
 | 0 => ⟨fun _ _ r h => by simp [stillageref06_Name.j0] at h, fun _ _ r h => by simp [stillageref06_Name.l0] at h⟩
 | k + 1 => by
  obtain ⟨ih0, ih1⟩ := stillageref06_Name.mono_l k
  refine ⟨?_, ?_⟩
  ·intro y0 y1
   unfold stillageref06_Name.j0
   repeat' first
   | (with_reducible exact ih0 _ _)
   | (with_reducible exact ih1 _ _)
   | (with_reducible exact LeO.refl _)
   | (with_reducible exact LeO.none _)
   | (with_reducible refine LeO.ite ?_ ?_)
   | (with_reducible refine LeO.bind ?_ (fun _ => ?_))
   | exact ih0 _ _
   | exact ih1 _ _
   | exact LeO.none _
   | refine LeO.ite ?_ ?_
   | refine LeO.bind ?_ (fun _ => ?_)
  ·intro y0 y1
   unfold stillageref06_Name.l0
   repeat' first
   | (with_reducible exact ih0 _ _)
   | (with_reducible exact ih1 _ _)
   | (with_reducible exact LeO.refl _)
   | (with_reducible exact LeO.none _)
   | (with_reducible refine LeO.ite ?_ ?_)
   | (with_reducible refine LeO.bind ?_ (fun _ => ?_))
   | exact ih0 _ _
   | exact ih1 _ _
   | exact LeO.none _
   | refine LeO.ite ?_ ?_
   | refine LeO.bind ?_ (fun _ => ?_)
theorem stillageref06_Name.mono : ∀ a0 k, LeO (stillageref06_Name.f k a0) (stillageref06_Name.f (k + 1) a0) := by
 intro a0 k
 obtain ⟨ih0, ih1⟩ := stillageref06_Name.mono_l k
 unfold stillageref06_Name.f
 repeat' first
   | (with_reducible exact ih0 _ _)
   | (with_reducible exact ih1 _ _)
   | (with_reducible exact LeO.refl _)
   | (with_reducible exact LeO.none _)
   | (with_reducible refine LeO.ite ?_ ?_)
   | (with_reducible refine LeO.bind ?_ (fun _ => ?_))
   | exact ih0 _ _
   | exact ih1 _ _
   | exact LeO.none _
   | refine LeO.ite ?_ ?_
   | refine LeO.bind ?_ (fun _ => ?_)
set_option maxHeartbeats 8000000 in
set_option maxRecDepth 100000 in
theorem stillageref06_Name.calls (k : Nat) (a0 : ByteArray) (r : Bool) (w : World) (h : stillageref06_Name.f k a0 = some r) :
  Calls Try.prog 38 #[.string a0] w fun e w' => e = .returned (.bool r) ∧ Drawn0 w w' := by
 have H : (if (a0.size : Int) < 1 then (stillageref06_Name.j0 k a0 true) else (stillageref06_Name.j0 k a0 (decide ((a0.size : Int) > 8)))) = some r := h
 clear h
 have HC2 := Aside0.mk H
 clear H
 go_enter Try.func38, Try.ntmps38
 go_upto_region 1 with (fail)
 go_cut [13] (fun v13 wc => ∃ (kq : Nat) (x13_1 : Bool), v13 = .bool x13_1 ∧ Aside0 (stillageref06_Name.j0 kq a0 x13_1 = some r) ∧ Aside0 (kq ≤ k) ∧ Drawn0 w wc)
 case first =>
  have H := HC2.out
  clear HC2
  by_cases c3 : (a0.size : Int) < 1
  ·rw [if_pos c3] at H
   have c3b0 : decide ((a0.size : Int) < 1) = true := decide_eq_true c3
   have c3b1 : decide (a0.size < 1) = true := decide_eq_true (by omega)
   clear c3
   (first | rw [c3b0] | (simp only [i64_w, i32_w]; rw [c3b0]) | skip)
   have H' := Aside0.mk H
   clear H
   go_wp2
   go_meet
   case rel => exact ⟨_, (true), (by first | rfl | (simp; done) | (simp [*]; done)), H', ⟨by first | omega | exact Nat.le_refl _⟩, by repeat (first | exact Drawn0.refl _ | apply Drawn0.step)⟩
  rw [if_neg c3] at H
  have c3b0 : decide ((a0.size : Int) < 1) = false := decide_eq_false c3
  have c3b1 : decide (a0.size < 1) = false := decide_eq_false (by omega)
  clear c3
  (first | rw [c3b0] | (simp only [i64_w, i32_w]; rw [c3b0]) | skip)
  have H' := Aside0.mk H
  clear H
  go_wp2
  go_meet
  case rel => exact ⟨_, (decide ((a0.size : Int) > 8)), (by first | rfl | (simp; done) | (simp [*]; done)), H', ⟨by first | omega | exact Nat.le_refl _⟩, by repeat (first | exact Drawn0.refl _ | apply Drawn0.step)⟩
 case rest =>
  clear HC2
  obtain ⟨kq, x13_1, rfl, HA, HJ1, ⟨mc1, rfl⟩⟩ := hcut
  cases kq with
  | zero => exact absurd HA.out (by simp [stillageref06_Name.j0])
  | succ kj1 =>
   have H := HA.out
   clear HA
   simp only [stillageref06_Name.j0] at H
   by_cases c4 : x13_1 = true
   ·subst c4
    have H1 : (some false) = some r := by rw [if_pos rfl] at H; exact H
    clear H
    have H := H1
    clear H1
    obtain rfl := Option.some.inj H
    go_wp2
    go_ret
    exact ⟨by first | rfl | (simp; done) | (simp [*]; done), by repeat (first | exact Drawn0.refl _ | apply Drawn0.step)⟩
   replace c4 := Bool.eq_false_iff.mpr c4
   subst c4
   have H1 : (stillageref06_Name.l0 kj1 a0 0) = some r := by rw [if_neg (show ¬ (false = true) by decide)] at H; exact H
   clear H
   have H := H1
   clear H1
   have H' := Aside0.mk H
   clear H
   go_wp2
   go_loopg [3] kj1 (fun kq v3 w' => ∃ (x3_2 : Int), v3 = .int .i64 x3_2 ∧ Aside0 (stillageref06_Name.l0 kq a0 x3_2 = some r) ∧ Aside0 (kq ≤ kj1) ∧ Drawn0 w w')
   case atStart => exact ⟨(0), (by first | rfl | (simp; done) | (simp [*]; done)), H', ⟨Nat.le_refl _⟩, by repeat (first | exact Drawn0.refl _ | apply Drawn0.step)⟩
   case round =>
    clear H'
    obtain ⟨x3_2, rfl, HA, HK2, ⟨m2, rfl⟩⟩ := hrel
    cases gk with
    | zero => exact absurd HA.out (by simp [stillageref06_Name.l0])
    | succ k2 =>
     have H := HA.out
     clear HA
     simp only [stillageref06_Name.l0] at H
     by_cases c5 : x3_2 < (a0.size : Int)
     rotate_left
     ·rw [if_neg c5] at H
      have c5b0 : decide (x3_2 < (a0.size : Int)) = false := decide_eq_false c5
      clear c5
      obtain rfl := Option.some.inj H
      go_wp2
      go_ret
      exact ⟨by first | rfl | (simp; done) | (simp [*]; done), by repeat (first | exact Drawn0.refl _ | apply Drawn0.step)⟩

     rw [if_pos c5] at H
     have c5b0 : decide (x3_2 < (a0.size : Int)) = true := decide_eq_true c5
     clear c5
     by_cases c6 : 0 ≤ x3_2
     rotate_left
     ·rw [if_neg c6] at H
      exact absurd H (by simp)
     rw [if_pos c6] at H
     have c6b0 : decide (0 ≤ x3_2) = true := decide_eq_true c6
     clear c6
     by_cases c8 : (bt a0 x3_2) ≥ 97
     rotate_left
     ·rw [if_neg c8] at H
      have c8b0 : decide (97 ≤ (bt a0 x3_2)) = false := decide_eq_false c8
      clear c8
      by_cases c19 : (bt a0 x3_2) ≥ 48
      rotate_left
      ·rw [if_neg c19] at H
       have c19b0 : decide (48 ≤ (bt a0 x3_2)) = false := decide_eq_false c19
       clear c19
       by_cases c23 : x3_2 = 0
       rotate_left
       ·rw [if_neg c23] at H
        have c23b0 : (x3_2 == 0) = false := beq_eq_false_iff_ne.mpr c23
        have c23b1 : (x3_2 != 0) = true := bne_iff_ne.mpr c23
        obtain rfl := Option.some.inj H
        have p7 : 0 ≤ (x3_2 : Int) := of_decide_eq_true (by first | (with_reducible assumption) | assumption)
        have q7 : x3_2 < (a0.size : Int) := of_decide_eq_true (by first | (with_reducible assumption) | assumption)
        have hx7 := bt_at a0 x3_2
        replace p7 := eq_true p7
        replace q7 := eq_true q7
        have p18 : 0 ≤ (x3_2 : Int) := of_decide_eq_true (by first | (with_reducible assumption) | assumption)
        have q18 : x3_2 < (a0.size : Int) := of_decide_eq_true (by first | (with_reducible assumption) | assumption)
        have hx18 := bt_at a0 x3_2
        replace p18 := eq_true p18
        replace q18 := eq_true q18
        go_wp2
        go_ret
        exact ⟨by first | rfl | (simp; done) | (simp [*]; done), by repeat (first | exact Drawn0.refl _ | apply Drawn0.step)⟩
       rw [if_pos c23] at H
       have c23b0 : (x3_2 == 0) = true := beq_iff_eq.mpr c23
       have c23b1 : (x3_2 != 0) = false := bne_eq_false_iff_eq.mpr c23
       clear c23
       obtain rfl := Option.some.inj H
       have p7 : 0 ≤ (x3_2 : Int) := of_decide_eq_true (by first | (with_reducible assumption) | assumption)
       have q7 : x3_2 < (a0.size : Int) := of_decide_eq_true (by first | (with_reducible assumption) | assumption)
       have hx7 := bt_at a0 x3_2
       replace p7 := eq_true p7
       replace q7 := eq_true q7
       have p18 : 0 ≤ (x3_2 : Int) := of_decide_eq_true (by first | (with_reducible assumption) | assumption)
       have q18 : x3_2 < (a0.size : Int) := of_decide_eq_true (by first | (with_reducible assumption) | assumption)
       have hx18 := bt_at a0 x3_2
       replace p18 := eq_true p18
       replace q18 := eq_true q18
       go_wp2
       go_ret
       exact ⟨by first | rfl | (simp; done) | (simp [*]; done), by repeat (first | exact Drawn0.refl _ | apply Drawn0.step)⟩
      rw [if_pos c19] at H
      have c19b0 : decide (48 ≤ (bt a0 x3_2)) = true := decide_eq_true c19
      clear c19
      by_cases c21 : x3_2 = 0
      ·rw [if_pos c21] at H
       have c21b0 : (x3_2 == 0) = true := beq_iff_eq.mpr c21
       have c21b1 : (x3_2 != 0) = false := bne_eq_false_iff_eq.mpr c21
       clear c21
       obtain rfl := Option.some.inj H
       have p7 : 0 ≤ (x3_2 : Int) := of_decide_eq_true (by first | (with_reducible assumption) | assumption)
       have q7 : x3_2 < (a0.size : Int) := of_decide_eq_true (by first | (with_reducible assumption) | assumption)
       have hx7 := bt_at a0 x3_2
       replace p7 := eq_true p7
       replace q7 := eq_true q7
       have p18 : 0 ≤ (x3_2 : Int) := of_decide_eq_true (by first | (with_reducible assumption) | assumption)
       have q18 : x3_2 < (a0.size : Int) := of_decide_eq_true (by first | (with_reducible assumption) | assumption)
       have hx18 := bt_at a0 x3_2
       replace p18 := eq_true p18
       replace q18 := eq_true q18
       have p20 : 0 ≤ (x3_2 : Int) := of_decide_eq_true (by first | (with_reducible assumption) | assumption)
       have q20 : x3_2 < (a0.size : Int) := of_decide_eq_true (by first | (with_reducible assumption) | assumption)
       have hx20 := bt_at a0 x3_2
       replace p20 := eq_true p20
       replace q20 := eq_true q20
       go_wp2
       go_ret
       exact ⟨by first | rfl | (simp; done) | (simp [*]; done), by repeat (first | exact Drawn0.refl _ | apply Drawn0.step)⟩
      rw [if_neg c21] at H
      have c21b0 : (x3_2 == 0) = false := beq_eq_false_iff_ne.mpr c21
      have c21b1 : (x3_2 != 0) = true := bne_iff_ne.mpr c21
      by_cases c22 : ((bt a0 x3_2) ≤ 57)
      rotate_left
      ·rw [if_neg c22] at H
       have c22b0 : decide ((bt a0 x3_2) ≤ 57) = false := decide_eq_false c22
       clear c22
       obtain rfl := Option.some.inj H
       have p7 : 0 ≤ (x3_2 : Int) := of_decide_eq_true (by first | (with_reducible assumption) | assumption)
       have q7 : x3_2 < (a0.size : Int) := of_decide_eq_true (by first | (with_reducible assumption) | assumption)
       have hx7 := bt_at a0 x3_2
       replace p7 := eq_true p7
       replace q7 := eq_true q7
       have p18 : 0 ≤ (x3_2 : Int) := of_decide_eq_true (by first | (with_reducible assumption) | assumption)
       have q18 : x3_2 < (a0.size : Int) := of_decide_eq_true (by first | (with_reducible assumption) | assumption)
       have hx18 := bt_at a0 x3_2
       replace p18 := eq_true p18
       replace q18 := eq_true q18
       have p20 : 0 ≤ (x3_2 : Int) := of_decide_eq_true (by first | (with_reducible assumption) | assumption)
       have q20 : x3_2 < (a0.size : Int) := of_decide_eq_true (by first | (with_reducible assumption) | assumption)
       have hx20 := bt_at a0 x3_2
       replace p20 := eq_true p20
       replace q20 := eq_true q20
       go_wp2
       go_ret
       exact ⟨by first | rfl | (simp; done) | (simp [*]; done), by repeat (first | exact Drawn0.refl _ | apply Drawn0.step)⟩
      rw [if_pos c22] at H
      have c22b0 : decide ((bt a0 x3_2) ≤ 57) = true := decide_eq_true c22
      clear c22
      have H' := Aside0.mk H
      clear H
      have p7 : 0 ≤ (x3_2 : Int) := of_decide_eq_true (by first | (with_reducible assumption) | assumption)
      have q7 : x3_2 < (a0.size : Int) := of_decide_eq_true (by first | (with_reducible assumption) | assumption)
      have hx7 := bt_at a0 x3_2
      replace p7 := eq_true p7
      replace q7 := eq_true q7
      have p18 : 0 ≤ (x3_2 : Int) := of_decide_eq_true (by first | (with_reducible assumption) | assumption)
      have q18 : x3_2 < (a0.size : Int) := of_decide_eq_true (by first | (with_reducible assumption) | assumption)
      have hx18 := bt_at a0 x3_2
      replace p18 := eq_true p18
      replace q18 := eq_true q18
      have p20 : 0 ≤ (x3_2 : Int) := of_decide_eq_true (by first | (with_reducible assumption) | assumption)
      have q20 : x3_2 < (a0.size : Int) := of_decide_eq_true (by first | (with_reducible assumption) | assumption)
      have hx20 := bt_at a0 x3_2
      replace p20 := eq_true p20
      replace q20 := eq_true q20
      go_wp2
      go_roundg k2
      case measure => have := HJ1.out; have := HK2.out; omega
      case rel => exact ⟨(wrap64 (x3_2 + 1)), (by first | rfl | (simp; done) | (simp [*]; done)), H', ⟨by have := HJ1.out; have := HK2.out; omega⟩, by repeat (first | exact Drawn0.refl _ | apply Drawn0.step)⟩
     rw [if_pos c8] at H
     have c8b0 : decide (97 ≤ (bt a0 x3_2)) = true := decide_eq_true c8
     clear c8
     by_cases c11 : (bt a0 x3_2) ≥ 48
     rotate_left
     ·rw [if_neg c11] at H
      have c11b0 : decide (48 ≤ (bt a0 x3_2)) = false := decide_eq_false c11
      clear c11
      by_cases c16 : ((bt a0 x3_2) ≤ 122)
      ·rw [if_pos c16] at H
       have c16b0 : decide ((bt a0 x3_2) ≤ 122) = true := decide_eq_true c16
       clear c16
       have H' := Aside0.mk H
       clear H
       have p7 : 0 ≤ (x3_2 : Int) := of_decide_eq_true (by first | (with_reducible assumption) | assumption)
       have q7 : x3_2 < (a0.size : Int) := of_decide_eq_true (by first | (with_reducible assumption) | assumption)
       have hx7 := bt_at a0 x3_2
       replace p7 := eq_true p7
       replace q7 := eq_true q7
       have p9 : 0 ≤ (x3_2 : Int) := of_decide_eq_true (by first | (with_reducible assumption) | assumption)
       have q9 : x3_2 < (a0.size : Int) := of_decide_eq_true (by first | (with_reducible assumption) | assumption)
       have hx9 := bt_at a0 x3_2
       replace p9 := eq_true p9
       replace q9 := eq_true q9
       have p10 : 0 ≤ (x3_2 : Int) := of_decide_eq_true (by first | (with_reducible assumption) | assumption)
       have q10 : x3_2 < (a0.size : Int) := of_decide_eq_true (by first | (with_reducible assumption) | assumption)
       have hx10 := bt_at a0 x3_2
       replace p10 := eq_true p10
       replace q10 := eq_true q10
       go_wp2
       go_roundg k2
       case measure => have := HJ1.out; have := HK2.out; omega
       case rel => exact ⟨(wrap64 (x3_2 + 1)), (by first | rfl | (simp; done) | (simp [*]; done)), H', ⟨by have := HJ1.out; have := HK2.out; omega⟩, by repeat (first | exact Drawn0.refl _ | apply Drawn0.step)⟩
      rw [if_neg c16] at H
      have c16b0 : decide ((bt a0 x3_2) ≤ 122) = false := decide_eq_false c16
      clear c16
      by_cases c17 : x3_2 = 0
      rotate_left
      ·rw [if_neg c17] at H
       have c17b0 : (x3_2 == 0) = false := beq_eq_false_iff_ne.mpr c17
       have c17b1 : (x3_2 != 0) = true := bne_iff_ne.mpr c17
       obtain rfl := Option.some.inj H
       have p7 : 0 ≤ (x3_2 : Int) := of_decide_eq_true (by first | (with_reducible assumption) | assumption)
       have q7 : x3_2 < (a0.size : Int) := of_decide_eq_true (by first | (with_reducible assumption) | assumption)
       have hx7 := bt_at a0 x3_2
       replace p7 := eq_true p7
       replace q7 := eq_true q7
       have p9 : 0 ≤ (x3_2 : Int) := of_decide_eq_true (by first | (with_reducible assumption) | assumption)
       have q9 : x3_2 < (a0.size : Int) := of_decide_eq_true (by first | (with_reducible assumption) | assumption)
       have hx9 := bt_at a0 x3_2
       replace p9 := eq_true p9
       replace q9 := eq_true q9
       have p10 : 0 ≤ (x3_2 : Int) := of_decide_eq_true (by first | (with_reducible assumption) | assumption)
       have q10 : x3_2 < (a0.size : Int) := of_decide_eq_true (by first | (with_reducible assumption) | assumption)
       have hx10 := bt_at a0 x3_2
       replace p10 := eq_true p10
       replace q10 := eq_true q10
       go_wp2
       go_ret
       exact ⟨by first | rfl | (simp; done) | (simp [*]; done), by repeat (first | exact Drawn0.refl _ | apply Drawn0.step)⟩
      rw [if_pos c17] at H
      have c17b0 : (x3_2 == 0) = true := beq_iff_eq.mpr c17
      have c17b1 : (x3_2 != 0) = false := bne_eq_false_iff_eq.mpr c17
      clear c17
      obtain rfl := Option.some.inj H
      have p7 : 0 ≤ (x3_2 : Int) := of_decide_eq_true (by first | (with_reducible assumption) | assumption)
      have q7 : x3_2 < (a0.size : Int) := of_decide_eq_true (by first | (with_reducible assumption) | assumption)
      have hx7 := bt_at a0 x3_2
      replace p7 := eq_true p7
      replace q7 := eq_true q7
      have p9 : 0 ≤ (x3_2 : Int) := of_decide_eq_true (by first | (with_reducible assumption) | assumption)
      have q9 : x3_2 < (a0.size : Int) := of_decide_eq_true (by first | (with_reducible assumption) | assumption)
      have hx9 := bt_at a0 x3_2
      replace p9 := eq_true p9
      replace q9 := eq_true q9
      have p10 : 0 ≤ (x3_2 : Int) := of_decide_eq_true (by first | (with_reducible assumption) | assumption)
      have q10 : x3_2 < (a0.size : Int) := of_decide_eq_true (by first | (with_reducible assumption) | assumption)
      have hx10 := bt_at a0 x3_2
      replace p10 := eq_true p10
      replace q10 := eq_true q10
      go_wp2
      go_ret
      exact ⟨by first | rfl | (simp; done) | (simp [*]; done), by repeat (first | exact Drawn0.refl _ | apply Drawn0.step)⟩
     rw [if_pos c11] at H
     have c11b0 : decide (48 ≤ (bt a0 x3_2)) = true := decide_eq_true c11
     clear c11
     by_cases c13 : ((bt a0 x3_2) ≤ 122)
     ·rw [if_pos c13] at H
      have c13b0 : decide ((bt a0 x3_2) ≤ 122) = true := decide_eq_true c13
      clear c13
      have H' := Aside0.mk H
      clear H
      have p7 : 0 ≤ (x3_2 : Int) := of_decide_eq_true (by first | (with_reducible assumption) | assumption)
      have q7 : x3_2 < (a0.size : Int) := of_decide_eq_true (by first | (with_reducible assumption) | assumption)
      have hx7 := bt_at a0 x3_2
      replace p7 := eq_true p7
      replace q7 := eq_true q7
      have p9 : 0 ≤ (x3_2 : Int) := of_decide_eq_true (by first | (with_reducible assumption) | assumption)
      have q9 : x3_2 < (a0.size : Int) := of_decide_eq_true (by first | (with_reducible assumption) | assumption)
      have hx9 := bt_at a0 x3_2
      replace p9 := eq_true p9
      replace q9 := eq_true q9
      have p10 : 0 ≤ (x3_2 : Int) := of_decide_eq_true (by first | (with_reducible assumption) | assumption)
      have q10 : x3_2 < (a0.size : Int) := of_decide_eq_true (by first | (with_reducible assumption) | assumption)
      have hx10 := bt_at a0 x3_2
      replace p10 := eq_true p10
      replace q10 := eq_true q10
      have p12 : 0 ≤ (x3_2 : Int) := of_decide_eq_true (by first | (with_reducible assumption) | assumption)
      have q12 : x3_2 < (a0.size : Int) := of_decide_eq_true (by first | (with_reducible assumption) | assumption)
      have hx12 := bt_at a0 x3_2
      replace p12 := eq_true p12
      replace q12 := eq_true q12
      go_wp2
      go_roundg k2
      case measure => have := HJ1.out; have := HK2.out; omega
      case rel => exact ⟨(wrap64 (x3_2 + 1)), (by first | rfl | (simp; done) | (simp [*]; done)), H', ⟨by have := HJ1.out; have := HK2.out; omega⟩, by repeat (first | exact Drawn0.refl _ | apply Drawn0.step)⟩
     rw [if_neg c13] at H
     have c13b0 : decide ((bt a0 x3_2) ≤ 122) = false := decide_eq_false c13
     clear c13
     by_cases c14 : x3_2 = 0
     ·rw [if_pos c14] at H
      have c14b0 : (x3_2 == 0) = true := beq_iff_eq.mpr c14
      have c14b1 : (x3_2 != 0) = false := bne_eq_false_iff_eq.mpr c14
      clear c14
      obtain rfl := Option.some.inj H
      have p7 : 0 ≤ (x3_2 : Int) := of_decide_eq_true (by first | (with_reducible assumption) | assumption)
      have q7 : x3_2 < (a0.size : Int) := of_decide_eq_true (by first | (with_reducible assumption) | assumption)
      have hx7 := bt_at a0 x3_2
      replace p7 := eq_true p7
      replace q7 := eq_true q7
      have p9 : 0 ≤ (x3_2 : Int) := of_decide_eq_true (by first | (with_reducible assumption) | assumption)
      have q9 : x3_2 < (a0.size : Int) := of_decide_eq_true (by first | (with_reducible assumption) | assumption)
      have hx9 := bt_at a0 x3_2
      replace p9 := eq_true p9
      replace q9 := eq_true q9
      have p10 : 0 ≤ (x3_2 : Int) := of_decide_eq_true (by first | (with_reducible assumption) | assumption)
      have q10 : x3_2 < (a0.size : Int) := of_decide_eq_true (by first | (with_reducible assumption) | assumption)
      have hx10 := bt_at a0 x3_2
      replace p10 := eq_true p10
      replace q10 := eq_true q10
      have p12 : 0 ≤ (x3_2 : Int) := of_decide_eq_true (by first | (with_reducible assumption) | assumption)
      have q12 : x3_2 < (a0.size : Int) := of_decide_eq_true (by first | (with_reducible assumption) | assumption)
      have hx12 := bt_at a0 x3_2
      replace p12 := eq_true p12
      replace q12 := eq_true q12
      go_wp2
      go_ret
      exact ⟨by first | rfl | (simp; done) | (simp [*]; done), by repeat (first | exact Drawn0.refl _ | apply Drawn0.step)⟩
     rw [if_neg c14] at H
     have c14b0 : (x3_2 == 0) = false := beq_eq_false_iff_ne.mpr c14
     have c14b1 : (x3_2 != 0) = true := bne_iff_ne.mpr c14
     by_cases c15 : ((bt a0 x3_2) ≤ 57)
     rotate_left
     ·rw [if_neg c15] at H
      have c15b0 : decide ((bt a0 x3_2) ≤ 57) = false := decide_eq_false c15
      clear c15
      obtain rfl := Option.some.inj H
      have p7 : 0 ≤ (x3_2 : Int) := of_decide_eq_true (by first | (with_reducible assumption) | assumption)
      have q7 : x3_2 < (a0.size : Int) := of_decide_eq_true (by first | (with_reducible assumption) | assumption)
      have hx7 := bt_at a0 x3_2
      replace p7 := eq_true p7
      replace q7 := eq_true q7
      have p9 : 0 ≤ (x3_2 : Int) := of_decide_eq_true (by first | (with_reducible assumption) | assumption)
      have q9 : x3_2 < (a0.size : Int) := of_decide_eq_true (by first | (with_reducible assumption) | assumption)
      have hx9 := bt_at a0 x3_2
      replace p9 := eq_true p9
      replace q9 := eq_true q9
      have p10 : 0 ≤ (x3_2 : Int) := of_decide_eq_true (by first | (with_reducible assumption) | assumption)
      have q10 : x3_2 < (a0.size : Int) := of_decide_eq_true (by first | (with_reducible assumption) | assumption)
      have hx10 := bt_at a0 x3_2
      replace p10 := eq_true p10
      replace q10 := eq_true q10
      have p12 : 0 ≤ (x3_2 : Int) := of_decide_eq_true (by first | (with_reducible assumption) | assumption)
      have q12 : x3_2 < (a0.size : Int) := of_decide_eq_true (by first | (with_reducible assumption) | assumption)
      have hx12 := bt_at a0 x3_2
      replace p12 := eq_true p12
      replace q12 := eq_true q12
      go_wp2
      go_ret
      exact ⟨by first | rfl | (simp; done) | (simp [*]; done), by repeat (first | exact Drawn0.refl _ | apply Drawn0.step)⟩
     rw [if_pos c15] at H
     have c15b0 : decide ((bt a0 x3_2) ≤ 57) = true := decide_eq_true c15
     clear c15
     have H' := Aside0.mk H
     clear H
     have p7 : 0 ≤ (x3_2 : Int) := of_decide_eq_true (by first | (with_reducible assumption) | assumption)
     have q7 : x3_2 < (a0.size : Int) := of_decide_eq_true (by first | (with_reducible assumption) | assumption)
     have hx7 := bt_at a0 x3_2
     replace p7 := eq_true p7
     replace q7 := eq_true q7
     have p9 : 0 ≤ (x3_2 : Int) := of_decide_eq_true (by first | (with_reducible assumption) | assumption)
     have q9 : x3_2 < (a0.size : Int) := of_decide_eq_true (by first | (with_reducible assumption) | assumption)
     have hx9 := bt_at a0 x3_2
     replace p9 := eq_true p9
     replace q9 := eq_true q9
     have p10 : 0 ≤ (x3_2 : Int) := of_decide_eq_true (by first | (with_reducible assumption) | assumption)
     have q10 : x3_2 < (a0.size : Int) := of_decide_eq_true (by first | (with_reducible assumption) | assumption)
     have hx10 := bt_at a0 x3_2
     replace p10 := eq_true p10
     replace q10 := eq_true q10
     have p12 : 0 ≤ (x3_2 : Int) := of_decide_eq_true (by first | (with_reducible assumption) | assumption)
     have q12 : x3_2 < (a0.size : Int) := of_decide_eq_true (by first | (with_reducible assumption) | assumption)
     have hx12 := bt_at a0 x3_2
     replace p12 := eq_true p12
     replace q12 := eq_true q12
     go_wp2
     go_roundg k2
     case measure => have := HJ1.out; have := HK2.out; omega
     case rel => exact ⟨(wrap64 (x3_2 + 1)), (by first | rfl | (simp; done) | (simp [*]; done)), H', ⟨by have := HJ1.out; have := HK2.out; omega⟩, by repeat (first | exact Drawn0.refl _ | apply Drawn0.step)⟩
/-! ### stillageref06_Find: function 39 -/
def stillageref06_Find.l0 : Nat → ByteArray → Int → Int → List (S47) → List (S38) → Option (Int)
 | 0, _, _, _, _, _ => none
 | k + 1, x1, x8, x9, x323000, x323001 => if x9 < x8 then (if 0 ≤ x9 then (if x9 < (x323000.length : Int) then (if ((rd_T47 x323000 x9).f0).toList = x1.toList then (some x9) else (stillageref06_Find.l0 k x1 x8 (wrap64 (x9 + 1)) x323000 x323001)) else (none)) else (none)) else (some (-1))
def stillageref06_Find.f (k : Nat) (l0_0 : List (S47)) (l0_1 : List (S38)) (a1 : ByteArray) : Option (Int) := stillageref06_Find.l0 k a1 (l0_0.length : Int) 0 l0_0 l0_1
theorem stillageref06_Find.mono_l : ∀ k, (∀ y0 y1 y2 y3 y4, LeO (stillageref06_Find.l0 k y0 y1 y2 y3 y4) (stillageref06_Find.l0 (k + 1) y0 y1 y2 y3 y4))
 | 0 => fun _ _ _ _ _ r h => by simp [stillageref06_Find.l0] at h
 | k + 1 => by
  have ih0 := stillageref06_Find.mono_l k
  ·intro y0 y1 y2 y3 y4
   unfold stillageref06_Find.l0
   repeat' first
   | (with_reducible exact ih0 _ _ _ _ _)
   | (with_reducible exact LeO.refl _)
   | (with_reducible exact LeO.none _)
   | (with_reducible refine LeO.ite ?_ ?_)
   | (with_reducible refine LeO.bind ?_ (fun _ => ?_))
   | exact ih0 _ _ _ _ _
   | exact LeO.none _
   | refine LeO.ite ?_ ?_
   | refine LeO.bind ?_ (fun _ => ?_)
theorem stillageref06_Find.mono : ∀ a0 a1 a2 k, LeO (stillageref06_Find.f k a0 a1 a2) (stillageref06_Find.f (k + 1) a0 a1 a2) := by
 intro a0 a1 a2 k
 have ih0 := stillageref06_Find.mono_l k
 unfold stillageref06_Find.f
 repeat' first
   | (with_reducible exact ih0 _ _ _ _ _)
   | (with_reducible exact LeO.refl _)
   | (with_reducible exact LeO.none _)
   | (with_reducible refine LeO.ite ?_ ?_)
   | (with_reducible refine LeO.bind ?_ (fun _ => ?_))
   | exact ih0 _ _ _ _ _
   | exact LeO.none _
   | refine LeO.ite ?_ ?_
   | refine LeO.bind ?_ (fun _ => ?_)
set_option maxHeartbeats 8000000 in
set_option maxRecDepth 100000 in
theorem stillageref06_Find.calls (k : Nat) (A0_0 : Option Addr) (c0_0 : Nat) (l0_0 : List (S47)) (A0_1 : Option Addr) (c0_1 : Nat) (l0_1 : List (S38)) (a1 : ByteArray) (r : Int) (w : World) (hr0_0 : Kd.C k47 w A0_0 l0_0.length l0_0) (hc0_0 : l0_0.length ≤ c0_0) (hr0_1 : Kd.C k38 w A0_1 l0_1.length l0_1) (hc0_1 : l0_1.length ≤ c0_1) (h : stillageref06_Find.f k l0_0 l0_1 a1 = some r) :
  Calls Try.prog 39 #[.agg #[.slice A0_0 l0_0.length c0_0, .slice A0_1 l0_1.length c0_1], .string a1] w fun e w' => e = .returned (.int .i64 r) ∧ Below w.heap.size w w' := by
 have hu25 := Try.underlying25
 have HR0_0 := Aside0.mk hr0_0
 have HC0_0 := Aside0.mk hc0_0
 clear hr0_0 hc0_0
 have HR0_1 := Aside0.mk hr0_1
 have HC0_1 := Aside0.mk hc0_1
 clear hr0_1 hc0_1
 have HB := Aside0.mk (Below.refl w.heap.size w)
 have H : (stillageref06_Find.l0 k a1 (l0_0.length : Int) 0 l0_0 l0_1) = some r := h
 clear h
 have H' := Aside0.mk H
 clear H
 go_enter Try.func39, Try.ntmps39
 go_wp2_with (first | ((with_reducible refine gate_dst (N := 2) rfl ?_); refine box_event ?hg (N := 2) ?hd (cs := #[.slice A0_0 l0_0.length c0_0, .slice A0_1 l0_1.length c0_1]) (t := 25) ?hr ?_; (case hd => rfl); (case hg => rfl); (case hr => first | (go_simp; done) | (go_simp; rfl)); intro gb322 hg w3 hbox hb; have n0_ := Aside0.mk (below_step (by repeat (first | (with_reducible first | exact HB.out | apply below_alloc | apply pw_below_drewN | apply below_drew1) | exact HB.out)) hb); have n1_ := Aside0.mk (hbox); have n2_ := Aside0.mk ((by rw [hg]; exact (below_size (by repeat (first | (with_reducible first | exact HB.out | apply below_alloc | apply pw_below_drewN | apply below_drew1) | exact HB.out))) : w.heap.size ≤ gb322)); have n3_ := Aside0.mk ((by rw [hg]; exact (below_size (by repeat (first | (with_reducible first | exact HB.out | apply below_alloc | apply pw_below_drewN | apply below_drew1) | exact HB.out))) : w.heap.size ≤ gb322)); clear HB; have HB := n0_; have BK322 := n1_; have GW322 := n2_; have GE322 := n3_; clear n0_ n1_ n2_ n3_; clear hb hbox hg; have hcz4_0 : w3.cell? ⟨gb322, 0, none⟩ = some (.slice A0_0 l0_0.length c0_0) := (blk_cell BK322.out 0).trans rfl; have hcz4_1 : w3.cell? ⟨gb322, 1, none⟩ = some (.slice A0_1 l0_1.length c0_1) := (blk_cell BK322.out 1).trans rfl; have hfz4_0 := blk_frozen BK322.out 0; have hfz4_1 := blk_frozen BK322.out 1))
 go_loopg [9] k (fun kq v9 w' => ∃ (x9_1 : Int), v9 = .int .i64 x9_1 ∧ Aside0 (stillageref06_Find.l0 kq a1 (l0_0.length : Int) x9_1 l0_0 l0_1 = some r) ∧ Aside0 (kq ≤ k) ∧ Aside0 (w'.heap[gb322]? = some (.cells #[(.slice A0_0 l0_0.length c0_0), (.slice A0_1 l0_1.length c0_1)] 25 (0, 0))) ∧ Aside0 (Below w.heap.size w w'))
 case atStart => exact ⟨(0), (by first | rfl | (simp; done) | (simp [*]; done)), H', ⟨Nat.le_refl _⟩, ⟨by (with_reducible repeat (first | refine blk_drewN ?_ _ | refine blk_drew ?_ | refine blk_alloc ?_ _)); exact BK322.out⟩, ⟨by repeat (first | (with_reducible first | exact HB.out | apply below_alloc | apply pw_below_drewN | apply below_drew1 | refine below_set ?_ GE322.out) | exact HB.out)⟩⟩
 case round =>
  clear H'
  obtain ⟨x9_1, rfl, HA, HK1, BK322, HB⟩ := hrel
  cases gk with
  | zero => exact absurd HA.out (by simp [stillageref06_Find.l0])
  | succ k1 =>
   have H := HA.out
   clear HA
   simp only [stillageref06_Find.l0] at H
   by_cases c5 : x9_1 < (l0_0.length : Int)
   rotate_left
   ·rw [if_neg c5] at H
    have c5b0 : decide (x9_1 < (l0_0.length : Int)) = false := decide_eq_false c5
    clear c5
    obtain rfl := Option.some.inj H
    go_wp2
    go_ret
    exact ⟨by first | rfl | (simp [errW_none, errW_some] <;> rfl) | (simp [*, errW_none, errW_some] <;> rfl), by repeat (first | (with_reducible first | exact HB.out | apply below_alloc | apply pw_below_drewN | apply below_drew1 | refine below_set ?_ GE322.out) | exact HB.out)⟩

   rw [if_pos c5] at H
   have c5b0 : decide (x9_1 < (l0_0.length : Int)) = true := decide_eq_true c5
   clear c5
   by_cases c6 : 0 ≤ x9_1
   rotate_left
   ·rw [if_neg c6] at H
    exact absurd H (by simp)
   rw [if_pos c6] at H
   have c6b0 : decide (0 ≤ x9_1) = true := decide_eq_true c6
   clear c6
   by_cases c7 : x9_1 < (l0_0.length : Int)
   rotate_left
   ·rw [if_neg c7] at H
    exact absurd H (by simp)
   rw [if_pos c7] at H
   have c7b0 : decide (x9_1 < (l0_0.length : Int)) = true := decide_eq_true c7
   clear c7
   by_cases c8 : ((rd_T47 l0_0 x9_1).f0).toList = a1.toList
   ·rw [if_pos c8] at H
    have c8b0 : (((rd_T47 l0_0 x9_1).f0).toList == a1.toList) = true := beq_iff_eq.mpr c8
    have c8b1 : (((rd_T47 l0_0 x9_1).f0).toList != a1.toList) = false := bne_eq_false_iff_eq.mpr c8
    clear c8
    obtain rfl := Option.some.inj H
    have hcz9_0 : wr.cell? ⟨gb322, 0, none⟩ = some (.slice A0_0 l0_0.length c0_0) := (blk_cell BK322.out 0).trans rfl
    have hcz9_1 : wr.cell? ⟨gb322, 1, none⟩ = some (.slice A0_1 l0_1.length c0_1) := (blk_cell BK322.out 1).trans rfl
    have hfz9_0 := blk_frozen BK322.out 0
    have hfz9_1 := blk_frozen BK322.out 1
    have p323 : 0 ≤ (x9_1 : Int) := of_decide_eq_true (by first | (with_reducible assumption) | assumption)
    have q323 : x9_1 < (l0_0.length : Int) := of_decide_eq_true (by first | (with_reducible assumption) | assumption)
    obtain ⟨ad323, e323, hx323_0, hx323_1, hx323_2⟩ := at_T47 HR0_0.out x9_1 p323 q323
    cases e323
    replace hx323_0 := (HB.out.cell (World.block_lt_of_cell? w _ hx323_0)).trans hx323_0
    replace hx323_1 := (HB.out.cell (World.block_lt_of_cell? w _ hx323_1)).trans hx323_1
    replace hx323_2 := (HB.out.cell (World.block_lt_of_cell? w _ hx323_2)).trans hx323_2
    replace p323 := eq_true p323
    replace q323 := eq_true q323
    go_wp2
    go_ret
    exact ⟨by first | rfl | (simp [errW_none, errW_some] <;> rfl) | (simp [*, errW_none, errW_some] <;> rfl), by repeat (first | (with_reducible first | exact HB.out | apply below_alloc | apply pw_below_drewN | apply below_drew1 | refine below_set ?_ GE322.out) | exact HB.out)⟩
   rw [if_neg c8] at H
   have c8b0 : (((rd_T47 l0_0 x9_1).f0).toList == a1.toList) = false := beq_eq_false_iff_ne.mpr c8
   have c8b1 : (((rd_T47 l0_0 x9_1).f0).toList != a1.toList) = true := bne_iff_ne.mpr c8
   have H' := Aside0.mk H
   clear H
   have hcz10_0 : wr.cell? ⟨gb322, 0, none⟩ = some (.slice A0_0 l0_0.length c0_0) := (blk_cell BK322.out 0).trans rfl
   have hcz10_1 : wr.cell? ⟨gb322, 1, none⟩ = some (.slice A0_1 l0_1.length c0_1) := (blk_cell BK322.out 1).trans rfl
   have hfz10_0 := blk_frozen BK322.out 0
   have hfz10_1 := blk_frozen BK322.out 1
   have p323 : 0 ≤ (x9_1 : Int) := of_decide_eq_true (by first | (with_reducible assumption) | assumption)
   have q323 : x9_1 < (l0_0.length : Int) := of_decide_eq_true (by first | (with_reducible assumption) | assumption)
   obtain ⟨ad323, e323, hx323_0, hx323_1, hx323_2⟩ := at_T47 HR0_0.out x9_1 p323 q323
   cases e323
   replace hx323_0 := (HB.out.cell (World.block_lt_of_cell? w _ hx323_0)).trans hx323_0
   replace hx323_1 := (HB.out.cell (World.block_lt_of_cell? w _ hx323_1)).trans hx323_1
   replace hx323_2 := (HB.out.cell (World.block_lt_of_cell? w _ hx323_2)).trans hx323_2
   replace p323 := eq_true p323
   replace q323 := eq_true q323
   go_wp2
   go_roundg k1
   case measure => have := HK1.out; omega
   case rel => exact ⟨(wrap64 (x9_1 + 1)), (by first | rfl | (simp; done) | (simp [*]; done)), H', ⟨by have := HK1.out; omega⟩, ⟨by (with_reducible repeat (first | refine blk_drewN ?_ _ | refine blk_drew ?_ | refine blk_alloc ?_ _)); exact BK322.out⟩, ⟨by repeat (first | (with_reducible first | exact HB.out | apply below_alloc | apply pw_below_drewN | apply below_drew1 | refine below_set ?_ GE322.out) | exact HB.out)⟩⟩
end Go.Proofs.Ytbbdgndaaajejaa.PRouteWalks
