-- Written by a program of this session (wip/oprint): after the pattern of the kit's print, which does not take this law. -- trimmed
import Derived.Test.YtkdfohmceokchaaPZoneStuckx0
namespace Go.Proofs.Ytkdfohmceokchaa.PZoneStuck
open Go.RowKit Go.Proofs.YtkdfohmceokchaaW.PrintWords Go.Proofs.YtkdfohmceokchaaW.PrintLast Go.Proofs.YtkdfohmceokchaaW.PrintMore
attribute [local go_sem] max2_int min2_int max_two min_two max_three min_three max_four min_four   -- for this text's walks alone
set_option linter.unusedVariables false
set_option linter.unusedSimpArgs false

/-! ### stillageref09_Look: function 26 -/
mutual
def stillageref09_Look.l0 : Nat → List (S79) → Int → Int → Option (Int)
 | 0, _, _, _ => none
 | k + 1, x0, x9, x10 => if x10 < x9 then (if 0 ≤ x10 then (if x10 < (x0.length : Int) then (if ((rd_T79 x0 x10).f1) < (-1) then (stillageref09_Look.j1 k x0 x10 x9 x10 true) else (stillageref09_Look.j1 k x0 x10 x9 x10 (decide (((rd_T79 x0 x10).f1) > 7)))) else (none)) else (none)) else (some 0)
def stillageref09_Look.j1 : Nat → List (S79) → Int → Int → Int → Bool → Option (Int)
 | 0, _, _, _, _, _ => none
 | k + 1, x0, x3, x9, x10, x26 => if x26 = true then (some 1) else (if 0 ≤ x3 then (if x3 < (x0.length : Int) then (stillageref09_Look.l1 k x0 x3 x9 x10 (((rd_T79 x0 x3).f0).length : Int) 0) else (none)) else (none))
def stillageref09_Look.l1 : Nat → List (S79) → Int → Int → Int → Int → Int → Option (Int)
 | 0, _, _, _, _, _, _ => none
 | k + 1, x0, x3, x9, x10, x32, x33 => if x33 < x32 then (if 0 ≤ x3 then (if x3 < (x0.length : Int) then (if 0 ≤ x33 then (if x33 < (((rd_T79 x0 x3).f0).length : Int) then (if (rd ((rd_T79 x0 x3).f0) x33) < 0 then (some 1) else (if (rd ((rd_T79 x0 x3).f0) x33) > 7 then (some 1) else (stillageref09_Look.l1 k x0 x3 x9 x10 x32 (wrap64 (x33 + 1))))) else (none)) else (none)) else (none)) else (none)) else (stillageref09_Look.l0 k x0 x9 (wrap64 (x10 + 1)))
end
def stillageref09_Look.f (k : Nat) (l0 : List (S79)) : Option (Int) := if (l0.length : Int) > 40 then (some 1) else (stillageref09_Look.l0 k l0 (l0.length : Int) 0)
theorem stillageref09_Look.mono_l : ∀ k, (∀ y0 y1 y2, LeO (stillageref09_Look.l0 k y0 y1 y2) (stillageref09_Look.l0 (k + 1) y0 y1 y2)) ∧ (∀ y0 y1 y2 y3 y4, LeO (stillageref09_Look.j1 k y0 y1 y2 y3 y4) (stillageref09_Look.j1 (k + 1) y0 y1 y2 y3 y4)) ∧ (∀ y0 y1 y2 y3 y4 y5, LeO (stillageref09_Look.l1 k y0 y1 y2 y3 y4 y5) (stillageref09_Look.l1 (k + 1) y0 y1 y2 y3 y4 y5))
 | 0 => ⟨fun _ _ _ r h => by simp [stillageref09_Look.l0] at h, fun _ _ _ _ _ r h => by simp [stillageref09_Look.j1] at h, fun _ _ _ _ _ _ r h => by simp [stillageref09_Look.l1] at h⟩
 | k + 1 => by
  obtain ⟨ih0, ih1, ih2⟩ := stillageref09_Look.mono_l k
  refine ⟨?_, ?_, ?_⟩
  ·intro y0 y1 y2
   unfold stillageref09_Look.l0
   repeat' first
   | (with_reducible exact ih0 _ _ _)
   | (with_reducible exact ih1 _ _ _ _ _)
   | (with_reducible exact ih2 _ _ _ _ _ _)
   | (with_reducible exact LeO.refl _)
   | (with_reducible exact LeO.none _)
   | (with_reducible refine LeO.ite ?_ ?_)
   | (with_reducible refine LeO.bind ?_ (fun _ => ?_))
   | exact ih0 _ _ _
   | exact ih1 _ _ _ _ _
   | exact ih2 _ _ _ _ _ _
   | exact LeO.none _
   | refine LeO.ite ?_ ?_
   | refine LeO.bind ?_ (fun _ => ?_)
  ·intro y0 y1 y2 y3 y4
   unfold stillageref09_Look.j1
   repeat' first
   | (with_reducible exact ih0 _ _ _)
   | (with_reducible exact ih1 _ _ _ _ _)
   | (with_reducible exact ih2 _ _ _ _ _ _)
   | (with_reducible exact LeO.refl _)
   | (with_reducible exact LeO.none _)
   | (with_reducible refine LeO.ite ?_ ?_)
   | (with_reducible refine LeO.bind ?_ (fun _ => ?_))
   | exact ih0 _ _ _
   | exact ih1 _ _ _ _ _
   | exact ih2 _ _ _ _ _ _
   | exact LeO.none _
   | refine LeO.ite ?_ ?_
   | refine LeO.bind ?_ (fun _ => ?_)
  ·intro y0 y1 y2 y3 y4 y5
   unfold stillageref09_Look.l1
   repeat' first
   | (with_reducible exact ih0 _ _ _)
   | (with_reducible exact ih1 _ _ _ _ _)
   | (with_reducible exact ih2 _ _ _ _ _ _)
   | (with_reducible exact LeO.refl _)
   | (with_reducible exact LeO.none _)
   | (with_reducible refine LeO.ite ?_ ?_)
   | (with_reducible refine LeO.bind ?_ (fun _ => ?_))
   | exact ih0 _ _ _
   | exact ih1 _ _ _ _ _
   | exact ih2 _ _ _ _ _ _
   | exact LeO.none _
   | refine LeO.ite ?_ ?_
   | refine LeO.bind ?_ (fun _ => ?_)
theorem stillageref09_Look.mono : ∀ a0 k, LeO (stillageref09_Look.f k a0) (stillageref09_Look.f (k + 1) a0) := by
 intro a0 k
 obtain ⟨ih0, ih1, ih2⟩ := stillageref09_Look.mono_l k
 unfold stillageref09_Look.f
 repeat' first
   | (with_reducible exact ih0 _ _ _)
   | (with_reducible exact ih1 _ _ _ _ _)
   | (with_reducible exact ih2 _ _ _ _ _ _)
   | (with_reducible exact LeO.refl _)
   | (with_reducible exact LeO.none _)
   | (with_reducible refine LeO.ite ?_ ?_)
   | (with_reducible refine LeO.bind ?_ (fun _ => ?_))
   | exact ih0 _ _ _
   | exact ih1 _ _ _ _ _
   | exact ih2 _ _ _ _ _ _
   | exact LeO.none _
   | refine LeO.ite ?_ ?_
   | refine LeO.bind ?_ (fun _ => ?_)
set_option maxHeartbeats 8000000 in
set_option maxRecDepth 100000 in
theorem stillageref09_Look.calls (k : Nat) (A0 : Option Addr) (c0 : Nat) (l0 : List (S79)) (r : Int) (w : World) (hr0 : Kd.C k79 w A0 l0.length l0) (hc0 : l0.length ≤ c0) (h : stillageref09_Look.f k l0 = some r) :
  Calls Try.prog 26 #[.slice A0 l0.length c0] w fun e w' => e = .returned (.int .i64 r) ∧ Drawn0 w w' := by
 have HR0 := Aside0.mk hr0
 have HC0 := Aside0.mk hc0
 clear hr0 hc0
 have H : (if (l0.length : Int) > 40 then (some 1) else (stillageref09_Look.l0 k l0 (l0.length : Int) 0)) = some r := h
 clear h
 by_cases c2 : (l0.length : Int) > 40
 ·rw [if_pos c2] at H
  have c2b0 : decide (40 < (l0.length : Int)) = true := decide_eq_true c2
  have c2b1 : decide (40 < l0.length) = true := decide_eq_true (by omega)
  clear c2
  obtain rfl := Option.some.inj H
  go_enter Try.func26, Try.ntmps26
  go_wp2
  go_ret
  exact ⟨by first | rfl | (simp; done) | (simp [*]; done), by repeat (first | exact Drawn0.refl _ | apply Drawn0.step)⟩
 ·rw [if_neg c2] at H
  have c2b0 : decide (40 < (l0.length : Int)) = false := decide_eq_false c2
  have c2b1 : decide (40 < l0.length) = false := decide_eq_false (by omega)
  clear c2
  have H' := Aside0.mk H
  clear H
  go_enter Try.func26, Try.ntmps26
  go_wp2
  go_loopg [10] k (fun kq v10 w' => ∃ (x10_1 : Int), v10 = .int .i64 x10_1 ∧ Aside0 (stillageref09_Look.l0 kq l0 (l0.length : Int) x10_1 = some r) ∧ Aside0 (kq ≤ k) ∧ Drawn0 w w')
  case atStart => exact ⟨(0), (by first | rfl | (simp; done) | (simp [*]; done)), H', ⟨Nat.le_refl _⟩, by repeat (first | exact Drawn0.refl _ | apply Drawn0.step)⟩
  case round =>
   clear H'
   try clear c2
   try clear c2b0
   try clear c2b1
   try clear p2
   obtain ⟨x10_1, rfl, HA, HK1, ⟨m1, rfl⟩⟩ := hrel
   cases gk with
   | zero => exact absurd HA.out (by simp [stillageref09_Look.l0])
   | succ k1 =>
    have H := HA.out
    clear HA
    simp only [stillageref09_Look.l0] at H
    by_cases c3 : x10_1 < (l0.length : Int)
    ·rw [if_pos c3] at H
     have c3b0 : decide (x10_1 < (l0.length : Int)) = true := decide_eq_true c3
     clear c3
     have HC4 := Aside0.mk H
     clear H
     go_upto_region 6 with (fail)
     go_cut [26] (fun v26 wc => ∃ (kq : Nat) (x26_3 : Bool), v26 = .bool x26_3 ∧ Aside0 (stillageref09_Look.j1 kq l0 x10_1 (l0.length : Int) x10_1 x26_3 = some r) ∧ Aside0 (kq ≤ k1) ∧ Drawn0 w wc)
     case first =>
      have H := HC4.out
      clear HC4
      by_cases c5 : 0 ≤ x10_1
      ·rw [if_pos c5] at H
       have c5b0 : decide (0 ≤ x10_1) = true := decide_eq_true c5
       clear c5
       (first | rw [c5b0] | (simp only [i64_w, i32_w]; rw [c5b0]) | skip)
       by_cases c6 : x10_1 < (l0.length : Int)
       ·rw [if_pos c6] at H
        have c6b0 : decide (x10_1 < (l0.length : Int)) = true := decide_eq_true c6
        clear c6
        by_cases c7 : ((rd_T79 l0 x10_1).f1) < (-1)
        ·rw [if_pos c7] at H
         have c7b0 : decide (((rd_T79 l0 x10_1).f1) < (-1)) = true := decide_eq_true c7
         clear c7
         have H' := Aside0.mk H
         clear H
         have p148 : 0 ≤ (x10_1 : Int) := of_decide_eq_true (by first | (with_reducible assumption) | assumption)
         have q148 : x10_1 < (l0.length : Int) := of_decide_eq_true (by first | (with_reducible assumption) | assumption)
         obtain ⟨ad148, A148_0, c148_0, e148, hx148_0, hx148_1, hl148_0, hi148_0⟩ := at_T79 HR0.out x10_1 p148 q148
         cases e148
         have HR148_0 := Aside0.mk hi148_0
         have HC148_0 := Aside0.mk hl148_0
         clear hi148_0 hl148_0
         replace p148 := eq_true p148
         replace q148 := eq_true q148
         go_wp2
         go_meet
         case rel => exact ⟨_, (true), (by first | rfl | (simp; done) | (simp [*]; done)), H', ⟨by have := HK1.out; first | omega | exact Nat.le_refl _⟩, by repeat (first | exact Drawn0.refl _ | apply Drawn0.step)⟩
        ·rw [if_neg c7] at H
         have c7b0 : decide (((rd_T79 l0 x10_1).f1) < (-1)) = false := decide_eq_false c7
         clear c7
         have H' := Aside0.mk H
         clear H
         have p148 : 0 ≤ (x10_1 : Int) := of_decide_eq_true (by first | (with_reducible assumption) | assumption)
         have q148 : x10_1 < (l0.length : Int) := of_decide_eq_true (by first | (with_reducible assumption) | assumption)
         obtain ⟨ad148, A148_0, c148_0, e148, hx148_0, hx148_1, hl148_0, hi148_0⟩ := at_T79 HR0.out x10_1 p148 q148
         cases e148
         have HR148_0 := Aside0.mk hi148_0
         have HC148_0 := Aside0.mk hl148_0
         clear hi148_0 hl148_0
         replace p148 := eq_true p148
         replace q148 := eq_true q148
         have p149 : 0 ≤ (x10_1 : Int) := of_decide_eq_true (by first | (with_reducible assumption) | assumption)
         have q149 : x10_1 < (l0.length : Int) := of_decide_eq_true (by first | (with_reducible assumption) | assumption)
         obtain ⟨ad149, A149_0, c149_0, e149, hx149_0, hx149_1, hl149_0, hi149_0⟩ := at_T79 HR0.out x10_1 p149 q149
         obtain rfl : ad148 = ad149 := (by injection e149)
         have HR149_0 := Aside0.mk hi149_0
         have HC149_0 := Aside0.mk hl149_0
         clear hi149_0 hl149_0
         replace p149 := eq_true p149
         replace q149 := eq_true q149
         have ea_ := Option.some.inj (hx148_0.symm.trans hx149_0)
         injection ea_ with ea_ en_ ec_
         subst ea_
         subst ec_
         clear en_
         go_wp2
         go_meet
         case rel => exact ⟨_, (decide (((rd_T79 l0 x10_1).f1) > 7)), (by first | rfl | (simp; done) | (simp [*]; done)), H', ⟨by have := HK1.out; first | omega | exact Nat.le_refl _⟩, by repeat (first | exact Drawn0.refl _ | apply Drawn0.step)⟩
       ·rw [if_neg c6] at H
        exact absurd H (by simp)
      ·rw [if_neg c5] at H
       exact absurd H (by simp)
     case rest =>
      clear HC4
      try clear c1
      try clear p1
      try clear q1
      try clear hx1
      try clear c2
      try clear c2b0
      try clear c2b1
      try clear p2
      try clear c3
      try clear c3b0
      try clear c5
      try clear c5b0
      try clear c6
      try clear c6b0
      try clear c7
      try clear c7b0
      try clear hx148_0
      try clear hx148_1
      try clear hx149_0
      try clear hx149_1
      try clear p148
      try clear p149
      try clear p2
      try clear q148
      try clear q149
      obtain ⟨kq, x26_3, rfl, HA, HJ3, ⟨mc3, rfl⟩⟩ := hcut
      cases kq with
      | zero => exact absurd HA.out (by simp [stillageref09_Look.j1])
      | succ kj3 =>
       have H := HA.out
       clear HA
       simp only [stillageref09_Look.j1] at H
       by_cases c8 : x26_3 = true
       ·subst c8
        have H1 : (some 1) = some r := by rw [if_pos rfl] at H; exact H
        clear H
        have H := H1
        clear H1
        obtain rfl := Option.some.inj H
        go_wp2
        go_ret
        exact ⟨by first | rfl | (simp; done) | (simp [*]; done), by repeat (first | exact Drawn0.refl _ | apply Drawn0.step)⟩
       ·replace c8 := Bool.eq_false_iff.mpr c8
        subst c8
        have H1 : (if 0 ≤ x10_1 then (if x10_1 < (l0.length : Int) then (stillageref09_Look.l1 kj3 l0 x10_1 (l0.length : Int) x10_1 (((rd_T79 l0 x10_1).f0).length : Int) 0) else (none)) else (none)) = some r := by rw [if_neg (show ¬ (false = true) by decide)] at H; exact H
        clear H
        have H := H1
        clear H1
        by_cases c9 : 0 ≤ x10_1
        ·rw [if_pos c9] at H
         have c9b0 : decide (0 ≤ x10_1) = true := decide_eq_true c9
         clear c9
         by_cases c10 : x10_1 < (l0.length : Int)
         ·rw [if_pos c10] at H
          have c10b0 : decide (x10_1 < (l0.length : Int)) = true := decide_eq_true c10
          clear c10
          have H' := Aside0.mk H
          clear H
          have p150 : 0 ≤ (x10_1 : Int) := of_decide_eq_true (by first | (with_reducible assumption) | assumption)
          have q150 : x10_1 < (l0.length : Int) := of_decide_eq_true (by first | (with_reducible assumption) | assumption)
          obtain ⟨ad150, A150_0, c150_0, e150, hx150_0, hx150_1, hl150_0, hi150_0⟩ := at_T79 HR0.out x10_1 p150 q150
          cases e150
          have HR150_0 := Aside0.mk hi150_0
          have HC150_0 := Aside0.mk hl150_0
          clear hi150_0 hl150_0
          replace p150 := eq_true p150
          replace q150 := eq_true q150
          go_wp2
          go_loopg [33] kj3 (fun kq v33 w' => ∃ (x33_3 : Int), v33 = .int .i64 x33_3 ∧ Aside0 (stillageref09_Look.l1 kq l0 x10_1 (l0.length : Int) x10_1 (((rd_T79 l0 x10_1).f0).length : Int) x33_3 = some r) ∧ Aside0 (kq ≤ kj3) ∧ Drawn0 w w')
          case atStart => exact ⟨(0), (by first | rfl | (simp; done) | (simp [*]; done)), H', ⟨Nat.le_refl _⟩, by repeat (first | exact Drawn0.refl _ | apply Drawn0.step)⟩
          case round =>
           clear H'
           try clear c1
           try clear p1
           try clear q1
           try clear hx1
           try clear c2
           try clear c2b0
           try clear c2b1
           try clear p2
           try clear c3
           try clear c3b0
           try clear c5
           try clear c5b0
           try clear c6
           try clear c6b0
           try clear c7
           try clear c7b0
           try clear c8
           try clear c9
           try clear c9b0
           try clear c10
           try clear c10b0
           try clear hx148_0
           try clear hx148_1
           try clear hx149_0
           try clear hx149_1
           try clear hx150_0
           try clear hx150_1
           try clear p1
           try clear p148
           try clear p149
           try clear p150
           try clear p2
           try clear q1
           try clear q148
           try clear q149
           try clear q150
           obtain ⟨x33_3, rfl, HA, HK3, ⟨m3, rfl⟩⟩ := hrel
           cases gk with
           | zero => exact absurd HA.out (by simp [stillageref09_Look.l1])
           | succ k3 =>
            have H := HA.out
            clear HA
            simp only [stillageref09_Look.l1] at H
            by_cases c11 : x33_3 < (((rd_T79 l0 x10_1).f0).length : Int)
            ·rw [if_pos c11] at H
             have c11b0 : decide (x33_3 < (((rd_T79 l0 x10_1).f0).length : Int)) = true := decide_eq_true c11
             clear c11
             by_cases c12 : 0 ≤ x10_1
             ·rw [if_pos c12] at H
              have c12b0 : decide (0 ≤ x10_1) = true := decide_eq_true c12
              clear c12
              by_cases c13 : x10_1 < (l0.length : Int)
              ·rw [if_pos c13] at H
               have c13b0 : decide (x10_1 < (l0.length : Int)) = true := decide_eq_true c13
               clear c13
               by_cases c14 : 0 ≤ x33_3
               ·rw [if_pos c14] at H
                have c14b0 : decide (0 ≤ x33_3) = true := decide_eq_true c14
                clear c14
                by_cases c15 : x33_3 < (((rd_T79 l0 x10_1).f0).length : Int)
                ·rw [if_pos c15] at H
                 have c15b0 : decide (x33_3 < (((rd_T79 l0 x10_1).f0).length : Int)) = true := decide_eq_true c15
                 clear c15
                 by_cases c16 : (rd ((rd_T79 l0 x10_1).f0) x33_3) < 0
                 ·rw [if_pos c16] at H
                  have c16b0 : decide ((rd ((rd_T79 l0 x10_1).f0) x33_3) < 0) = true := decide_eq_true c16
                  clear c16
                  obtain rfl := Option.some.inj H
                  have p151 : 0 ≤ (x10_1 : Int) := of_decide_eq_true (by first | (with_reducible assumption) | assumption)
                  have q151 : x10_1 < (l0.length : Int) := of_decide_eq_true (by first | (with_reducible assumption) | assumption)
                  obtain ⟨ad151, A151_0, c151_0, e151, hx151_0, hx151_1, hl151_0, hi151_0⟩ := at_T79 HR0.out x10_1 p151 q151
                  obtain rfl : ad150 = ad151 := (by injection e151)
                  have HR151_0 := Aside0.mk hi151_0
                  have HC151_0 := Aside0.mk hl151_0
                  clear hi151_0 hl151_0
                  replace p151 := eq_true p151
                  replace q151 := eq_true q151
                  have p152 : 0 ≤ (x33_3 : Int) := of_decide_eq_true (by first | (with_reducible assumption) | assumption)
                  have q152 : x33_3 < (((rd_T79 l0 x10_1).f0).length : Int) := of_decide_eq_true (by first | (with_reducible assumption) | assumption)
                  obtain ⟨ad152, e152, hx152_0⟩ := Kd.at_int HR151_0.out x33_3 p152 q152
                  cases e152
                  replace p152 := eq_true p152
                  replace q152 := eq_true q152
                  go_wp2
                  go_ret
                  exact ⟨by first | rfl | (simp; done) | (simp [*]; done), by repeat (first | exact Drawn0.refl _ | apply Drawn0.step)⟩
                 ·rw [if_neg c16] at H
                  have c16b0 : decide ((rd ((rd_T79 l0 x10_1).f0) x33_3) < 0) = false := decide_eq_false c16
                  clear c16
                  by_cases c17 : (rd ((rd_T79 l0 x10_1).f0) x33_3) > 7
                  ·rw [if_pos c17] at H
                   have c17b0 : decide (7 < (rd ((rd_T79 l0 x10_1).f0) x33_3)) = true := decide_eq_true c17
                   clear c17
                   obtain rfl := Option.some.inj H
                   have p151 : 0 ≤ (x10_1 : Int) := of_decide_eq_true (by first | (with_reducible assumption) | assumption)
                   have q151 : x10_1 < (l0.length : Int) := of_decide_eq_true (by first | (with_reducible assumption) | assumption)
                   obtain ⟨ad151, A151_0, c151_0, e151, hx151_0, hx151_1, hl151_0, hi151_0⟩ := at_T79 HR0.out x10_1 p151 q151
                   obtain rfl : ad150 = ad151 := (by injection e151)
                   have HR151_0 := Aside0.mk hi151_0
                   have HC151_0 := Aside0.mk hl151_0
                   clear hi151_0 hl151_0
                   replace p151 := eq_true p151
                   replace q151 := eq_true q151
                   have p152 : 0 ≤ (x33_3 : Int) := of_decide_eq_true (by first | (with_reducible assumption) | assumption)
                   have q152 : x33_3 < (((rd_T79 l0 x10_1).f0).length : Int) := of_decide_eq_true (by first | (with_reducible assumption) | assumption)
                   obtain ⟨ad152, e152, hx152_0⟩ := Kd.at_int HR151_0.out x33_3 p152 q152
                   cases e152
                   replace p152 := eq_true p152
                   replace q152 := eq_true q152
                   have p153 : 0 ≤ (x10_1 : Int) := of_decide_eq_true (by first | (with_reducible assumption) | assumption)
                   have q153 : x10_1 < (l0.length : Int) := of_decide_eq_true (by first | (with_reducible assumption) | assumption)
                   obtain ⟨ad153, A153_0, c153_0, e153, hx153_0, hx153_1, hl153_0, hi153_0⟩ := at_T79 HR0.out x10_1 p153 q153
                   obtain rfl : ad150 = ad153 := (by injection e153)
                   have HR153_0 := Aside0.mk hi153_0
                   have HC153_0 := Aside0.mk hl153_0
                   clear hi153_0 hl153_0
                   replace p153 := eq_true p153
                   replace q153 := eq_true q153
                   have ea_ := Option.some.inj (hx151_0.symm.trans hx153_0)
                   injection ea_ with ea_ en_ ec_
                   subst ea_
                   subst ec_
                   clear en_
                   have p154 : 0 ≤ (x33_3 : Int) := of_decide_eq_true (by first | (with_reducible assumption) | assumption)
                   have q154 : x33_3 < (((rd_T79 l0 x10_1).f0).length : Int) := of_decide_eq_true (by first | (with_reducible assumption) | assumption)
                   obtain ⟨ad154, e154, hx154_0⟩ := Kd.at_int HR153_0.out x33_3 p154 q154
                   cases e154
                   replace p154 := eq_true p154
                   replace q154 := eq_true q154
                   go_wp2
                   go_ret
                   exact ⟨by first | rfl | (simp; done) | (simp [*]; done), by repeat (first | exact Drawn0.refl _ | apply Drawn0.step)⟩
                  ·rw [if_neg c17] at H
                   have c17b0 : decide (7 < (rd ((rd_T79 l0 x10_1).f0) x33_3)) = false := decide_eq_false c17
                   clear c17
                   have H' := Aside0.mk H
                   clear H
                   have p151 : 0 ≤ (x10_1 : Int) := of_decide_eq_true (by first | (with_reducible assumption) | assumption)
                   have q151 : x10_1 < (l0.length : Int) := of_decide_eq_true (by first | (with_reducible assumption) | assumption)
                   obtain ⟨ad151, A151_0, c151_0, e151, hx151_0, hx151_1, hl151_0, hi151_0⟩ := at_T79 HR0.out x10_1 p151 q151
                   obtain rfl : ad150 = ad151 := (by injection e151)
                   have HR151_0 := Aside0.mk hi151_0
                   have HC151_0 := Aside0.mk hl151_0
                   clear hi151_0 hl151_0
                   replace p151 := eq_true p151
                   replace q151 := eq_true q151
                   have p152 : 0 ≤ (x33_3 : Int) := of_decide_eq_true (by first | (with_reducible assumption) | assumption)
                   have q152 : x33_3 < (((rd_T79 l0 x10_1).f0).length : Int) := of_decide_eq_true (by first | (with_reducible assumption) | assumption)
                   obtain ⟨ad152, e152, hx152_0⟩ := Kd.at_int HR151_0.out x33_3 p152 q152
                   cases e152
                   replace p152 := eq_true p152
                   replace q152 := eq_true q152
                   have p153 : 0 ≤ (x10_1 : Int) := of_decide_eq_true (by first | (with_reducible assumption) | assumption)
                   have q153 : x10_1 < (l0.length : Int) := of_decide_eq_true (by first | (with_reducible assumption) | assumption)
                   obtain ⟨ad153, A153_0, c153_0, e153, hx153_0, hx153_1, hl153_0, hi153_0⟩ := at_T79 HR0.out x10_1 p153 q153
                   obtain rfl : ad150 = ad153 := (by injection e153)
                   have HR153_0 := Aside0.mk hi153_0
                   have HC153_0 := Aside0.mk hl153_0
                   clear hi153_0 hl153_0
                   replace p153 := eq_true p153
                   replace q153 := eq_true q153
                   have ea_ := Option.some.inj (hx151_0.symm.trans hx153_0)
                   injection ea_ with ea_ en_ ec_
                   subst ea_
                   subst ec_
                   clear en_
                   have p154 : 0 ≤ (x33_3 : Int) := of_decide_eq_true (by first | (with_reducible assumption) | assumption)
                   have q154 : x33_3 < (((rd_T79 l0 x10_1).f0).length : Int) := of_decide_eq_true (by first | (with_reducible assumption) | assumption)
                   obtain ⟨ad154, e154, hx154_0⟩ := Kd.at_int HR153_0.out x33_3 p154 q154
                   cases e154
                   replace p154 := eq_true p154
                   replace q154 := eq_true q154
                   go_wp2
                   go_roundg k3
                   case measure => have := HK1.out; have := HJ3.out; have := HK3.out; omega
                   case rel => exact ⟨(wrap64 (x33_3 + 1)), (by first | rfl | (simp; done) | (simp [*]; done)), H', ⟨by have := HK1.out; have := HJ3.out; have := HK3.out; omega⟩, by repeat (first | exact Drawn0.refl _ | apply Drawn0.step)⟩
                ·rw [if_neg c15] at H
                 exact absurd H (by simp)
               ·rw [if_neg c14] at H
                exact absurd H (by simp)
              ·rw [if_neg c13] at H
               exact absurd H (by simp)
             ·rw [if_neg c12] at H
              exact absurd H (by simp)
            ·rw [if_neg c11] at H
             have c11b0 : decide (x33_3 < (((rd_T79 l0 x10_1).f0).length : Int)) = false := decide_eq_false c11
             clear c11
             have H' := Aside0.mk H
             clear H
             go_wp2
             go_roundg k3
             case measure => have := HK1.out; have := HJ3.out; have := HK3.out; omega
             case rel => exact ⟨(wrap64 (x10_1 + 1)), (by first | rfl | (simp; done) | (simp [*]; done)), H', ⟨by have := HK1.out; have := HJ3.out; have := HK3.out; omega⟩, by repeat (first | exact Drawn0.refl _ | apply Drawn0.step)⟩
         ·rw [if_neg c10] at H
          exact absurd H (by simp)
        ·rw [if_neg c9] at H
         exact absurd H (by simp)
    ·rw [if_neg c3] at H
     have c3b0 : decide (x10_1 < (l0.length : Int)) = false := decide_eq_false c3
     clear c3
     obtain rfl := Option.some.inj H
     go_wp2
     go_ret
     exact ⟨by first | rfl | (simp; done) | (simp [*]; done), by repeat (first | exact Drawn0.refl _ | apply Drawn0.step)⟩

/-! ### stillageref09_Waits: function 45 -/
def stillageref09_Waits.l0 : Nat → List (S79) → Int → Int → Int → Int → Option (Bool)
 | 0, _, _, _, _, _ => none
 | k + 1, x0, x1, x2, x13, x14 => if x14 < x13 then (if 0 ≤ x1 then (if x1 < (x0.length : Int) then (if ((rd_T79 x0 x1).f1) ≥ 0 then (if 0 ≤ x2 then (if x2 < (x0.length : Int) then (if 0 ≤ x14 then (if x14 < (((rd_T79 x0 x2).f0).length : Int) then (if (rd ((rd_T79 x0 x2).f0) x14) = ((rd_T79 x0 x1).f1) then (some true) else (stillageref09_Waits.l0 k x0 x1 x2 x13 (wrap64 (x14 + 1)))) else (none)) else (none)) else (none)) else (none)) else (stillageref09_Waits.l0 k x0 x1 x2 x13 (wrap64 (x14 + 1)))) else (none)) else (none)) else (some false)
def stillageref09_Waits.f (k : Nat) (l0 : List (S79)) (a1 : Int) (a2 : Int) : Option (Bool) := if 0 ≤ a2 then (if a2 < (l0.length : Int) then (stillageref09_Waits.l0 k l0 a1 a2 (((rd_T79 l0 a2).f0).length : Int) 0) else (none)) else (none)
theorem stillageref09_Waits.mono_l : ∀ k, (∀ y0 y1 y2 y3 y4, LeO (stillageref09_Waits.l0 k y0 y1 y2 y3 y4) (stillageref09_Waits.l0 (k + 1) y0 y1 y2 y3 y4))
 | 0 => fun _ _ _ _ _ r h => by simp [stillageref09_Waits.l0] at h
 | k + 1 => by
  have ih0 := stillageref09_Waits.mono_l k
  ·intro y0 y1 y2 y3 y4
   unfold stillageref09_Waits.l0
   repeat' first
   | (with_reducible exact ih0 _ _ _ _ _)
   | (with_reducible exact LeO.refl _)
   | (with_reducible exact LeO.none _)
   | (with_reducible refine LeO.ite ?_ ?_)
   | (with_reducible refine LeO.bind ?_ (fun _ => ?_))
   | exact ih0 _ _ _ _ _
   | exact LeO.none _
   | refine LeO.ite ?_ ?_
   | refine LeO.bind ?_ (fun _ => ?_)
theorem stillageref09_Waits.mono : ∀ a0 a1 a2 k, LeO (stillageref09_Waits.f k a0 a1 a2) (stillageref09_Waits.f (k + 1) a0 a1 a2) := by
 intro a0 a1 a2 k
 have ih0 := stillageref09_Waits.mono_l k
 unfold stillageref09_Waits.f
 repeat' first
   | (with_reducible exact ih0 _ _ _ _ _)
   | (with_reducible exact LeO.refl _)
   | (with_reducible exact LeO.none _)
   | (with_reducible refine LeO.ite ?_ ?_)
   | (with_reducible refine LeO.bind ?_ (fun _ => ?_))
   | exact ih0 _ _ _ _ _
   | exact LeO.none _
   | refine LeO.ite ?_ ?_
   | refine LeO.bind ?_ (fun _ => ?_)
set_option maxHeartbeats 8000000 in
set_option maxRecDepth 100000 in
theorem stillageref09_Waits.calls (k : Nat) (A0 : Option Addr) (c0 : Nat) (l0 : List (S79)) (a1 : Int) (a2 : Int) (r : Bool) (w : World) (hr0 : Kd.C k79 w A0 l0.length l0) (hc0 : l0.length ≤ c0) (h : stillageref09_Waits.f k l0 a1 a2 = some r) :
  Calls Try.prog 45 #[.slice A0 l0.length c0, .int .i64 a1, .int .i64 a2] w fun e w' => e = .returned (.bool r) ∧ Drawn0 w w' := by
 have HR0 := Aside0.mk hr0
 have HC0 := Aside0.mk hc0
 clear hr0 hc0
 have H : (if 0 ≤ a2 then (if a2 < (l0.length : Int) then (stillageref09_Waits.l0 k l0 a1 a2 (((rd_T79 l0 a2).f0).length : Int) 0) else (none)) else (none)) = some r := h
 clear h
 by_cases c4 : 0 ≤ a2
 ·rw [if_pos c4] at H
  have c4b0 : decide (0 ≤ a2) = true := decide_eq_true c4
  clear c4
  by_cases c5 : a2 < (l0.length : Int)
  ·rw [if_pos c5] at H
   have c5b0 : decide (a2 < (l0.length : Int)) = true := decide_eq_true c5
   clear c5
   have H' := Aside0.mk H
   clear H
   have p155 : 0 ≤ (a2 : Int) := of_decide_eq_true (by first | (with_reducible assumption) | assumption)
   have q155 : a2 < (l0.length : Int) := of_decide_eq_true (by first | (with_reducible assumption) | assumption)
   obtain ⟨ad155, A155_0, c155_0, e155, hx155_0, hx155_1, hl155_0, hi155_0⟩ := at_T79 HR0.out a2 p155 q155
   cases e155
   have HR155_0 := Aside0.mk hi155_0
   have HC155_0 := Aside0.mk hl155_0
   clear hi155_0 hl155_0
   replace p155 := eq_true p155
   replace q155 := eq_true q155
   go_enter Try.func45, Try.ntmps45
   go_wp2
   repeat (go_quiet (fail); try go_wp2)
   go_loopg [14] k (fun kq v14 w' => ∃ (x14_1 : Int), v14 = .int .i64 x14_1 ∧ Aside0 (stillageref09_Waits.l0 kq l0 a1 a2 (((rd_T79 l0 a2).f0).length : Int) x14_1 = some r) ∧ Aside0 (kq ≤ k) ∧ Drawn0 w w')
   case atStart => exact ⟨(0), (by first | rfl | (simp; done) | (simp [*]; done)), H', ⟨Nat.le_refl _⟩, by repeat (first | exact Drawn0.refl _ | apply Drawn0.step)⟩
   case round =>
    clear H'
    try clear c1
    try clear p1
    try clear q1
    try clear hx1
    try clear p2
    try clear c4
    try clear c4b0
    try clear c5
    try clear c5b0
    try clear hx155_0
    try clear hx155_1
    try clear p155
    try clear q155
    obtain ⟨x14_1, rfl, HA, HK1, ⟨m1, rfl⟩⟩ := hrel
    cases gk with
    | zero => exact absurd HA.out (by simp [stillageref09_Waits.l0])
    | succ k1 =>
     have H := HA.out
     clear HA
     simp only [stillageref09_Waits.l0] at H
     by_cases c6 : x14_1 < (((rd_T79 l0 a2).f0).length : Int)
     ·rw [if_pos c6] at H
      have c6b0 : decide (x14_1 < (((rd_T79 l0 a2).f0).length : Int)) = true := decide_eq_true c6
      clear c6
      by_cases c7 : 0 ≤ a1
      ·rw [if_pos c7] at H
       have c7b0 : decide (0 ≤ a1) = true := decide_eq_true c7
       clear c7
       by_cases c8 : a1 < (l0.length : Int)
       ·rw [if_pos c8] at H
        have c8b0 : decide (a1 < (l0.length : Int)) = true := decide_eq_true c8
        clear c8
        by_cases c9 : ((rd_T79 l0 a1).f1) ≥ 0
        ·rw [if_pos c9] at H
         have c9b0 : decide (0 ≤ ((rd_T79 l0 a1).f1)) = true := decide_eq_true c9
         clear c9
         by_cases c10 : 0 ≤ a2
         ·rw [if_pos c10] at H
          have c10b0 : decide (0 ≤ a2) = true := decide_eq_true c10
          clear c10
          by_cases c11 : a2 < (l0.length : Int)
          ·rw [if_pos c11] at H
           have c11b0 : decide (a2 < (l0.length : Int)) = true := decide_eq_true c11
           clear c11
           by_cases c12 : 0 ≤ x14_1
           ·rw [if_pos c12] at H
            have c12b0 : decide (0 ≤ x14_1) = true := decide_eq_true c12
            clear c12
            by_cases c13 : x14_1 < (((rd_T79 l0 a2).f0).length : Int)
            ·rw [if_pos c13] at H
             have c13b0 : decide (x14_1 < (((rd_T79 l0 a2).f0).length : Int)) = true := decide_eq_true c13
             clear c13
             by_cases c14 : (rd ((rd_T79 l0 a2).f0) x14_1) = ((rd_T79 l0 a1).f1)
             ·rw [if_pos c14] at H
              have c14b0 : ((rd ((rd_T79 l0 a2).f0) x14_1) == ((rd_T79 l0 a1).f1)) = true := beq_iff_eq.mpr c14
              have c14b1 : ((rd ((rd_T79 l0 a2).f0) x14_1) != ((rd_T79 l0 a1).f1)) = false := bne_eq_false_iff_eq.mpr c14
              clear c14
              obtain rfl := Option.some.inj H
              have p156 : 0 ≤ (a1 : Int) := of_decide_eq_true (by first | (with_reducible assumption) | assumption)
              have q156 : a1 < (l0.length : Int) := of_decide_eq_true (by first | (with_reducible assumption) | assumption)
              obtain ⟨ad156, A156_0, c156_0, e156, hx156_0, hx156_1, hl156_0, hi156_0⟩ := at_T79 HR0.out a1 p156 q156
              obtain rfl : ad155 = ad156 := (by injection e156)
              have HR156_0 := Aside0.mk hi156_0
              have HC156_0 := Aside0.mk hl156_0
              clear hi156_0 hl156_0
              replace p156 := eq_true p156
              replace q156 := eq_true q156
              have p157 : 0 ≤ (a2 : Int) := of_decide_eq_true (by first | (with_reducible assumption) | assumption)
              have q157 : a2 < (l0.length : Int) := of_decide_eq_true (by first | (with_reducible assumption) | assumption)
              obtain ⟨ad157, A157_0, c157_0, e157, hx157_0, hx157_1, hl157_0, hi157_0⟩ := at_T79 HR0.out a2 p157 q157
              obtain rfl : ad155 = ad157 := (by injection e157)
              have HR157_0 := Aside0.mk hi157_0
              have HC157_0 := Aside0.mk hl157_0
              clear hi157_0 hl157_0
              replace p157 := eq_true p157
              replace q157 := eq_true q157
              have p158 : 0 ≤ (x14_1 : Int) := of_decide_eq_true (by first | (with_reducible assumption) | assumption)
              have q158 : x14_1 < (((rd_T79 l0 a2).f0).length : Int) := of_decide_eq_true (by first | (with_reducible assumption) | assumption)
              obtain ⟨ad158, e158, hx158_0⟩ := Kd.at_int HR157_0.out x14_1 p158 q158
              cases e158
              replace p158 := eq_true p158
              replace q158 := eq_true q158
              have p159 : 0 ≤ (a1 : Int) := of_decide_eq_true (by first | (with_reducible assumption) | assumption)
              have q159 : a1 < (l0.length : Int) := of_decide_eq_true (by first | (with_reducible assumption) | assumption)
              obtain ⟨ad159, A159_0, c159_0, e159, hx159_0, hx159_1, hl159_0, hi159_0⟩ := at_T79 HR0.out a1 p159 q159
              obtain rfl : ad155 = ad159 := (by injection e159)
              have HR159_0 := Aside0.mk hi159_0
              have HC159_0 := Aside0.mk hl159_0
              clear hi159_0 hl159_0
              replace p159 := eq_true p159
              replace q159 := eq_true q159
              have ea_ := Option.some.inj (hx156_0.symm.trans hx159_0)
              injection ea_ with ea_ en_ ec_
              subst ea_
              subst ec_
              clear en_
              go_wp2
              repeat (go_quiet (fail); try go_wp2)
              go_ret
              exact ⟨by first | rfl | (simp; done) | (simp [*]; done), by repeat (first | exact Drawn0.refl _ | apply Drawn0.step)⟩
             ·rw [if_neg c14] at H
              have c14b0 : ((rd ((rd_T79 l0 a2).f0) x14_1) == ((rd_T79 l0 a1).f1)) = false := beq_eq_false_iff_ne.mpr c14
              have c14b1 : ((rd ((rd_T79 l0 a2).f0) x14_1) != ((rd_T79 l0 a1).f1)) = true := bne_iff_ne.mpr c14
              have H' := Aside0.mk H
              clear H
              have p156 : 0 ≤ (a1 : Int) := of_decide_eq_true (by first | (with_reducible assumption) | assumption)
              have q156 : a1 < (l0.length : Int) := of_decide_eq_true (by first | (with_reducible assumption) | assumption)
              obtain ⟨ad156, A156_0, c156_0, e156, hx156_0, hx156_1, hl156_0, hi156_0⟩ := at_T79 HR0.out a1 p156 q156
              obtain rfl : ad155 = ad156 := (by injection e156)
              have HR156_0 := Aside0.mk hi156_0
              have HC156_0 := Aside0.mk hl156_0
              clear hi156_0 hl156_0
              replace p156 := eq_true p156
              replace q156 := eq_true q156
              have p157 : 0 ≤ (a2 : Int) := of_decide_eq_true (by first | (with_reducible assumption) | assumption)
              have q157 : a2 < (l0.length : Int) := of_decide_eq_true (by first | (with_reducible assumption) | assumption)
              obtain ⟨ad157, A157_0, c157_0, e157, hx157_0, hx157_1, hl157_0, hi157_0⟩ := at_T79 HR0.out a2 p157 q157
              obtain rfl : ad155 = ad157 := (by injection e157)
              have HR157_0 := Aside0.mk hi157_0
              have HC157_0 := Aside0.mk hl157_0
              clear hi157_0 hl157_0
              replace p157 := eq_true p157
              replace q157 := eq_true q157
              have p158 : 0 ≤ (x14_1 : Int) := of_decide_eq_true (by first | (with_reducible assumption) | assumption)
              have q158 : x14_1 < (((rd_T79 l0 a2).f0).length : Int) := of_decide_eq_true (by first | (with_reducible assumption) | assumption)
              obtain ⟨ad158, e158, hx158_0⟩ := Kd.at_int HR157_0.out x14_1 p158 q158
              cases e158
              replace p158 := eq_true p158
              replace q158 := eq_true q158
              have p159 : 0 ≤ (a1 : Int) := of_decide_eq_true (by first | (with_reducible assumption) | assumption)
              have q159 : a1 < (l0.length : Int) := of_decide_eq_true (by first | (with_reducible assumption) | assumption)
              obtain ⟨ad159, A159_0, c159_0, e159, hx159_0, hx159_1, hl159_0, hi159_0⟩ := at_T79 HR0.out a1 p159 q159
              obtain rfl : ad155 = ad159 := (by injection e159)
              have HR159_0 := Aside0.mk hi159_0
              have HC159_0 := Aside0.mk hl159_0
              clear hi159_0 hl159_0
              replace p159 := eq_true p159
              replace q159 := eq_true q159
              have ea_ := Option.some.inj (hx156_0.symm.trans hx159_0)
              injection ea_ with ea_ en_ ec_
              subst ea_
              subst ec_
              clear en_
              go_wp2
              repeat (go_quiet (fail); try go_wp2)
              go_roundg k1
              case measure => have := HK1.out; omega
              case rel => exact ⟨(wrap64 (x14_1 + 1)), (by first | rfl | (simp; done) | (simp [*]; done)), H', ⟨by have := HK1.out; omega⟩, by repeat (first | exact Drawn0.refl _ | apply Drawn0.step)⟩
            ·rw [if_neg c13] at H
             exact absurd H (by simp)
           ·rw [if_neg c12] at H
            exact absurd H (by simp)
          ·rw [if_neg c11] at H
           exact absurd H (by simp)
         ·rw [if_neg c10] at H
          exact absurd H (by simp)
        ·rw [if_neg c9] at H
         have c9b0 : decide (0 ≤ ((rd_T79 l0 a1).f1)) = false := decide_eq_false c9
         clear c9
         have H' := Aside0.mk H
         clear H
         have p156 : 0 ≤ (a1 : Int) := of_decide_eq_true (by first | (with_reducible assumption) | assumption)
         have q156 : a1 < (l0.length : Int) := of_decide_eq_true (by first | (with_reducible assumption) | assumption)
         obtain ⟨ad156, A156_0, c156_0, e156, hx156_0, hx156_1, hl156_0, hi156_0⟩ := at_T79 HR0.out a1 p156 q156
         obtain rfl : ad155 = ad156 := (by injection e156)
         have HR156_0 := Aside0.mk hi156_0
         have HC156_0 := Aside0.mk hl156_0
         clear hi156_0 hl156_0
         replace p156 := eq_true p156
         replace q156 := eq_true q156
         go_wp2
         repeat (go_quiet (fail); try go_wp2)
         go_roundg k1
         case measure => have := HK1.out; omega
         case rel => exact ⟨(wrap64 (x14_1 + 1)), (by first | rfl | (simp; done) | (simp [*]; done)), H', ⟨by have := HK1.out; omega⟩, by repeat (first | exact Drawn0.refl _ | apply Drawn0.step)⟩
       ·rw [if_neg c8] at H
        exact absurd H (by simp)
      ·rw [if_neg c7] at H
       exact absurd H (by simp)
     ·rw [if_neg c6] at H
      have c6b0 : decide (x14_1 < (((rd_T79 l0 a2).f0).length : Int)) = false := decide_eq_false c6
      clear c6
      obtain rfl := Option.some.inj H
      go_wp2
      repeat (go_quiet (fail); try go_wp2)
      go_ret
      exact ⟨by first | rfl | (simp; done) | (simp [*]; done), by repeat (first | exact Drawn0.refl _ | apply Drawn0.step)⟩
  ·rw [if_neg c5] at H
   exact absurd H (by simp)
 ·rw [if_neg c4] at H
  exact absurd H (by simp)

end Go.Proofs.Ytkdfohmceokchaa.PZoneStuck
