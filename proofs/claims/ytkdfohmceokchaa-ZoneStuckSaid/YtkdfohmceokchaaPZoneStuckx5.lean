-- Written by a program of this session (wip/oprint): after the pattern of the kit's print, which does not take this law. -- trimmed
import Derived.Test.YtkdfohmceokchaaPZoneStuckx0
import Derived.Test.YtkdfohmceokchaaPZoneStuckx4
namespace Go.Proofs.Ytkdfohmceokchaa.PZoneStuck
open Go.RowKit Go.Proofs.YtkdfohmceokchaaW.PrintWords Go.Proofs.YtkdfohmceokchaaW.PrintLast Go.Proofs.YtkdfohmceokchaaW.PrintMore
attribute [local go_sem] max2_int min2_int max_two min_two max_three min_three max_four min_four   -- for this text's walks alone
set_option linter.unusedVariables false
set_option linter.unusedSimpArgs false

/-! ### stillageref09_Stuck: function 27 -/
mutual
def stillageref09_Stuck.l0 : Nat → List (S79) → List Bool → Bool → Option (Bool)
 | 0, _, _, _ => none
 | k + 1, x0, x3, x4 => if x4 = true then (stillageref09_Stuck.l1 k x0 x3 false (x0.length : Int) 0) else (stillageref09_Stuck.l3 k x3 (x3.length : Int) 0)
def stillageref09_Stuck.l1 : Nat → List (S79) → List Bool → Bool → Int → Int → Option (Bool)
 | 0, _, _, _, _, _ => none
 | k + 1, x0, x3, x4, x14, x15 => if x15 < x14 then (stillageref09_Stuck.l2 k x0 x3 x4 x15 false x14 x15 (x0.length : Int) 0) else (stillageref09_Stuck.l0 k x0 x3 x4)
def stillageref09_Stuck.l2 : Nat → List (S79) → List Bool → Bool → Int → Bool → Int → Int → Int → Int → Option (Bool)
 | 0, _, _, _, _, _, _, _, _, _ => none
 | k + 1, x0, x3, x4, x5, x6, x14, x15, x19, x20 => if x20 < x19 then (if x6 = true then (stillageref09_Stuck.l2 k x0 x3 x4 x5 true x14 x15 x19 (wrap64 (x20 + 1))) else (if 0 ≤ x20 then (if x20 < (x3.length : Int) then (if rdOf false x3 x20 = true then (stillageref09_Stuck.l2 k x0 x3 x4 x5 false x14 x15 x19 (wrap64 (x20 + 1))) else ((stillageref09_Waits.f k x0 x5 x20).bind fun t164 => (stillageref09_Stuck.l2 k x0 x3 x4 x5 t164 x14 x15 x19 (wrap64 (x20 + 1))))) else (none)) else (none))) else (if 0 ≤ x5 then (if x5 < (x3.length : Int) then (if rdOf false x3 x5 = true then (stillageref09_Stuck.l1 k x0 x3 x4 x14 (wrap64 (x15 + 1))) else (if x6 = true then (stillageref09_Stuck.l1 k x0 x3 x4 x14 (wrap64 (x15 + 1))) else (stillageref09_Stuck.l1 k x0 (x3.set (x5 : Int).toNat true) true x14 (wrap64 (x15 + 1))))) else (none)) else (none))
def stillageref09_Stuck.l3 : Nat → List Bool → Int → Int → Option (Bool)
 | 0, _, _, _ => none
 | k + 1, x3, x52, x53 => if x53 < x52 then (if 0 ≤ x53 then (if x53 < (x3.length : Int) then (if rdOf false x3 x53 = true then (stillageref09_Stuck.l3 k x3 x52 (wrap64 (x53 + 1))) else (some true)) else (none)) else (none)) else (some false)
end
def stillageref09_Stuck.f (k : Nat) (l0 : List (S79)) : Option (Bool) := if 0 ≤ (l0.length : Int) then (if ((l0.length : Int) : Int).toNat ≤ 281474976710656 then (stillageref09_Stuck.l0 k l0 (List.replicate ((l0.length : Int) : Int).toNat false) true) else (none)) else (none)
theorem stillageref09_Stuck.mono_l : ∀ k, (∀ y0 y1 y2, LeO (stillageref09_Stuck.l0 k y0 y1 y2) (stillageref09_Stuck.l0 (k + 1) y0 y1 y2)) ∧ (∀ y0 y1 y2 y3 y4, LeO (stillageref09_Stuck.l1 k y0 y1 y2 y3 y4) (stillageref09_Stuck.l1 (k + 1) y0 y1 y2 y3 y4)) ∧ (∀ y0 y1 y2 y3 y4 y5 y6 y7 y8, LeO (stillageref09_Stuck.l2 k y0 y1 y2 y3 y4 y5 y6 y7 y8) (stillageref09_Stuck.l2 (k + 1) y0 y1 y2 y3 y4 y5 y6 y7 y8)) ∧ (∀ y0 y1 y2, LeO (stillageref09_Stuck.l3 k y0 y1 y2) (stillageref09_Stuck.l3 (k + 1) y0 y1 y2))
 | 0 => ⟨fun _ _ _ r h => by simp [stillageref09_Stuck.l0] at h, fun _ _ _ _ _ r h => by simp [stillageref09_Stuck.l1] at h, fun _ _ _ _ _ _ _ _ _ r h => by simp [stillageref09_Stuck.l2] at h, fun _ _ _ r h => by simp [stillageref09_Stuck.l3] at h⟩
 | k + 1 => by
  obtain ⟨ih0, ih1, ih2, ih3⟩ := stillageref09_Stuck.mono_l k
  refine ⟨?_, ?_, ?_, ?_⟩
  ·intro y0 y1 y2
   unfold stillageref09_Stuck.l0
   repeat' first
   | (with_reducible exact ih0 _ _ _)
   | (with_reducible exact ih1 _ _ _ _ _)
   | (with_reducible exact ih2 _ _ _ _ _ _ _ _ _)
   | (with_reducible exact ih3 _ _ _)
   | (with_reducible exact stillageref09_Waits.mono _ _ _ _)
   | (with_reducible exact LeO.refl _)
   | (with_reducible exact LeO.none _)
   | (with_reducible refine LeO.ite ?_ ?_)
   | (with_reducible refine LeO.bind ?_ (fun _ => ?_))
   | exact ih0 _ _ _
   | exact ih1 _ _ _ _ _
   | exact ih2 _ _ _ _ _ _ _ _ _
   | exact ih3 _ _ _
   | exact stillageref09_Waits.mono _ _ _ _
   | exact LeO.none _
   | refine LeO.ite ?_ ?_
   | refine LeO.bind ?_ (fun _ => ?_)
  ·intro y0 y1 y2 y3 y4
   unfold stillageref09_Stuck.l1
   repeat' first
   | (with_reducible exact ih0 _ _ _)
   | (with_reducible exact ih1 _ _ _ _ _)
   | (with_reducible exact ih2 _ _ _ _ _ _ _ _ _)
   | (with_reducible exact ih3 _ _ _)
   | (with_reducible exact stillageref09_Waits.mono _ _ _ _)
   | (with_reducible exact LeO.refl _)
   | (with_reducible exact LeO.none _)
   | (with_reducible refine LeO.ite ?_ ?_)
   | (with_reducible refine LeO.bind ?_ (fun _ => ?_))
   | exact ih0 _ _ _
   | exact ih1 _ _ _ _ _
   | exact ih2 _ _ _ _ _ _ _ _ _
   | exact ih3 _ _ _
   | exact stillageref09_Waits.mono _ _ _ _
   | exact LeO.none _
   | refine LeO.ite ?_ ?_
   | refine LeO.bind ?_ (fun _ => ?_)
  ·intro y0 y1 y2 y3 y4 y5 y6 y7 y8
   unfold stillageref09_Stuck.l2
   repeat' first
   | (with_reducible exact ih0 _ _ _)
   | (with_reducible exact ih1 _ _ _ _ _)
   | (with_reducible exact ih2 _ _ _ _ _ _ _ _ _)
   | (with_reducible exact ih3 _ _ _)
   | (with_reducible exact stillageref09_Waits.mono _ _ _ _)
   | (with_reducible exact LeO.refl _)
   | (with_reducible exact LeO.none _)
   | (with_reducible refine LeO.ite ?_ ?_)
   | (with_reducible refine LeO.bind ?_ (fun _ => ?_))
   | exact ih0 _ _ _
   | exact ih1 _ _ _ _ _
   | exact ih2 _ _ _ _ _ _ _ _ _
   | exact ih3 _ _ _
   | exact stillageref09_Waits.mono _ _ _ _
   | exact LeO.none _
   | refine LeO.ite ?_ ?_
   | refine LeO.bind ?_ (fun _ => ?_)
  ·intro y0 y1 y2
   unfold stillageref09_Stuck.l3
   repeat' first
   | (with_reducible exact ih0 _ _ _)
   | (with_reducible exact ih1 _ _ _ _ _)
   | (with_reducible exact ih2 _ _ _ _ _ _ _ _ _)
   | (with_reducible exact ih3 _ _ _)
   | (with_reducible exact stillageref09_Waits.mono _ _ _ _)
   | (with_reducible exact LeO.refl _)
   | (with_reducible exact LeO.none _)
   | (with_reducible refine LeO.ite ?_ ?_)
   | (with_reducible refine LeO.bind ?_ (fun _ => ?_))
   | exact ih0 _ _ _
   | exact ih1 _ _ _ _ _
   | exact ih2 _ _ _ _ _ _ _ _ _
   | exact ih3 _ _ _
   | exact stillageref09_Waits.mono _ _ _ _
   | exact LeO.none _
   | refine LeO.ite ?_ ?_
   | refine LeO.bind ?_ (fun _ => ?_)
theorem stillageref09_Stuck.mono : ∀ a0 k, LeO (stillageref09_Stuck.f k a0) (stillageref09_Stuck.f (k + 1) a0) := by
 intro a0 k
 obtain ⟨ih0, ih1, ih2, ih3⟩ := stillageref09_Stuck.mono_l k
 unfold stillageref09_Stuck.f
 repeat' first
   | (with_reducible exact ih0 _ _ _)
   | (with_reducible exact ih1 _ _ _ _ _)
   | (with_reducible exact ih2 _ _ _ _ _ _ _ _ _)
   | (with_reducible exact ih3 _ _ _)
   | (with_reducible exact stillageref09_Waits.mono _ _ _ _)
   | (with_reducible exact LeO.refl _)
   | (with_reducible exact LeO.none _)
   | (with_reducible refine LeO.ite ?_ ?_)
   | (with_reducible refine LeO.bind ?_ (fun _ => ?_))
   | exact ih0 _ _ _
   | exact ih1 _ _ _ _ _
   | exact ih2 _ _ _ _ _ _ _ _ _
   | exact ih3 _ _ _
   | exact stillageref09_Waits.mono _ _ _ _
   | exact LeO.none _
   | refine LeO.ite ?_ ?_
   | refine LeO.bind ?_ (fun _ => ?_)
set_option maxHeartbeats 8000000 in
set_option maxRecDepth 100000 in
theorem stillageref09_Stuck.calls (k : Nat) (A0 : Option Addr) (c0 : Nat) (l0 : List (S79)) (r : Bool) (w : World) (hr0 : Kd.C k79 w A0 l0.length l0) (hc0 : l0.length ≤ c0) (h : stillageref09_Stuck.f k l0 = some r) :
  Calls Try.prog 27 #[.slice A0 l0.length c0] w fun e w' => e = .returned (.bool r) ∧ Below w.heap.size w w' := by
 have HR0 := Aside0.mk hr0
 have HC0 := Aside0.mk hc0
 clear hr0 hc0
 have HB := Aside0.mk (Below.refl w.heap.size w)
 have H : (if 0 ≤ (l0.length : Int) then (if ((l0.length : Int) : Int).toNat ≤ 281474976710656 then (stillageref09_Stuck.l0 k l0 (List.replicate ((l0.length : Int) : Int).toNat false) true) else (none)) else (none)) = some r := h
 clear h
 by_cases c2 : 0 ≤ (l0.length : Int)
 ·rw [if_pos c2] at H
  have c2b0 := eq_true c2
  have c2b1 : decide (0 ≤ (l0.length : Int)) = true := decide_eq_true c2
  clear c2
  by_cases c3 : ((l0.length : Int) : Int).toNat ≤ 281474976710656
  ·rw [if_pos c3] at H
   have c3b0 := eq_true c3
   have c3b1 : decide (((l0.length : Int) : Int).toNat ≤ 281474976710656) = true := decide_eq_true c3
   clear c3
   obtain ⟨y160, hy160⟩ : ∃ y_ : List Bool, y_ = (List.replicate ((l0.length : Int) : Int).toNat false) := ⟨_, rfl⟩
   replace H : (stillageref09_Stuck.l0 k l0 y160 true) = some r := by first | (rw [hy160]; with_reducible exact H) | (have H2_ := (Option.bind_some _ _).symm.trans H; rw [hy160]; with_reducible exact H2_) | (have H2_ := (Option.bind_some _ _).symm.trans H; with_reducible exact H2_) | with_reducible exact H | (rw [hy160]; exact H) | exact H
   have Ny160 := Aside0.mk hy160
   clear hy160
   have H' := Aside0.mk H
   clear H
   go_enter Try.func27, Try.ntmps27
   go_wp2_with (first | ((with_reducible refine gate_dst (N := 11) rfl ?_); refine Kd.R_make Kd.bool _ 4 rfl (N := 11) rfl 80 _ _ rfl (l0.length : Int) rfl rfl Try.underlying80 (.bool false) 1 info4 rfl (by decide) (by omega) false (ok := fun _ => True) (okp := fun _ => True) rfl (fun _ hk => hk) trivial (of_decide_eq_true (by first | (with_reducible assumption) | assumption)) (Nat.le_trans (Nat.mul_le_mul_right _ (of_decide_eq_true (by first | (with_reducible assumption) | assumption) : (l0.length : Int).toNat ≤ 281474976710656)) (by omega)) (Below.refl _ _) (Nat.le_refl _) ?_; intro v161 w4 ho5 hb hg_ hnew_; clear hg_ hnew_; (first | rw [← Ny160.out] at ho5 | (simp only [Int.reduceToNat] at ho5; rw [← Ny160.out] at ho5)); have n0_ := Aside0.mk (Kd.R_lower ho5 (below_size (by repeat (first | (with_reducible first | exact HB.out | apply below_alloc | apply pw_below_drewN | apply below_drew1) | exact HB.out)))); have n1_ := Aside0.mk (below_step (by repeat (first | (with_reducible first | exact HB.out | apply below_alloc | apply pw_below_drewN | apply below_drew1) | exact HB.out)) hb); clear HB; have HO162 := n0_; have HB := n1_; clear n0_ n1_; clear hb ho5))
   go_loopg [4] k (fun kq v4 w' => ∃ (x3_1 : List Bool) (x4_1 : Bool), v4 = .bool x4_1 ∧ Aside0 (stillageref09_Stuck.l0 kq l0 x3_1 x4_1 = some r) ∧ Aside0 (kq ≤ k) ∧ Aside0 (Kd.R Kd.bool 4 w' w.heap.size (fun _ => True) v161 x3_1) ∧ Aside0 (Below w.heap.size w w'))
   case atStart => exact ⟨(y160), (true), (by first | rfl | (simp; done) | (simp [*]; done)), H', ⟨Nat.le_refl _⟩, ⟨by (with_reducible repeat (first | apply Kd.R_alloc | apply Kd.R_drewN | apply Kd.R_drew)); exact HO162.out⟩, ⟨by repeat (first | (with_reducible first | exact HB.out | apply below_alloc | apply pw_below_drewN | apply below_drew1) | exact HB.out)⟩⟩
   case round =>
    clear H'
    try clear c2
    try clear c2b0
    try clear c2b1
    try clear p2
    try clear c3
    try clear c3b0
    try clear c3b1
    obtain ⟨x3_1, x4_1, rfl, HA, HK1, HO_3, HB⟩ := hrel
    cases gk with
    | zero => exact absurd HA.out (by simp [stillageref09_Stuck.l0])
    | succ k1 =>
     have H := HA.out
     clear HA
     simp only [stillageref09_Stuck.l0] at H
     by_cases c6 : x4_1 = true
     ·subst c6
      have H1 : (stillageref09_Stuck.l1 k1 l0 x3_1 false (l0.length : Int) 0) = some r := by rw [if_pos rfl] at H; exact H
      clear H
      have H := H1
      clear H1
      have H' := Aside0.mk H
      clear H
      go_wp2
      go_loopg [4, 15] k1 (fun kq v4 v15 w' => ∃ (x3_2 : List Bool) (x4_2 : Bool) (x15_2 : Int), v4 = .bool x4_2 ∧ v15 = .int .i64 x15_2 ∧ Aside0 (stillageref09_Stuck.l1 kq l0 x3_2 x4_2 (l0.length : Int) x15_2 = some r) ∧ Aside0 (kq ≤ k1) ∧ Aside0 (Kd.R Kd.bool 4 w' w.heap.size (fun _ => True) v161 x3_2) ∧ Aside0 (Below w.heap.size w w'))
      case atStart => exact ⟨(x3_1), (false), (0), (by first | rfl | (simp; done) | (simp [*]; done)), (by first | rfl | (simp; done) | (simp [*]; done)), H', ⟨Nat.le_refl _⟩, ⟨by (with_reducible repeat (first | apply Kd.R_alloc | apply Kd.R_drewN | apply Kd.R_drew)); exact HO_3.out⟩, ⟨by repeat (first | (with_reducible first | exact HB.out | apply below_alloc | apply pw_below_drewN | apply below_drew1) | exact HB.out)⟩⟩
      case round =>
       clear H'
       try clear c2
       try clear c2b0
       try clear c2b1
       try clear p2
       try clear c3
       try clear c3b0
       try clear c3b1
       try clear c6
       try clear p2
       obtain ⟨x3_2, x4_2, x15_2, rfl, rfl, HA, HK2, HO_3, HB⟩ := hrel
       cases gk with
       | zero => exact absurd HA.out (by simp [stillageref09_Stuck.l1])
       | succ k2 =>
        have H := HA.out
        clear HA
        simp only [stillageref09_Stuck.l1] at H
        by_cases c7 : x15_2 < (l0.length : Int)
        ·rw [if_pos c7] at H
         have c7b0 : decide (x15_2 < (l0.length : Int)) = true := decide_eq_true c7
         clear c7
         have H' := Aside0.mk H
         clear H
         go_wp2
         go_loopg [6, 20] k2 (fun kq v6 v20 w' => ∃ (x6_3 : Bool) (x20_3 : Int), v6 = .bool x6_3 ∧ v20 = .int .i64 x20_3 ∧ Aside0 (stillageref09_Stuck.l2 kq l0 x3_2 x4_2 x15_2 x6_3 (l0.length : Int) x15_2 (l0.length : Int) x20_3 = some r) ∧ Aside0 (kq ≤ k2) ∧ Aside0 (Kd.R Kd.bool 4 w' w.heap.size (fun _ => True) v161 x3_2) ∧ Aside0 (Below w.heap.size w w'))
         case atStart => exact ⟨(false), (0), (by first | rfl | (simp; done) | (simp [*]; done)), (by first | rfl | (simp; done) | (simp [*]; done)), H', ⟨Nat.le_refl _⟩, ⟨by (with_reducible repeat (first | apply Kd.R_alloc | apply Kd.R_drewN | apply Kd.R_drew)); exact HO_3.out⟩, ⟨by repeat (first | (with_reducible first | exact HB.out | apply below_alloc | apply pw_below_drewN | apply below_drew1) | exact HB.out)⟩⟩
         case round =>
          clear H'
          try clear c2
          try clear c2b0
          try clear c2b1
          try clear p2
          try clear c3
          try clear c3b0
          try clear c3b1
          try clear c6
          try clear c7
          try clear c7b0
          try clear p2
          obtain ⟨x6_3, x20_3, rfl, rfl, HA, HK3, HO_3, HB⟩ := hrel
          cases gk with
          | zero => exact absurd HA.out (by simp [stillageref09_Stuck.l2])
          | succ k3 =>
           have H := HA.out
           clear HA
           simp only [stillageref09_Stuck.l2] at H
           by_cases c8 : x20_3 < (l0.length : Int)
           ·rw [if_pos c8] at H
            have c8b0 : decide (x20_3 < (l0.length : Int)) = true := decide_eq_true c8
            clear c8
            by_cases c9 : x6_3 = true
            ·subst c9
             have H1 : (stillageref09_Stuck.l2 k3 l0 x3_2 x4_2 x15_2 true (l0.length : Int) x15_2 (l0.length : Int) (wrap64 (x20_3 + 1))) = some r := by rw [if_pos rfl] at H; exact H
             clear H
             have H := H1
             clear H1
             have H' := Aside0.mk H
             clear H
             go_wp2
             go_roundg k3
             case measure => have := HK1.out; have := HK2.out; have := HK3.out; omega
             case rel => exact ⟨(true), (wrap64 (x20_3 + 1)), (by first | rfl | (simp; done) | (simp [*]; done)), (by first | rfl | (simp; done) | (simp [*]; done)), H', ⟨by have := HK1.out; have := HK2.out; have := HK3.out; omega⟩, ⟨by (with_reducible repeat (first | apply Kd.R_alloc | apply Kd.R_drewN | apply Kd.R_drew)); exact HO_3.out⟩, ⟨by repeat (first | (with_reducible first | exact HB.out | apply below_alloc | apply pw_below_drewN | apply below_drew1) | exact HB.out)⟩⟩
            ·replace c9 := Bool.eq_false_iff.mpr c9
             subst c9
             have H1 : (if 0 ≤ x20_3 then (if x20_3 < (x3_2.length : Int) then (if rdOf false x3_2 x20_3 = true then (stillageref09_Stuck.l2 k3 l0 x3_2 x4_2 x15_2 false (l0.length : Int) x15_2 (l0.length : Int) (wrap64 (x20_3 + 1))) else ((stillageref09_Waits.f k3 l0 x15_2 x20_3).bind fun t164 => (stillageref09_Stuck.l2 k3 l0 x3_2 x4_2 x15_2 t164 (l0.length : Int) x15_2 (l0.length : Int) (wrap64 (x20_3 + 1))))) else (none)) else (none)) = some r := by rw [if_neg (show ¬ (false = true) by decide)] at H; exact H
             clear H
             have H := H1
             clear H1
             by_cases c10 : 0 ≤ x20_3
             ·rw [if_pos c10] at H
              have c10b0 : decide (0 ≤ x20_3) = true := decide_eq_true c10
              clear c10
              by_cases c11 : x20_3 < (x3_2.length : Int)
              ·rw [if_pos c11] at H
               have c11b0 : decide (x20_3 < (x3_2.length : Int)) = true := decide_eq_true c11
               clear c11
               obtain ⟨bq12, hbq12⟩ : ∃ b_ : Bool, b_ = (rdOf false x3_2 x20_3) := ⟨_, rfl⟩
               replace H : (if bq12 = true then (stillageref09_Stuck.l2 k3 l0 x3_2 x4_2 x15_2 false (l0.length : Int) x15_2 (l0.length : Int) (wrap64 (x20_3 + 1))) else ((stillageref09_Waits.f k3 l0 x15_2 x20_3).bind fun t164 => (stillageref09_Stuck.l2 k3 l0 x3_2 x4_2 x15_2 t164 (l0.length : Int) x15_2 (l0.length : Int) (wrap64 (x20_3 + 1))))) = some r := by rw [← hbq12] at H; exact H
               have Nbq12 := Aside0.mk hbq12
               clear hbq12
               by_cases c13 : bq12 = true
               ·subst c13
                have H1 : (stillageref09_Stuck.l2 k3 l0 x3_2 x4_2 x15_2 false (l0.length : Int) x15_2 (l0.length : Int) (wrap64 (x20_3 + 1))) = some r := by rw [if_pos rfl] at H; exact H
                clear H
                have H := H1
                clear H1
                have H' := Aside0.mk H
                clear H
                obtain ⟨Ao14, co14, eo14⟩ := Kd.R_slice HO_3.out
                subst eo14
                have p163 : 0 ≤ (x20_3 : Int) := of_decide_eq_true (by first | (with_reducible assumption) | assumption)
                have q163 : x20_3 < (x3_2.length : Int) := of_decide_eq_true (by first | (with_reducible assumption) | assumption)
                obtain ⟨ad163, e163, hx163_0⟩ := Kd.at_bool (Kd.R_reads' HO_3.out).2.2 x20_3 p163 q163
                (try rw [← Nbq12.out] at hx163_0)
                cases e163
                replace p163 := eq_true p163
                replace q163 := eq_true q163
                go_wp2
                go_roundg k3
                case measure => have := HK1.out; have := HK2.out; have := HK3.out; omega
                case rel => exact ⟨(false), (wrap64 (x20_3 + 1)), (by first | rfl | (simp; done) | (simp [*]; done)), (by first | rfl | (simp; done) | (simp [*]; done)), H', ⟨by have := HK1.out; have := HK2.out; have := HK3.out; omega⟩, ⟨by (with_reducible repeat (first | apply Kd.R_alloc | apply Kd.R_drewN | apply Kd.R_drew)); exact HO_3.out⟩, ⟨by repeat (first | (with_reducible first | exact HB.out | apply below_alloc | apply pw_below_drewN | apply below_drew1) | exact HB.out)⟩⟩
               ·replace c13 := Bool.eq_false_iff.mpr c13
                subst c13
                have H1 : ((stillageref09_Waits.f k3 l0 x15_2 x20_3).bind fun t164 => (stillageref09_Stuck.l2 k3 l0 x3_2 x4_2 x15_2 t164 (l0.length : Int) x15_2 (l0.length : Int) (wrap64 (x20_3 + 1)))) = some r := by rw [if_neg (show ¬ (false = true) by decide)] at H; exact H
                clear H
                have H := H1
                clear H1
                replace H := Option.bind_eq_some_iff.mp H
                obtain ⟨t164, A150, H⟩ := H
                replace H : (stillageref09_Stuck.l2 k3 l0 x3_2 x4_2 x15_2 t164 (l0.length : Int) x15_2 (l0.length : Int) (wrap64 (x20_3 + 1))) = some r := H
                have A15 := Aside0.mk A150
                clear A150
                have H' := Aside0.mk H
                clear H
                obtain ⟨Ao16, co16, eo16⟩ := Kd.R_slice HO_3.out
                subst eo16
                have p163 : 0 ≤ (x20_3 : Int) := of_decide_eq_true (by first | (with_reducible assumption) | assumption)
                have q163 : x20_3 < (x3_2.length : Int) := of_decide_eq_true (by first | (with_reducible assumption) | assumption)
                obtain ⟨ad163, e163, hx163_0⟩ := Kd.at_bool (Kd.R_reads' HO_3.out).2.2 x20_3 p163 q163
                (try rw [← Nbq12.out] at hx163_0)
                cases e163
                replace p163 := eq_true p163
                replace q163 := eq_true q163
                go_wp2_with (first | (go_at_call 45; (with_reducible refine (stillageref09_Waits.calls k3 _ _ l0 x15_2 x20_3 t164 _ ?side1 ?side2 A15.out).mono ?_); (case side1 => repeat (first | exact (Kd.C_below HR0.out HB.out) | (with_reducible refine Kd.C_alloc ?_ _) | (with_reducible refine Kd.C_drewN ?_ _) | (with_reducible refine Kd.C_drew ?_))); (case side2 => exact HC0.out); rintro e w' ⟨rfl, ⟨nd, rfl⟩⟩))
                go_roundg k3
                case measure => have := HK1.out; have := HK2.out; have := HK3.out; omega
                case rel => exact ⟨(t164), (wrap64 (x20_3 + 1)), (by first | rfl | (simp; done) | (simp [*]; done)), (by first | rfl | (simp; done) | (simp [*]; done)), H', ⟨by have := HK1.out; have := HK2.out; have := HK3.out; omega⟩, ⟨by (with_reducible repeat (first | apply Kd.R_alloc | apply Kd.R_drewN | apply Kd.R_drew)); exact HO_3.out⟩, ⟨by repeat (first | (with_reducible first | exact HB.out | apply below_alloc | apply pw_below_drewN | apply below_drew1) | exact HB.out)⟩⟩
              ·rw [if_neg c11] at H
               exact absurd H (by simp)
             ·rw [if_neg c10] at H
              exact absurd H (by simp)
           ·rw [if_neg c8] at H
            have c8b0 : decide (x20_3 < (l0.length : Int)) = false := decide_eq_false c8
            clear c8
            by_cases c17 : 0 ≤ x15_2
            ·rw [if_pos c17] at H
             have c17b0 : decide (0 ≤ x15_2) = true := decide_eq_true c17
             clear c17
             by_cases c18 : x15_2 < (x3_2.length : Int)
             ·rw [if_pos c18] at H
              have c18b0 : decide (x15_2 < (x3_2.length : Int)) = true := decide_eq_true c18
              clear c18
              obtain ⟨bq19, hbq19⟩ : ∃ b_ : Bool, b_ = (rdOf false x3_2 x15_2) := ⟨_, rfl⟩
              replace H : (if bq19 = true then (stillageref09_Stuck.l1 k3 l0 x3_2 x4_2 (l0.length : Int) (wrap64 (x15_2 + 1))) else (if x6_3 = true then (stillageref09_Stuck.l1 k3 l0 x3_2 x4_2 (l0.length : Int) (wrap64 (x15_2 + 1))) else (stillageref09_Stuck.l1 k3 l0 (x3_2.set (x15_2 : Int).toNat true) true (l0.length : Int) (wrap64 (x15_2 + 1))))) = some r := by rw [← hbq19] at H; exact H
              have Nbq19 := Aside0.mk hbq19
              clear hbq19
              by_cases c20 : bq19 = true
              ·subst c20
               have H1 : (stillageref09_Stuck.l1 k3 l0 x3_2 x4_2 (l0.length : Int) (wrap64 (x15_2 + 1))) = some r := by rw [if_pos rfl] at H; exact H
               clear H
               have H := H1
               clear H1
               have H' := Aside0.mk H
               clear H
               obtain ⟨Ao21, co21, eo21⟩ := Kd.R_slice HO_3.out
               subst eo21
               have p165 : 0 ≤ (x15_2 : Int) := of_decide_eq_true (by first | (with_reducible assumption) | assumption)
               have q165 : x15_2 < (x3_2.length : Int) := of_decide_eq_true (by first | (with_reducible assumption) | assumption)
               obtain ⟨ad165, e165, hx165_0⟩ := Kd.at_bool (Kd.R_reads' HO_3.out).2.2 x15_2 p165 q165
               (try rw [← Nbq19.out] at hx165_0)
               cases e165
               replace p165 := eq_true p165
               replace q165 := eq_true q165
               go_wp2
               go_roundg k3
               case measure => have := HK1.out; have := HK2.out; have := HK3.out; omega
               case rel => exact ⟨(x3_2), (x4_2), (wrap64 (x15_2 + 1)), (by first | rfl | (simp; done) | (simp [*]; done)), (by first | rfl | (simp; done) | (simp [*]; done)), H', ⟨by have := HK1.out; have := HK2.out; have := HK3.out; omega⟩, ⟨by (with_reducible repeat (first | apply Kd.R_alloc | apply Kd.R_drewN | apply Kd.R_drew)); exact HO_3.out⟩, ⟨by repeat (first | (with_reducible first | exact HB.out | apply below_alloc | apply pw_below_drewN | apply below_drew1) | exact HB.out)⟩⟩
              ·replace c20 := Bool.eq_false_iff.mpr c20
               subst c20
               have H1 : (if x6_3 = true then (stillageref09_Stuck.l1 k3 l0 x3_2 x4_2 (l0.length : Int) (wrap64 (x15_2 + 1))) else (stillageref09_Stuck.l1 k3 l0 (x3_2.set (x15_2 : Int).toNat true) true (l0.length : Int) (wrap64 (x15_2 + 1)))) = some r := by rw [if_neg (show ¬ (false = true) by decide)] at H; exact H
               clear H
               have H := H1
               clear H1
               by_cases c22 : x6_3 = true
               ·subst c22
                have H1 : (stillageref09_Stuck.l1 k3 l0 x3_2 x4_2 (l0.length : Int) (wrap64 (x15_2 + 1))) = some r := by rw [if_pos rfl] at H; exact H
                clear H
                have H := H1
                clear H1
                have H' := Aside0.mk H
                clear H
                obtain ⟨Ao23, co23, eo23⟩ := Kd.R_slice HO_3.out
                subst eo23
                have p165 : 0 ≤ (x15_2 : Int) := of_decide_eq_true (by first | (with_reducible assumption) | assumption)
                have q165 : x15_2 < (x3_2.length : Int) := of_decide_eq_true (by first | (with_reducible assumption) | assumption)
                obtain ⟨ad165, e165, hx165_0⟩ := Kd.at_bool (Kd.R_reads' HO_3.out).2.2 x15_2 p165 q165
                (try rw [← Nbq19.out] at hx165_0)
                cases e165
                replace p165 := eq_true p165
                replace q165 := eq_true q165
                go_wp2
                go_roundg k3
                case measure => have := HK1.out; have := HK2.out; have := HK3.out; omega
                case rel => exact ⟨(x3_2), (x4_2), (wrap64 (x15_2 + 1)), (by first | rfl | (simp; done) | (simp [*]; done)), (by first | rfl | (simp; done) | (simp [*]; done)), H', ⟨by have := HK1.out; have := HK2.out; have := HK3.out; omega⟩, ⟨by (with_reducible repeat (first | apply Kd.R_alloc | apply Kd.R_drewN | apply Kd.R_drew)); exact HO_3.out⟩, ⟨by repeat (first | (with_reducible first | exact HB.out | apply below_alloc | apply pw_below_drewN | apply below_drew1) | exact HB.out)⟩⟩
               ·replace c22 := Bool.eq_false_iff.mpr c22
                subst c22
                have H1 : (stillageref09_Stuck.l1 k3 l0 (x3_2.set (x15_2 : Int).toNat true) true (l0.length : Int) (wrap64 (x15_2 + 1))) = some r := by rw [if_neg (show ¬ (false = true) by decide)] at H; exact H
                clear H
                have H := H1
                clear H1
                obtain ⟨y166, hy166⟩ : ∃ y_ : List Bool, y_ = (x3_2.set (x15_2 : Int).toNat true) := ⟨_, rfl⟩
                replace H : (stillageref09_Stuck.l1 k3 l0 y166 true (l0.length : Int) (wrap64 (x15_2 + 1))) = some r := by first | (rw [hy166]; with_reducible exact H) | (have H2_ := (Option.bind_some _ _).symm.trans H; rw [hy166]; with_reducible exact H2_) | (have H2_ := (Option.bind_some _ _).symm.trans H; with_reducible exact H2_) | with_reducible exact H | (rw [hy166]; exact H) | exact H
                have Ny166 := Aside0.mk hy166
                clear hy166
                have H' := Aside0.mk H
                clear H
                obtain ⟨Ao25, co25, eo25⟩ := Kd.R_slice HO_3.out
                subst eo25
                have p165 : 0 ≤ (x15_2 : Int) := of_decide_eq_true (by first | (with_reducible assumption) | assumption)
                have q165 : x15_2 < (x3_2.length : Int) := of_decide_eq_true (by first | (with_reducible assumption) | assumption)
                obtain ⟨ad165, e165, hx165_0⟩ := Kd.at_bool (Kd.R_reads' HO_3.out).2.2 x15_2 p165 q165
                (try rw [← Nbq19.out] at hx165_0)
                cases e165
                replace p165 := eq_true p165
                replace q165 := eq_true q165
                have p24 : 0 ≤ (x15_2 : Int) := of_decide_eq_true (by first | (with_reducible assumption) | assumption)
                have q24 : (x15_2 : Int) < ((x3_2.length : Int) : Int) := of_decide_eq_true (by first | (with_reducible assumption) | assumption)
                obtain ⟨go24, co24, eo24, gb24, gl24, cl24, HG24⟩ := Kd.R_form HO_3.out (by omega)
                (first | cases eo24 | (injection eo24 with ea_ en_ ec_; (first | subst ea_ | (injection ea_ with ea_; subst ea_)); subst ec_; clear en_))
                have GB24 := Aside0.mk gb24
                have GG24 := Aside0.mk HG24
                clear gb24 gl24 HG24
                (first | simp only [add_plain] at hx165_0 | skip)
                obtain ⟨hx24_0, hf24_0⟩ := Kd.R_celln false HO_3.out (x15_2 : Int) p24 q24
                replace p24 := eq_true p24
                replace q24 := eq_true q24
                have HP26 := Kd.R_putg HO_3.out (x15_2 : Int) true
                go_wp2_with (first | ((with_reducible refine gate_store (t := 4) (p := 49) rfl ?_); refine store_event (t := 4) (p := 49) (v := ?vo_w27) (w1 := (wr.setCell ⟨go24, (x15_2 : Int).toNat, none⟩ (.bool true))) ?hg ?ho ?hn ?hr ?_; (case ho => rfl); (case hg => rfl); (case hn => rfl); (case hr => first | (go_simp; done) | (go_simp; rfl)); intro w27 hw; have hg : wr.grownBy w27 (some go24) := (by rw [hw]; exact HP26.2); have hp_ : Kd.R Kd.bool 4 w27 w.heap.size (fun _ => True) (.slice (some ⟨go24, 0, none⟩) x3_2.length co25) y166 := (by rw [hw, Ny166.out]; exact HP26.1); clear HP26; have n0_ := Aside0.mk (hp_); have n1_ := Aside0.mk ((by rw [hw]; exact below_set (HB.out) GB24.out : Below w.heap.size w w27)); clear HO_3; clear HB; have HO_3 := n0_; have HB := n1_; clear n0_ n1_; clear hg hw hp_))
                go_roundg k3
                case measure => have := HK1.out; have := HK2.out; have := HK3.out; omega
                case rel => exact ⟨(y166), (true), (wrap64 (x15_2 + 1)), (by first | rfl | (simp; done) | (simp [*]; done)), (by first | rfl | (simp; done) | (simp [*]; done)), H', ⟨by have := HK1.out; have := HK2.out; have := HK3.out; omega⟩, ⟨by (with_reducible repeat (first | apply Kd.R_alloc | apply Kd.R_drewN | apply Kd.R_drew)); exact HO_3.out⟩, ⟨by repeat (first | (with_reducible first | exact HB.out | apply below_alloc | apply pw_below_drewN | apply below_drew1) | exact HB.out)⟩⟩
             ·rw [if_neg c18] at H
              exact absurd H (by simp)
            ·rw [if_neg c17] at H
             exact absurd H (by simp)
        ·rw [if_neg c7] at H
         have c7b0 : decide (x15_2 < (l0.length : Int)) = false := decide_eq_false c7
         clear c7
         have H' := Aside0.mk H
         clear H
         go_wp2
         go_roundg k2
         case measure => have := HK1.out; have := HK2.out; omega
         case rel => exact ⟨(x3_2), (x4_2), (by first | rfl | (simp; done) | (simp [*]; done)), H', ⟨by have := HK1.out; have := HK2.out; omega⟩, ⟨by (with_reducible repeat (first | apply Kd.R_alloc | apply Kd.R_drewN | apply Kd.R_drew)); exact HO_3.out⟩, ⟨by repeat (first | (with_reducible first | exact HB.out | apply below_alloc | apply pw_below_drewN | apply below_drew1) | exact HB.out)⟩⟩
     ·replace c6 := Bool.eq_false_iff.mpr c6
      subst c6
      have H1 : (stillageref09_Stuck.l3 k1 x3_1 (x3_1.length : Int) 0) = some r := by rw [if_neg (show ¬ (false = true) by decide)] at H; exact H
      clear H
      have H := H1
      clear H1
      have H' := Aside0.mk H
      clear H
      obtain ⟨Ao28, co28, eo28⟩ := Kd.R_slice HO_3.out
      subst eo28
      go_wp2
      go_loopg [53] k1 (fun kq v53 w' => ∃ (x53_2 : Int), v53 = .int .i64 x53_2 ∧ Aside0 (stillageref09_Stuck.l3 kq x3_1 (x3_1.length : Int) x53_2 = some r) ∧ Aside0 (kq ≤ k1) ∧ Aside0 (Kd.R Kd.bool 4 w' w.heap.size (fun _ => True) (.slice Ao28 x3_1.length co28) x3_1) ∧ Aside0 (Below w.heap.size w w'))
      case atStart => exact ⟨(0), (by first | rfl | (simp; done) | (simp [*]; done)), H', ⟨Nat.le_refl _⟩, ⟨by (with_reducible repeat (first | apply Kd.R_alloc | apply Kd.R_drewN | apply Kd.R_drew)); exact HO_3.out⟩, ⟨by repeat (first | (with_reducible first | exact HB.out | apply below_alloc | apply pw_below_drewN | apply below_drew1) | exact HB.out)⟩⟩
      case round =>
       clear H'
       try clear c1
       try clear p1
       try clear q1
       try clear hx1
       try clear c2
       try clear c2b0
       try clear c2b1
       try clear p2
       try clear q2
       try clear hx2
       try clear hf2
       try clear c3
       try clear c3b0
       try clear c3b1
       try clear c6
       try clear p6
       try clear c7
       try clear c7b0
       try clear c8
       try clear c8b0
       try clear c9
       try clear c10
       try clear c10b0
       try clear c11
       try clear c11b0
       try clear q12
       try clear c13
       try clear p16
       try clear q16
       try clear hx16
       try clear c17
       try clear c17b0
       try clear c18
       try clear c18b0
       try clear q19
       try clear c20
       try clear c22
       try clear p24
       try clear q24
       try clear hx24
       try clear hf24
       try clear c27
       try clear hx163_0
       try clear hx165_0
       try clear hx24_0
       try clear p163
       try clear p165
       try clear p2
       try clear p24
       try clear q163
       try clear q165
       try clear q24
       obtain ⟨x53_2, rfl, HA, HK2, HO_3, HB⟩ := hrel
       cases gk with
       | zero => exact absurd HA.out (by simp [stillageref09_Stuck.l3])
       | succ k2 =>
        have H := HA.out
        clear HA
        simp only [stillageref09_Stuck.l3] at H
        by_cases c29 : x53_2 < (x3_1.length : Int)
        ·rw [if_pos c29] at H
         have c29b0 : decide (x53_2 < (x3_1.length : Int)) = true := decide_eq_true c29
         clear c29
         by_cases c30 : 0 ≤ x53_2
         ·rw [if_pos c30] at H
          have c30b0 : decide (0 ≤ x53_2) = true := decide_eq_true c30
          clear c30
          by_cases c31 : x53_2 < (x3_1.length : Int)
          ·rw [if_pos c31] at H
           have c31b0 : decide (x53_2 < (x3_1.length : Int)) = true := decide_eq_true c31
           clear c31
           obtain ⟨bq32, hbq32⟩ : ∃ b_ : Bool, b_ = (rdOf false x3_1 x53_2) := ⟨_, rfl⟩
           replace H : (if bq32 = true then (stillageref09_Stuck.l3 k2 x3_1 (x3_1.length : Int) (wrap64 (x53_2 + 1))) else (some true)) = some r := by rw [← hbq32] at H; exact H
           have Nbq32 := Aside0.mk hbq32
           clear hbq32
           by_cases c33 : bq32 = true
           ·subst c33
            have H1 : (stillageref09_Stuck.l3 k2 x3_1 (x3_1.length : Int) (wrap64 (x53_2 + 1))) = some r := by rw [if_pos rfl] at H; exact H
            clear H
            have H := H1
            clear H1
            have H' := Aside0.mk H
            clear H
            have p167 : 0 ≤ (x53_2 : Int) := of_decide_eq_true (by first | (with_reducible assumption) | assumption)
            have q167 : x53_2 < (x3_1.length : Int) := of_decide_eq_true (by first | (with_reducible assumption) | assumption)
            obtain ⟨ad167, e167, hx167_0⟩ := Kd.at_bool (Kd.R_reads' HO_3.out).2.2 x53_2 p167 q167
            (try rw [← Nbq32.out] at hx167_0)
            cases e167
            replace p167 := eq_true p167
            replace q167 := eq_true q167
            go_wp2
            go_roundg k2
            case measure => have := HK1.out; have := HK2.out; omega
            case rel => exact ⟨(wrap64 (x53_2 + 1)), (by first | rfl | (simp; done) | (simp [*]; done)), H', ⟨by have := HK1.out; have := HK2.out; omega⟩, ⟨by (with_reducible repeat (first | apply Kd.R_alloc | apply Kd.R_drewN | apply Kd.R_drew)); exact HO_3.out⟩, ⟨by repeat (first | (with_reducible first | exact HB.out | apply below_alloc | apply pw_below_drewN | apply below_drew1) | exact HB.out)⟩⟩
           ·replace c33 := Bool.eq_false_iff.mpr c33
            subst c33
            have H1 : (some true) = some r := by rw [if_neg (show ¬ (false = true) by decide)] at H; exact H
            clear H
            have H := H1
            clear H1
            obtain rfl := Option.some.inj H
            have p167 : 0 ≤ (x53_2 : Int) := of_decide_eq_true (by first | (with_reducible assumption) | assumption)
            have q167 : x53_2 < (x3_1.length : Int) := of_decide_eq_true (by first | (with_reducible assumption) | assumption)
            obtain ⟨ad167, e167, hx167_0⟩ := Kd.at_bool (Kd.R_reads' HO_3.out).2.2 x53_2 p167 q167
            (try rw [← Nbq32.out] at hx167_0)
            cases e167
            replace p167 := eq_true p167
            replace q167 := eq_true q167
            go_wp2
            go_ret
            exact ⟨by first | rfl | (simp [errW_none, errW_some] <;> rfl) | (simp [*, errW_none, errW_some] <;> rfl), by repeat (first | (with_reducible first | exact HB.out | apply below_alloc | apply pw_below_drewN | apply below_drew1) | exact HB.out)⟩
          ·rw [if_neg c31] at H
           exact absurd H (by simp)
         ·rw [if_neg c30] at H
          exact absurd H (by simp)
        ·rw [if_neg c29] at H
         have c29b0 : decide (x53_2 < (x3_1.length : Int)) = false := decide_eq_false c29
         clear c29
         obtain rfl := Option.some.inj H
         go_wp2
         go_ret
         exact ⟨by first | rfl | (simp [errW_none, errW_some] <;> rfl) | (simp [*, errW_none, errW_some] <;> rfl), by repeat (first | (with_reducible first | exact HB.out | apply below_alloc | apply pw_below_drewN | apply below_drew1) | exact HB.out)⟩
  ·rw [if_neg c3] at H
   exact absurd H (by simp)
 ·rw [if_neg c2] at H
  exact absurd H (by simp)

end Go.Proofs.Ytkdfohmceokchaa.PZoneStuck
