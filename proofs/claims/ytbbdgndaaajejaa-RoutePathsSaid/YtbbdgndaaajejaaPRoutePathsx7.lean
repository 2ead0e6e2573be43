-- Written by a program of this session (wip/oprint): after the pattern of the kit's print, which does not take this law. -- trimmed
import Derived.Test.YtbbdgndaaajejaaPRoutePathsx0
namespace Go.Proofs.Ytbbdgndaaajejaa.PRoutePaths
open Go.RowKit Go.Proofs.YtbbdgndaaajejaaW.PrintWords Go.Proofs.YtbbdgndaaajejaaW.PrintLast Go.Proofs.YtbbdgndaaajejaaW.PrintMore
attribute [local go_sem] max2_int min2_int max_two min_two max_three min_three max_four min_four   -- for this text's walks alone
set_option linter.unusedVariables false
set_option linter.unusedSimpArgs false

/-! ### slices_Grow_int_int: function 43, given -/
def slices_Grow_int_int.f (l0 : List Int) (a1 : Int) : Option (List Int) := if 0 ≤ a1 ∧ a1 * 8 ≤ 140737488355328 then some [] else none
set_option maxHeartbeats 1000000 in
set_option maxRecDepth 100000 in
theorem slices_Grow_int_int.calls (A0 : Option Addr) (c0 : Nat) (l0 : List Int) (a1 : Int) (r : List Int) (w : World) (hr0 : Kd.C (Kd.int .i64) w A0 l0.length l0) (hc0 : l0.length ≤ c0) (h : slices_Grow_int_int.f l0 a1 = some r) (hA : A0 = none ∧ c0 = 0 := by exact ⟨rfl, rfl⟩) :
  Calls Try.prog 43 #[.slice A0 l0.length c0, .int .i64 a1] w fun e w' => ∃ v0_ : Value, e = .returned (v0_) ∧ Kd.R (Kd.int .i64) 3 w' w.heap.size (fun _ => True) v0_ r ∧ Below w.heap.size w w' := by
 unfold slices_Grow_int_int.f at h
 split at h
 ·rename_i hb
  obtain rfl := Option.some.inj h
  clear h
  obtain ⟨rfl, rfl⟩ := hA
  obtain rfl : l0 = [] := List.eq_nil_of_length_eq_zero (by omega)
  clear hr0 hc0
  obtain ⟨n, rfl⟩ := Int.eq_ofNat_of_zero_le hb.1
  have HL := Aside0.mk hb.2
  clear hb
  have h1 : decide ((n : Int) < 0) = false := by simp
  rcases Nat.eq_zero_or_pos n with h0 | h0
  ·subst h0
   go_enter Try.func43, Try.ntmps43
   go_wp2
   go_ret
   exact ⟨_, rfl, Kd.R_nil _ _ _ _ _, Below.refl _ _⟩
  ·have hn : wrap64 (n : Int) = n := by unfold wrap64; have := HL.out; omega
   have hn2 : decide (0 < n) = true := decide_eq_true h0
   go_enter Try.func43, Try.ntmps43
   go_wp2_with (first | ((with_reducible refine gate_builtin (b := .append) (xs := #[.tmp 20, .tmp 21]) rfl ?_); at_builtin; refine Kd.R_append_zeros (Kd.int .i64) (w0 := w) w.heap.size rfl (.tmp 20) (.tmp 21) 26 3 3 (.int .i64 0) 8 rfl Try.underlying26 Try.underlying3 info3 rfl (by decide) (by omega) (.slice none 0 0) [] (0 : Int) (wrap64 (n : Int)) (fun _ => True) rfl rfl ?aZ ?aF ?aO ?a0 ?aB ?aS ?aL ?_))
   case aZ => rfl
   case aF => exact (fun _ _ => trivial)
   case aO => exact Kd.R_nil _ _ _ _ _
   case a0 => rw [hn]; exact Int.natCast_nonneg _
   case aB => exact Below.refl _ _
   case aS => simp
   case aL => rw [hn]; have := HL.out; simp; omega
   intro v1 w1 ho hb hg hat
   obtain ⟨A1, c1, rfl⟩ := Kd.R_slice ho
   go_wp2
   go_ret
   refine ⟨_, rfl, ?_, hb⟩
   obtain ⟨_, inner, ⟨h2, h3⟩, _⟩ := ho
   refine ⟨fun _ _ => trivial, [], ⟨by simp, ?_⟩, Reps.none _ _⟩
   rcases h3 with ⟨hv, h4⟩ | ⟨g, cap, cur, hv, h4, h5, h6, h7, h8, h9⟩
   ·simp at h4
    omega
   ·injection hv with hv1 hv2 hv3
    subst hv1 hv3
    exact .inr ⟨g, c1, cur, rfl, h4, h5, Nat.zero_le _, h7, h8, by simp⟩
 ·cases h

/-! ### slices_Concat_int_int: function 34 -/
mutual
def slices_Concat_int_int.l0 : Nat → List (List Int) → Int → List (List Int) → Int → Int → Option (List Int)
 | 0, _, _, _, _, _ => none
 | k + 1, x0, x3, x9, x10, x11 => if x11 < x10 then (if 0 ≤ x11 then (if x11 < (x9.length : Int) then (if (wrap64 (x3 + ((rd_L5 x9 x11).length : Int))) < 0 then (none) else (slices_Concat_int_int.l0 k x0 (wrap64 (x3 + ((rd_L5 x9 x11).length : Int))) x9 x10 (wrap64 (x11 + 1)))) else (none)) else (none)) else ((slices_Grow_int_int.f ([] : List Int) x3).bind fun t236 => (slices_Concat_int_int.l1 k t236 x0 (x0.length : Int) 0))
def slices_Concat_int_int.l1 : Nat → List Int → List (List Int) → Int → Int → Option (List Int)
 | 0, _, _, _, _ => none
 | k + 1, x6, x25, x26, x27 => if x27 < x26 then (if 0 ≤ x27 then (if x27 < (x25.length : Int) then (if x6.length + (rd_L5 x25 x27).length < 17592186044416 then (slices_Concat_int_int.l1 k (x6 ++ (rd_L5 x25 x27)) x25 x26 (wrap64 (x27 + 1))) else (none)) else (none)) else (none)) else (some x6)
end
def slices_Concat_int_int.f (k : Nat) (l0 : List (List Int)) : Option (List Int) := slices_Concat_int_int.l0 k l0 0 l0 (l0.length : Int) 0
theorem slices_Concat_int_int.mono_l : ∀ k, (∀ y0 y1 y2 y3 y4, LeO (slices_Concat_int_int.l0 k y0 y1 y2 y3 y4) (slices_Concat_int_int.l0 (k + 1) y0 y1 y2 y3 y4)) ∧ (∀ y0 y1 y2 y3, LeO (slices_Concat_int_int.l1 k y0 y1 y2 y3) (slices_Concat_int_int.l1 (k + 1) y0 y1 y2 y3))
 | 0 => ⟨fun _ _ _ _ _ r h => by simp [slices_Concat_int_int.l0] at h, fun _ _ _ _ r h => by simp [slices_Concat_int_int.l1] at h⟩
 | k + 1 => by
  obtain ⟨ih0, ih1⟩ := slices_Concat_int_int.mono_l k
  refine ⟨?_, ?_⟩
  ·intro y0 y1 y2 y3 y4
   unfold slices_Concat_int_int.l0
   repeat' first
   | (with_reducible exact ih0 _ _ _ _ _)
   | (with_reducible exact ih1 _ _ _ _)
   | (with_reducible exact LeO.refl _)
   | (with_reducible exact LeO.none _)
   | (with_reducible refine LeO.ite ?_ ?_)
   | (with_reducible refine LeO.bind ?_ (fun _ => ?_))
   | exact ih0 _ _ _ _ _
   | exact ih1 _ _ _ _
   | exact LeO.none _
   | refine LeO.ite ?_ ?_
   | refine LeO.bind ?_ (fun _ => ?_)
  ·intro y0 y1 y2 y3
   unfold slices_Concat_int_int.l1
   repeat' first
   | (with_reducible exact ih0 _ _ _ _ _)
   | (with_reducible exact ih1 _ _ _ _)
   | (with_reducible exact LeO.refl _)
   | (with_reducible exact LeO.none _)
   | (with_reducible refine LeO.ite ?_ ?_)
   | (with_reducible refine LeO.bind ?_ (fun _ => ?_))
   | exact ih0 _ _ _ _ _
   | exact ih1 _ _ _ _
   | exact LeO.none _
   | refine LeO.ite ?_ ?_
   | refine LeO.bind ?_ (fun _ => ?_)
theorem slices_Concat_int_int.mono : ∀ a0 k, LeO (slices_Concat_int_int.f k a0) (slices_Concat_int_int.f (k + 1) a0) := by
 intro a0 k
 obtain ⟨ih0, ih1⟩ := slices_Concat_int_int.mono_l k
 unfold slices_Concat_int_int.f
 repeat' first
   | (with_reducible exact ih0 _ _ _ _ _)
   | (with_reducible exact ih1 _ _ _ _)
   | (with_reducible exact LeO.refl _)
   | (with_reducible exact LeO.none _)
   | (with_reducible refine LeO.ite ?_ ?_)
   | (with_reducible refine LeO.bind ?_ (fun _ => ?_))
   | exact ih0 _ _ _ _ _
   | exact ih1 _ _ _ _
   | exact LeO.none _
   | refine LeO.ite ?_ ?_
   | refine LeO.bind ?_ (fun _ => ?_)
set_option maxHeartbeats 8000000 in
set_option maxRecDepth 100000 in
theorem slices_Concat_int_int.calls (k : Nat) (A0 : Option Addr) (c0 : Nat) (l0 : List (List Int)) (r : List Int) (w : World) (hr0 : Kd.C (Kd.slice 3 (Kd.int .i64)) w A0 l0.length l0) (hc0 : l0.length ≤ c0) (h : slices_Concat_int_int.f k l0 = some r) :
  Calls Try.prog 34 #[.slice A0 l0.length c0] w fun e w' => ∃ v0_ : Value, e = .returned (v0_) ∧ Kd.R (Kd.int .i64) 3 w' w.heap.size (fun _ => True) v0_ r ∧ Below w.heap.size w w' := by
 have HR0 := Aside0.mk hr0
 have HC0 := Aside0.mk hc0
 clear hr0 hc0
 have HB := Aside0.mk (Below.refl w.heap.size w)
 have H : (slices_Concat_int_int.l0 k l0 0 l0 (l0.length : Int) 0) = some r := h
 clear h
 have H' := Aside0.mk H; clear H
 go_enter Try.func34, Try.ntmps34
 go_wp2
 go_loopg [3, 11] k (fun kq v3 v11 w' => ∃ (x3_1 : Int) (x11_1 : Int), v3 = .int .i64 x3_1 ∧ v11 = .int .i64 x11_1 ∧ Aside0 (slices_Concat_int_int.l0 kq l0 x3_1 l0 (l0.length : Int) x11_1 = some r) ∧ Aside0 (kq ≤ k) ∧ Aside0 (Below w.heap.size w w'))
 case atStart => exact ⟨(0), (0), rs, rs, H', ⟨Nat.le_refl _⟩, ⟨zb0 HB.out⟩⟩
 case round =>
  clear H'
  obtain ⟨x3_1, x11_1, rfl, rfl, HA, HK1, HB⟩ := hrel
  cases gk with
  | zero => exact absurd HA.out (by simp [slices_Concat_int_int.l0])
  | succ k1 =>
   have H := HA.out
   clear HA
   simp only [slices_Concat_int_int.l0] at H
   by_cases c2 : x11_1 < (l0.length : Int)
   ·rw [if_pos c2] at H
    have c2b0 : decide (x11_1 < (l0.length : Int)) = true := decide_eq_true c2
    clear c2
    by_cases c3 : 0 ≤ x11_1
    rotate_left; ·rw [if_neg c3] at H; exact absurd H (by simp)
    rw [if_pos c3] at H
    have c3b0 : decide (0 ≤ x11_1) = true := decide_eq_true c3
    clear c3
    by_cases c4 : x11_1 < (l0.length : Int)
    rotate_left; ·rw [if_neg c4] at H; exact absurd H (by simp)
    rw [if_pos c4] at H
    have c4b0 : decide (x11_1 < (l0.length : Int)) = true := decide_eq_true c4
    clear c4
    by_cases c5 : (wrap64 (x3_1 + ((rd_L5 l0 x11_1).length : Int))) < 0
    ·rw [if_pos c5] at H
     exact absurd H (by simp)
    rw [if_neg c5] at H
    have c5b0 : decide ((wrap64 (x3_1 + ((rd_L5 l0 x11_1).length : Int))) < 0) = false := decide_eq_false c5
    clear c5
    have H' := Aside0.mk H; clear H
    have p235 : 0 ≤ (x11_1 : Int) := oda
    have q235 : x11_1 < (l0.length : Int) := oda
    obtain ⟨ad235, A235_0, c235_0, e235, hx235_0, hl235_0, hi235_0⟩ := at_L5 HR0.out x11_1 p235 q235
    cases e235
    replace hx235_0 := zx HB.out hx235_0
    have HR235_0 := Aside0.mk hi235_0
    have HC235_0 := Aside0.mk hl235_0
    clear hi235_0 hl235_0
    replace p235 := eq_true p235
    replace q235 := eq_true q235
    go_wp2
    go_roundg k1
    case measure => have := HK1.out; omega
    case rel => exact ⟨(wrap64 (x3_1 + ((rd_L5 l0 x11_1).length : Int))), (wrap64 (x11_1 + 1)), rs, rs, H', ⟨by have := HK1.out; omega⟩, ⟨zb0 HB.out⟩⟩
   rw [if_neg c2] at H
   have c2b0 : decide (x11_1 < (l0.length : Int)) = false := decide_eq_false c2
   clear c2
   replace H := Option.bind_eq_some_iff.mp H; obtain ⟨t236, A60, H⟩ := H
   replace H : (slices_Concat_int_int.l1 k1 t236 l0 (l0.length : Int) 0) = some r := H
   have A6 := Aside0.mk A60
   clear A60
   have H' := Aside0.mk H; clear H
   go_wp2_with (first | ((with_reducible refine gate_callee (f := 43) rfl ?_); refine goesL_ (some 24) rfl rfl Try.func43 (by kernel_rfl) rfl #[.slice none 0 0, .int .i64 x3_1] rfl am ?_; (refine (slices_Grow_int_int.calls _ _ ([] : List Int) x3_1 t236 _ ?side1 ?side2 A6.out).mono ?_); (case side1 => exact Kd.C_nil _ _); (case side2 => exact Nat.le_refl _); rintro e w7 ⟨v237, rfl, ho0, hb⟩; refine ⟨_, rfl, ?_⟩; have HO238 := Aside0.mk (Kd.R_lower ho0 (below_size (zb0 HB.out))); replace HB := Aside0.mk (below_step (zb0 HB.out) hb); (try clear hb); (try clear ho0)))
   go_loopg [6, 27] k1 (fun kq v6 v27 w' => ∃ (x6_2 : List Int) (x27_2 : Int), v27 = .int .i64 x27_2 ∧ Aside0 (slices_Concat_int_int.l1 kq x6_2 l0 (l0.length : Int) x27_2 = some r) ∧ Aside0 (kq ≤ k1) ∧ Aside0 (Kd.R (Kd.int .i64) 3 w' w.heap.size (fun _ => True) v6 x6_2) ∧ Aside0 (Below w.heap.size w w'))
   case atStart => exact ⟨(t236), (0), rs, H', ⟨Nat.le_refl _⟩, ⟨zr HO238.out⟩, ⟨zb0 HB.out⟩⟩
   case round =>
    clear H'
    obtain ⟨x6_2, x27_2, rfl, HA, HK2, HO_6, HB⟩ := hrel
    cases gk with
    | zero => exact absurd HA.out (by simp [slices_Concat_int_int.l1])
    | succ k2 =>
     have H := HA.out
     clear HA
     simp only [slices_Concat_int_int.l1] at H
     by_cases c8 : x27_2 < (l0.length : Int)
     rotate_left
     ·rw [if_neg c8] at H
      have c8b0 : decide (x27_2 < (l0.length : Int)) = false := decide_eq_false c8
      clear c8
      obtain rfl := Option.some.inj H
      go_wp2
      go_ret
      exact ⟨_, by first | rfl | (simp [errW_none, errW_some] <;> rfl) | (simp [*, errW_none, errW_some] <;> rfl), by (with_reducible repeat (first | apply Kd.R_alloc | apply Kd.R_drewN | apply Kd.R_drew)); exact HO_6.out, zb0 HB.out⟩

     rw [if_pos c8] at H
     have c8b0 : decide (x27_2 < (l0.length : Int)) = true := decide_eq_true c8
     clear c8
     by_cases c9 : 0 ≤ x27_2
     rotate_left; ·rw [if_neg c9] at H; exact absurd H (by simp)
     rw [if_pos c9] at H
     have c9b0 : decide (0 ≤ x27_2) = true := decide_eq_true c9
     clear c9
     by_cases c10 : x27_2 < (l0.length : Int)
     rotate_left; ·rw [if_neg c10] at H; exact absurd H (by simp)
     rw [if_pos c10] at H
     have c10b0 : decide (x27_2 < (l0.length : Int)) = true := decide_eq_true c10
     clear c10
     by_cases c11 : x6_2.length + (rd_L5 l0 x27_2).length < 17592186044416
     rotate_left; ·rw [if_neg c11] at H; exact absurd H (by simp)
     rw [if_pos c11] at H
     have LMc11 := Aside0.mk c11
     clear c11
     obtain ⟨y240, hy240⟩ : ∃ y_ : List Int, y_ = (x6_2 ++ (rd_L5 l0 x27_2)) := ⟨_, rfl⟩
     replace H : (slices_Concat_int_int.l1 k2 y240 l0 (l0.length : Int) (wrap64 (x27_2 + 1))) = some r := by first | (rw [hy240]; with_reducible exact H) | (have H2_ := (Option.bind_some _ _).symm.trans H; rw [hy240]; with_reducible exact H2_) | (have H2_ := (Option.bind_some _ _).symm.trans H; with_reducible exact H2_) | with_reducible exact H | (rw [hy240]; exact H) | exact H
     have Ny240 := Aside0.mk hy240
     clear hy240
     have H' := Aside0.mk H; clear H
     have p239 : 0 ≤ (x27_2 : Int) := oda
     have q239 : x27_2 < (l0.length : Int) := oda
     obtain ⟨ad239, A239_0, c239_0, e239, hx239_0, hl239_0, hi239_0⟩ := at_L5 HR0.out x27_2 p239 q239
     cases e239
     replace hx239_0 := zx HB.out hx239_0
     have HR239_0 := Aside0.mk hi239_0
     have HC239_0 := Aside0.mk hl239_0
     clear hi239_0 hl239_0
     replace p239 := eq_true p239
     replace q239 := eq_true q239
     go_wp2_with (first | ((with_reducible refine gate_builtin (b := .append) (xs := #[.tmp 31, .tmp 32]) rfl ?_); at_builtin; refine Kd.R_append_rows (Kd.int .i64) (w0 := w) w.heap.size rfl (.tmp 31) (.tmp 32) 26 3 (.int .i64 0) 8 rfl Try.underlying26 info3 rfl (by decide) (by omega) u6 x6_2 (rd_L5 l0 x27_2) _ _ _ (fun _ => True) (fun _ => False) rfl rfl ?aO ?aR (fun _ _ h => h) (fun _ h => h.elim) ?aF ?aB ?aS ?aL ?_; (case aR => exact zc HR239_0.out HB.out); (case aB => exact (zb0 HB.out)); (case aF => exact (fun _ _ => trivial)); (case aO => exact (zr HO_6.out)); (case aS => exact (below_size (zb0 HB.out))); (case aL => have := LMc11.out; omega); intro v241 w12 ho hb hg hat; rw [← Ny240.out] at ho; replace HB := Aside0.mk (hb); have HO242 := Aside0.mk (ho); clear HO_6; clear ho hb hg hat))
     go_roundg k2
     case measure => have := HK1.out; have := HK2.out; omega
     case rel => exact ⟨(y240), (wrap64 (x27_2 + 1)), rs, H', ⟨by have := HK1.out; have := HK2.out; omega⟩, ⟨zr HO242.out⟩, ⟨zb0 HB.out⟩⟩
end Go.Proofs.Ytbbdgndaaajejaa.PRoutePaths
