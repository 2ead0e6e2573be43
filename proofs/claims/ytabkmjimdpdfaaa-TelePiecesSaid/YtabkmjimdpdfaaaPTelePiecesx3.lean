-- Written by a program of this session (wip/oprint): after the pattern of the kit's print, which does not take this law. -- trimmed
import Derived.Test.YtabkmjimdpdfaaaPTelePiecesx0
import Derived.Test.YtabkmjimdpdfaaaPTelePiecesx2
namespace Go.Proofs.Ytabkmjimdpdfaaa.PTelePieces
open Go.RowKit Go.Proofs.YtabkmjimdpdfaaaW.PrintWords Go.Proofs.YtabkmjimdpdfaaaW.PrintLast Go.Proofs.YtabkmjimdpdfaaaW.PrintMore
attribute [local go_sem] max2_int min2_int max_two min_two max_three min_three max_four min_four   -- for this text's walks alone
set_option linter.unusedVariables false
set_option linter.unusedSimpArgs false

/-! ### slices_Concat_byte_byte: function 22 -/
mutual
def slices_Concat_byte_byte.l0 : Nat → List (List Int) → Int → List (List Int) → Int → Int → Option (List Int)
 | 0, _, _, _, _, _ => none
 | k + 1, x0, x3, x9, x10, x11 => if x11 < x10 then (if 0 ≤ x11 then (if x11 < (x9.length : Int) then (if (wrap64 (x3 + ((rd_L1 x9 x11).length : Int))) < 0 then (none) else (slices_Concat_byte_byte.l0 k x0 (wrap64 (x3 + ((rd_L1 x9 x11).length : Int))) x9 x10 (wrap64 (x11 + 1)))) else (none)) else (none)) else ((slices_Grow_byte_byte.f ([] : List Int) x3).bind fun t111 => (slices_Concat_byte_byte.l1 k t111 x0 (x0.length : Int) 0))
def slices_Concat_byte_byte.l1 : Nat → List Int → List (List Int) → Int → Int → Option (List Int)
 | 0, _, _, _, _ => none
 | k + 1, x6, x25, x26, x27 => if x27 < x26 then (if 0 ≤ x27 then (if x27 < (x25.length : Int) then (if x6.length + (rd_L1 x25 x27).length < 140737488355328 then (slices_Concat_byte_byte.l1 k (x6 ++ (rd_L1 x25 x27)) x25 x26 (wrap64 (x27 + 1))) else (none)) else (none)) else (none)) else (some x6)
end
def slices_Concat_byte_byte.f (k : Nat) (l0 : List (List Int)) : Option (List Int) := slices_Concat_byte_byte.l0 k l0 0 l0 (l0.length : Int) 0
theorem slices_Concat_byte_byte.mono_l : ∀ k, (∀ y0 y1 y2 y3 y4, LeO (slices_Concat_byte_byte.l0 k y0 y1 y2 y3 y4) (slices_Concat_byte_byte.l0 (k + 1) y0 y1 y2 y3 y4)) ∧ (∀ y0 y1 y2 y3, LeO (slices_Concat_byte_byte.l1 k y0 y1 y2 y3) (slices_Concat_byte_byte.l1 (k + 1) y0 y1 y2 y3))
 | 0 => ⟨fun _ _ _ _ _ r h => by simp [slices_Concat_byte_byte.l0] at h, fun _ _ _ _ r h => by simp [slices_Concat_byte_byte.l1] at h⟩
 | k + 1 => by
  obtain ⟨ih0, ih1⟩ := slices_Concat_byte_byte.mono_l k
  refine ⟨?_, ?_⟩
  ·intro y0 y1 y2 y3 y4
   unfold slices_Concat_byte_byte.l0
   repeat' first
   | (with_reducible exact ih0 _ _ _ _ _)
   | (with_reducible exact ih1 _ _ _ _)
   | (with_reducible exact LeO.refl _)
   | (with_reducible exact LeO.none _)
   | (with_reducible refine LeO.ite ?_ ?_)
   | (with_reducible refine LeO.bind ?_ (fun _ => ?_))
   | exact ih0 _ _ _ _ _
   | exact ih1 _ _ _ _
   | exact LeO.none _
   | refine LeO.ite ?_ ?_
   | refine LeO.bind ?_ (fun _ => ?_)
  ·intro y0 y1 y2 y3
   unfold slices_Concat_byte_byte.l1
   repeat' first
   | (with_reducible exact ih0 _ _ _ _ _)
   | (with_reducible exact ih1 _ _ _ _)
   | (with_reducible exact LeO.refl _)
   | (with_reducible exact LeO.none _)
   | (with_reducible refine LeO.ite ?_ ?_)
   | (with_reducible refine LeO.bind ?_ (fun _ => ?_))
   | exact ih0 _ _ _ _ _
   | exact ih1 _ _ _ _
   | exact LeO.none _
   | refine LeO.ite ?_ ?_
   | refine LeO.bind ?_ (fun _ => ?_)
theorem slices_Concat_byte_byte.mono : ∀ a0 k, LeO (slices_Concat_byte_byte.f k a0) (slices_Concat_byte_byte.f (k + 1) a0) := by
 intro a0 k
 obtain ⟨ih0, ih1⟩ := slices_Concat_byte_byte.mono_l k
 unfold slices_Concat_byte_byte.f
 repeat' first
   | (with_reducible exact ih0 _ _ _ _ _)
   | (with_reducible exact ih1 _ _ _ _)
   | (with_reducible exact LeO.refl _)
   | (with_reducible exact LeO.none _)
   | (with_reducible refine LeO.ite ?_ ?_)
   | (with_reducible refine LeO.bind ?_ (fun _ => ?_))
   | exact ih0 _ _ _ _ _
   | exact ih1 _ _ _ _
   | exact LeO.none _
   | refine LeO.ite ?_ ?_
   | refine LeO.bind ?_ (fun _ => ?_)
set_option maxHeartbeats 8000000 in
set_option maxRecDepth 100000 in
theorem slices_Concat_byte_byte.calls (k : Nat) (A0 : Option Addr) (c0 : Nat) (l0 : List (List Int)) (r : List Int) (w : World) (hr0 : Kd.C (Kd.slice 5 (Kd.int .u8)) w A0 l0.length l0) (hc0 : l0.length ≤ c0) (h : slices_Concat_byte_byte.f k l0 = some r) :
  Calls Try.prog 22 #[.slice A0 l0.length c0] w fun e w' => ∃ v0_ : Value, e = .returned (v0_) ∧ Kd.R (Kd.int .u8) 5 w' w.heap.size (fun _ => True) v0_ r ∧ Below w.heap.size w w' := by
 have HR0 := Aside0.mk hr0
 have HC0 := Aside0.mk hc0
 clear hr0 hc0
 have HB := Aside0.mk (Below.refl w.heap.size w)
 have H : (slices_Concat_byte_byte.l0 k l0 0 l0 (l0.length : Int) 0) = some r := h
 clear h
 have H' := Aside0.mk H
 clear H
 go_enter Try.func22, Try.ntmps22
 go_wp2
 go_loopg [3, 11] k (fun kq v3 v11 w' => ∃ (x3_1 : Int) (x11_1 : Int), v3 = .int .i64 x3_1 ∧ v11 = .int .i64 x11_1 ∧ Aside0 (slices_Concat_byte_byte.l0 kq l0 x3_1 l0 (l0.length : Int) x11_1 = some r) ∧ Aside0 (kq ≤ k) ∧ Aside0 (Below w.heap.size w w'))
 case atStart => exact ⟨(0), (0), (by first | rfl | (simp; done) | (simp [*]; done)), (by first | rfl | (simp; done) | (simp [*]; done)), H', ⟨Nat.le_refl _⟩, ⟨by repeat (first | (with_reducible first | exact HB.out | apply below_alloc | apply pw_below_drewN | apply below_drew1) | exact HB.out)⟩⟩
 case round =>
  clear H'
  obtain ⟨x3_1, x11_1, rfl, rfl, HA, HK1, HB⟩ := hrel
  cases gk with
  | zero => exact absurd HA.out (by simp [slices_Concat_byte_byte.l0])
  | succ k1 =>
   have H := HA.out
   clear HA
   simp only [slices_Concat_byte_byte.l0] at H
   by_cases c2 : x11_1 < (l0.length : Int)
   ·rw [if_pos c2] at H
    have c2b0 : decide (x11_1 < (l0.length : Int)) = true := decide_eq_true c2
    clear c2
    by_cases c3 : 0 ≤ x11_1
    ·rw [if_pos c3] at H
     have c3b0 : decide (0 ≤ x11_1) = true := decide_eq_true c3
     clear c3
     by_cases c4 : x11_1 < (l0.length : Int)
     ·rw [if_pos c4] at H
      have c4b0 : decide (x11_1 < (l0.length : Int)) = true := decide_eq_true c4
      clear c4
      by_cases c5 : (wrap64 (x3_1 + ((rd_L1 l0 x11_1).length : Int))) < 0
      ·rw [if_pos c5] at H
       exact absurd H (by simp)
      ·rw [if_neg c5] at H
       have c5b0 : decide ((wrap64 (x3_1 + ((rd_L1 l0 x11_1).length : Int))) < 0) = false := decide_eq_false c5
       clear c5
       have H' := Aside0.mk H
       clear H
       have p110 : 0 ≤ (x11_1 : Int) := of_decide_eq_true (by first | (with_reducible assumption) | assumption)
       have q110 : x11_1 < (l0.length : Int) := of_decide_eq_true (by first | (with_reducible assumption) | assumption)
       obtain ⟨ad110, A110_0, c110_0, e110, hx110_0, hl110_0, hi110_0⟩ := at_L1 HR0.out x11_1 p110 q110
       cases e110
       replace hx110_0 := (HB.out.cell (World.block_lt_of_cell? w _ hx110_0)).trans hx110_0
       have HR110_0 := Aside0.mk hi110_0
       have HC110_0 := Aside0.mk hl110_0
       clear hi110_0 hl110_0
       replace p110 := eq_true p110
       replace q110 := eq_true q110
       go_wp2
       go_roundg k1
       case measure => have := HK1.out; omega
       case rel => exact ⟨(wrap64 (x3_1 + ((rd_L1 l0 x11_1).length : Int))), (wrap64 (x11_1 + 1)), (by first | rfl | (simp; done) | (simp [*]; done)), (by first | rfl | (simp; done) | (simp [*]; done)), H', ⟨by have := HK1.out; omega⟩, ⟨by repeat (first | (with_reducible first | exact HB.out | apply below_alloc | apply pw_below_drewN | apply below_drew1) | exact HB.out)⟩⟩
     ·rw [if_neg c4] at H
      exact absurd H (by simp)
    ·rw [if_neg c3] at H
     exact absurd H (by simp)
   ·rw [if_neg c2] at H
    have c2b0 : decide (x11_1 < (l0.length : Int)) = false := decide_eq_false c2
    clear c2
    replace H := Option.bind_eq_some_iff.mp H
    obtain ⟨t111, A60, H⟩ := H
    replace H : (slices_Concat_byte_byte.l1 k1 t111 l0 (l0.length : Int) 0) = some r := H
    have A6 := Aside0.mk A60
    clear A60
    have H' := Aside0.mk H
    clear H
    go_wp2_with (first | ((with_reducible refine gate_callee (f := 30) rfl ?_); refine goesL_ (some 24) rfl rfl Try.func30 (by kernel_rfl) rfl #[.slice none 0 0, .int .i64 x3_1] rfl (by (try simp only [List.map_toArray, List.map_cons, List.map_nil]); first | done | rfl | (simp only [List.length_drop, List.length_take]; rfl)) ?_; (refine (slices_Grow_byte_byte.calls _ _ ([] : List Int) x3_1 t111 _ ?side1 ?side2 A6.out).mono ?_); (case side1 => exact Kd.C_nil _ _); (case side2 => exact Nat.le_refl _); rintro e w7 ⟨v112, rfl, ho0, hb⟩; refine ⟨_, rfl, ?_⟩; have n0_ := Aside0.mk (Kd.R_lower ho0 (below_size (by repeat (first | (with_reducible first | exact HB.out | apply below_alloc | apply pw_below_drewN | apply below_drew1) | exact HB.out)))); have n1_ := Aside0.mk (below_step (by repeat (first | (with_reducible first | exact HB.out | apply below_alloc | apply pw_below_drewN | apply below_drew1) | exact HB.out)) hb); clear HB; have HO113 := n0_; have HB := n1_; clear n0_ n1_; (try clear hb); (try clear hb2); (try clear hk); (try clear hi); (try clear ho0)))
    go_loopg [6, 27] k1 (fun kq v6 v27 w' => ∃ (x6_2 : List Int) (x27_2 : Int), v27 = .int .i64 x27_2 ∧ Aside0 (slices_Concat_byte_byte.l1 kq x6_2 l0 (l0.length : Int) x27_2 = some r) ∧ Aside0 (kq ≤ k1) ∧ Aside0 (Kd.R (Kd.int .u8) 5 w' w.heap.size (fun _ => True) v6 x6_2) ∧ Aside0 (Below w.heap.size w w'))
    case atStart => exact ⟨(t111), (0), (by first | rfl | (simp; done) | (simp [*]; done)), H', ⟨Nat.le_refl _⟩, ⟨by (with_reducible repeat (first | apply Kd.R_alloc | apply Kd.R_drewN | apply Kd.R_drew)); exact HO113.out⟩, ⟨by repeat (first | (with_reducible first | exact HB.out | apply below_alloc | apply pw_below_drewN | apply below_drew1) | exact HB.out)⟩⟩
    case round =>
     clear H'
     try clear c1
     try clear p1
     try clear q1
     try clear hx1
     try clear c2
     try clear c2b0
     try clear p2
     try clear c3
     try clear c3b0
     try clear c4
     try clear c4b0
     try clear c5
     try clear c5b0
     try clear p6
     try clear hx110_0
     try clear p110
     try clear q110
     obtain ⟨x6_2, x27_2, rfl, HA, HK2, HO_6, HB⟩ := hrel
     cases gk with
     | zero => exact absurd HA.out (by simp [slices_Concat_byte_byte.l1])
     | succ k2 =>
      have H := HA.out
      clear HA
      simp only [slices_Concat_byte_byte.l1] at H
      by_cases c8 : x27_2 < (l0.length : Int)
      ·rw [if_pos c8] at H
       have c8b0 : decide (x27_2 < (l0.length : Int)) = true := decide_eq_true c8
       clear c8
       by_cases c9 : 0 ≤ x27_2
       ·rw [if_pos c9] at H
        have c9b0 : decide (0 ≤ x27_2) = true := decide_eq_true c9
        clear c9
        by_cases c10 : x27_2 < (l0.length : Int)
        ·rw [if_pos c10] at H
         have c10b0 : decide (x27_2 < (l0.length : Int)) = true := decide_eq_true c10
         clear c10
         by_cases c11 : x6_2.length + (rd_L1 l0 x27_2).length < 140737488355328
         ·rw [if_pos c11] at H
          have LMc11 := Aside0.mk c11
          clear c11
          obtain ⟨y115, hy115⟩ : ∃ y_ : List Int, y_ = (x6_2 ++ (rd_L1 l0 x27_2)) := ⟨_, rfl⟩
          replace H : (slices_Concat_byte_byte.l1 k2 y115 l0 (l0.length : Int) (wrap64 (x27_2 + 1))) = some r := by first | (rw [hy115]; with_reducible exact H) | (have H2_ := (Option.bind_some _ _).symm.trans H; rw [hy115]; with_reducible exact H2_) | (have H2_ := (Option.bind_some _ _).symm.trans H; with_reducible exact H2_) | with_reducible exact H | (rw [hy115]; exact H) | exact H
          have Ny115 := Aside0.mk hy115
          clear hy115
          have H' := Aside0.mk H
          clear H
          have p114 : 0 ≤ (x27_2 : Int) := of_decide_eq_true (by first | (with_reducible assumption) | assumption)
          have q114 : x27_2 < (l0.length : Int) := of_decide_eq_true (by first | (with_reducible assumption) | assumption)
          obtain ⟨ad114, A114_0, c114_0, e114, hx114_0, hl114_0, hi114_0⟩ := at_L1 HR0.out x27_2 p114 q114
          cases e114
          replace hx114_0 := (HB.out.cell (World.block_lt_of_cell? w _ hx114_0)).trans hx114_0
          have HR114_0 := Aside0.mk hi114_0
          have HC114_0 := Aside0.mk hl114_0
          clear hi114_0 hl114_0
          replace p114 := eq_true p114
          replace q114 := eq_true q114
          go_wp2_with (first | ((with_reducible refine gate_builtin (b := .append) (xs := #[.tmp 31, .tmp 32]) rfl ?_); at_builtin; refine Kd.R_append_rows (Kd.int .u8) (w0 := w) w.heap.size rfl (.tmp 31) (.tmp 32) 26 5 (.int .u8 0) 1 rfl Try.underlying26 info5 rfl (by decide) (by omega) u6 x6_2 (rd_L1 l0 x27_2) _ _ _ (fun _ => True) (fun _ => False) rfl rfl ?aO ?aR (fun _ _ h => h) (fun _ h => h.elim) ?aF ?aB ?aS ?aL ?_; (case aR => repeat (first | exact (Kd.C_below HR114_0.out HB.out) | (with_reducible refine Kd.C_alloc ?_ _) | (with_reducible refine Kd.C_drewN ?_ _) | (with_reducible refine Kd.C_drew ?_))); (case aB => exact (by repeat (first | (with_reducible first | exact HB.out | apply below_alloc | apply pw_below_drewN | apply below_drew1) | exact HB.out))); (case aF => exact (fun _ _ => trivial)); (case aO => exact (by (with_reducible repeat (first | apply Kd.R_alloc | apply Kd.R_drewN | apply Kd.R_drew)); exact HO_6.out)); (case aS => exact (below_size (by repeat (first | (with_reducible first | exact HB.out | apply below_alloc | apply pw_below_drewN | apply below_drew1) | exact HB.out)))); (case aL => have := LMc11.out; omega); intro v116 w12 ho hb hg hat; rw [← Ny115.out] at ho; have n0_ := Aside0.mk (hb); have n1_ := Aside0.mk (ho); clear HB; clear HO_6; have HB := n0_; have HO117 := n1_; clear n0_ n1_; clear ho hb hg hat))
          go_roundg k2
          case measure => have := HK1.out; have := HK2.out; omega
          case rel => exact ⟨(y115), (wrap64 (x27_2 + 1)), (by first | rfl | (simp; done) | (simp [*]; done)), H', ⟨by have := HK1.out; have := HK2.out; omega⟩, ⟨by (with_reducible repeat (first | apply Kd.R_alloc | apply Kd.R_drewN | apply Kd.R_drew)); exact HO117.out⟩, ⟨by repeat (first | (with_reducible first | exact HB.out | apply below_alloc | apply pw_below_drewN | apply below_drew1) | exact HB.out)⟩⟩
         ·rw [if_neg c11] at H
          exact absurd H (by simp)
        ·rw [if_neg c10] at H
         exact absurd H (by simp)
       ·rw [if_neg c9] at H
        exact absurd H (by simp)
      ·rw [if_neg c8] at H
       have c8b0 : decide (x27_2 < (l0.length : Int)) = false := decide_eq_false c8
       clear c8
       obtain rfl := Option.some.inj H
       go_wp2
       go_ret
       exact ⟨_, by first | rfl | (simp [errW_none, errW_some] <;> rfl) | (simp [*, errW_none, errW_some] <;> rfl), by (with_reducible repeat (first | apply Kd.R_alloc | apply Kd.R_drewN | apply Kd.R_drew)); exact HO_6.out, by repeat (first | (with_reducible first | exact HB.out | apply below_alloc | apply pw_below_drewN | apply below_drew1) | exact HB.out)⟩

/-! ### tele_pair: function 23 -/
def tele_pair.f (a0 : Int) : Option (List Int) := some (([(a0 / 256) % 256, (a0) % 256] : List Int))
set_option maxHeartbeats 8000000 in
set_option maxRecDepth 100000 in
theorem tele_pair.calls (a0 : Int) (r : List Int) (w : World) (h : tele_pair.f a0 = some r) :
  Calls Try.prog 23 #[.int .u16 a0] w fun e w' => ∃ v0_ : Value, e = .returned (v0_) ∧ Kd.R (Kd.int .u8) 5 w' w.heap.size (fun _ => True) v0_ r ∧ Below w.heap.size w w' := by
 have HB := Aside0.mk (Below.refl w.heap.size w)
 have H : (some (([(a0 / 256) % 256, (a0) % 256] : List Int))) = some r := h
 clear h
 obtain ⟨y118, hy118⟩ : ∃ y_ : List Int, y_ = (([(a0 / 256) % 256, (a0) % 256] : List Int)) := ⟨_, rfl⟩
 replace H : (some y118) = some r := by first | (rw [hy118]; with_reducible exact H) | (have H2_ := (Option.bind_some _ _).symm.trans H; rw [hy118]; with_reducible exact H2_) | (have H2_ := (Option.bind_some _ _).symm.trans H; with_reducible exact H2_) | with_reducible exact H | (rw [hy118]; exact H) | exact H
 have Ny118 := Aside0.mk hy118
 clear hy118
 obtain rfl := Option.some.inj H
 go_enter Try.func23, Try.ntmps23
 go_wp2_with (first | ((with_reducible refine gate_dst (N := 8) rfl ?_); refine Kd.R_lit (Kd.int .u8) _ 5 ?hg (N := 8) ?hd (xs := ([(a0 / 256) % 256, (a0) % 256] : List Int)) (inner := [.int .u8 ((a0 / 256) % 256), .int .u8 ((a0) % 256)]) (ok := fun _ => True) (okp := fun _ => True) ?hr ?hp (fun _ hk => hk) trivial (Below.refl _ _) (Nat.le_refl _) (by simp) ?_; (case hd => rfl); (case hg => rfl); (case hr => first | (go_simp; done) | (go_simp; rfl)); (case hp => exact (Reps.one (show Kd.M (Kd.int .u8) _ _ _ ((a0 / 256) % 256) [.int .u8 ((a0 / 256) % 256)] from rfl) (Reps.one (show Kd.M (Kd.int .u8) _ _ _ ((a0) % 256) [.int .u8 ((a0) % 256)] from rfl) (Reps.none _ _)))); intro v119 w2 ho3 hb hg_ hnew_; clear hg_ hnew_; (first | rw [← Ny118.out] at ho3 | (simp only [Int.reduceToNat] at ho3; rw [← Ny118.out] at ho3)); have n0_ := Aside0.mk (Kd.R_lower ho3 (below_size (by repeat (first | (with_reducible first | exact HB.out | apply below_alloc | apply pw_below_drewN | apply below_drew1) | exact HB.out)))); have n1_ := Aside0.mk (below_step (by repeat (first | (with_reducible first | exact HB.out | apply below_alloc | apply pw_below_drewN | apply below_drew1) | exact HB.out)) hb); clear HB; have HO120 := n0_; have HB := n1_; clear n0_ n1_; clear hb ho3))
 go_ret
 exact ⟨_, by first | rfl | (simp [errW_none, errW_some] <;> rfl) | (simp [*, errW_none, errW_some] <;> rfl), by (with_reducible repeat (first | apply Kd.R_alloc | apply Kd.R_drewN | apply Kd.R_drew)); exact HO120.out, by repeat (first | (with_reducible first | exact HB.out | apply below_alloc | apply pw_below_drewN | apply below_drew1) | exact HB.out)⟩

/-! ### crc_Step: function 31 -/
def crc_Step.f (a0 : Int) (a1 : Int) : Option (Int) := some (Go.bits .xor .u16 (Go.bits .xor .u16 (Go.bits .xor .u16 (IntKind.u16.wrap (a0 * 256)) (IntKind.u16.wrap ((Go.bits .xor .u16 (Go.bits .xor .u16 (a0 / 256) (IntKind.u16.wrap (a1))) ((Go.bits .xor .u16 (a0 / 256) (IntKind.u16.wrap (a1))) / 16)) * 4096))) (IntKind.u16.wrap ((Go.bits .xor .u16 (Go.bits .xor .u16 (a0 / 256) (IntKind.u16.wrap (a1))) ((Go.bits .xor .u16 (a0 / 256) (IntKind.u16.wrap (a1))) / 16)) * 32))) (Go.bits .xor .u16 (Go.bits .xor .u16 (a0 / 256) (IntKind.u16.wrap (a1))) ((Go.bits .xor .u16 (a0 / 256) (IntKind.u16.wrap (a1))) / 16)))
set_option maxHeartbeats 8000000 in
set_option maxRecDepth 100000 in
theorem crc_Step.calls (a0 : Int) (a1 : Int) (r : Int) (w : World) (h : crc_Step.f a0 a1 = some r) :
  Calls Try.prog 31 #[.int .u16 a0, .int .u8 a1] w fun e w' => e = .returned (.int .u16 r) ∧ Drawn0 w w' := by
 have H : (some (Go.bits .xor .u16 (Go.bits .xor .u16 (Go.bits .xor .u16 (IntKind.u16.wrap (a0 * 256)) (IntKind.u16.wrap ((Go.bits .xor .u16 (Go.bits .xor .u16 (a0 / 256) (IntKind.u16.wrap (a1))) ((Go.bits .xor .u16 (a0 / 256) (IntKind.u16.wrap (a1))) / 16)) * 4096))) (IntKind.u16.wrap ((Go.bits .xor .u16 (Go.bits .xor .u16 (a0 / 256) (IntKind.u16.wrap (a1))) ((Go.bits .xor .u16 (a0 / 256) (IntKind.u16.wrap (a1))) / 16)) * 32))) (Go.bits .xor .u16 (Go.bits .xor .u16 (a0 / 256) (IntKind.u16.wrap (a1))) ((Go.bits .xor .u16 (a0 / 256) (IntKind.u16.wrap (a1))) / 16)))) = some r := h
 clear h
 obtain rfl := Option.some.inj H
 go_enter Try.func31, Try.ntmps31
 go_wp2
 go_ret
 exact ⟨by first | rfl | (simp; done) | (simp [*]; done), by repeat (first | exact Drawn0.refl _ | apply Drawn0.step)⟩

/-! ### crc_Sum: function 24 -/
def crc_Sum.l0 : Nat → Int → List Int → Int → Int → Option (Int)
 | 0, _, _, _, _ => none
 | k + 1, x3, x6, x7, x8 => if x8 < x7 then (if 0 ≤ x8 then (if x8 < (x6.length : Int) then ((crc_Step.f x3 (rd x6 x8)).bind fun t122 => (crc_Sum.l0 k t122 x6 x7 (wrap64 (x8 + 1)))) else (none)) else (none)) else (some x3)
def crc_Sum.f (k : Nat) (l0 : List Int) : Option (Int) := crc_Sum.l0 k 65535 l0 (l0.length : Int) 0
theorem crc_Sum.mono_l : ∀ k, (∀ y0 y1 y2 y3, LeO (crc_Sum.l0 k y0 y1 y2 y3) (crc_Sum.l0 (k + 1) y0 y1 y2 y3))
 | 0 => fun _ _ _ _ r h => by simp [crc_Sum.l0] at h
 | k + 1 => by
  have ih0 := crc_Sum.mono_l k
  ·intro y0 y1 y2 y3
   unfold crc_Sum.l0
   repeat' first
   | (with_reducible exact ih0 _ _ _ _)
   | (with_reducible exact LeO.refl _)
   | (with_reducible exact LeO.none _)
   | (with_reducible refine LeO.ite ?_ ?_)
   | (with_reducible refine LeO.bind ?_ (fun _ => ?_))
   | exact ih0 _ _ _ _
   | exact LeO.none _
   | refine LeO.ite ?_ ?_
   | refine LeO.bind ?_ (fun _ => ?_)
theorem crc_Sum.mono : ∀ a0 k, LeO (crc_Sum.f k a0) (crc_Sum.f (k + 1) a0) := by
 intro a0 k
 have ih0 := crc_Sum.mono_l k
 unfold crc_Sum.f
 repeat' first
   | (with_reducible exact ih0 _ _ _ _)
   | (with_reducible exact LeO.refl _)
   | (with_reducible exact LeO.none _)
   | (with_reducible refine LeO.ite ?_ ?_)
   | (with_reducible refine LeO.bind ?_ (fun _ => ?_))
   | exact ih0 _ _ _ _
   | exact LeO.none _
   | refine LeO.ite ?_ ?_
   | refine LeO.bind ?_ (fun _ => ?_)
set_option maxHeartbeats 8000000 in
set_option maxRecDepth 100000 in
theorem crc_Sum.calls (k : Nat) (A0 : Option Addr) (c0 : Nat) (l0 : List Int) (r : Int) (w : World) (hr0 : Kd.C (Kd.int .u8) w A0 l0.length l0) (hc0 : l0.length ≤ c0) (h : crc_Sum.f k l0 = some r) :
  Calls Try.prog 24 #[.slice A0 l0.length c0] w fun e w' => e = .returned (.int .u16 r) ∧ Drawn0 w w' := by
 have HR0 := Aside0.mk hr0
 have HC0 := Aside0.mk hc0
 clear hr0 hc0
 have H : (crc_Sum.l0 k 65535 l0 (l0.length : Int) 0) = some r := h
 clear h
 have H' := Aside0.mk H
 clear H
 go_enter Try.func24, Try.ntmps24
 go_wp2
 go_loopg [3, 8] k (fun kq v3 v8 w' => ∃ (x3_1 : Int) (x8_1 : Int), v3 = .int .u16 x3_1 ∧ v8 = .int .i64 x8_1 ∧ Aside0 (crc_Sum.l0 kq x3_1 l0 (l0.length : Int) x8_1 = some r) ∧ Aside0 (kq ≤ k) ∧ Drawn0 w w')
 case atStart => exact ⟨(65535), (0), (by first | rfl | (simp; done) | (simp [*]; done)), (by first | rfl | (simp; done) | (simp [*]; done)), H', ⟨Nat.le_refl _⟩, by repeat (first | exact Drawn0.refl _ | apply Drawn0.step)⟩
 case round =>
  clear H'
  obtain ⟨x3_1, x8_1, rfl, rfl, HA, HK1, ⟨m1, rfl⟩⟩ := hrel
  cases gk with
  | zero => exact absurd HA.out (by simp [crc_Sum.l0])
  | succ k1 =>
   have H := HA.out
   clear HA
   simp only [crc_Sum.l0] at H
   by_cases c2 : x8_1 < (l0.length : Int)
   ·rw [if_pos c2] at H
    have c2b0 : decide (x8_1 < (l0.length : Int)) = true := decide_eq_true c2
    clear c2
    by_cases c3 : 0 ≤ x8_1
    ·rw [if_pos c3] at H
     have c3b0 : decide (0 ≤ x8_1) = true := decide_eq_true c3
     clear c3
     by_cases c4 : x8_1 < (l0.length : Int)
     ·rw [if_pos c4] at H
      have c4b0 : decide (x8_1 < (l0.length : Int)) = true := decide_eq_true c4
      clear c4
      replace H := Option.bind_eq_some_iff.mp H
      obtain ⟨t122, A50, H⟩ := H
      replace H : (crc_Sum.l0 k1 t122 l0 (l0.length : Int) (wrap64 (x8_1 + 1))) = some r := H
      have A5 := Aside0.mk A50
      clear A50
      have H' := Aside0.mk H
      clear H
      have p121 : 0 ≤ (x8_1 : Int) := of_decide_eq_true (by first | (with_reducible assumption) | assumption)
      have q121 : x8_1 < (l0.length : Int) := of_decide_eq_true (by first | (with_reducible assumption) | assumption)
      obtain ⟨ad121, e121, hx121_0⟩ := Kd.at_int HR0.out x8_1 p121 q121
      cases e121
      replace p121 := eq_true p121
      replace q121 := eq_true q121
      go_wp2_with (first | ((with_reducible refine gate_callee (f := 31) rfl ?_); refine goesL_ (some 14) rfl rfl Try.func31 (by kernel_rfl) rfl #[.int .u16 x3_1, .int .u8 (rd l0 x8_1)] rfl (by (try simp only [List.map_toArray, List.map_cons, List.map_nil]); first | done | rfl | (simp only [List.length_drop, List.length_take]; rfl)) ?_; (with_reducible refine (crc_Step.calls x3_1 (rd l0 x8_1) t122 _ A5.out).mono ?_); rintro e w' ⟨rfl, ⟨nd, rfl⟩⟩; refine ⟨_, rfl, ?_⟩))
      go_roundg k1
      case measure => have := HK1.out; omega
      case rel => exact ⟨(t122), (wrap64 (x8_1 + 1)), (by first | rfl | (simp; done) | (simp [*]; done)), (by first | rfl | (simp; done) | (simp [*]; done)), H', ⟨by have := HK1.out; omega⟩, by repeat (first | exact Drawn0.refl _ | apply Drawn0.step)⟩
     ·rw [if_neg c4] at H
      exact absurd H (by simp)
    ·rw [if_neg c3] at H
     exact absurd H (by simp)
   ·rw [if_neg c2] at H
    have c2b0 : decide (x8_1 < (l0.length : Int)) = false := decide_eq_false c2
    clear c2
    obtain rfl := Option.some.inj H
    go_wp2
    go_ret
    exact ⟨by first | rfl | (simp; done) | (simp [*]; done), by repeat (first | exact Drawn0.refl _ | apply Drawn0.step)⟩

/-! ### tele_Encode: function 12 -/
def tele_Encode.f (k : Nat) (a0_0 : Int) (a0_1 : Int) (a0_2 : Int) (a0_3 : Int) (a0_4 : Int) : Option (List Int × Int) := (tele_Check.f k a0_0 a0_1 a0_2 a0_3 a0_4).bind fun t124 => (if t124 = 0 then ((tele_pair.f a0_1).bind fun t128 => ((tele_pair.f a0_2).bind fun t131 => ((tele_pair.f a0_3).bind fun t134 => ((tele_pair.f a0_4).bind fun t137 => ((slices_Concat_byte_byte.f k (([(([165, a0_0] : List Int)), t128, t131, t134, t137] : List (List Int)))).bind fun t143 => ((crc_Sum.f k t143).bind fun t146 => ((tele_pair.f t146).bind fun t147 => ((slices_Concat_byte_byte.f k (([t143, t147] : List (List Int)))).bind fun t153 => (some (t153, 0)))))))))) else (some (([] : List Int), t124)))
theorem tele_Encode.mono : ∀ a0 a1 a2 a3 a4 k, LeO (tele_Encode.f k a0 a1 a2 a3 a4) (tele_Encode.f (k + 1) a0 a1 a2 a3 a4) := by
 intro a0 a1 a2 a3 a4 k
 unfold tele_Encode.f
 repeat' first
   | (with_reducible exact crc_Sum.mono _ _)
   | (with_reducible exact slices_Concat_byte_byte.mono _ _)
   | (with_reducible exact tele_Check.mono _ _ _ _ _ _)
   | (with_reducible exact LeO.refl _)
   | (with_reducible exact LeO.none _)
   | (with_reducible refine LeO.ite ?_ ?_)
   | (with_reducible refine LeO.bind ?_ (fun _ => ?_))
   | exact crc_Sum.mono _ _
   | exact slices_Concat_byte_byte.mono _ _
   | exact tele_Check.mono _ _ _ _ _ _
   | exact LeO.none _
   | refine LeO.ite ?_ ?_
   | refine LeO.bind ?_ (fun _ => ?_)
def tele_Encode.T4 : Bool × List (List Nat × List Nat) := (true, [([], []), ([0], [0]), ([1], [1]), ([], []), ([3], [3]), ([4], [4]), ([], []), ([6], [6]), ([7, 5], [7]), ([], []), ([9], [9]), ([10, 8], [10]), ([], []), ([12], [12]), ([13, 11], [13]), ([2, 5, 8, 11, 14], [2, 5, 8, 11, 14]), ([15, 14], [15]), ([16, 16, 0, 1, 2, 3, 4, 5, 6, 7, 8, 9, 10, 11, 12, 13, 14, 15, 16], [16])])
def tele_Encode.B4 : List Nat := [0, 1, 3, 0, 8, 24, 0, 64, 248, 0, 512, 2040, 0, 4096, 16376, 32767, 65535, 131071]
theorem tele_Encode.tab4 : rtab .any (opsOf Try.f12 4) = tele_Encode.T4 := by kernel_rfl
theorem tele_Encode.bits4 : waitsOk tele_Encode.T4.2 tele_Encode.B4 = true := by kernel_rfl
set_option maxHeartbeats 8000000 in
set_option maxRecDepth 100000 in
theorem tele_Encode.calls (k : Nat) (a0_0 : Int) (a0_1 : Int) (a0_2 : Int) (a0_3 : Int) (a0_4 : Int) (r1 : List Int) (r2 : Int) (w : World) (h : tele_Encode.f k a0_0 a0_1 a0_2 a0_3 a0_4 = some (r1, r2)) :
  Calls Try.prog 12 #[.agg #[.int .u8 a0_0, .int .u16 a0_1, .int .u16 a0_2, .int .u16 a0_3, .int .u16 a0_4]] w fun e w' => ∃ v0_ : Value, e = .returned (.tuple #[v0_, .int .i64 r2]) ∧ Kd.R (Kd.int .u8) 5 w' w.heap.size (fun _ => True) v0_ r1 ∧ Below w.heap.size w w' := by
 have hu24 := Try.underlying24
 have HB := Aside0.mk (Below.refl w.heap.size w)
 have H : ((tele_Check.f k a0_0 a0_1 a0_2 a0_3 a0_4).bind fun t124 => (if t124 = 0 then ((tele_pair.f a0_1).bind fun t128 => ((tele_pair.f a0_2).bind fun t131 => ((tele_pair.f a0_3).bind fun t134 => ((tele_pair.f a0_4).bind fun t137 => ((slices_Concat_byte_byte.f k (([(([165, a0_0] : List Int)), t128, t131, t134, t137] : List (List Int)))).bind fun t143 => ((crc_Sum.f k t143).bind fun t146 => ((tele_pair.f t146).bind fun t147 => ((slices_Concat_byte_byte.f k (([t143, t147] : List (List Int)))).bind fun t153 => (some (t153, 0)))))))))) else (some (([] : List Int), t124)))) = some (r1, r2) := h
 clear h
 replace H := Option.bind_eq_some_iff.mp H
 obtain ⟨t124, A20, H⟩ := H
 replace H : (if t124 = 0 then ((tele_pair.f a0_1).bind fun t128 => ((tele_pair.f a0_2).bind fun t131 => ((tele_pair.f a0_3).bind fun t134 => ((tele_pair.f a0_4).bind fun t137 => ((slices_Concat_byte_byte.f k (([(([165, a0_0] : List Int)), t128, t131, t134, t137] : List (List Int)))).bind fun t143 => ((crc_Sum.f k t143).bind fun t146 => ((tele_pair.f t146).bind fun t147 => ((slices_Concat_byte_byte.f k (([t143, t147] : List (List Int)))).bind fun t153 => (some (t153, 0)))))))))) else (some (([] : List Int), t124))) = some (r1, r2) := H
 have A2 := Aside0.mk A20
 clear A20
 by_cases c3 : t124 = 0
 ·rw [if_pos c3] at H
  have c3b0 : (t124 == 0) = true := beq_iff_eq.mpr c3
  have c3b1 : (t124 != 0) = false := bne_eq_false_iff_eq.mpr c3
  clear c3
  obtain ⟨y125, hy125⟩ : ∃ y_ : List Int, y_ = (([165, a0_0] : List Int)) := ⟨_, rfl⟩
  replace H : ((tele_pair.f a0_1).bind fun t128 => ((tele_pair.f a0_2).bind fun t131 => ((tele_pair.f a0_3).bind fun t134 => ((tele_pair.f a0_4).bind fun t137 => ((slices_Concat_byte_byte.f k (([y125, t128, t131, t134, t137] : List (List Int)))).bind fun t143 => ((crc_Sum.f k t143).bind fun t146 => ((tele_pair.f t146).bind fun t147 => ((slices_Concat_byte_byte.f k (([t143, t147] : List (List Int)))).bind fun t153 => (some (t153, 0)))))))))) = some (r1, r2) := by first | (rw [hy125]; with_reducible exact H) | (have H2_ := (Option.bind_some _ _).symm.trans H; rw [hy125]; with_reducible exact H2_) | (have H2_ := (Option.bind_some _ _).symm.trans H; with_reducible exact H2_) | with_reducible exact H | (rw [hy125]; exact H) | exact H
  have Ny125 := Aside0.mk hy125
  clear hy125
  replace H := Option.bind_eq_some_iff.mp H
  obtain ⟨t128, A40, H⟩ := H
  replace H : ((tele_pair.f a0_2).bind fun t131 => ((tele_pair.f a0_3).bind fun t134 => ((tele_pair.f a0_4).bind fun t137 => ((slices_Concat_byte_byte.f k (([y125, t128, t131, t134, t137] : List (List Int)))).bind fun t143 => ((crc_Sum.f k t143).bind fun t146 => ((tele_pair.f t146).bind fun t147 => ((slices_Concat_byte_byte.f k (([t143, t147] : List (List Int)))).bind fun t153 => (some (t153, 0))))))))) = some (r1, r2) := H
  have A4 := Aside0.mk A40
  clear A40
  replace H := Option.bind_eq_some_iff.mp H
  obtain ⟨t131, A50, H⟩ := H
  replace H : ((tele_pair.f a0_3).bind fun t134 => ((tele_pair.f a0_4).bind fun t137 => ((slices_Concat_byte_byte.f k (([y125, t128, t131, t134, t137] : List (List Int)))).bind fun t143 => ((crc_Sum.f k t143).bind fun t146 => ((tele_pair.f t146).bind fun t147 => ((slices_Concat_byte_byte.f k (([t143, t147] : List (List Int)))).bind fun t153 => (some (t153, 0)))))))) = some (r1, r2) := H
  have A5 := Aside0.mk A50
  clear A50
  replace H := Option.bind_eq_some_iff.mp H
  obtain ⟨t134, A60, H⟩ := H
  replace H : ((tele_pair.f a0_4).bind fun t137 => ((slices_Concat_byte_byte.f k (([y125, t128, t131, t134, t137] : List (List Int)))).bind fun t143 => ((crc_Sum.f k t143).bind fun t146 => ((tele_pair.f t146).bind fun t147 => ((slices_Concat_byte_byte.f k (([t143, t147] : List (List Int)))).bind fun t153 => (some (t153, 0))))))) = some (r1, r2) := H
  have A6 := Aside0.mk A60
  clear A60
  replace H := Option.bind_eq_some_iff.mp H
  obtain ⟨t137, A70, H⟩ := H
  replace H : ((slices_Concat_byte_byte.f k (([y125, t128, t131, t134, t137] : List (List Int)))).bind fun t143 => ((crc_Sum.f k t143).bind fun t146 => ((tele_pair.f t146).bind fun t147 => ((slices_Concat_byte_byte.f k (([t143, t147] : List (List Int)))).bind fun t153 => (some (t153, 0)))))) = some (r1, r2) := H
  have A7 := Aside0.mk A70
  clear A70
  obtain ⟨y140, hy140⟩ : ∃ y_ : List (List Int), y_ = (([y125, t128, t131, t134, t137] : List (List Int))) := ⟨_, rfl⟩
  replace H : ((slices_Concat_byte_byte.f k y140).bind fun t143 => ((crc_Sum.f k t143).bind fun t146 => ((tele_pair.f t146).bind fun t147 => ((slices_Concat_byte_byte.f k (([t143, t147] : List (List Int)))).bind fun t153 => (some (t153, 0)))))) = some (r1, r2) := by first | (rw [hy140]; with_reducible exact H) | (have H2_ := (Option.bind_some _ _).symm.trans H; rw [hy140]; with_reducible exact H2_) | (have H2_ := (Option.bind_some _ _).symm.trans H; with_reducible exact H2_) | with_reducible exact H | (rw [hy140]; exact H) | exact H
  have Ny140 := Aside0.mk hy140
  clear hy140
  replace H := Option.bind_eq_some_iff.mp H
  obtain ⟨t143, A80, H⟩ := H
  replace H : ((crc_Sum.f k t143).bind fun t146 => ((tele_pair.f t146).bind fun t147 => ((slices_Concat_byte_byte.f k (([t143, t147] : List (List Int)))).bind fun t153 => (some (t153, 0))))) = some (r1, r2) := H
  have A8 := Aside0.mk A80
  clear A80
  replace H := Option.bind_eq_some_iff.mp H
  obtain ⟨t146, A90, H⟩ := H
  replace H : ((tele_pair.f t146).bind fun t147 => ((slices_Concat_byte_byte.f k (([t143, t147] : List (List Int)))).bind fun t153 => (some (t153, 0)))) = some (r1, r2) := H
  have A9 := Aside0.mk A90
  clear A90
  replace H := Option.bind_eq_some_iff.mp H
  obtain ⟨t147, A100, H⟩ := H
  replace H : ((slices_Concat_byte_byte.f k (([t143, t147] : List (List Int)))).bind fun t153 => (some (t153, 0))) = some (r1, r2) := H
  have A10 := Aside0.mk A100
  clear A100
  obtain ⟨y150, hy150⟩ : ∃ y_ : List (List Int), y_ = (([t143, t147] : List (List Int))) := ⟨_, rfl⟩
  replace H : ((slices_Concat_byte_byte.f k y150).bind fun t153 => (some (t153, 0))) = some (r1, r2) := by first | (rw [hy150]; with_reducible exact H) | (have H2_ := (Option.bind_some _ _).symm.trans H; rw [hy150]; with_reducible exact H2_) | (have H2_ := (Option.bind_some _ _).symm.trans H; with_reducible exact H2_) | with_reducible exact H | (rw [hy150]; exact H) | exact H
  have Ny150 := Aside0.mk hy150
  clear hy150
  replace H := Option.bind_eq_some_iff.mp H
  obtain ⟨t153, A110, H⟩ := H
  replace H : (some (t153, 0)) = some (r1, r2) := H
  have A11 := Aside0.mk A110
  clear A110
  simp only [Option.some.injEq, Prod.mk.injEq] at H
  obtain ⟨rfl, rfl⟩ := H
  go_enter Try.func12, Try.ntmps12
  try go_wp2_with (first | ((with_reducible refine gate_dst (N := 1) rfl ?_); refine box_event ?hg (N := 1) ?hd (cs := #[.int .u8 a0_0, .int .u16 a0_1, .int .u16 a0_2, .int .u16 a0_3, .int .u16 a0_4]) (t := 24) ?hr ?_; (case hd => rfl); (case hg => rfl); (case hr => first | (go_simp; done) | (go_simp; rfl)); intro gb123 hg w12 hbox hb; have n0_ := Aside0.mk (below_step (by repeat (first | (with_reducible first | exact HB.out | apply below_alloc | apply pw_below_drewN | apply below_drew1) | exact HB.out)) hb); have n1_ := Aside0.mk (hbox); have n2_ := Aside0.mk ((by rw [hg]; exact (below_size (by repeat (first | (with_reducible first | exact HB.out | apply below_alloc | apply pw_below_drewN | apply below_drew1) | exact HB.out))) : w.heap.size ≤ gb123)); have n3_ := Aside0.mk ((by rw [hg]; exact (below_size (by repeat (first | (with_reducible first | exact HB.out | apply below_alloc | apply pw_below_drewN | apply below_drew1) | exact HB.out))) : w.heap.size ≤ gb123)); clear HB; have HB := n0_; have BK123 := n1_; have GW123 := n2_; have GE123 := n3_; clear n0_ n1_ n2_ n3_; clear hb hbox hg; have hcz13_0 : w12.cell? ⟨gb123, 0, none⟩ = some (.int .u8 a0_0) := (blk_cell BK123.out 0).trans rfl; have hcz13_1 : w12.cell? ⟨gb123, 1, none⟩ = some (.int .u16 a0_1) := (blk_cell BK123.out 1).trans rfl; have hcz13_2 : w12.cell? ⟨gb123, 2, none⟩ = some (.int .u16 a0_2) := (blk_cell BK123.out 2).trans rfl; have hcz13_3 : w12.cell? ⟨gb123, 3, none⟩ = some (.int .u16 a0_3) := (blk_cell BK123.out 3).trans rfl; have hcz13_4 : w12.cell? ⟨gb123, 4, none⟩ = some (.int .u16 a0_4) := (blk_cell BK123.out 4).trans rfl; have hfz13_0 := blk_frozen BK123.out 0; have hfz13_1 := blk_frozen BK123.out 1; have hfz13_2 := blk_frozen BK123.out 2; have hfz13_3 := blk_frozen BK123.out 3; have hfz13_4 := blk_frozen BK123.out 4) | ((with_reducible refine gate_callee (f := 14) rfl ?_); refine goesL_ (some 7) rfl rfl Try.func14 (by kernel_rfl) rfl #[.agg #[.int .u8 a0_0, .int .u16 a0_1, .int .u16 a0_2, .int .u16 a0_3, .int .u16 a0_4]] rfl (by (try simp only [List.map_toArray, List.map_cons, List.map_nil]); first | done | rfl | (simp only [List.length_drop, List.length_take]; rfl)) ?_; (with_reducible refine (tele_Check.calls k a0_0 a0_1 a0_2 a0_3 a0_4 t124 _ A2.out).mono ?_); rintro e w14 ⟨rfl, hb⟩; refine ⟨_, rfl, ?_⟩; have n0_ := Aside0.mk (blk_below (g := gb123) (o := .cells #[.int .u8 a0_0, .int .u16 a0_1, .int .u16 a0_2, .int .u16 a0_3, .int .u16 a0_4] 24 (0, 0)) (by (with_reducible repeat (first | refine blk_drewN ?_ _ | refine blk_drew ?_ | refine blk_alloc ?_ _)); exact BK123.out) hb); have n1_ := Aside0.mk (below_step (by repeat (first | (with_reducible first | exact HB.out | apply below_alloc | apply pw_below_drewN | apply below_drew1 | refine below_set ?_ GE123.out) | exact HB.out)) hb); clear BK123; clear HB; have BK123 := n0_; have HB := n1_; clear n0_ n1_; (try clear hb); (try clear hb2); (try clear hk); (try clear hi)))
  have n0_ := Aside0.mk (blk_drew BK123.out)
  have n1_ := Aside0.mk (below_drew1 HB.out)
  clear BK123
  clear HB
  have BK123 := n0_
  have HB := n1_
  clear n0_ n1_
  refine start_ (n := 18) (S := fun w' => True) (ds := []) #[false, false, false, false, false, false, false, false, false, false, false, false, false, false, false, false, false, false] (by kernel_rfl) rfl rfl trivial (fun hHeld => ?_); refine with_tabW tele_Encode.tab4 tele_Encode.bits4 (fun HT_ HW_ => ?_)
  generalize w14.drew = w15 at BK123 HB hHeld ⊢
  refine pure_ (i := 0) (N := some 11) (v := ?_) (a' := ?_) #[true, false, false, false, false, false, false, false, false, false, false, false, false, false, false, false, false, false] rfl rfl (any_of HT_.out (by kernel_rfl)) (fun _ _ _ h => h) (Or.inl ⟨by rfl, ?_⟩) ?_ ?_
  rotate_left
  ·intro w'
   go_simp
   with_reducible rfl
  rotate_left
  ·simp only [Act.put, List.setIfInBounds_toArray, List.set_cons_zero, List.set_cons_succ, i64_w, i32_w]
   rfl
  refine pure_ (i := 3) (N := some 14) (v := ?_) (a' := ?_) #[true, false, false, true, false, false, false, false, false, false, false, false, false, false, false, false, false, false] rfl rfl (any_of HT_.out (by kernel_rfl)) (fun _ _ _ h => h) (Or.inl ⟨by rfl, ?_⟩) ?_ ?_
  rotate_left
  ·intro w'
   go_simp
   with_reducible rfl
  rotate_left
  ·simp only [Act.put, List.setIfInBounds_toArray, List.set_cons_zero, List.set_cons_succ, i64_w, i32_w]
   rfl
  refine pure_ (i := 6) (N := some 17) (v := ?_) (a' := ?_) #[true, false, false, true, false, false, true, false, false, false, false, false, false, false, false, false, false, false] rfl rfl (any_of HT_.out (by kernel_rfl)) (fun _ _ _ h => h) (Or.inl ⟨by rfl, ?_⟩) ?_ ?_
  rotate_left
  ·intro w'
   go_simp
   with_reducible rfl
  rotate_left
  ·simp only [Act.put, List.setIfInBounds_toArray, List.set_cons_zero, List.set_cons_succ, i64_w, i32_w]
   rfl
  refine pure_ (i := 9) (N := some 20) (v := ?_) (a' := ?_) #[true, false, false, true, false, false, true, false, false, true, false, false, false, false, false, false, false, false] rfl rfl (any_of HT_.out (by kernel_rfl)) (fun _ _ _ h => h) (Or.inl ⟨by rfl, ?_⟩) ?_ ?_
  rotate_left
  ·intro w'
   go_simp
   with_reducible rfl
  rotate_left
  ·simp only [Act.put, List.setIfInBounds_toArray, List.set_cons_zero, List.set_cons_succ, i64_w, i32_w]
   rfl
  refine pure_ (i := 12) (N := some 23) (v := ?_) (a' := ?_) #[true, false, false, true, false, false, true, false, false, true, false, false, true, false, false, false, false, false] rfl rfl (any_of HT_.out (by kernel_rfl)) (fun _ _ _ h => h) (Or.inl ⟨by rfl, ?_⟩) ?_ ?_
  rotate_left
  ·intro w'
   go_simp
   with_reducible rfl
  rotate_left
  ·simp only [Act.put, List.setIfInBounds_toArray, List.set_cons_zero, List.set_cons_succ, i64_w, i32_w]
   rfl
  refine inv_at [1, 2, 4, 5, 7, 8, 10, 11, 13, 14, 15, 16, 17] (fun a0_ b a w' => ∃ (v126 : Value) (v129 : Value) (v132 : Value) (v135 : Value) (v138 : Value) (v141 : Value) (v144 : Value) (m17_ : Value), a = putSel a0_ b [(1, 12, .int .u8 a0_0), (2, 13, v126), (4, 15, .int .u16 a0_1), (5, 16, v129), (7, 18, .int .u16 a0_2), (8, 19, v132), (10, 21, .int .u16 a0_3), (11, 22, v135), (13, 24, .int .u16 a0_4), (14, 25, v138), (15, 26, v141), (16, 27, v144), (17, 5, m17_)] ∧ (w'.heap[gb123]? = some (.cells #[.int .u8 a0_0, .int .u16 a0_1, .int .u16 a0_2, .int .u16 a0_3, .int .u16 a0_4] 24 (0, 0))) ∧ (Below w.heap.size w w') ∧ (b 2 = true → b 15 = false → Kd.R (Kd.int .u8) 5 w' w.heap.size (fun _ => True) v126 y125) ∧ (b 5 = true → b 15 = false → Kd.R (Kd.int .u8) 5 w' w.heap.size (fun _ => True) v129 t128) ∧ (b 8 = true → b 15 = false → Kd.R (Kd.int .u8) 5 w' w.heap.size (fun _ => True) v132 t131) ∧ (b 11 = true → b 15 = false → Kd.R (Kd.int .u8) 5 w' w.heap.size (fun _ => True) v135 t134) ∧ (b 14 = true → b 15 = false → Kd.R (Kd.int .u8) 5 w' w.heap.size (fun _ => True) v138 t137) ∧ (b 15 = true → Kd.N (Kd.slice 5 (Kd.int .u8)) 26 w' w.heap.size (fun k_ => k_ ≠ gb123) v141 y140) ∧ (b 16 = true → Kd.R (Kd.int .u8) 5 w' w.heap.size (fun _ => True) v144 t143) ∧ (b 17 = true → (m17_ : Value) = v144)) HT_.out HW_.out (by kernel_rfl) (by kernel_rfl) ?_ ?_ ?_
  ·exact ⟨.bool false, .bool false, .bool false, .bool false, .bool false, .bool false, .bool false, .bool false, by simp only [putSel, Bool.false_eq_true, if_false], BK123.out, HB.out, fun h_ => absurd h_ (by decide), fun h_ => absurd h_ (by decide), fun h_ => absurd h_ (by decide), fun h_ => absurd h_ (by decide), fun h_ => absurd h_ (by decide), fun h_ => absurd h_ (by decide), fun h_ => absurd h_ (by decide), fun h_ => absurd h_ (by decide)⟩
  ·skip
   clear BK123 HB
   refine steps_cons ?_ ?_
   ·rintro b a w' ⟨v126, v129, v132, v135, v138, v141, v144, m17_, ha, Q_BK123, Q_HB, Q_HO127, Q_HO130, Q_HO133, Q_HO136, Q_HO139, Q_HO142, Q_HO145, Q_X17_⟩ hb_ hon hoff
    refine ⟨_, rfl, fun K hK => ?_⟩
    have e11 : a.tmps[11]? = some (.pointer (some ⟨gb123, 0, none⟩)) := by rw [ha]; exact (putSel_off rfl).trans rfl
    replace ha := Aside0.mk ha
    have BK123 := Aside0.mk Q_BK123
    have HB := Aside0.mk Q_HB
    have hc0_ : w'.cell? ⟨gb123, 0, none⟩ = some (.int .u8 a0_0) := (blk_cell BK123.out 0).trans rfl
    have hc1_ : w'.cell? ⟨gb123, 1, none⟩ = some (.int .u16 a0_1) := (blk_cell BK123.out 1).trans rfl
    have hc2_ : w'.cell? ⟨gb123, 2, none⟩ = some (.int .u16 a0_2) := (blk_cell BK123.out 2).trans rfl
    have hc3_ : w'.cell? ⟨gb123, 3, none⟩ = some (.int .u16 a0_3) := (blk_cell BK123.out 3).trans rfl
    have hc4_ : w'.cell? ⟨gb123, 4, none⟩ = some (.int .u16 a0_4) := (blk_cell BK123.out 4).trans rfl
    refine value_ (w1 := w') (v := .int .u8 a0_0) (by rfl) rfl ?_ ?_
    ·go_simp
     (try simp only [i64_w])
     try rfl
    refine hK.out _ _ ⟨v126, v129, v132, v135, v138, v141, v144, m17_, (by rw [ha.out]; exact putSel_upk 0 hb_ rfl rfl rfl), Q_BK123, Q_HB, fun h0_ _ => absurd ((hoff 2 (by kernel_rfl)).symm.trans h0_) (by decide), Q_HO130, Q_HO133, Q_HO136, Q_HO139, fun h0_ => absurd ((hoff 15 (by kernel_rfl)).symm.trans h0_) (by decide), fun h0_ => absurd ((hoff 16 (by kernel_rfl)).symm.trans h0_) (by decide), fun h0_ => absurd ((hoff 17 (by kernel_rfl)).symm.trans h0_) (by decide)⟩
   refine steps_cons ?_ ?_
   ·rintro b a w' ⟨v126, v129, v132, v135, v138, v141, v144, m17_, ha, Q_BK123, Q_HB, Q_HO127, Q_HO130, Q_HO133, Q_HO136, Q_HO139, Q_HO142, Q_HO145, Q_X17_⟩ hb_ hon hoff
    refine ⟨_, rfl, fun K hK => ?_⟩
    have e12 : a.tmps[12]? = some (.int .u8 a0_0) := by rw [ha]; exact putSel_on (e := (1, 12, .int .u8 a0_0)) 0 rfl rfl (hon 1 (by kernel_rfl)) rfl
    replace ha := Aside0.mk ha
    have BK123 := Aside0.mk Q_BK123
    have HB := Aside0.mk Q_HB
    refine Kd.R_lit_step (Kd.int .u8) _ 5 ?hg (N := 13) ?hd (xs := ([165, a0_0] : List Int)) (inner := [.int .u8 165, .int .u8 a0_0]) (ok := fun _ => True) (okp := fun _ => True) ?hr ?hp (fun _ hk => hk) trivial (Below.refl _ _) (Nat.le_refl _) (by simp) ?_; (case hd => rfl); (case hg => rfl); (case hr => first | (go_simp; done) | (go_simp; rfl)); (case hp => exact (Reps.one (show Kd.M (Kd.int .u8) _ _ _ 165 [.int .u8 165] from rfl) (Reps.one (show Kd.M (Kd.int .u8) _ _ _ a0_0 [.int .u8 a0_0] from rfl) (Reps.none _ _))))
    intro v126 w16 ho17 hb hg_ hnew_
    clear hg_ hnew_
    (first | rw [← Ny125.out] at ho17 | (simp only [Int.reduceToNat] at ho17; rw [← Ny125.out] at ho17))
    have n0_ := Aside0.mk (Kd.R_lower ho17 (below_size (by repeat (first | (with_reducible first | exact HB.out | apply below_alloc | apply pw_below_drewN | apply below_drew1 | refine below_set ?_ GE123.out) | exact HB.out))))
    have n1_ := Aside0.mk (blk_below (g := gb123) (o := .cells #[.int .u8 a0_0, .int .u16 a0_1, .int .u16 a0_2, .int .u16 a0_3, .int .u16 a0_4] 24 (0, 0)) (by (with_reducible repeat (first | refine blk_drewN ?_ _ | refine blk_drew ?_ | refine blk_alloc ?_ _)); exact BK123.out) hb)
    have n2_ := Aside0.mk (below_step (by repeat (first | (with_reducible first | exact HB.out | apply below_alloc | apply pw_below_drewN | apply below_drew1 | refine below_set ?_ GE123.out) | exact HB.out)) hb)
    have z_HO130 := fun (h0_ : b 5 = true) (h1_ : b 15 = false) => (show Kd.R (Kd.int .u8) 5 w16 w.heap.size (fun _ => True) v129 t128 from by first | exact (Kd.R_elder' (by (with_reducible repeat (first | apply Kd.R_alloc | apply Kd.R_drewN | apply Kd.R_drew)); exact (Q_HO130 h0_ h1_)) (Kd.R_base ho17) hb) | exact Kd.R_mono (Kd.R_elder' (by (with_reducible repeat (first | apply Kd.R_alloc | apply Kd.R_drewN | apply Kd.R_drew)); exact (Q_HO130 h0_ h1_)) (Kd.R_base ho17) hb) (fun _ h_ => by first | trivial | exact h_ | exact h_.1))
    have z_HO133 := fun (h0_ : b 8 = true) (h1_ : b 15 = false) => (show Kd.R (Kd.int .u8) 5 w16 w.heap.size (fun _ => True) v132 t131 from by first | exact (Kd.R_elder' (by (with_reducible repeat (first | apply Kd.R_alloc | apply Kd.R_drewN | apply Kd.R_drew)); exact (Q_HO133 h0_ h1_)) (Kd.R_base ho17) hb) | exact Kd.R_mono (Kd.R_elder' (by (with_reducible repeat (first | apply Kd.R_alloc | apply Kd.R_drewN | apply Kd.R_drew)); exact (Q_HO133 h0_ h1_)) (Kd.R_base ho17) hb) (fun _ h_ => by first | trivial | exact h_ | exact h_.1))
    have z_HO136 := fun (h0_ : b 11 = true) (h1_ : b 15 = false) => (show Kd.R (Kd.int .u8) 5 w16 w.heap.size (fun _ => True) v135 t134 from by first | exact (Kd.R_elder' (by (with_reducible repeat (first | apply Kd.R_alloc | apply Kd.R_drewN | apply Kd.R_drew)); exact (Q_HO136 h0_ h1_)) (Kd.R_base ho17) hb) | exact Kd.R_mono (Kd.R_elder' (by (with_reducible repeat (first | apply Kd.R_alloc | apply Kd.R_drewN | apply Kd.R_drew)); exact (Q_HO136 h0_ h1_)) (Kd.R_base ho17) hb) (fun _ h_ => by first | trivial | exact h_ | exact h_.1))
    have z_HO139 := fun (h0_ : b 14 = true) (h1_ : b 15 = false) => (show Kd.R (Kd.int .u8) 5 w16 w.heap.size (fun _ => True) v138 t137 from by first | exact (Kd.R_elder' (by (with_reducible repeat (first | apply Kd.R_alloc | apply Kd.R_drewN | apply Kd.R_drew)); exact (Q_HO139 h0_ h1_)) (Kd.R_base ho17) hb) | exact Kd.R_mono (Kd.R_elder' (by (with_reducible repeat (first | apply Kd.R_alloc | apply Kd.R_drewN | apply Kd.R_drew)); exact (Q_HO139 h0_ h1_)) (Kd.R_base ho17) hb) (fun _ h_ => by first | trivial | exact h_ | exact h_.1))
    clear BK123
    clear HB
    have HO127 := n0_
    have BK123 := n1_
    have HB := n2_
    clear n0_ n1_ n2_
    clear hb ho17
    refine hK.out _ _ ⟨v126, v129, v132, v135, v138, v141, v144, m17_, (by rw [ha.out]; exact putSel_upk 1 hb_ rfl rfl rfl), (by (with_reducible repeat (first | refine blk_drewN ?_ _ | refine blk_drew ?_ | refine blk_alloc ?_ _)); exact BK123.out), (by repeat (first | (with_reducible first | exact HB.out | apply below_alloc | apply pw_below_drewN | apply below_drew1 | refine below_set ?_ GE123.out) | exact HB.out)), fun _ _ => (by (with_reducible repeat (first | apply Kd.R_alloc | apply Kd.R_drewN | apply Kd.R_drew)); first | exact HO127.out | exact Kd.R_mono HO127.out (fun _ hk => by first | exact trivial | simp_all) | exact Kd.N_mono HO127.out (fun _ hk => by first | exact trivial | simp_all)), z_HO130, z_HO133, z_HO136, z_HO139, fun h0_ => absurd ((hoff 15 (by kernel_rfl)).symm.trans h0_) (by decide), fun h0_ => absurd ((hoff 16 (by kernel_rfl)).symm.trans h0_) (by decide), fun h0_ => absurd ((hoff 17 (by kernel_rfl)).symm.trans h0_) (by decide)⟩
   refine steps_cons ?_ ?_
   ·rintro b a w' ⟨v126, v129, v132, v135, v138, v141, v144, m17_, ha, Q_BK123, Q_HB, Q_HO127, Q_HO130, Q_HO133, Q_HO136, Q_HO139, Q_HO142, Q_HO145, Q_X17_⟩ hb_ hon hoff
    refine ⟨_, rfl, fun K hK => ?_⟩
    have e14 : a.tmps[14]? = some (.pointer (some ⟨gb123, 1, none⟩)) := by rw [ha]; exact (putSel_off rfl).trans rfl
    replace ha := Aside0.mk ha
    have BK123 := Aside0.mk Q_BK123
    have HB := Aside0.mk Q_HB
    have hc0_ : w'.cell? ⟨gb123, 0, none⟩ = some (.int .u8 a0_0) := (blk_cell BK123.out 0).trans rfl
    have hc1_ : w'.cell? ⟨gb123, 1, none⟩ = some (.int .u16 a0_1) := (blk_cell BK123.out 1).trans rfl
    have hc2_ : w'.cell? ⟨gb123, 2, none⟩ = some (.int .u16 a0_2) := (blk_cell BK123.out 2).trans rfl
    have hc3_ : w'.cell? ⟨gb123, 3, none⟩ = some (.int .u16 a0_3) := (blk_cell BK123.out 3).trans rfl
    have hc4_ : w'.cell? ⟨gb123, 4, none⟩ = some (.int .u16 a0_4) := (blk_cell BK123.out 4).trans rfl
    refine value_ (w1 := w') (v := .int .u16 a0_1) (by rfl) rfl ?_ ?_
    ·go_simp
     (try simp only [i64_w])
     try rfl
    refine hK.out _ _ ⟨v126, v129, v132, v135, v138, v141, v144, m17_, (by rw [ha.out]; exact putSel_upk 2 hb_ rfl rfl rfl), Q_BK123, Q_HB, Q_HO127, fun h0_ _ => absurd ((hoff 5 (by kernel_rfl)).symm.trans h0_) (by decide), fun h0_ _ => absurd ((hoff 8 (by kernel_rfl)).symm.trans h0_) (by decide), fun h0_ _ => absurd ((hoff 11 (by kernel_rfl)).symm.trans h0_) (by decide), fun h0_ _ => absurd ((hoff 14 (by kernel_rfl)).symm.trans h0_) (by decide), fun h0_ => absurd ((hoff 15 (by kernel_rfl)).symm.trans h0_) (by decide), fun h0_ => absurd ((hoff 16 (by kernel_rfl)).symm.trans h0_) (by decide), fun h0_ => absurd ((hoff 17 (by kernel_rfl)).symm.trans h0_) (by decide)⟩
   refine steps_cons ?_ ?_
   ·rintro b a w' ⟨v126, v129, v132, v135, v138, v141, v144, m17_, ha, Q_BK123, Q_HB, Q_HO127, Q_HO130, Q_HO133, Q_HO136, Q_HO139, Q_HO142, Q_HO145, Q_X17_⟩ hb_ hon hoff
    refine ⟨_, rfl, fun K hK => ?_⟩
    have e15 : a.tmps[15]? = some (.int .u16 a0_1) := by rw [ha]; exact putSel_on (e := (4, 15, .int .u16 a0_1)) 2 rfl rfl (hon 4 (by kernel_rfl)) rfl
    replace ha := Aside0.mk ha
    have BK123 := Aside0.mk Q_BK123
    have HB := Aside0.mk Q_HB
    refine goes_ Try.func23 (by kernel_rfl) rfl #[.int .u16 a0_1] (by rfl) rfl rfl (by first | (simp only [List.map_toArray, List.map_cons, List.map_nil, Act.eval, Array.getD_eq_getD_getElem?, Option.getD_some, e15]; done) | (simp only [List.map_toArray, List.map_cons, List.map_nil, Act.eval, Array.getD_eq_getD_getElem?, Option.getD_some, e15]; rfl)) ?_
    with_reducible refine (tele_pair.calls a0_1 t128 _ A4.out).mono ?_
    rintro e w16 ⟨v129, rfl, ho0, hb⟩
    refine ⟨_, rfl, ?_⟩
    have n0_ := Aside0.mk (Kd.R_lower ho0 (below_size (by repeat (first | (with_reducible first | exact HB.out | apply below_alloc | apply pw_below_drewN | apply below_drew1 | refine below_set ?_ GE123.out) | exact HB.out))))
    have n1_ := Aside0.mk (blk_below (g := gb123) (o := .cells #[.int .u8 a0_0, .int .u16 a0_1, .int .u16 a0_2, .int .u16 a0_3, .int .u16 a0_4] 24 (0, 0)) (by (with_reducible repeat (first | refine blk_drewN ?_ _ | refine blk_drew ?_ | refine blk_alloc ?_ _)); exact BK123.out) hb)
    have n2_ := Aside0.mk (below_step (by repeat (first | (with_reducible first | exact HB.out | apply below_alloc | apply pw_below_drewN | apply below_drew1 | refine below_set ?_ GE123.out) | exact HB.out)) hb)
    have z_HO127 := fun (h0_ : b 2 = true) (h1_ : b 15 = false) => (show Kd.R (Kd.int .u8) 5 w16 w.heap.size (fun _ => True) v126 y125 from by first | exact (Kd.R_elder' (by (with_reducible repeat (first | apply Kd.R_alloc | apply Kd.R_drewN | apply Kd.R_drew)); exact (Q_HO127 h0_ h1_)) (Kd.R_base ho0) hb) | exact Kd.R_mono (Kd.R_elder' (by (with_reducible repeat (first | apply Kd.R_alloc | apply Kd.R_drewN | apply Kd.R_drew)); exact (Q_HO127 h0_ h1_)) (Kd.R_base ho0) hb) (fun _ h_ => by first | trivial | exact h_ | exact h_.1))
    clear BK123
    clear HB
    have HO130 := n0_
    have BK123 := n1_
    have HB := n2_
    clear n0_ n1_ n2_
    (try clear hb)
    (try clear hb2)
    (try clear hk)
    (try clear hi)
    (try clear ho0)
    refine hK.out _ _ ⟨v126, v129, v132, v135, v138, v141, v144, m17_, (by rw [ha.out]; exact putSel_upk 3 hb_ rfl rfl rfl), (by (with_reducible repeat (first | refine blk_drewN ?_ _ | refine blk_drew ?_ | refine blk_alloc ?_ _)); exact BK123.out), (by repeat (first | (with_reducible first | exact HB.out | apply below_alloc | apply pw_below_drewN | apply below_drew1 | refine below_set ?_ GE123.out) | exact HB.out)), z_HO127, fun _ _ => (by (with_reducible repeat (first | apply Kd.R_alloc | apply Kd.R_drewN | apply Kd.R_drew)); first | exact HO130.out | exact Kd.R_mono HO130.out (fun _ hk => by first | exact trivial | simp_all) | exact Kd.N_mono HO130.out (fun _ hk => by first | exact trivial | simp_all)), fun h0_ _ => absurd ((hoff 8 (by kernel_rfl)).symm.trans h0_) (by decide), fun h0_ _ => absurd ((hoff 11 (by kernel_rfl)).symm.trans h0_) (by decide), fun h0_ _ => absurd ((hoff 14 (by kernel_rfl)).symm.trans h0_) (by decide), fun h0_ => absurd ((hoff 15 (by kernel_rfl)).symm.trans h0_) (by decide), fun h0_ => absurd ((hoff 16 (by kernel_rfl)).symm.trans h0_) (by decide), fun h0_ => absurd ((hoff 17 (by kernel_rfl)).symm.trans h0_) (by decide)⟩
   refine steps_cons ?_ ?_
   ·rintro b a w' ⟨v126, v129, v132, v135, v138, v141, v144, m17_, ha, Q_BK123, Q_HB, Q_HO127, Q_HO130, Q_HO133, Q_HO136, Q_HO139, Q_HO142, Q_HO145, Q_X17_⟩ hb_ hon hoff
    refine ⟨_, rfl, fun K hK => ?_⟩
    have e17 : a.tmps[17]? = some (.pointer (some ⟨gb123, 2, none⟩)) := by rw [ha]; exact (putSel_off rfl).trans rfl
    replace ha := Aside0.mk ha
    have BK123 := Aside0.mk Q_BK123
    have HB := Aside0.mk Q_HB
    have hc0_ : w'.cell? ⟨gb123, 0, none⟩ = some (.int .u8 a0_0) := (blk_cell BK123.out 0).trans rfl
    have hc1_ : w'.cell? ⟨gb123, 1, none⟩ = some (.int .u16 a0_1) := (blk_cell BK123.out 1).trans rfl
    have hc2_ : w'.cell? ⟨gb123, 2, none⟩ = some (.int .u16 a0_2) := (blk_cell BK123.out 2).trans rfl
    have hc3_ : w'.cell? ⟨gb123, 3, none⟩ = some (.int .u16 a0_3) := (blk_cell BK123.out 3).trans rfl
    have hc4_ : w'.cell? ⟨gb123, 4, none⟩ = some (.int .u16 a0_4) := (blk_cell BK123.out 4).trans rfl
    refine value_ (w1 := w') (v := .int .u16 a0_2) (by rfl) rfl ?_ ?_
    ·go_simp
     (try simp only [i64_w])
     try rfl
    refine hK.out _ _ ⟨v126, v129, v132, v135, v138, v141, v144, m17_, (by rw [ha.out]; exact putSel_upk 4 hb_ rfl rfl rfl), Q_BK123, Q_HB, Q_HO127, Q_HO130, fun h0_ _ => absurd ((hoff 8 (by kernel_rfl)).symm.trans h0_) (by decide), fun h0_ _ => absurd ((hoff 11 (by kernel_rfl)).symm.trans h0_) (by decide), fun h0_ _ => absurd ((hoff 14 (by kernel_rfl)).symm.trans h0_) (by decide), fun h0_ => absurd ((hoff 15 (by kernel_rfl)).symm.trans h0_) (by decide), fun h0_ => absurd ((hoff 16 (by kernel_rfl)).symm.trans h0_) (by decide), fun h0_ => absurd ((hoff 17 (by kernel_rfl)).symm.trans h0_) (by decide)⟩
   refine steps_cons ?_ ?_
   ·rintro b a w' ⟨v126, v129, v132, v135, v138, v141, v144, m17_, ha, Q_BK123, Q_HB, Q_HO127, Q_HO130, Q_HO133, Q_HO136, Q_HO139, Q_HO142, Q_HO145, Q_X17_⟩ hb_ hon hoff
    refine ⟨_, rfl, fun K hK => ?_⟩
    have e18 : a.tmps[18]? = some (.int .u16 a0_2) := by rw [ha]; exact putSel_on (e := (7, 18, .int .u16 a0_2)) 4 rfl rfl (hon 7 (by kernel_rfl)) rfl
    replace ha := Aside0.mk ha
    have BK123 := Aside0.mk Q_BK123
    have HB := Aside0.mk Q_HB
    have HO130 := Aside0.mk (Q_HO130 (hon 5 (by kernel_rfl)) (hoff 15 (by kernel_rfl)))
    refine goes_ Try.func23 (by kernel_rfl) rfl #[.int .u16 a0_2] (by rfl) rfl rfl (by first | (simp only [List.map_toArray, List.map_cons, List.map_nil, Act.eval, Array.getD_eq_getD_getElem?, Option.getD_some, e18]; done) | (simp only [List.map_toArray, List.map_cons, List.map_nil, Act.eval, Array.getD_eq_getD_getElem?, Option.getD_some, e18]; rfl)) ?_
    with_reducible refine (tele_pair.calls a0_2 t131 _ A5.out).mono ?_
    rintro e w18 ⟨v132, rfl, ho0, hb⟩
    refine ⟨_, rfl, ?_⟩
    have n0_ := Aside0.mk (Kd.R_elder' (by (with_reducible repeat (first | apply Kd.R_alloc | apply Kd.R_drewN | apply Kd.R_drew)); exact HO130.out) (Kd.R_base ho0) hb)
    have n1_ := Aside0.mk (Kd.R_lower (Kd.R_new' ho0 (Kd.R_lt (by (with_reducible repeat (first | apply Kd.R_alloc | apply Kd.R_drewN | apply Kd.R_drew)); exact HO130.out))) (below_size (by repeat (first | (with_reducible first | exact HB.out | apply below_alloc | apply pw_below_drewN | apply below_drew1 | refine below_set ?_ GE123.out) | exact HB.out))))
    have n2_ := Aside0.mk (blk_below (g := gb123) (o := .cells #[.int .u8 a0_0, .int .u16 a0_1, .int .u16 a0_2, .int .u16 a0_3, .int .u16 a0_4] 24 (0, 0)) (by (with_reducible repeat (first | refine blk_drewN ?_ _ | refine blk_drew ?_ | refine blk_alloc ?_ _)); exact BK123.out) hb)
    have n3_ := Aside0.mk (below_step (by repeat (first | (with_reducible first | exact HB.out | apply below_alloc | apply pw_below_drewN | apply below_drew1 | refine below_set ?_ GE123.out) | exact HB.out)) hb)
    have z_HO127 := fun (h0_ : b 2 = true) (h1_ : b 15 = false) => (show Kd.R (Kd.int .u8) 5 w18 w.heap.size (fun _ => True) v126 y125 from by first | exact (Kd.R_elder' (by (with_reducible repeat (first | apply Kd.R_alloc | apply Kd.R_drewN | apply Kd.R_drew)); exact (Q_HO127 h0_ h1_)) (Kd.R_base ho0) hb) | exact Kd.R_mono (Kd.R_elder' (by (with_reducible repeat (first | apply Kd.R_alloc | apply Kd.R_drewN | apply Kd.R_drew)); exact (Q_HO127 h0_ h1_)) (Kd.R_base ho0) hb) (fun _ h_ => by first | trivial | exact h_ | exact h_.1))
    clear HO130
    clear BK123
    clear HB
    have HO130 := n0_
    have HO133 := n1_
    have BK123 := n2_
    have HB := n3_
    clear n0_ n1_ n2_ n3_
    (try clear hb)
    (try clear hb2)
    (try clear hk)
    (try clear hi)
    (try clear ho0)
    refine hK.out _ _ ⟨v126, v129, v132, v135, v138, v141, v144, m17_, (by rw [ha.out]; exact putSel_upk 5 hb_ rfl rfl rfl), (by (with_reducible repeat (first | refine blk_drewN ?_ _ | refine blk_drew ?_ | refine blk_alloc ?_ _)); exact BK123.out), (by repeat (first | (with_reducible first | exact HB.out | apply below_alloc | apply pw_below_drewN | apply below_drew1 | refine below_set ?_ GE123.out) | exact HB.out)), z_HO127, fun _ _ => (by (with_reducible repeat (first | apply Kd.R_alloc | apply Kd.R_drewN | apply Kd.R_drew)); exact Kd.R_mono HO130.out (fun _ hk => by first | exact hk.2 | exact trivial | exact hk | simp_all)), fun _ _ => (by (with_reducible repeat (first | apply Kd.R_alloc | apply Kd.R_drewN | apply Kd.R_drew)); exact Kd.R_mono HO133.out (fun _ hk => by first | exact hk.2 | exact trivial | exact hk | simp_all)), fun h0_ _ => absurd ((hoff 11 (by kernel_rfl)).symm.trans h0_) (by decide), fun h0_ _ => absurd ((hoff 14 (by kernel_rfl)).symm.trans h0_) (by decide), fun h0_ => absurd ((hoff 15 (by kernel_rfl)).symm.trans h0_) (by decide), fun h0_ => absurd ((hoff 16 (by kernel_rfl)).symm.trans h0_) (by decide), fun h0_ => absurd ((hoff 17 (by kernel_rfl)).symm.trans h0_) (by decide)⟩
   refine steps_cons ?_ ?_
   ·rintro b a w' ⟨v126, v129, v132, v135, v138, v141, v144, m17_, ha, Q_BK123, Q_HB, Q_HO127, Q_HO130, Q_HO133, Q_HO136, Q_HO139, Q_HO142, Q_HO145, Q_X17_⟩ hb_ hon hoff
    refine ⟨_, rfl, fun K hK => ?_⟩
    have e20 : a.tmps[20]? = some (.pointer (some ⟨gb123, 3, none⟩)) := by rw [ha]; exact (putSel_off rfl).trans rfl
    replace ha := Aside0.mk ha
    have BK123 := Aside0.mk Q_BK123
    have HB := Aside0.mk Q_HB
    have hc0_ : w'.cell? ⟨gb123, 0, none⟩ = some (.int .u8 a0_0) := (blk_cell BK123.out 0).trans rfl
    have hc1_ : w'.cell? ⟨gb123, 1, none⟩ = some (.int .u16 a0_1) := (blk_cell BK123.out 1).trans rfl
    have hc2_ : w'.cell? ⟨gb123, 2, none⟩ = some (.int .u16 a0_2) := (blk_cell BK123.out 2).trans rfl
    have hc3_ : w'.cell? ⟨gb123, 3, none⟩ = some (.int .u16 a0_3) := (blk_cell BK123.out 3).trans rfl
    have hc4_ : w'.cell? ⟨gb123, 4, none⟩ = some (.int .u16 a0_4) := (blk_cell BK123.out 4).trans rfl
    refine value_ (w1 := w') (v := .int .u16 a0_3) (by rfl) rfl ?_ ?_
    ·go_simp
     (try simp only [i64_w])
     try rfl
    refine hK.out _ _ ⟨v126, v129, v132, v135, v138, v141, v144, m17_, (by rw [ha.out]; exact putSel_upk 6 hb_ rfl rfl rfl), Q_BK123, Q_HB, Q_HO127, Q_HO130, Q_HO133, fun h0_ _ => absurd ((hoff 11 (by kernel_rfl)).symm.trans h0_) (by decide), fun h0_ _ => absurd ((hoff 14 (by kernel_rfl)).symm.trans h0_) (by decide), fun h0_ => absurd ((hoff 15 (by kernel_rfl)).symm.trans h0_) (by decide), fun h0_ => absurd ((hoff 16 (by kernel_rfl)).symm.trans h0_) (by decide), fun h0_ => absurd ((hoff 17 (by kernel_rfl)).symm.trans h0_) (by decide)⟩
   refine steps_cons ?_ ?_
   ·rintro b a w' ⟨v126, v129, v132, v135, v138, v141, v144, m17_, ha, Q_BK123, Q_HB, Q_HO127, Q_HO130, Q_HO133, Q_HO136, Q_HO139, Q_HO142, Q_HO145, Q_X17_⟩ hb_ hon hoff
    refine ⟨_, rfl, fun K hK => ?_⟩
    have e21 : a.tmps[21]? = some (.int .u16 a0_3) := by rw [ha]; exact putSel_on (e := (10, 21, .int .u16 a0_3)) 6 rfl rfl (hon 10 (by kernel_rfl)) rfl
    replace ha := Aside0.mk ha
    have BK123 := Aside0.mk Q_BK123
    have HB := Aside0.mk Q_HB
    have HO130 := Aside0.mk (Q_HO130 (hon 5 (by kernel_rfl)) (hoff 15 (by kernel_rfl)))
    have HO133 := Aside0.mk (Q_HO133 (hon 8 (by kernel_rfl)) (hoff 15 (by kernel_rfl)))
    refine goes_ Try.func23 (by kernel_rfl) rfl #[.int .u16 a0_3] (by rfl) rfl rfl (by first | (simp only [List.map_toArray, List.map_cons, List.map_nil, Act.eval, Array.getD_eq_getD_getElem?, Option.getD_some, e21]; done) | (simp only [List.map_toArray, List.map_cons, List.map_nil, Act.eval, Array.getD_eq_getD_getElem?, Option.getD_some, e21]; rfl)) ?_
    with_reducible refine (tele_pair.calls a0_3 t134 _ A6.out).mono ?_
    rintro e w19 ⟨v135, rfl, ho0, hb⟩
    refine ⟨_, rfl, ?_⟩
    have n0_ := Aside0.mk (Kd.R_elder' (by (with_reducible repeat (first | apply Kd.R_alloc | apply Kd.R_drewN | apply Kd.R_drew)); exact HO130.out) (Kd.R_base ho0) hb)
    have n1_ := Aside0.mk (Kd.R_elder' (by (with_reducible repeat (first | apply Kd.R_alloc | apply Kd.R_drewN | apply Kd.R_drew)); exact HO133.out) (Kd.R_base ho0) hb)
    have n2_ := Aside0.mk (Kd.R_lower (Kd.R_new' (Kd.R_new' ho0 (Kd.R_lt (by (with_reducible repeat (first | apply Kd.R_alloc | apply Kd.R_drewN | apply Kd.R_drew)); exact HO130.out))) (Kd.R_lt (by (with_reducible repeat (first | apply Kd.R_alloc | apply Kd.R_drewN | apply Kd.R_drew)); exact HO133.out))) (below_size (by repeat (first | (with_reducible first | exact HB.out | apply below_alloc | apply pw_below_drewN | apply below_drew1 | refine below_set ?_ GE123.out) | exact HB.out))))
    have n3_ := Aside0.mk (blk_below (g := gb123) (o := .cells #[.int .u8 a0_0, .int .u16 a0_1, .int .u16 a0_2, .int .u16 a0_3, .int .u16 a0_4] 24 (0, 0)) (by (with_reducible repeat (first | refine blk_drewN ?_ _ | refine blk_drew ?_ | refine blk_alloc ?_ _)); exact BK123.out) hb)
    have n4_ := Aside0.mk (below_step (by repeat (first | (with_reducible first | exact HB.out | apply below_alloc | apply pw_below_drewN | apply below_drew1 | refine below_set ?_ GE123.out) | exact HB.out)) hb)
    have z_HO127 := fun (h0_ : b 2 = true) (h1_ : b 15 = false) => (show Kd.R (Kd.int .u8) 5 w19 w.heap.size (fun _ => True) v126 y125 from by first | exact (Kd.R_elder' (by (with_reducible repeat (first | apply Kd.R_alloc | apply Kd.R_drewN | apply Kd.R_drew)); exact (Q_HO127 h0_ h1_)) (Kd.R_base ho0) hb) | exact Kd.R_mono (Kd.R_elder' (by (with_reducible repeat (first | apply Kd.R_alloc | apply Kd.R_drewN | apply Kd.R_drew)); exact (Q_HO127 h0_ h1_)) (Kd.R_base ho0) hb) (fun _ h_ => by first | trivial | exact h_ | exact h_.1))
    clear HO130
    clear HO133
    clear BK123
    clear HB
    have HO130 := n0_
    have HO133 := n1_
    have HO136 := n2_
    have BK123 := n3_
    have HB := n4_
    clear n0_ n1_ n2_ n3_ n4_
    (try clear hb)
    (try clear hb2)
    (try clear hk)
    (try clear hi)
    (try clear ho0)
    refine hK.out _ _ ⟨v126, v129, v132, v135, v138, v141, v144, m17_, (by rw [ha.out]; exact putSel_upk 7 hb_ rfl rfl rfl), (by (with_reducible repeat (first | refine blk_drewN ?_ _ | refine blk_drew ?_ | refine blk_alloc ?_ _)); exact BK123.out), (by repeat (first | (with_reducible first | exact HB.out | apply below_alloc | apply pw_below_drewN | apply below_drew1 | refine below_set ?_ GE123.out) | exact HB.out)), z_HO127, fun _ _ => (by (with_reducible repeat (first | apply Kd.R_alloc | apply Kd.R_drewN | apply Kd.R_drew)); first | exact HO130.out | exact Kd.R_mono HO130.out (fun _ hk => by first | exact trivial | simp_all) | exact Kd.N_mono HO130.out (fun _ hk => by first | exact trivial | simp_all)), fun _ _ => (by (with_reducible repeat (first | apply Kd.R_alloc | apply Kd.R_drewN | apply Kd.R_drew)); first | exact HO133.out | exact Kd.R_mono HO133.out (fun _ hk => by first | exact trivial | simp_all) | exact Kd.N_mono HO133.out (fun _ hk => by first | exact trivial | simp_all)), fun _ _ => (by (with_reducible repeat (first | apply Kd.R_alloc | apply Kd.R_drewN | apply Kd.R_drew)); exact Kd.R_mono HO136.out (fun _ hk => by first | exact ⟨hk.1.2, hk.2⟩ | exact trivial | exact hk | simp_all)), fun h0_ _ => absurd ((hoff 14 (by kernel_rfl)).symm.trans h0_) (by decide), fun h0_ => absurd ((hoff 15 (by kernel_rfl)).symm.trans h0_) (by decide), fun h0_ => absurd ((hoff 16 (by kernel_rfl)).symm.trans h0_) (by decide), fun h0_ => absurd ((hoff 17 (by kernel_rfl)).symm.trans h0_) (by decide)⟩
   refine steps_cons ?_ ?_
   ·rintro b a w' ⟨v126, v129, v132, v135, v138, v141, v144, m17_, ha, Q_BK123, Q_HB, Q_HO127, Q_HO130, Q_HO133, Q_HO136, Q_HO139, Q_HO142, Q_HO145, Q_X17_⟩ hb_ hon hoff
    refine ⟨_, rfl, fun K hK => ?_⟩
    have e23 : a.tmps[23]? = some (.pointer (some ⟨gb123, 4, none⟩)) := by rw [ha]; exact (putSel_off rfl).trans rfl
    replace ha := Aside0.mk ha
    have BK123 := Aside0.mk Q_BK123
    have HB := Aside0.mk Q_HB
    have hc0_ : w'.cell? ⟨gb123, 0, none⟩ = some (.int .u8 a0_0) := (blk_cell BK123.out 0).trans rfl
    have hc1_ : w'.cell? ⟨gb123, 1, none⟩ = some (.int .u16 a0_1) := (blk_cell BK123.out 1).trans rfl
    have hc2_ : w'.cell? ⟨gb123, 2, none⟩ = some (.int .u16 a0_2) := (blk_cell BK123.out 2).trans rfl
    have hc3_ : w'.cell? ⟨gb123, 3, none⟩ = some (.int .u16 a0_3) := (blk_cell BK123.out 3).trans rfl
    have hc4_ : w'.cell? ⟨gb123, 4, none⟩ = some (.int .u16 a0_4) := (blk_cell BK123.out 4).trans rfl
    refine value_ (w1 := w') (v := .int .u16 a0_4) (by rfl) rfl ?_ ?_
    ·go_simp
     (try simp only [i64_w])
     try rfl
    refine hK.out _ _ ⟨v126, v129, v132, v135, v138, v141, v144, m17_, (by rw [ha.out]; exact putSel_upk 8 hb_ rfl rfl rfl), Q_BK123, Q_HB, Q_HO127, Q_HO130, Q_HO133, Q_HO136, fun h0_ _ => absurd ((hoff 14 (by kernel_rfl)).symm.trans h0_) (by decide), fun h0_ => absurd ((hoff 15 (by kernel_rfl)).symm.trans h0_) (by decide), fun h0_ => absurd ((hoff 16 (by kernel_rfl)).symm.trans h0_) (by decide), fun h0_ => absurd ((hoff 17 (by kernel_rfl)).symm.trans h0_) (by decide)⟩
   refine steps_cons ?_ ?_
   ·rintro b a w' ⟨v126, v129, v132, v135, v138, v141, v144, m17_, ha, Q_BK123, Q_HB, Q_HO127, Q_HO130, Q_HO133, Q_HO136, Q_HO139, Q_HO142, Q_HO145, Q_X17_⟩ hb_ hon hoff
    refine ⟨_, rfl, fun K hK => ?_⟩
    have e24 : a.tmps[24]? = some (.int .u16 a0_4) := by rw [ha]; exact putSel_on (e := (13, 24, .int .u16 a0_4)) 8 rfl rfl (hon 13 (by kernel_rfl)) rfl
    replace ha := Aside0.mk ha
    have BK123 := Aside0.mk Q_BK123
    have HB := Aside0.mk Q_HB
    have HO130 := Aside0.mk (Q_HO130 (hon 5 (by kernel_rfl)) (hoff 15 (by kernel_rfl)))
    have HO133 := Aside0.mk (Q_HO133 (hon 8 (by kernel_rfl)) (hoff 15 (by kernel_rfl)))
    have HO136 := Aside0.mk (Q_HO136 (hon 11 (by kernel_rfl)) (hoff 15 (by kernel_rfl)))
    refine goes_ Try.func23 (by kernel_rfl) rfl #[.int .u16 a0_4] (by rfl) rfl rfl (by first | (simp only [List.map_toArray, List.map_cons, List.map_nil, Act.eval, Array.getD_eq_getD_getElem?, Option.getD_some, e24]; done) | (simp only [List.map_toArray, List.map_cons, List.map_nil, Act.eval, Array.getD_eq_getD_getElem?, Option.getD_some, e24]; rfl)) ?_
    with_reducible refine (tele_pair.calls a0_4 t137 _ A7.out).mono ?_
    rintro e w20 ⟨v138, rfl, ho0, hb⟩
    refine ⟨_, rfl, ?_⟩
    have n0_ := Aside0.mk (Kd.R_elder' (by (with_reducible repeat (first | apply Kd.R_alloc | apply Kd.R_drewN | apply Kd.R_drew)); exact HO130.out) (Kd.R_base ho0) hb)
    have n1_ := Aside0.mk (Kd.R_elder' (by (with_reducible repeat (first | apply Kd.R_alloc | apply Kd.R_drewN | apply Kd.R_drew)); exact HO133.out) (Kd.R_base ho0) hb)
    have n2_ := Aside0.mk (Kd.R_elder' (by (with_reducible repeat (first | apply Kd.R_alloc | apply Kd.R_drewN | apply Kd.R_drew)); exact HO136.out) (Kd.R_base ho0) hb)
    have n3_ := Aside0.mk (Kd.R_lower (Kd.R_new' (Kd.R_new' (Kd.R_new' ho0 (Kd.R_lt (by (with_reducible repeat (first | apply Kd.R_alloc | apply Kd.R_drewN | apply Kd.R_drew)); exact HO130.out))) (Kd.R_lt (by (with_reducible repeat (first | apply Kd.R_alloc | apply Kd.R_drewN | apply Kd.R_drew)); exact HO133.out))) (Kd.R_lt (by (with_reducible repeat (first | apply Kd.R_alloc | apply Kd.R_drewN | apply Kd.R_drew)); exact HO136.out))) (below_size (by repeat (first | (with_reducible first | exact HB.out | apply below_alloc | apply pw_below_drewN | apply below_drew1 | refine below_set ?_ GE123.out) | exact HB.out))))
    have n4_ := Aside0.mk (blk_below (g := gb123) (o := .cells #[.int .u8 a0_0, .int .u16 a0_1, .int .u16 a0_2, .int .u16 a0_3, .int .u16 a0_4] 24 (0, 0)) (by (with_reducible repeat (first | refine blk_drewN ?_ _ | refine blk_drew ?_ | refine blk_alloc ?_ _)); exact BK123.out) hb)
    have n5_ := Aside0.mk (below_step (by repeat (first | (with_reducible first | exact HB.out | apply below_alloc | apply pw_below_drewN | apply below_drew1 | refine below_set ?_ GE123.out) | exact HB.out)) hb)
    have z_HO127 := fun (h0_ : b 2 = true) (h1_ : b 15 = false) => (show Kd.R (Kd.int .u8) 5 w20 w.heap.size (fun _ => True) v126 y125 from by first | exact (Kd.R_elder' (by (with_reducible repeat (first | apply Kd.R_alloc | apply Kd.R_drewN | apply Kd.R_drew)); exact (Q_HO127 h0_ h1_)) (Kd.R_base ho0) hb) | exact Kd.R_mono (Kd.R_elder' (by (with_reducible repeat (first | apply Kd.R_alloc | apply Kd.R_drewN | apply Kd.R_drew)); exact (Q_HO127 h0_ h1_)) (Kd.R_base ho0) hb) (fun _ h_ => by first | trivial | exact h_ | exact h_.1))
    clear HO130
    clear HO133
    clear HO136
    clear BK123
    clear HB
    have HO130 := n0_
    have HO133 := n1_
    have HO136 := n2_
    have HO139 := n3_
    have BK123 := n4_
    have HB := n5_
    clear n0_ n1_ n2_ n3_ n4_ n5_
    (try clear hb)
    (try clear hb2)
    (try clear hk)
    (try clear hi)
    (try clear ho0)
    refine hK.out _ _ ⟨v126, v129, v132, v135, v138, v141, v144, m17_, (by rw [ha.out]; exact putSel_upk 9 hb_ rfl rfl rfl), (by (with_reducible repeat (first | refine blk_drewN ?_ _ | refine blk_drew ?_ | refine blk_alloc ?_ _)); exact BK123.out), (by repeat (first | (with_reducible first | exact HB.out | apply below_alloc | apply pw_below_drewN | apply below_drew1 | refine below_set ?_ GE123.out) | exact HB.out)), z_HO127, fun _ _ => (by (with_reducible repeat (first | apply Kd.R_alloc | apply Kd.R_drewN | apply Kd.R_drew)); exact Kd.R_mono HO130.out (fun _ hk => by first | exact ⟨hk.1.1, ⟨hk.1.2, hk.2⟩⟩ | exact trivial | exact hk | simp_all)), fun _ _ => (by (with_reducible repeat (first | apply Kd.R_alloc | apply Kd.R_drewN | apply Kd.R_drew)); exact Kd.R_mono HO133.out (fun _ hk => by first | exact ⟨hk.1.1, ⟨hk.1.2, hk.2⟩⟩ | exact trivial | exact hk | simp_all)), fun _ _ => (by (with_reducible repeat (first | apply Kd.R_alloc | apply Kd.R_drewN | apply Kd.R_drew)); exact Kd.R_mono HO136.out (fun _ hk => by first | exact ⟨hk.1.1, ⟨hk.1.2, hk.2⟩⟩ | exact trivial | exact hk | simp_all)), fun _ _ => (by (with_reducible repeat (first | apply Kd.R_alloc | apply Kd.R_drewN | apply Kd.R_drew)); exact Kd.R_mono HO139.out (fun _ hk => by first | exact ⟨hk.1.1.2, ⟨hk.1.2, hk.2⟩⟩ | exact trivial | exact hk | simp_all)), fun h0_ => absurd ((hoff 15 (by kernel_rfl)).symm.trans h0_) (by decide), fun h0_ => absurd ((hoff 16 (by kernel_rfl)).symm.trans h0_) (by decide), fun h0_ => absurd ((hoff 17 (by kernel_rfl)).symm.trans h0_) (by decide)⟩
   refine steps_cons ?_ ?_
   ·rintro b a w' ⟨v126, v129, v132, v135, v138, v141, v144, m17_, ha, Q_BK123, Q_HB, Q_HO127, Q_HO130, Q_HO133, Q_HO136, Q_HO139, Q_HO142, Q_HO145, Q_X17_⟩ hb_ hon hoff
    refine ⟨_, rfl, fun K hK => ?_⟩
    have e13 : a.tmps[13]? = some (v126) := by rw [ha]; exact putSel_on (e := (2, 13, v126)) 1 rfl rfl (hon 2 (by kernel_rfl)) rfl
    have e16 : a.tmps[16]? = some (v129) := by rw [ha]; exact putSel_on (e := (5, 16, v129)) 3 rfl rfl (hon 5 (by kernel_rfl)) rfl
    have e19 : a.tmps[19]? = some (v132) := by rw [ha]; exact putSel_on (e := (8, 19, v132)) 5 rfl rfl (hon 8 (by kernel_rfl)) rfl
    have e22 : a.tmps[22]? = some (v135) := by rw [ha]; exact putSel_on (e := (11, 22, v135)) 7 rfl rfl (hon 11 (by kernel_rfl)) rfl
    have e25 : a.tmps[25]? = some (v138) := by rw [ha]; exact putSel_on (e := (14, 25, v138)) 9 rfl rfl (hon 14 (by kernel_rfl)) rfl
    replace ha := Aside0.mk ha
    have BK123 := Aside0.mk Q_BK123
    have HB := Aside0.mk Q_HB
    have HO127 := Aside0.mk (Q_HO127 (hon 2 (by kernel_rfl)) hb_)
    have HO130 := Aside0.mk (Q_HO130 (hon 5 (by kernel_rfl)) hb_)
    have HO133 := Aside0.mk (Q_HO133 (hon 8 (by kernel_rfl)) hb_)
    have HO136 := Aside0.mk (Q_HO136 (hon 11 (by kernel_rfl)) hb_)
    have HO139 := Aside0.mk (Q_HO139 (hon 14 (by kernel_rfl)) hb_)
    obtain ⟨Ao23, co23, eo23⟩ := Kd.R_slice HO127.out
    (first | subst eo23 | (injection eo23 with f1_ f2_ f3_; have f4_ := f1_.symm; have f5_ := f3_.symm; clear f1_ f2_ f3_; subst f4_; subst f5_))
    obtain ⟨Ao24, co24, eo24⟩ := Kd.R_slice HO130.out
    (first | subst eo24 | (injection eo24 with f1_ f2_ f3_; have f4_ := f1_.symm; have f5_ := f3_.symm; clear f1_ f2_ f3_; subst f4_; subst f5_))
    obtain ⟨Ao25, co25, eo25⟩ := Kd.R_slice HO133.out
    (first | subst eo25 | (injection eo25 with f1_ f2_ f3_; have f4_ := f1_.symm; have f5_ := f3_.symm; clear f1_ f2_ f3_; subst f4_; subst f5_))
    obtain ⟨Ao26, co26, eo26⟩ := Kd.R_slice HO136.out
    (first | subst eo26 | (injection eo26 with f1_ f2_ f3_; have f4_ := f1_.symm; have f5_ := f3_.symm; clear f1_ f2_ f3_; subst f4_; subst f5_))
    obtain ⟨Ao27, co27, eo27⟩ := Kd.R_slice HO139.out
    (first | subst eo27 | (injection eo27 with f1_ f2_ f3_; have f4_ := f1_.symm; have f5_ := f3_.symm; clear f1_ f2_ f3_; subst f4_; subst f5_))
    refine Kd.N_lit_step (Kd.slice 5 (Kd.int .u8)) _ 26 ?hg (N' := 26) ?hd (xs := ([y125, t128, t131, t134, t137] : List (List Int))) (inner := [.slice Ao23 y125.length co23, .slice Ao24 t128.length co24, .slice Ao25 t131.length co25, .slice Ao26 t134.length co26, .slice Ao27 t137.length co27]) (ok := (fun k_ => k_ ≠ gb123)) (okp := (fun k_ => k_ ≠ gb123)) ?hr ?hp (fun _ hk => hk) ((show ∀ k_, w'.heap.size ≤ k_ → (fun k_ => k_ ≠ gb123) k_ from fun k_ hk => Kd.freshB (g := gb123) (o := .cells #[.int .u8 a0_0, .int .u16 a0_1, .int .u16 a0_2, .int .u16 a0_3, .int .u16 a0_4] 24 (0, 0)) (by (with_reducible repeat (first | refine blk_drewN ?_ _ | refine blk_drew ?_ | refine blk_alloc ?_ _)); exact BK123.out) k_ hk) _ (Nat.le_refl _)) (Below.refl _ _) (Nat.le_refl _) (by simp) ?_; (case hd => rfl); (case hg => rfl); (case hr => first | (go_simp; done) | (go_simp; rfl)); (case hp => exact (Reps.one (show Kd.FK (Kd.slice 5 (Kd.int .u8)) _ _ y125 [.slice Ao23 y125.length co23] from (Kd.FK_slice_mk (Kd.R_reads' (Kd.R_mono (ok' := (fun k_ => k_ ≠ gb123)) (Kd.R_types (HO127.out) BK123.out (by decide)) (fun k_ hk => hk.2))).2.1 (Kd.R_F (Kd.R_mono (ok' := (fun k_ => k_ ≠ gb123)) (Kd.R_types (HO127.out) BK123.out (by decide)) (fun k_ hk => hk.2))))) (Reps.one (show Kd.FK (Kd.slice 5 (Kd.int .u8)) _ _ t128 [.slice Ao24 t128.length co24] from (Kd.FK_slice_mk (Kd.R_reads' (Kd.R_mono (ok' := (fun k_ => k_ ≠ gb123)) (Kd.R_types (HO130.out) BK123.out (by decide)) (fun k_ hk => hk.2))).2.1 (Kd.R_F (Kd.R_mono (ok' := (fun k_ => k_ ≠ gb123)) (Kd.R_types (HO130.out) BK123.out (by decide)) (fun k_ hk => hk.2))))) (Reps.one (show Kd.FK (Kd.slice 5 (Kd.int .u8)) _ _ t131 [.slice Ao25 t131.length co25] from (Kd.FK_slice_mk (Kd.R_reads' (Kd.R_mono (ok' := (fun k_ => k_ ≠ gb123)) (Kd.R_types (HO133.out) BK123.out (by decide)) (fun k_ hk => hk.2))).2.1 (Kd.R_F (Kd.R_mono (ok' := (fun k_ => k_ ≠ gb123)) (Kd.R_types (HO133.out) BK123.out (by decide)) (fun k_ hk => hk.2))))) (Reps.one (show Kd.FK (Kd.slice 5 (Kd.int .u8)) _ _ t134 [.slice Ao26 t134.length co26] from (Kd.FK_slice_mk (Kd.R_reads' (Kd.R_mono (ok' := (fun k_ => k_ ≠ gb123)) (Kd.R_types (HO136.out) BK123.out (by decide)) (fun k_ hk => hk.2))).2.1 (Kd.R_F (Kd.R_mono (ok' := (fun k_ => k_ ≠ gb123)) (Kd.R_types (HO136.out) BK123.out (by decide)) (fun k_ hk => hk.2))))) (Reps.one (show Kd.FK (Kd.slice 5 (Kd.int .u8)) _ _ t137 [.slice Ao27 t137.length co27] from (Kd.FK_slice_mk (Kd.R_reads' (Kd.R_mono (ok' := (fun k_ => k_ ≠ gb123)) (Kd.R_types (HO139.out) BK123.out (by decide)) (fun k_ hk => hk.2))).2.1 (Kd.R_F (Kd.R_mono (ok' := (fun k_ => k_ ≠ gb123)) (Kd.R_types (HO139.out) BK123.out (by decide)) (fun k_ hk => hk.2))))) (Reps.none _ _)))))))
    intro v141 w28 ho29 hb hg_ hnew_
    clear hg_ hnew_
    (first | rw [← Ny140.out] at ho29 | (simp only [Int.reduceToNat] at ho29; rw [← Ny140.out] at ho29))
    have n0_ := Aside0.mk (Kd.N_lower ho29 (below_size (by repeat (first | (with_reducible first | exact HB.out | apply below_alloc | apply pw_below_drewN | apply below_drew1 | refine below_set ?_ GE123.out) | exact HB.out))))
    have n1_ := Aside0.mk (blk_below (g := gb123) (o := .cells #[.int .u8 a0_0, .int .u16 a0_1, .int .u16 a0_2, .int .u16 a0_3, .int .u16 a0_4] 24 (0, 0)) (by (with_reducible repeat (first | refine blk_drewN ?_ _ | refine blk_drew ?_ | refine blk_alloc ?_ _)); exact BK123.out) hb)
    have n2_ := Aside0.mk (below_step (by repeat (first | (with_reducible first | exact HB.out | apply below_alloc | apply pw_below_drewN | apply below_drew1 | refine below_set ?_ GE123.out) | exact HB.out)) hb)
    clear BK123
    clear HB
    clear HO127
    clear HO130
    clear HO133
    clear HO136
    clear HO139
    have HO142 := n0_
    have BK123 := n1_
    have HB := n2_
    clear n0_ n1_ n2_
    clear hb ho29
    refine hK.out _ _ ⟨.slice Ao23 y125.length co23, .slice Ao24 t128.length co24, .slice Ao25 t131.length co25, .slice Ao26 t134.length co26, .slice Ao27 t137.length co27, v141, v144, m17_, (by rw [ha.out]; exact putSel_upk 10 hb_ rfl rfl rfl), (by (with_reducible repeat (first | refine blk_drewN ?_ _ | refine blk_drew ?_ | refine blk_alloc ?_ _)); exact BK123.out), (by repeat (first | (with_reducible first | exact HB.out | apply below_alloc | apply pw_below_drewN | apply below_drew1 | refine below_set ?_ GE123.out) | exact HB.out)), fun _ h1_ => absurd ((up_self b 15).symm.trans h1_) (by decide), fun _ h1_ => absurd ((up_self b 15).symm.trans h1_) (by decide), fun _ h1_ => absurd ((up_self b 15).symm.trans h1_) (by decide), fun _ h1_ => absurd ((up_self b 15).symm.trans h1_) (by decide), fun _ h1_ => absurd ((up_self b 15).symm.trans h1_) (by decide), fun _ => (by (with_reducible repeat (first | apply Kd.N_alloc | apply Kd.N_drewN | apply Kd.N_drew)); first | exact HO142.out | exact Kd.R_mono HO142.out (fun _ hk => by first | exact trivial | simp_all) | exact Kd.N_mono HO142.out (fun _ hk => by first | exact trivial | simp_all)), fun h0_ => absurd ((hoff 16 (by kernel_rfl)).symm.trans h0_) (by decide), fun h0_ => absurd ((hoff 17 (by kernel_rfl)).symm.trans h0_) (by decide)⟩
   refine steps_cons ?_ ?_
   ·rintro b a w' ⟨v126, v129, v132, v135, v138, v141, v144, m17_, ha, Q_BK123, Q_HB, Q_HO127, Q_HO130, Q_HO133, Q_HO136, Q_HO139, Q_HO142, Q_HO145, Q_X17_⟩ hb_ hon hoff
    refine ⟨_, rfl, fun K hK => ?_⟩
    have e26 : a.tmps[26]? = some (v141) := by rw [ha]; exact putSel_on (e := (15, 26, v141)) 10 rfl rfl (hon 15 (by kernel_rfl)) rfl
    replace ha := Aside0.mk ha
    have BK123 := Aside0.mk Q_BK123
    have HB := Aside0.mk Q_HB
    have HO142 := Aside0.mk (Q_HO142 (hon 15 (by kernel_rfl)))
    obtain ⟨Ao30, co30, eo30⟩ := Kd.N_slice HO142.out
    (first | subst eo30 | (injection eo30 with f1_ f2_ f3_; have f4_ := f1_.symm; have f5_ := f3_.symm; clear f1_ f2_ f3_; subst f4_; subst f5_))
    refine goes_ Try.func22 (by kernel_rfl) rfl #[.slice Ao30 y140.length co30] (by rfl) rfl rfl (by first | (simp only [List.map_toArray, List.map_cons, List.map_nil, Act.eval, Array.getD_eq_getD_getElem?, Option.getD_some, e26]; done) | (simp only [List.map_toArray, List.map_cons, List.map_nil, Act.eval, Array.getD_eq_getD_getElem?, Option.getD_some, e26]; rfl)) ?_
    with_reducible refine (slices_Concat_byte_byte.calls k _ _ y140 t143 _ ?side1 ?side2 A8.out).mono ?_
    (case side1 => repeat (first | exact (Kd.N_reads' HO142.out).2.2 | (with_reducible refine Kd.C_alloc ?_ _) | (with_reducible refine Kd.C_drewN ?_ _) | (with_reducible refine Kd.C_drew ?_)))
    (case side2 => exact (Kd.N_reads' HO142.out).2.1)
    rintro e w31 ⟨v144, rfl, ho0, hb⟩
    refine ⟨_, rfl, ?_⟩
    have n0_ := Aside0.mk (Kd.N_elder' (by (with_reducible repeat (first | apply Kd.N_alloc | apply Kd.N_drewN | apply Kd.N_drew)); exact HO142.out) (Kd.R_base ho0) hb)
    have n1_ := Aside0.mk (Kd.R_lower ho0 (below_size (by repeat (first | (with_reducible first | exact HB.out | apply below_alloc | apply pw_below_drewN | apply below_drew1 | refine below_set ?_ GE123.out) | exact HB.out))))
    have n2_ := Aside0.mk (blk_below (g := gb123) (o := .cells #[.int .u8 a0_0, .int .u16 a0_1, .int .u16 a0_2, .int .u16 a0_3, .int .u16 a0_4] 24 (0, 0)) (by (with_reducible repeat (first | refine blk_drewN ?_ _ | refine blk_drew ?_ | refine blk_alloc ?_ _)); exact BK123.out) hb)
    have n3_ := Aside0.mk (below_step (by repeat (first | (with_reducible first | exact HB.out | apply below_alloc | apply pw_below_drewN | apply below_drew1 | refine below_set ?_ GE123.out) | exact HB.out)) hb)
    clear HO142
    clear BK123
    clear HB
    have HO142 := n0_
    have HO145 := n1_
    have BK123 := n2_
    have HB := n3_
    clear n0_ n1_ n2_ n3_
    (try clear hb)
    (try clear hb2)
    (try clear hk)
    (try clear hi)
    (try clear ho0)
    refine hK.out _ _ ⟨v126, v129, v132, v135, v138, .slice Ao30 y140.length co30, v144, m17_, (by rw [ha.out]; exact putSel_upk 11 hb_ rfl rfl rfl), (by (with_reducible repeat (first | refine blk_drewN ?_ _ | refine blk_drew ?_ | refine blk_alloc ?_ _)); exact BK123.out), (by repeat (first | (with_reducible first | exact HB.out | apply below_alloc | apply pw_below_drewN | apply below_drew1 | refine below_set ?_ GE123.out) | exact HB.out)), fun _ h1_ => absurd ((hon 15 (by kernel_rfl)).symm.trans h1_) (by decide), fun _ h1_ => absurd ((hon 15 (by kernel_rfl)).symm.trans h1_) (by decide), fun _ h1_ => absurd ((hon 15 (by kernel_rfl)).symm.trans h1_) (by decide), fun _ h1_ => absurd ((hon 15 (by kernel_rfl)).symm.trans h1_) (by decide), fun _ h1_ => absurd ((hon 15 (by kernel_rfl)).symm.trans h1_) (by decide), fun _ => (by (with_reducible repeat (first | apply Kd.N_alloc | apply Kd.N_drewN | apply Kd.N_drew)); exact Kd.N_mono HO142.out (fun _ hk => by first | exact ⟨hk.2, hk.1⟩ | exact trivial | exact hk | simp_all)), fun _ => (by (with_reducible repeat (first | apply Kd.R_alloc | apply Kd.R_drewN | apply Kd.R_drew)); first | exact HO145.out | exact Kd.R_mono HO145.out (fun _ hk => by first | exact trivial | simp_all) | exact Kd.N_mono HO145.out (fun _ hk => by first | exact trivial | simp_all)), fun h0_ => absurd ((hoff 17 (by kernel_rfl)).symm.trans h0_) (by decide)⟩
   refine steps_cons ?_ ?_
   ·rintro b a w' ⟨v126, v129, v132, v135, v138, v141, v144, m17_, ha, Q_BK123, Q_HB, Q_HO127, Q_HO130, Q_HO133, Q_HO136, Q_HO139, Q_HO142, Q_HO145, Q_X17_⟩ hb_ hon hoff
    refine ⟨_, rfl, fun K hK => ?_⟩
    have e27 : a.tmps[27]? = some (v144) := by rw [ha]; exact putSel_on (e := (16, 27, v144)) 11 rfl rfl (hon 16 (by kernel_rfl)) rfl
    replace ha := Aside0.mk ha
    have BK123 := Aside0.mk Q_BK123
    have HB := Aside0.mk Q_HB
    have HO142 := Aside0.mk (Q_HO142 (hon 15 (by kernel_rfl)))
    have HO145 := Aside0.mk (Q_HO145 (hon 16 (by kernel_rfl)))
    refine value_ (w1 := w') (v := v144) (by rfl) rfl ?_ ?_
    ·go_simp
     (try simp only [i64_w])
     try rfl
    refine hK.out _ _ ⟨v126, v129, v132, v135, v138, v141, v144, (v144), (by rw [ha.out]; exact putSel_upk 12 hb_ rfl rfl rfl), Q_BK123, Q_HB, fun _ h1_ => absurd ((hon 15 (by kernel_rfl)).symm.trans h1_) (by decide), fun _ h1_ => absurd ((hon 15 (by kernel_rfl)).symm.trans h1_) (by decide), fun _ h1_ => absurd ((hon 15 (by kernel_rfl)).symm.trans h1_) (by decide), fun _ h1_ => absurd ((hon 15 (by kernel_rfl)).symm.trans h1_) (by decide), fun _ h1_ => absurd ((hon 15 (by kernel_rfl)).symm.trans h1_) (by decide), Q_HO142, Q_HO145, fun _ => rfl⟩
   exact steps_nil
  rintro b a w31 hall ⟨v126, v129, v132, v135, v138, v141, v144, m17_, ha, Q_BK123, Q_HB, Q_HO127, Q_HO130, Q_HO133, Q_HO136, Q_HO139, Q_HO142, Q_HO145, Q_X17_⟩
  clear BK123 HB
  have hb1_ := hall 1 (by kernel_rfl)
  have hb2_ := hall 2 (by kernel_rfl)
  have hb4_ := hall 4 (by kernel_rfl)
  have hb5_ := hall 5 (by kernel_rfl)
  have hb7_ := hall 7 (by kernel_rfl)
  have hb8_ := hall 8 (by kernel_rfl)
  have hb10_ := hall 10 (by kernel_rfl)
  have hb11_ := hall 11 (by kernel_rfl)
  have hb13_ := hall 13 (by kernel_rfl)
  have hb14_ := hall 14 (by kernel_rfl)
  have hb15_ := hall 15 (by kernel_rfl)
  have hb16_ := hall 16 (by kernel_rfl)
  have hb17_ := hall 17 (by kernel_rfl)
  subst ha
  obtain rfl := Q_X17_ hb17_
  simp only [putSel, hb1_, hb2_, hb4_, hb5_, hb7_, hb8_, hb10_, hb11_, hb13_, hb14_, hb15_, hb16_, hb17_, if_true, Act.put, List.setIfInBounds_toArray, List.set_cons_zero, List.set_cons_succ]
  have BK123 := Aside0.mk Q_BK123
  clear Q_BK123
  have HB := Aside0.mk Q_HB
  clear Q_HB
  clear Q_HO127
  clear Q_HO130
  clear Q_HO133
  clear Q_HO136
  clear Q_HO139
  have HO142 := Aside0.mk (Q_HO142 hb15_)
  clear Q_HO142
  have HO145 := Aside0.mk (Q_HO145 hb16_)
  clear Q_HO145
  clear hall hb1_ hb2_ hb4_ hb5_ hb7_ hb8_ hb10_ hb11_ hb13_ hb14_ hb15_ hb16_ hb17_
  obtain ⟨Ao32, co32, eo32⟩ := Kd.R_slice HO145.out
  subst eo32
  try go_wp2_with (first | ((with_reducible refine gate_callee (f := 24) rfl ?_); refine goesL_ (some 30) rfl rfl Try.func24 (by kernel_rfl) rfl #[.slice Ao32 t143.length co32] rfl (by (try simp only [List.map_toArray, List.map_cons, List.map_nil]); first | done | rfl | (simp only [List.length_drop, List.length_take]; rfl)) ?_; (with_reducible refine (crc_Sum.calls k _ _ t143 t146 _ ?side1 ?side2 A9.out).mono ?_); (case side1 => repeat (first | exact (Kd.R_reads' HO145.out).2.2 | (with_reducible refine Kd.C_alloc ?_ _) | (with_reducible refine Kd.C_drewN ?_ _) | (with_reducible refine Kd.C_drew ?_))); (case side2 => exact (Kd.R_reads' HO145.out).2.1); rintro e w' ⟨rfl, ⟨nd, rfl⟩⟩; refine ⟨_, rfl, ?_⟩) | ((with_reducible refine gate_callee (f := 23) rfl ?_); refine goesL_ (some 31) rfl rfl Try.func23 (by kernel_rfl) rfl #[.int .u16 t146] rfl (by (try simp only [List.map_toArray, List.map_cons, List.map_nil]); first | done | rfl | (simp only [List.length_drop, List.length_take]; rfl)) ?_; (with_reducible refine (tele_pair.calls t146 t147 _ A10.out).mono ?_); rintro e w33 ⟨v148, rfl, ho0, hb⟩; refine ⟨_, rfl, ?_⟩; have n0_ := Aside0.mk (Kd.N_elder' (by (with_reducible repeat (first | apply Kd.N_alloc | apply Kd.N_drewN | apply Kd.N_drew)); exact HO142.out) (Kd.R_base ho0) hb); have n1_ := Aside0.mk (Kd.R_elder' (by (with_reducible repeat (first | apply Kd.R_alloc | apply Kd.R_drewN | apply Kd.R_drew)); exact HO145.out) (Kd.R_base ho0) hb); have n2_ := Aside0.mk (Kd.R_lower (Kd.R_new' ho0 (Kd.R_lt (by (with_reducible repeat (first | apply Kd.R_alloc | apply Kd.R_drewN | apply Kd.R_drew)); exact HO145.out))) (below_size (by repeat (first | (with_reducible first | exact HB.out | apply below_alloc | apply pw_below_drewN | apply below_drew1 | refine below_set ?_ GE123.out) | exact HB.out)))); have n3_ := Aside0.mk (blk_below (g := gb123) (o := .cells #[.int .u8 a0_0, .int .u16 a0_1, .int .u16 a0_2, .int .u16 a0_3, .int .u16 a0_4] 24 (0, 0)) (by (with_reducible repeat (first | refine blk_drewN ?_ _ | refine blk_drew ?_ | refine blk_alloc ?_ _)); exact BK123.out) hb); have n4_ := Aside0.mk (below_step (by repeat (first | (with_reducible first | exact HB.out | apply below_alloc | apply pw_below_drewN | apply below_drew1 | refine below_set ?_ GE123.out) | exact HB.out)) hb); clear HO142; clear HO145; clear BK123; clear HB; have HO142 := n0_; have HO145 := n1_; have HO149 := n2_; have BK123 := n3_; have HB := n4_; clear n0_ n1_ n2_ n3_ n4_; (try clear hb); (try clear hb2); (try clear hk); (try clear hi); (try clear ho0); obtain ⟨Ao34, co34, eo34⟩ := Kd.R_slice HO149.out; subst eo34) | ((with_reducible refine gate_dst (N := 32) rfl ?_); refine Kd.N_lit (Kd.slice 5 (Kd.int .u8)) _ 26 ?hg (N' := 32) ?hd (xs := ([t143, t147] : List (List Int))) (inner := [.slice Ao32 t143.length co32, .slice Ao34 t147.length co34]) (ok := (fun k_ => some k_ ≠ (v141 : Value).ownBlock ∧ k_ ≠ gb123)) (okp := (fun k_ => some k_ ≠ (v141 : Value).ownBlock ∧ k_ ≠ gb123)) ?hr ?hp (fun _ hk => hk) ((show ∀ k_, w33.heap.size ≤ k_ → (fun k_ => some k_ ≠ (v141 : Value).ownBlock ∧ k_ ≠ gb123) k_ from fun k_ hk => ⟨Kd.fresh' (Kd.N_lt (by (with_reducible repeat (first | apply Kd.N_alloc | apply Kd.N_drewN | apply Kd.N_drew)); exact HO142.out)) k_ hk, Kd.freshB (g := gb123) (o := .cells #[.int .u8 a0_0, .int .u16 a0_1, .int .u16 a0_2, .int .u16 a0_3, .int .u16 a0_4] 24 (0, 0)) (by (with_reducible repeat (first | refine blk_drewN ?_ _ | refine blk_drew ?_ | refine blk_alloc ?_ _)); exact BK123.out) k_ hk⟩) _ (Nat.le_refl _)) (Below.refl _ _) (Nat.le_refl _) (by simp) ?_; (case hd => rfl); (case hg => rfl); (case hr => first | (go_simp; done) | (go_simp; rfl)); (case hp => exact (Reps.one (show Kd.FK (Kd.slice 5 (Kd.int .u8)) _ _ t143 [.slice Ao32 t143.length co32] from (Kd.FK_slice_mk (Kd.R_reads' (Kd.R_mono (ok' := (fun k_ => some k_ ≠ (v141 : Value).ownBlock ∧ k_ ≠ gb123)) (Kd.R_types (Kd.R_apart' (HO145.out) (Kd.N_typed HO142.out) (by decide)) BK123.out (by decide)) (fun k_ hk => ⟨hk.1.2, hk.2⟩))).2.1 (Kd.R_F (Kd.R_mono (ok' := (fun k_ => some k_ ≠ (v141 : Value).ownBlock ∧ k_ ≠ gb123)) (Kd.R_types (Kd.R_apart' (HO145.out) (Kd.N_typed HO142.out) (by decide)) BK123.out (by decide)) (fun k_ hk => ⟨hk.1.2, hk.2⟩))))) (Reps.one (show Kd.FK (Kd.slice 5 (Kd.int .u8)) _ _ t147 [.slice Ao34 t147.length co34] from (Kd.FK_slice_mk (Kd.R_reads' (Kd.R_mono (ok' := (fun k_ => some k_ ≠ (v141 : Value).ownBlock ∧ k_ ≠ gb123)) (Kd.R_types (Kd.R_apart' (HO149.out) (Kd.N_typed HO142.out) (by decide)) BK123.out (by decide)) (fun k_ hk => ⟨hk.1.2, hk.2⟩))).2.1 (Kd.R_F (Kd.R_mono (ok' := (fun k_ => some k_ ≠ (v141 : Value).ownBlock ∧ k_ ≠ gb123)) (Kd.R_types (Kd.R_apart' (HO149.out) (Kd.N_typed HO142.out) (by decide)) BK123.out (by decide)) (fun k_ hk => ⟨hk.1.2, hk.2⟩))))) (Reps.none _ _)))); intro v151 w35 ho36 hb hg_ hnew_; clear hg_ hnew_; (first | rw [← Ny150.out] at ho36 | (simp only [Int.reduceToNat] at ho36; rw [← Ny150.out] at ho36)); have n0_ := Aside0.mk (Kd.N_elder' (by (with_reducible repeat (first | apply Kd.N_alloc | apply Kd.N_drewN | apply Kd.N_drew)); exact HO142.out) (Kd.N_base ho36) hb); have n1_ := Aside0.mk (Kd.N_lower ho36 (below_size (by repeat (first | (with_reducible first | exact HB.out | apply below_alloc | apply pw_below_drewN | apply below_drew1 | refine below_set ?_ GE123.out) | exact HB.out)))); have n2_ := Aside0.mk (blk_below (g := gb123) (o := .cells #[.int .u8 a0_0, .int .u16 a0_1, .int .u16 a0_2, .int .u16 a0_3, .int .u16 a0_4] 24 (0, 0)) (by (with_reducible repeat (first | refine blk_drewN ?_ _ | refine blk_drew ?_ | refine blk_alloc ?_ _)); exact BK123.out) hb); have n3_ := Aside0.mk (below_step (by repeat (first | (with_reducible first | exact HB.out | apply below_alloc | apply pw_below_drewN | apply below_drew1 | refine below_set ?_ GE123.out) | exact HB.out)) hb); clear HO142; clear BK123; clear HB; clear HO145; clear HO149; have HO142 := n0_; have HO152 := n1_; have BK123 := n2_; have HB := n3_; clear n0_ n1_ n2_ n3_; clear hb ho36; obtain ⟨Ao37, co37, eo37⟩ := Kd.N_slice HO152.out; subst eo37) | ((with_reducible refine gate_callee (f := 22) rfl ?_); refine goesL_ (some 33) rfl rfl Try.func22 (by kernel_rfl) rfl #[.slice Ao37 y150.length co37] rfl (by (try simp only [List.map_toArray, List.map_cons, List.map_nil]); first | done | rfl | (simp only [List.length_drop, List.length_take]; rfl)) ?_; (with_reducible refine (slices_Concat_byte_byte.calls k _ _ y150 t153 _ ?side1 ?side2 A11.out).mono ?_); (case side1 => repeat (first | exact (Kd.N_reads' HO152.out).2.2 | (with_reducible refine Kd.C_alloc ?_ _) | (with_reducible refine Kd.C_drewN ?_ _) | (with_reducible refine Kd.C_drew ?_))); (case side2 => exact (Kd.N_reads' HO152.out).2.1); rintro e w38 ⟨v154, rfl, ho0, hb⟩; refine ⟨_, rfl, ?_⟩; have n0_ := Aside0.mk (Kd.N_elder' (by (with_reducible repeat (first | apply Kd.N_alloc | apply Kd.N_drewN | apply Kd.N_drew)); exact HO142.out) (Kd.R_base ho0) hb); have n1_ := Aside0.mk (Kd.N_elder' (by (with_reducible repeat (first | apply Kd.N_alloc | apply Kd.N_drewN | apply Kd.N_drew)); exact HO152.out) (Kd.R_base ho0) hb); have n2_ := Aside0.mk (Kd.R_lower ho0 (below_size (by repeat (first | (with_reducible first | exact HB.out | apply below_alloc | apply pw_below_drewN | apply below_drew1 | refine below_set ?_ GE123.out) | exact HB.out)))); have n3_ := Aside0.mk (blk_below (g := gb123) (o := .cells #[.int .u8 a0_0, .int .u16 a0_1, .int .u16 a0_2, .int .u16 a0_3, .int .u16 a0_4] 24 (0, 0)) (by (with_reducible repeat (first | refine blk_drewN ?_ _ | refine blk_drew ?_ | refine blk_alloc ?_ _)); exact BK123.out) hb); have n4_ := Aside0.mk (below_step (by repeat (first | (with_reducible first | exact HB.out | apply below_alloc | apply pw_below_drewN | apply below_drew1 | refine below_set ?_ GE123.out) | exact HB.out)) hb); clear HO142; clear HO152; clear BK123; clear HB; have HO142 := n0_; have HO152 := n1_; have HO155 := n2_; have BK123 := n3_; have HB := n4_; clear n0_ n1_ n2_ n3_ n4_; (try clear hb); (try clear hb2); (try clear hk); (try clear hi); (try clear ho0)))
  go_ret2
  exact ⟨_, by first | rfl | (simp [errW_none, errW_some] <;> rfl) | (simp [*, errW_none, errW_some] <;> rfl), by (with_reducible repeat (first | apply Kd.R_alloc | apply Kd.R_drewN | apply Kd.R_drew)); exact HO155.out, by repeat (first | (with_reducible first | exact HB.out | apply below_alloc | apply pw_below_drewN | apply below_drew1 | refine below_set ?_ GE123.out) | exact HB.out)⟩
 ·rw [if_neg c3] at H
  have c3b0 : (t124 == 0) = false := beq_eq_false_iff_ne.mpr c3
  have c3b1 : (t124 != 0) = true := bne_iff_ne.mpr c3
  simp only [Option.some.injEq, Prod.mk.injEq] at H
  obtain ⟨rfl, rfl⟩ := H
  go_enter Try.func12, Try.ntmps12
  go_wp2_with (first | ((with_reducible refine gate_dst (N := 1) rfl ?_); refine box_event ?hg (N := 1) ?hd (cs := #[.int .u8 a0_0, .int .u16 a0_1, .int .u16 a0_2, .int .u16 a0_3, .int .u16 a0_4]) (t := 24) ?hr ?_; (case hd => rfl); (case hg => rfl); (case hr => first | (go_simp; done) | (go_simp; rfl)); intro gb123 hg w39 hbox hb; have n0_ := Aside0.mk (below_step (by repeat (first | (with_reducible first | exact HB.out | apply below_alloc | apply pw_below_drewN | apply below_drew1) | exact HB.out)) hb); have n1_ := Aside0.mk (hbox); have n2_ := Aside0.mk ((by rw [hg]; exact (below_size (by repeat (first | (with_reducible first | exact HB.out | apply below_alloc | apply pw_below_drewN | apply below_drew1) | exact HB.out))) : w.heap.size ≤ gb123)); have n3_ := Aside0.mk ((by rw [hg]; exact (below_size (by repeat (first | (with_reducible first | exact HB.out | apply below_alloc | apply pw_below_drewN | apply below_drew1) | exact HB.out))) : w.heap.size ≤ gb123)); clear HB; have HB := n0_; have BK123 := n1_; have GW123 := n2_; have GE123 := n3_; clear n0_ n1_ n2_ n3_; clear hb hbox hg; have hcz40_0 : w39.cell? ⟨gb123, 0, none⟩ = some (.int .u8 a0_0) := (blk_cell BK123.out 0).trans rfl; have hcz40_1 : w39.cell? ⟨gb123, 1, none⟩ = some (.int .u16 a0_1) := (blk_cell BK123.out 1).trans rfl; have hcz40_2 : w39.cell? ⟨gb123, 2, none⟩ = some (.int .u16 a0_2) := (blk_cell BK123.out 2).trans rfl; have hcz40_3 : w39.cell? ⟨gb123, 3, none⟩ = some (.int .u16 a0_3) := (blk_cell BK123.out 3).trans rfl; have hcz40_4 : w39.cell? ⟨gb123, 4, none⟩ = some (.int .u16 a0_4) := (blk_cell BK123.out 4).trans rfl; have hfz40_0 := blk_frozen BK123.out 0; have hfz40_1 := blk_frozen BK123.out 1; have hfz40_2 := blk_frozen BK123.out 2; have hfz40_3 := blk_frozen BK123.out 3; have hfz40_4 := blk_frozen BK123.out 4) | ((with_reducible refine gate_callee (f := 14) rfl ?_); refine goesL_ (some 7) rfl rfl Try.func14 (by kernel_rfl) rfl #[.agg #[.int .u8 a0_0, .int .u16 a0_1, .int .u16 a0_2, .int .u16 a0_3, .int .u16 a0_4]] rfl (by (try simp only [List.map_toArray, List.map_cons, List.map_nil]); first | done | rfl | (simp only [List.length_drop, List.length_take]; rfl)) ?_; (with_reducible refine (tele_Check.calls k a0_0 a0_1 a0_2 a0_3 a0_4 t124 _ A2.out).mono ?_); rintro e w41 ⟨rfl, hb⟩; refine ⟨_, rfl, ?_⟩; have n0_ := Aside0.mk (blk_below (g := gb123) (o := .cells #[.int .u8 a0_0, .int .u16 a0_1, .int .u16 a0_2, .int .u16 a0_3, .int .u16 a0_4] 24 (0, 0)) (by (with_reducible repeat (first | refine blk_drewN ?_ _ | refine blk_drew ?_ | refine blk_alloc ?_ _)); exact BK123.out) hb); have n1_ := Aside0.mk (below_step (by repeat (first | (with_reducible first | exact HB.out | apply below_alloc | apply pw_below_drewN | apply below_drew1 | refine below_set ?_ GE123.out) | exact HB.out)) hb); clear BK123; clear HB; have BK123 := n0_; have HB := n1_; clear n0_ n1_; (try clear hb); (try clear hb2); (try clear hk); (try clear hi)))
  go_ret2
  exact ⟨_, by first | rfl | (simp [errW_none, errW_some] <;> rfl) | (simp [*, errW_none, errW_some] <;> rfl), by first | exact Kd.R_nil _ _ _ _ _ | exact Kd.N_nil _ _ _ _ _ | exact Kd.V_nil _ _ _ _ _ | exact Kd.Q_nil _ _ _ _ _ | exact Kd.S_nil _ _ _ _ _, by repeat (first | (with_reducible first | exact HB.out | apply below_alloc | apply pw_below_drewN | apply below_drew1 | refine below_set ?_ GE123.out) | exact HB.out)⟩

end Go.Proofs.Ytabkmjimdpdfaaa.PTelePieces
