/- IntakeFar: numbers that are neither in the window nor so many ahead of it are refused and change nothing. -/
import Derived.Test.YtjigeblechiffaaWait
namespace Go.Proofs.Ytjigeblechiffaa.PIntake
open Go.RowKit Go.Proofs.YtjigeblechiffaaW.PrintWords Go.Proofs.YtjigeblechiffaaW.PrintLast Go.Proofs.YtjigeblechiffaaW.PrintMore
attribute [local go_sem] max2_int min2_int max_two min_two max_three min_three max_four min_four   -- for this text's walks alone
set_option linter.unusedVariables false
set_option linter.unusedSimpArgs false
variable {w0 w w1 : World} {B : Nat} {s : St}
def FarC (W f : Int) (cm : List (Int × List Int)) : Prop := (1 < W ∧ cm = [((f + 1) % 65536, [120])]) ∨ (W = 1 ∧ cm = [])
theorem far_none {W f p : Int} {cm : List (Int × List Int)} (hf : 0 ≤ f ∧ f < 65536) (hp : 0 ≤ p ∧ p < 65536) (h1 : p ≠ 1) (hc : FarC W f cm) : at_ ((f + p) % 65536) cm = none := by
  rcases hc with ⟨_, rfl⟩ | ⟨_, rfl⟩
  · simp only [at_]
    rw [if_neg (by omega)]
  · rfl
theorem far_out {W f p : Int} {cm : List (Int × List Int)} (hW : 1 ≤ W ∧ W ≤ 64) (hf : 0 ≤ f ∧ f < 65536) (hp : 0 ≤ p ∧ p < 65536) (h1 : W ≤ p) (h2 : p < 65536 - W) (hc : FarC W f cm) :
    takeF ⟨W, f, cm, []⟩ ((f + p) % 65536) [] = (⟨W, f, cm, []⟩, 40) := by
  have h0 : at_ ((f + p) % 65536) cm = none := by
    rcases hc with ⟨hw, rfl⟩ | ⟨_, rfl⟩
    · simp only [at_]
      rw [if_neg (by omega)]
    · rfl
  unfold takeF
  rw [if_neg (by simp), if_neg, if_pos]
  · simp only [Bool.or_eq_true, Bool.not_eq_true', within_iff, decide_eq_false_iff_not]
    left
    have : ((f + p) % 65536 - f) % 65536 = p := by omega
    rw [this]; omega
  · simp only [h0, Option.isSome_none, Bool.false_or]
    rw [within_iff, u16_wrap, u16_wrap]
    have : ((f + p) % 65536 - (f - W % 65536) % 65536) % 65536 = p + W := by omega
    rw [this]; simp; omega
theorem far_back {W f p : Int} {cm : List (Int × List Int)} (hW : 1 ≤ W ∧ W ≤ 64) (hf : 0 ≤ f ∧ f < 65536) (hp : 0 ≤ p ∧ p < 65536) (h2 : 65536 - W ≤ p) :
    takeF ⟨W, f, cm, []⟩ ((f + p) % 65536) [] = (⟨W, f, cm, []⟩, 2) := by
  unfold takeF
  rw [if_neg (by simp), if_pos]
  simp only [Bool.or_eq_true]
  right
  rw [within_iff, u16_wrap, u16_wrap]
  have : ((f + p) % 65536 - (f - W % 65536) % 65536) % 65536 = p + W - 65536 := by omega
  rw [this]; simp; omega
theorem far_one {W f : Int} : takeF ⟨W, f, [((f + 1) % 65536, [120])], []⟩ ((f + 1) % 65536) [] = (⟨W, f, [((f + 1) % 65536, [120])], []⟩, 2) := by
  unfold takeF
  rw [if_neg (by simp), if_pos]
  simp [at_]
theorem far_first {W f : Int} (hW : 1 < W ∧ W ≤ 64) (hf : 0 ≤ f ∧ f < 65536) : takeF ⟨W, f, [], []⟩ ((f + 1) % 65536) [120] = (⟨W, f, [((f + 1) % 65536, [120])], []⟩, 0) := by
  unfold takeF
  rw [if_neg (by simp), if_neg, if_neg]
  · rw [drain_none]
    · rfl
    · simp only [List.nil_append, at_]
      rw [if_neg (by omega)]
  · rw [within_iff]
    have : ((f + 1) % 65536 - f) % 65536 = 1 := by omega
    rw [this]; simp; omega
  · simp only [at_, Option.isSome_none, Bool.false_or]
    rw [within_iff, u16_wrap, u16_wrap]
    have : ((f + 1) % 65536 - (f - W % 65536) % 65536) % 65536 = 1 + W := by omega
    rw [this]; simp; omega
theorem wlaw (a : Int) : 1 ≤ wrap64 (wrap64 ((IntKind.u64.wrap a).tmod 64) + 1) ∧ wrap64 (wrap64 ((IntKind.u64.wrap a).tmod 64) + 1) ≤ 64 := by
  have h0 : 0 ≤ IntKind.u64.wrap a := by
    have : IntKind.u64.wrap a = a % 18446744073709551616 := by simp [IntKind.wrap, IntKind.bits, IntKind.signed]
    rw [this]; omega
  rw [Int.tmod_eq_emod_of_nonneg h0]
  generalize IntKind.u64.wrap a = u at h0
  unfold wrap64
  omega
theorem f_min1 {W : Int} (h : 1 ≤ W ∧ W ≤ 64) (h1 : 1 < W) : ((1 : Int) != if 1 < W - 1 then 1 else W - 1) = false := by
  rw [bne_eq_false_iff_eq]
  split <;> omega
theorem f_min0 {W : Int} (h : 1 ≤ W ∧ W ≤ 64) (h1 : W ≤ 1) : ((0 : Int) != if 1 < W - 1 then 1 else W - 1) = false := by
  rw [bne_eq_false_iff_eq]
  split <;> omega
theorem f_meas {k kq : Nat} (h : k ≤ 100 ∧ 100 - k < kq) : kq - 1 < kq := by omega
theorem f_next {k kq n : Nat} (h : k ≤ 100 ∧ 100 - k < kq) (h' : k < n ∧ k < 100) : k + 1 ≤ 100 ∧ 100 - (k + 1) < kq - 1 := by omega
theorem f_k {k kq : Nat} (h : k ≤ 100 ∧ 100 - k < kq) : k < 10000 := by omega
theorem w64 {x : Int} (h : -9223372036854775808 ≤ x ∧ x < 9223372036854775808) : wrap64 x = x := by unfold wrap64; omega
theorem r_succ (k : Nat) (h : k < 10000) : wrap64 ((k : Int) + 1) = ((k + 1 : Nat) : Int) := by rw [w64 (by omega)]; rfl
theorem f_u16 (b p : Int) : IntKind.u16.wrap (b + IntKind.u16.wrap p) = (b + p) % 65536 := by rw [u16_wrap, u16_wrap]; omega
theorem f_rd {l : List Int} (hl : ∀ x ∈ l, 0 ≤ x ∧ x < 65536) {k : Nat} (hk : k < l.length) : 0 ≤ rd l (k : Int) ∧ rd l (k : Int) < 65536 := by
  have : rd l (k : Int) = l[k] := by simp [rd, List.getElem?_eq_getElem hk]
  rw [this]; exact hl _ (List.getElem_mem hk)

set_option maxHeartbeats 8000000 in
set_option maxRecDepth 100000 in
theorem Far_walk (a b : Int) (A : Option Addr) (c : Nat) (l : List Int) (hb : 0 ≤ b ∧ b < 65536) (hl : ∀ x ∈ l, 0 ≤ x ∧ x < 65536) (hc : l.length ≤ c) (w : World) (hr : Kd.C (Kd.int .u16) w A l.length l) :
    Calls Try.prog 5 #[.int .i64 a, .int .u16 b, .slice A l.length c] w fun e w' => e = .returned (.bool true) ∧ Below w.heap.size w w' := by
  have HF := Aside0.mk hb
  have HW := Aside0.mk (wlaw a)
  have HR := Aside0.mk hr
  have HL := Aside0.mk hl
  have HC := Aside0.mk hc
  have HM := Aside0.mk (Kd.C_max hr)
  have hcv : ∀ w : World, (convert 31 31 (.slice (some ⟨w.heap.size, 0, none⟩) 1 1)).run Try.prog (w.alloc (.cells #[.int .u8 120] 5)) = .ok (.slice (some ⟨w.heap.size, 0, none⟩) 1 1) (w.alloc (.cells #[.int .u8 120] 5 (1, 2))) := fun w => Lib.run_convert_bytes_const w 31 5 #[.int .u8 120] 1 1 Try.underlying31 Try.underlying5
  have hk1 : IntKind.u16.wrap (b + 1) = (b + 1) % 65536 := u16_wrap _
  clear hb hr hc hl
  go_enter Try.func5, Try.ntmps5
  go_upto_region 4 with (go_at_call 9; refine (awake_calls w).mono ?_; rintro e w1 ⟨rfl, hB⟩; have HB := Aside0.mk hB; clear hB)
  generalize wrap64 (wrap64 ((IntKind.u64.wrap a).tmod 64) + 1) = W at HW ⊢
  by_cases hW1 : 1 < W
  · have hg : decide (1 < W) = true := decide_eq_true hW1
    have T0 := Aside0.mk (far_first ⟨hW1, HW.out.2⟩ HF.out)
    have HCM := Aside0.mk (show FarC W b [((b + 1) % 65536, [120])] from .inl ⟨hW1, rfl⟩)
    have HW1 := Aside0.mk hW1
    clear hW1
    go_upto_region 7 with (first
      | (go_at_call 10; refine (New_ok HB.out W b HW.out HF.out).mono ?_; rintro e w2 ⟨rfl, hI⟩; have HI0 := Aside0.mk hI; clear hI)
      | (go_at_call 11; refine (Take_to (HI0.out.alloc _) _ (by omega) _ 1 [120] (by simp) (C_one (blk_new _ (.cells #[.int .u8 120] 5 (1, 2)))) T0.out).mono ?_; rintro e w3 ⟨rfl, hI, _⟩; have HI := Aside0.mk hI; clear hI HI0))
    have hgm : decide (1 < W) = true := hg
    generalize w1.heap.size = B at HI ⊢
    clear HB hg T0
    go_wp2
    go_loopg [9] 101 (fun kq v9 wr => ∃ (k : Nat), v9 = .int .i64 (k : Int) ∧ Aside0 (IV w B wr ⟨W, b, [((b + 1) % 65536, [120])], []⟩) ∧ Aside0 (k ≤ 100 ∧ 100 - k < kq))
    case atStart => exact ⟨0, rfl, HI, ⟨by decide⟩⟩
    case round =>
      clear HI
      obtain ⟨k, rfl, HI, HK⟩ := hrel
      by_cases hlt : k < l.length ∧ k < 100
      · have h1 : decide ((k : Int) < (l.length : Int)) = true := decide_eq_true (Int.ofNat_lt.2 hlt.1)
        have h2 : decide ((k : Int) < 100) = true := decide_eq_true (Int.ofNat_lt.2 hlt.2)
        obtain ⟨ad, rfl, hx⟩ := Kd.at_int (Kd.C_below HR.out HI.out.below) (k : Int) (Int.natCast_nonneg k) (Int.ofNat_lt.2 hlt.1)
        simp only [Int.toNat_natCast] at hx
        have q1 := eq_true (Int.natCast_nonneg k)
        have q2 := eq_true (Int.ofNat_lt.2 hlt.1 : (k : Int) < (l.length : Int))
        have hp := f_rd HL.out hlt.1
        have hk5 : wrap64 ((k : Int) + 1) = ((k + 1 : Nat) : Int) := r_succ k (f_k HK.out)
        generalize rd l (k : Int) = p at hx hp
        have hk2 : wrap64 p = p := w64 (by omega)
        have hk3 : IntKind.u16.wrap (b + IntKind.u16.wrap p) = (b + p) % 65536 := f_u16 b p
        have hk4 : wrap64 (65536 - W) = 65536 - W := w64 (by have := HW.out; omega)
        have hk6 : wrap64 (W - 1) = W - 1 := w64 (by have := HW.out; omega)
        have hmn : ((1 : Int) != if 1 < W - 1 then 1 else W - 1) = false := f_min1 HW.out HW1.out
        have HP := Aside0.mk hp
        have HLT := Aside0.mk hlt
        clear hp hlt
        have HR15 : Aside0 (∀ {w' : World}, IV w B w' ⟨W, b, [((b + 1) % 65536, [120])], []⟩ → Calls Try.prog 13 #[.pointer (some ⟨B + 2, 0, none⟩)] w' fun e w'' => e = .returned (.int .i64 0) ∧ w'' = w') := ⟨fun h => Ready_calls h⟩
        by_cases cA : W ≤ p ∧ p < 65536 - W
        · have hA1 : decide (W ≤ p) = true := decide_eq_true cA.1
          have hA2 : decide (p < 65536 - W) = true := decide_eq_true cA.2
          have TT := Aside0.mk (far_out HW.out HF.out HP.out cA.1 cA.2 HCM.out)
          clear cA
          go_wp2_with (first
            | (go_at_call 11; refine (Take_to HI.out _ (by omega) none 0 [] (Nat.le_refl _) (Kd.C_nil _ _) TT.out).mono ?_; rintro e w3 ⟨rfl, hI, _⟩; have HI2 := Aside0.mk hI; clear hI HI)
            | (go_at_call 14; refine (Next_calls HI2.out).mono ?_; rintro e w4 ⟨rfl, rfl⟩)
            | (go_at_call 13; refine (HR15.out HI2.out).mono ?_; rintro e w4 ⟨rfl, rfl⟩)
            | (go_at_call 15; refine (Waiting_calls HI2.out (by simp)).mono ?_; rintro e w5 ⟨v, R, rfl, hRl, _, hRP, hI, _⟩; obtain ⟨A5, c5, rfl⟩ := POrder.Kd.P_slice hRP; simp only [hRl, List.length_cons, List.length_nil, Nat.zero_add]; have HI3 := Aside0.mk hI; clear hI HI2 hRP hRl))
          all_goals go_roundg (gk - 1)
          all_goals first
            | exact f_meas HK.out
            | exact ⟨k + 1, congrArg (Value.int .i64) (by first | exact hk5 | exact (Int.natCast_succ k).symm | (simp; done)), HI3, ⟨f_next HK.out HLT.out⟩⟩
        · by_cases cB : 65536 - W ≤ p
          · have hA1 : decide (W ≤ p) = true := decide_eq_true (by have := HW.out; omega)
            have hA2 : decide (p < 65536 - W) = false := decide_eq_false (by omega)
            have hA3 : decide (65536 - W ≤ p) = true := decide_eq_true cB
            have TT := Aside0.mk (far_back (cm := [((b + 1) % 65536, [120])]) HW.out HF.out HP.out cB)
            clear cA cB
            go_wp2_with (first
              | (go_at_call 11; refine (Take_to HI.out _ (by omega) none 0 [] (Nat.le_refl _) (Kd.C_nil _ _) TT.out).mono ?_; rintro e w3 ⟨rfl, hI, _⟩; have HI2 := Aside0.mk hI; clear hI HI)
              | (go_at_call 14; refine (Next_calls HI2.out).mono ?_; rintro e w4 ⟨rfl, rfl⟩)
              | (go_at_call 13; refine (HR15.out HI2.out).mono ?_; rintro e w4 ⟨rfl, rfl⟩)
              | (go_at_call 15; refine (Waiting_calls HI2.out (by simp)).mono ?_; rintro e w5 ⟨v, R, rfl, hRl, _, hRP, hI, _⟩; obtain ⟨A5, c5, rfl⟩ := POrder.Kd.P_slice hRP; simp only [hRl, List.length_cons, List.length_nil, Nat.zero_add]; have HI3 := Aside0.mk hI; clear hI HI2 hRP hRl))
            all_goals go_roundg (gk - 1)
            all_goals first
              | exact f_meas HK.out
              | exact ⟨k + 1, congrArg (Value.int .i64) (by first | exact hk5 | exact (Int.natCast_succ k).symm | (simp; done)), HI3, ⟨f_next HK.out HLT.out⟩⟩
          · have hpW : p < W := by have := HP.out; omega
            have hA1 : decide (W ≤ p) = false := decide_eq_false (by omega)
            have hA3 : decide (65536 - W ≤ p) = false := decide_eq_false cB
            by_cases cC : p = 1
            · subst cC
              have TT := Aside0.mk (far_one (W := W) (f := b))
              clear cA cB hpW
              go_wp2_with (first
                | (go_at_call 11; refine (Take_to HI.out _ (by omega) none 0 [] (Nat.le_refl _) (Kd.C_nil _ _) TT.out).mono ?_; rintro e w3 ⟨rfl, hI, _⟩; have HI2 := Aside0.mk hI; clear hI HI)
                | (go_at_call 14; refine (Next_calls HI2.out).mono ?_; rintro e w4 ⟨rfl, rfl⟩)
                | (go_at_call 13; refine (HR15.out HI2.out).mono ?_; rintro e w4 ⟨rfl, rfl⟩)
                | (go_at_call 15; refine (Waiting_calls HI2.out (by simp)).mono ?_; rintro e w5 ⟨v, R, rfl, hRl, _, hRP, hI, _⟩; obtain ⟨A5, c5, rfl⟩ := POrder.Kd.P_slice hRP; simp only [hRl, List.length_cons, List.length_nil, Nat.zero_add]; have HI3 := Aside0.mk hI; clear hI HI2 hRP hRl))
              all_goals go_roundg (gk - 1)
              all_goals first
                | exact f_meas HK.out
                | exact ⟨k + 1, congrArg (Value.int .i64) (by first | exact hk5 | exact (Int.natCast_succ k).symm | (simp; done)), HI3, ⟨f_next HK.out HLT.out⟩⟩
            · have hA4 : (p == 1) = false := beq_eq_false_iff_ne.mpr cC
              clear cA cB cC hpW
              go_wp2_with (go_at_call 11; refine (Take_calls HI.out _ (by omega) none 0 [] (Nat.le_refl _) (Kd.C_nil _ _)).mono ?_; rintro e w3 ⟨rfl, hI, _⟩; have HI2 := Aside0.mk hI; clear hI HI; generalize (takeF ⟨W, b, [((b + 1) % 65536, [120])], []⟩ ((b + p) % 65536) []).2 = rr)
              all_goals (go_ret; exact ⟨rfl, HI2.out.below⟩)
      · by_cases hlt2 : k < l.length
        · have h1 : decide ((k : Int) < (l.length : Int)) = true := decide_eq_true (by omega)
          have h2 : decide ((k : Int) < 100) = false := decide_eq_false (by omega)
          clear hlt hlt2
          generalize (k : Int) = κ at h1 h2 ⊢
          go_wp2
          go_ret
          exact ⟨rfl, HI.out.below⟩
        · have h1 : decide ((k : Int) < (l.length : Int)) = false := decide_eq_false (by omega)
          clear hlt hlt2
          generalize (k : Int) = κ at h1 ⊢
          go_wp2
          go_ret
          exact ⟨rfl, HI.out.below⟩
  · have hg : decide (1 < W) = false := decide_eq_false hW1
    have HCM := Aside0.mk (show FarC W b [] from .inr ⟨by have := HW.out; omega, rfl⟩)
    have HW1 := Aside0.mk hW1
    clear hW1
    go_upto_region 7 with (go_at_call 10; refine (New_ok HB.out W b HW.out HF.out).mono ?_; rintro e w2 ⟨rfl, hI⟩; have HI := Aside0.mk hI; clear hI)
    generalize w1.heap.size = B at HI ⊢
    clear HB hg
    go_wp2
    go_loopg [9] 101 (fun kq v9 wr => ∃ (k : Nat), v9 = .int .i64 (k : Int) ∧ Aside0 (IV w B wr ⟨W, b, [], []⟩) ∧ Aside0 (k ≤ 100 ∧ 100 - k < kq))
    case atStart => exact ⟨0, rfl, HI, ⟨by decide⟩⟩
    case round =>
      clear HI
      obtain ⟨k, rfl, HI, HK⟩ := hrel
      by_cases hlt : k < l.length ∧ k < 100
      · have h1 : decide ((k : Int) < (l.length : Int)) = true := decide_eq_true (Int.ofNat_lt.2 hlt.1)
        have h2 : decide ((k : Int) < 100) = true := decide_eq_true (Int.ofNat_lt.2 hlt.2)
        obtain ⟨ad, rfl, hx⟩ := Kd.at_int (Kd.C_below HR.out HI.out.below) (k : Int) (Int.natCast_nonneg k) (Int.ofNat_lt.2 hlt.1)
        simp only [Int.toNat_natCast] at hx
        have q1 := eq_true (Int.natCast_nonneg k)
        have q2 := eq_true (Int.ofNat_lt.2 hlt.1 : (k : Int) < (l.length : Int))
        have hp := f_rd HL.out hlt.1
        have hk5 : wrap64 ((k : Int) + 1) = ((k + 1 : Nat) : Int) := r_succ k (f_k HK.out)
        generalize rd l (k : Int) = p at hx hp
        have hk2 : wrap64 p = p := w64 (by omega)
        have hk3 : IntKind.u16.wrap (b + IntKind.u16.wrap p) = (b + p) % 65536 := f_u16 b p
        have hk4 : wrap64 (65536 - W) = 65536 - W := w64 (by have := HW.out; omega)
        have hk6 : wrap64 (W - 1) = W - 1 := w64 (by have := HW.out; omega)
        have hmn : ((0 : Int) != if 1 < W - 1 then 1 else W - 1) = false := f_min0 HW.out HW1.out
        have HP := Aside0.mk hp
        have HLT := Aside0.mk hlt
        clear hp hlt
        have HR15 : Aside0 (∀ {w' : World}, IV w B w' ⟨W, b, [], []⟩ → Calls Try.prog 13 #[.pointer (some ⟨B + 2, 0, none⟩)] w' fun e w'' => e = .returned (.int .i64 0) ∧ w'' = w') := ⟨fun h => Ready_calls h⟩
        by_cases cA : W ≤ p ∧ p < 65536 - W
        · have hA1 : decide (W ≤ p) = true := decide_eq_true cA.1
          have hA2 : decide (p < 65536 - W) = true := decide_eq_true cA.2
          have TT := Aside0.mk (far_out HW.out HF.out HP.out cA.1 cA.2 HCM.out)
          clear cA
          go_wp2_with (first
            | (go_at_call 11; refine (Take_to HI.out _ (by omega) none 0 [] (Nat.le_refl _) (Kd.C_nil _ _) TT.out).mono ?_; rintro e w3 ⟨rfl, hI, _⟩; have HI2 := Aside0.mk hI; clear hI HI)
            | (go_at_call 14; refine (Next_calls HI2.out).mono ?_; rintro e w4 ⟨rfl, rfl⟩)
            | (go_at_call 13; refine (HR15.out HI2.out).mono ?_; rintro e w4 ⟨rfl, rfl⟩)
            | (go_at_call 15; refine (Waiting_calls HI2.out (by simp)).mono ?_; rintro e w5 ⟨v, R, rfl, hRl, _, hRP, hI, _⟩; obtain ⟨A5, c5, rfl⟩ := POrder.Kd.P_slice hRP; simp only [hRl, List.length_cons, List.length_nil, Nat.zero_add]; have HI3 := Aside0.mk hI; clear hI HI2 hRP hRl))
          all_goals go_roundg (gk - 1)
          all_goals first
            | exact f_meas HK.out
            | exact ⟨k + 1, congrArg (Value.int .i64) (by first | exact hk5 | exact (Int.natCast_succ k).symm | (simp; done)), HI3, ⟨f_next HK.out HLT.out⟩⟩
        · by_cases cB : 65536 - W ≤ p
          · have hA1 : decide (W ≤ p) = true := decide_eq_true (by have := HW.out; omega)
            have hA2 : decide (p < 65536 - W) = false := decide_eq_false (by omega)
            have hA3 : decide (65536 - W ≤ p) = true := decide_eq_true cB
            have TT := Aside0.mk (far_back (cm := []) HW.out HF.out HP.out cB)
            clear cA cB
            go_wp2_with (first
              | (go_at_call 11; refine (Take_to HI.out _ (by omega) none 0 [] (Nat.le_refl _) (Kd.C_nil _ _) TT.out).mono ?_; rintro e w3 ⟨rfl, hI, _⟩; have HI2 := Aside0.mk hI; clear hI HI)
              | (go_at_call 14; refine (Next_calls HI2.out).mono ?_; rintro e w4 ⟨rfl, rfl⟩)
              | (go_at_call 13; refine (HR15.out HI2.out).mono ?_; rintro e w4 ⟨rfl, rfl⟩)
              | (go_at_call 15; refine (Waiting_calls HI2.out (by simp)).mono ?_; rintro e w5 ⟨v, R, rfl, hRl, _, hRP, hI, _⟩; obtain ⟨A5, c5, rfl⟩ := POrder.Kd.P_slice hRP; simp only [hRl, List.length_cons, List.length_nil, Nat.zero_add]; have HI3 := Aside0.mk hI; clear hI HI2 hRP hRl))
            all_goals go_roundg (gk - 1)
            all_goals first
              | exact f_meas HK.out
              | exact ⟨k + 1, congrArg (Value.int .i64) (by first | exact hk5 | exact (Int.natCast_succ k).symm | (simp; done)), HI3, ⟨f_next HK.out HLT.out⟩⟩
          · have hpW : p < W := by have := HP.out; omega
            have hA1 : decide (W ≤ p) = false := decide_eq_false (by omega)
            have hA3 : decide (65536 - W ≤ p) = false := decide_eq_false cB
            by_cases cC : p = 1
            · subst cC
              exact absurd HW1.out (by have := HW.out; omega)
            · have hA4 : (p == 1) = false := beq_eq_false_iff_ne.mpr cC
              clear cA cB cC hpW
              go_wp2_with (go_at_call 11; refine (Take_calls HI.out _ (by omega) none 0 [] (Nat.le_refl _) (Kd.C_nil _ _)).mono ?_; rintro e w3 ⟨rfl, hI, _⟩; have HI2 := Aside0.mk hI; clear hI HI; generalize (takeF ⟨W, b, [], []⟩ ((b + p) % 65536) []).2 = rr)
              all_goals (go_ret; exact ⟨rfl, HI2.out.below⟩)
      · by_cases hlt2 : k < l.length
        · have h1 : decide ((k : Int) < (l.length : Int)) = true := decide_eq_true (by omega)
          have h2 : decide ((k : Int) < 100) = false := decide_eq_false (by omega)
          clear hlt hlt2
          generalize (k : Int) = κ at h1 h2 ⊢
          go_wp2
          go_ret
          exact ⟨rfl, HI.out.below⟩
        · have h1 : decide ((k : Int) < (l.length : Int)) = false := decide_eq_false (by omega)
          clear hlt hlt2
          generalize (k : Int) = κ at h1 ⊢
          go_wp2
          go_ret
          exact ⟨rfl, HI.out.below⟩
end Go.Proofs.Ytjigeblechiffaa.PIntake
