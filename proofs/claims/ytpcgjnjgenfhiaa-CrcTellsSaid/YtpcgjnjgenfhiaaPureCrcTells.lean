/- stillagelaw01.CrcTells is true at every list of bytes, every three places and every list of places: no condition. -/
import Derived.OpenShut
import Derived.Laws.BitsAllLaws
import Derived.Test.YtpcgjnjgenfhiaaCrc
import Derived.Test.YtpcgjnjgenfhiaaPCrcTellsx
set_option linter.unusedVariables false
set_option linter.unusedSimpArgs false
set_option maxRecDepth 10000
namespace Go.Proofs.Ytpcgjnjgenfhiaa.Pure
open Go.RowKit Go.Proofs.Ytpcgjnjgenfhiaa.PCrcTells Go.Proofs.YtpcgjnjgenfhiaaW.PrintWords Go.Proofs.YtpcgjnjgenfhiaaW.PrintLast
theorem w16 (n : Int) : IntKind.u16.wrap n = n % 65536 := by simp [IntKind.wrap, IntKind.bits, IntKind.signed]
theorem wu64 (n : Int) : IntKind.u64.wrap n = n % 18446744073709551616 := by simp [IntKind.wrap, IntKind.bits, IntKind.signed]
theorem w64 {n : Int} (h1 : -9223372036854775808 ≤ n) (h2 : n ≤ 9223372036854775807) : wrap64 n = n := by unfold wrap64; omega
/-! the numbers as bits -/
def T (c : Crc.W) : Int := (c.toNat : Int)
def TB (b : Crc.B) : Int := (b.toNat : Int)
theorem T_lt (c : Crc.W) : 0 ≤ T c ∧ T c < 65536 := by unfold T; have := c.isLt; omega
theorem TB_lt (b : Crc.B) : 0 ≤ TB b ∧ TB b < 256 := by unfold TB; have := b.isLt; omega
theorem T_inj {a b : Crc.W} (h : T a = T b) : a = b := by unfold T at h; exact BitVec.eq_of_toNat_eq (by omega)
theorem TB_inj {a b : Crc.B} (h : TB a = TB b) : a = b := by unfold TB at h; exact BitVec.eq_of_toNat_eq (by omega)
theorem T_of {a : Int} (h0 : 0 ≤ a) (h1 : a ≤ 65535) : ∃ c, a = T c := ⟨BitVec.ofNat 16 a.toNat, by unfold T; rw [BitVec.toNat_ofNat, Nat.mod_eq_of_lt (by omega)]; omega⟩
theorem TB_of {a : Int} (h0 : 0 ≤ a) (h1 : a ≤ 255) : ∃ c, a = TB c := ⟨BitVec.ofNat 8 a.toNat, by unfold TB; rw [BitVec.toNat_ofNat, Nat.mod_eq_of_lt (by omega)]; omega⟩
theorem T_xor (a b : Crc.W) : Go.bits .xor .u16 (T a) (T b) = T (a ^^^ b) := by
  unfold T; rw [u16_xor_nat _ _ a.isLt b.isLt, BitVec.toNat_xor]
theorem TB_xor (a b : Crc.B) : Go.bits .xor .u8 (TB a) (TB b) = TB (a ^^^ b) := by
  unfold TB; rw [u8_xor_nat _ _ a.isLt b.isLt, BitVec.toNat_xor]
theorem T_shl (a : Crc.W) (k : Nat) (m : Int) (hm : m = ((2 ^ k : Nat) : Int)) : IntKind.u16.wrap (T a * m) = T (a <<< k) := by
  unfold T; rw [w16, BitVec.toNat_shiftLeft, Nat.shiftLeft_eq, hm, ← Int.natCast_mul]; rfl
theorem T_shr (a : Crc.W) (k : Nat) (m : Int) (hm : m = ((2 ^ k : Nat) : Int)) : T a / m = T (a >>> k) := by
  unfold T; rw [BitVec.toNat_ushiftRight, Nat.shiftRight_eq_div_pow, hm]; rfl
theorem T_conv (b : Crc.B) : IntKind.u16.wrap (TB b) = T (b.zeroExtend 16) := by
  unfold T TB; rw [w16]; show _ = ((BitVec.setWidth 16 b).toNat : Int); rw [BitVec.toNat_setWidth]; rfl
theorem T_hi (b : Crc.B) : IntKind.u16.wrap (T (b.zeroExtend 16) * 256) = T (Crc.hi b) := T_shl _ 8 256 rfl
theorem T_poly : (4129 : Int) = T 0x1021#16 := rfl
theorem T_X (c : Crc.W) : (if T c ≥ 32768 then Go.bits .xor .u16 (IntKind.u16.wrap (T c * 2)) 4129 else IntKind.u16.wrap (T c * 2)) = T (Crc.X c) := by
  rw [T_shl c 1 2 rfl, T_poly, T_xor]
  unfold Crc.X
  have h := BitVec.msb_eq_decide c
  have h2 : T c = (c.toNat : Int) := rfl
  cases hm : c.msb with
  | true =>
    rw [hm] at h
    rw [if_pos (by have := h.symm; simp at this; omega), if_pos rfl]
  | false =>
    rw [hm] at h
    rw [if_neg (by have := h.symm; simp at this; omega), if_neg (by simp), Crc.x0]
/-! lists of bytes -/
def enc (l : List Crc.B) : List Int := l.map TB
theorem enc_length (l : List Crc.B) : (enc l).length = l.length := by simp [enc]
theorem enc_append (l m : List Crc.B) : enc l ++ enc m = enc (l ++ m) := by simp [enc]
theorem enc_inj {l m : List Crc.B} (h : enc l = enc m) : l = m := by
  induction l generalizing m with
  | nil => cases m with
    | nil => rfl
    | cons _ _ => simp [enc] at h
  | cons a l ih => cases m with
    | nil => simp [enc] at h
    | cons b m =>
      simp only [enc, List.map_cons, List.cons.injEq] at h
      rw [TB_inj h.1, ih (by simpa [enc] using h.2)]
theorem enc_of (l : List Int) (h : ∀ x ∈ l, (Lit.int .u8 x).wf = true) : ∃ m, l = enc m := by
  induction l with
  | nil => exact ⟨[], rfl⟩
  | cons a l ih =>
    obtain ⟨m, rfl⟩ := ih (fun x hx => h x (List.mem_cons_of_mem _ hx))
    have b := bounds_u8 (h a List.mem_cons_self)
    obtain ⟨c, rfl⟩ := TB_of b.1 b.2
    exact ⟨c :: m, rfl⟩
theorem rd_enc (l : List Crc.B) (i : Nat) (h : i < l.length) : rd (enc l) (i : Int) = TB l[i] := by
  unfold rd enc
  rw [List.getD_eq_getElem?_getD]
  simp [h]
theorem drop_cons (l : List Crc.B) (i : Nat) (h : i < l.length) : l.drop i = l[i] :: l.drop (i + 1) := List.drop_eq_getElem_cons h
/-! the program's functions -/
theorem crc_step (c : Crc.W) (b : Crc.B) : crc_Step.f (T c) (TB b) = some (T (Crc.step c b)) := by
  unfold crc_Step.f
  rw [T_conv, T_shr c 8 256 rfl, T_xor, T_shr _ 4 16 rfl, T_xor, T_shl _ 12 4096 rfl, T_shl _ 5 32 rfl, T_shl c 8 256 rfl, T_xor, T_xor, T_xor, ← Crc.stepI_eq]
  rfl
theorem crc_sum_loop (l : List Crc.B) (hn : l.length ≤ 140737488351232) (d : Nat) : ∀ (k i : Nat) (c : Crc.W), i ≤ l.length → l.length - i = d → d < k → crc_Sum.l0 k (T c) (enc l) (l.length : Int) (i : Int) = some (T (Crc.sum c (l.drop i))) := by
  induction d with
  | zero =>
    intro k i c h1 hd hk
    obtain ⟨k, rfl⟩ : ∃ m, k = m + 1 := ⟨k - 1, by omega⟩
    simp only [crc_Sum.l0]
    rw [if_neg (by omega), List.drop_eq_nil_of_le (by omega)]
    rfl
  | succ d ih =>
    intro k i c h1 hd hk
    obtain ⟨k, rfl⟩ : ∃ m, k = m + 1 := ⟨k - 1, by omega⟩
    simp only [crc_Sum.l0]
    rw [if_pos (by omega), if_pos (by omega), enc_length, if_pos (by omega), rd_enc l i (by omega), crc_step]
    simp only [Option.bind_some]
    rw [w64 (by omega) (by omega), show ((i : Int) + 1) = ((i + 1 : Nat) : Int) by omega, ih k (i + 1) _ (by omega) (by omega) (by omega), drop_cons l i (by omega)]
    rfl
theorem crc_sum (l : List Crc.B) (hn : l.length ≤ 140737488351232) (k : Nat) (hk : l.length < k) : crc_Sum.f k (enc l) = some (T (Crc.sum 0xffff#16 l)) := by
  unfold crc_Sum.f
  rw [enc_length]
  exact crc_sum_loop l hn l.length k 0 0xffff#16 (by omega) (by omega) (by omega)
def len8tab_ : ByteArray := ⟨#[0, 1, 2, 2, 3, 3, 3, 3, 4, 4, 4, 4, 4, 4, 4, 4, 5, 5, 5, 5, 5, 5, 5, 5, 5, 5, 5, 5, 5, 5, 5, 5, 6, 6, 6, 6, 6, 6, 6, 6, 6, 6, 6, 6, 6, 6, 6, 6, 6, 6, 6, 6, 6, 6, 6, 6, 6, 6, 6, 6, 6, 6, 6, 6, 7, 7, 7, 7, 7, 7, 7, 7, 7, 7, 7, 7, 7, 7, 7, 7, 7, 7, 7, 7, 7, 7, 7, 7, 7, 7, 7, 7, 7, 7, 7, 7, 7, 7, 7, 7, 7, 7, 7, 7, 7, 7, 7, 7, 7, 7, 7, 7, 7, 7, 7, 7, 7, 7, 7, 7, 7, 7, 7, 7, 7, 7, 7, 7, 8, 8, 8, 8, 8, 8, 8, 8, 8, 8, 8, 8, 8, 8, 8, 8, 8, 8, 8, 8, 8, 8, 8, 8, 8, 8, 8, 8, 8, 8, 8, 8, 8, 8, 8, 8, 8, 8, 8, 8, 8, 8, 8, 8, 8, 8, 8, 8, 8, 8, 8, 8, 8, 8, 8, 8, 8, 8, 8, 8, 8, 8, 8, 8, 8, 8, 8, 8, 8, 8, 8, 8, 8, 8, 8, 8, 8, 8, 8, 8, 8, 8, 8, 8, 8, 8, 8, 8, 8, 8, 8, 8, 8, 8, 8, 8, 8, 8, 8, 8, 8, 8, 8, 8, 8, 8, 8, 8, 8, 8, 8, 8, 8, 8, 8, 8, 8, 8, 8, 8, 8, 8, 8, 8, 8, 8, 8, 8]⟩
theorem T_bit (b : Crc.W) : (Go.bits .and .u16 (T b) 1 = 1) ↔ b.getLsbD 0 = true := by
  unfold T
  rw [show (1 : Int) = ((1 : Nat) : Int) from rfl, u16_and_nat _ _ b.isLt (by omega), Nat.and_one_is_mod]
  simp only [BitVec.getLsbD, Nat.testBit_zero]
  simp
  omega
theorem T_top (a : Crc.W) : (T a / 32768 = 1) ↔ a.msb = true := by
  rw [BitVec.msb_eq_decide]
  have h := a.isLt
  unfold T
  simp
  omega
theorem T_X' (c : Crc.W) : (if T c / 32768 = 1 then Go.bits .xor .u16 (IntKind.u16.wrap (T c * 2)) 4129 else IntKind.u16.wrap (T c * 2)) = T (Crc.X c) := by
  rw [← T_X]
  have := T_lt c
  by_cases h : T c ≥ 32768
  · rw [if_pos (by omega), if_pos h]
  · rw [if_neg (by omega), if_neg h]
theorem crc_times_loop (n : Nat) : ∀ (k : Nat) (a b p : Crc.W), b.toNat ≤ n → n < k → crc_times.l0 k (T a) (T b) (T p) = some (T (p ^^^ Crc.times a b)) := by
  induction n with
  | zero =>
    intro k a b p hb hk
    obtain ⟨k, rfl⟩ : ∃ m, k = m + 1 := ⟨k - 1, by omega⟩
    have : b = 0#16 := BitVec.eq_of_toNat_eq (by simpa using hb)
    subst this
    simp only [crc_times.l0]
    rw [if_pos (show T 0#16 = 0 from rfl), Crc.times_zero, Crc.x0]
  | succ n ih =>
    intro k a b p hb hk
    obtain ⟨k, rfl⟩ : ∃ m, k = m + 1 := ⟨k - 1, by omega⟩
    simp only [crc_times.l0]
    by_cases h0 : b = 0#16
    · subst h0
      rw [if_pos (show T 0#16 = 0 from rfl), Crc.times_zero, Crc.x0]
    · rw [if_neg (fun e => h0 (T_inj (e.trans (show (0 : Int) = T 0#16 from rfl))))]
      have hs : (b >>> 1).toNat ≤ n := by simp only [BitVec.toNat_ushiftRight, Nat.shiftRight_eq_div_pow]; omega
      have hx : ∀ q : Crc.W, (if T a / 32768 = 1 then crc_times.l0 k (Go.bits .xor .u16 (IntKind.u16.wrap (T a * 2)) 4129) (T b / 2) (T q) else crc_times.l0 k (IntKind.u16.wrap (T a * 2)) (T b / 2) (T q)) = some (T (q ^^^ Crc.times (Crc.X a) (b >>> 1))) := by
        intro q
        rw [← apply_ite (fun z => crc_times.l0 k z (T b / 2) (T q)), T_X', T_shr b 1 2 rfl]
        exact ih k _ _ _ hs (by omega)
      rw [Crc.times_step]
      by_cases hb1 : b.getLsbD 0 = true
      · rw [if_pos ((T_bit b).mpr hb1), T_xor, hx, if_pos hb1, BitVec.xor_assoc]
      · rw [if_neg (fun e => hb1 ((T_bit b).mp e)), hx, if_neg hb1, BitVec.zero_xor]
theorem crc_times (a b : Crc.W) (k : Nat) (hk : 65536 < k) : crc_times.f k (T a) (T b) = some (T (Crc.times a b)) := by
  unfold crc_times.f
  have := crc_times_loop b.toNat k a b 0#16 (Nat.le_refl _) (by have := b.isLt; omega)
  rw [BitVec.zero_xor] at this
  exact this
/-! the number of a number's bits -/
theorem len8 : ∀ x : Fin 256, 0 ≤ bt len8tab_ x.val ∧ bt len8tab_ x.val ≤ 8 ∧ (x.val : Int) < 2 ^ (bt len8tab_ x.val).toNat := by decide +kernel
theorem len8_at (x : Int) (h0 : 0 ≤ x) (h1 : x < 256) : 0 ≤ bt len8tab_ x ∧ bt len8tab_ x ≤ 8 ∧ x < 2 ^ (bt len8tab_ x).toNat := by
  have := len8 ⟨x.toNat, by omega⟩
  simp only [show ((x.toNat : Nat) : Int) = x by omega] at this
  exact this
theorem pow_split (x q : Int) (s j : Nat) (h : x / 2 ^ s = q) (hq : q < 2 ^ j) (h0 : 0 ≤ x) : x < 2 ^ (s + j) := by
  have hp : (0 : Int) < 2 ^ s := by exact_mod_cast Nat.two_pow_pos s
  rw [Int.pow_add]
  have h2 : x < (x / 2 ^ s + 1) * 2 ^ s := Int.lt_ediv_add_one_mul_self x hp
  rw [h] at h2
  calc x < (q + 1) * 2 ^ s := h2
    _ ≤ 2 ^ j * 2 ^ s := Int.mul_le_mul_of_nonneg_right (by omega) (by omega)
    _ = 2 ^ s * 2 ^ j := Int.mul_comm _ _
theorem bits_len64 (n : Int) (h0 : 0 ≤ n) (h1 : n < 18446744073709551616) : ∃ L : Nat, L ≤ 64 ∧ n < 2 ^ L ∧ bits_Len64.f 1 n = some (L : Int) := by
  have part : ∀ (x s : Int) (S : Nat), s = S → S ≤ 32 → 0 ≤ x → x < 4294967296 → ∃ L : Nat, L ≤ S + 32 ∧ x < 2 ^ (L - S) ∧ S ≤ L ∧ bits_Len64.j0 1 x s = some (L : Int) := by
    intro x s S hs hS x0 x1
    simp only [bits_Len64.j0]
    by_cases c1 : x ≥ 65536
    · rw [if_pos c1]
      by_cases c2 : x / 65536 ≥ 256
      · have hb := len8_at (x / 65536 / 256 % 256) (by omega) (by omega)
        rw [if_pos c2, if_pos (by omega), if_pos (by omega)]
        obtain ⟨j, hj⟩ : ∃ j : Nat, bt len8tab_ (x / 65536 / 256 % 256) = j := ⟨_, (Int.toNat_of_nonneg hb.1).symm⟩
        refine ⟨S + (24 + j), by omega, ?_, by omega, ?_⟩
        · rw [show S + (24 + j) - S = 24 + j by omega]
          refine pow_split x (x / 65536 / 256 % 256) 24 j (by omega) ?_ x0
          rw [hj] at hb
          exact hb.2.2
        · show some (wrap64 (wrap64 (wrap64 (s + 16) + 8) + wrap64 (bt len8tab_ _))) = _
          rw [hj, w64 (n := (j : Int)) (by omega) (by omega), w64 (n := s + 16) (by omega) (by omega), w64 (n := s + 16 + 8) (by omega) (by omega), w64 (by omega) (by omega)]
          exact congrArg some (by omega)
      · have hb := len8_at (x / 65536 % 256) (by omega) (by omega)
        rw [if_neg c2, if_pos (by omega), if_pos (by omega)]
        obtain ⟨j, hj⟩ : ∃ j : Nat, bt len8tab_ (x / 65536 % 256) = j := ⟨_, (Int.toNat_of_nonneg hb.1).symm⟩
        refine ⟨S + (16 + j), by omega, ?_, by omega, ?_⟩
        · rw [show S + (16 + j) - S = 16 + j by omega]
          refine pow_split x (x / 65536 % 256) 16 j (by omega) ?_ x0
          rw [hj] at hb
          exact hb.2.2
        · show some (wrap64 (wrap64 (s + 16) + wrap64 (bt len8tab_ _))) = _
          rw [hj, w64 (n := (j : Int)) (by omega) (by omega), w64 (n := s + 16) (by omega) (by omega), w64 (by omega) (by omega)]
          exact congrArg some (by omega)
    · rw [if_neg c1]
      by_cases c2 : x ≥ 256
      · have hb := len8_at (x / 256 % 256) (by omega) (by omega)
        rw [if_pos c2, if_pos (by omega), if_pos (by omega)]
        obtain ⟨j, hj⟩ : ∃ j : Nat, bt len8tab_ (x / 256 % 256) = j := ⟨_, (Int.toNat_of_nonneg hb.1).symm⟩
        refine ⟨S + (8 + j), by omega, ?_, by omega, ?_⟩
        · rw [show S + (8 + j) - S = 8 + j by omega]
          refine pow_split x (x / 256 % 256) 8 j (by omega) ?_ x0
          rw [hj] at hb
          exact hb.2.2
        · show some (wrap64 (wrap64 (s + 8) + wrap64 (bt len8tab_ _))) = _
          rw [hj, w64 (n := (j : Int)) (by omega) (by omega), w64 (n := s + 8) (by omega) (by omega), w64 (by omega) (by omega)]
          exact congrArg some (by omega)
      · have hb := len8_at (x % 256) (by omega) (by omega)
        rw [if_neg c2, if_pos (by omega), if_pos (by omega)]
        obtain ⟨j, hj⟩ : ∃ j : Nat, bt len8tab_ (x % 256) = j := ⟨_, (Int.toNat_of_nonneg hb.1).symm⟩
        refine ⟨S + j, by omega, ?_, by omega, ?_⟩
        · rw [show S + j - S = j by omega]
          rw [hj] at hb
          have := hb.2.2
          simp only [Int.toNat_natCast] at this
          omega
        · show some (wrap64 (s + wrap64 (bt len8tab_ _))) = _
          rw [hj, w64 (n := (j : Int)) (by omega) (by omega), w64 (by omega) (by omega)]
          exact congrArg some (by omega)
  unfold bits_Len64.f
  by_cases c : n ≥ 4294967296
  · rw [if_pos c]
    obtain ⟨L, l1, l2, l3, l4⟩ := part (n / 4294967296) 32 32 rfl (by omega) (by omega) (by omega)
    refine ⟨L, by omega, ?_, l4⟩
    have := pow_split n (n / 4294967296) 32 (L - 32) rfl l2 h0
    rwa [show 32 + (L - 32) = L by omega] at this
  · rw [if_neg c]
    obtain ⟨L, l1, l2, l3, l4⟩ := part n 0 0 rfl (by omega) (by omega) (by omega)
    exact ⟨L, by omega, by simpa using l2, l4⟩
theorem bits_len (n : Int) (h0 : 0 ≤ n) (h1 : n < 18446744073709551616) : ∃ L : Nat, L ≤ 64 ∧ n < 2 ^ L ∧ ∀ k, 1 ≤ k → bits_Len.f k n = some (L : Int) := by
  obtain ⟨L, l1, l2, l3⟩ := bits_len64 n h0 h1
  refine ⟨L, l1, l2, fun k hk => ?_⟩
  unfold bits_Len.f
  rw [at_rounds (fun k => bits_Len64.mono n k) hk l3]
  rfl
/-! Roll -/
theorem i64_and1 (n : Int) (h0 : 0 ≤ n) (h1 : n ≤ 9223372036854775807) : Go.bits .and .i64 n 1 = n % 2 := by
  have h2 : (BitVec.ofInt 64 1).toNat = 2 ^ 1 - 1 := by decide
  have key : (BitVec.ofInt 64 n &&& BitVec.ofInt 64 1).toNat = (n % ((2 ^ 64 : Nat) : Int)).toNat % 2 ^ 1 := by
    rw [BitVec.toNat_and, BitVec.toNat_ofInt, h2, Nat.and_two_pow_sub_one_eq_mod]
  show IntKind.i64.wrap ((BitVec.ofInt 64 n &&& BitVec.ofInt 64 1).toNat : Nat) = n % 2
  rw [key, IntKind.wrap_i64]
  omega
theorem T_256 : (256 : Int) = T (Crc.Xn 8 1#16) := by decide
theorem crc_roll_loop (c : Crc.W) (n : Nat) (hn : n ≤ 1099511627776) (i : Nat) : ∀ (k : Nat), i ≤ 64 → 65536 + i + 1 < k → crc_Roll.l0 k (T c) (n : Int) (T (Crc.Xn (8 * (n / 2 ^ i)) 1#16)) ((i : Int) - 1) = some (T (Crc.Xn (8 * n) c), 0) := by
  induction i with
  | zero =>
    intro k hi hk
    obtain ⟨k, rfl⟩ : ∃ m, k = m + 1 := ⟨k - 1, by omega⟩
    simp only [crc_Roll.l0]
    rw [if_neg (by omega), crc_times _ _ k (by omega)]
    simp only [Option.bind_some]
    rw [Nat.pow_zero, Nat.div_one, Crc.times_pow]
  | succ i ih =>
    intro k hi hk
    obtain ⟨k, rfl⟩ : ∃ m, k = m + 1 := ⟨k - 1, by omega⟩
    simp only [crc_Roll.l0]
    rw [if_pos (by omega), crc_times _ _ k (by omega)]
    simp only [Option.bind_some]
    rw [if_pos (by omega), Crc.pow_times, show ((i + 1 : Nat) : Int) - 1 = (i : Int) by omega]
    have hs : shr .i64 (n : Int) (i : Int) = ((n / 2 ^ i : Nat) : Int) := by
      unfold shr
      rw [Int.toNat_natCast, show min i (IntKind.i64.bits) = i from Nat.min_eq_left (by show i ≤ 64; omega)]
      rw [show ((2 : Int) ^ i) = ((2 ^ i : Nat) : Int) by norm_cast]
      rfl
    have hlt : n / 2 ^ i ≤ n := Nat.div_le_self _ _
    have hd : n / 2 ^ (i + 1) = n / 2 ^ i / 2 := by rw [Nat.pow_succ, Nat.div_div_eq_div_mul]
    have ih' := ih k (by omega) (by omega)
    clear ih
    rw [hs, hd]
    clear hs hd
    generalize n / 2 ^ i = m at *
    rw [i64_and1 _ (by omega) (by omega), w64 (n := (i : Int) - 1) (by omega) (by omega)]
    by_cases hb : (m : Int) % 2 = 1
    · rw [if_pos hb, T_256, crc_times _ _ k (by omega)]
      simp only [Option.bind_some]
      rw [Crc.pow_times, show 8 * (m / 2) + 8 * (m / 2) + 8 = 8 * m by omega]
      exact ih'
    · rw [if_neg hb, show 8 * (m / 2) + 8 * (m / 2) = 8 * m by omega]
      exact ih'
theorem crc_roll (c : Crc.W) (n : Nat) (hn : n ≤ 1099511627776) (k : Nat) (hk : 65700 < k) : crc_Roll.f k (T c) (n : Int) = some (T (Crc.Xn (8 * n) c), 0) := by
  obtain ⟨k, rfl⟩ : ∃ m, k = m + 1 := ⟨k - 1, by omega⟩
  unfold crc_Roll.f
  rw [if_neg (by omega), decide_eq_false (by omega)]
  simp only [crc_Roll.j0, Bool.false_eq_true, if_false]
  obtain ⟨L, l1, l2, l3⟩ := bits_len (n : Int) (by omega) (by omega)
  rw [wu64, Int.emod_eq_of_lt (by omega) (by omega), l3 k (by omega)]
  simp only [Option.bind_some]
  rw [w64 (by omega) (by omega)]
  have h0 : n / 2 ^ L = 0 := Nat.div_eq_of_lt (by exact_mod_cast l2)
  have := crc_roll_loop c n hn L k (by omega) (by omega)
  rw [h0] at this
  exact this
theorem crc_roll_bad (c : Crc.W) (n : Int) (hn : n < 0 ∨ 1099511627776 < n) (k : Nat) (hk : 1 < k) : crc_Roll.f k (T c) n = some (0, 1) := by
  obtain ⟨k, rfl⟩ : ∃ m, k = m + 1 := ⟨k - 1, by omega⟩
  unfold crc_Roll.f
  by_cases h : n < 0
  · rw [if_pos h]; simp [crc_Roll.j0]
  · rw [if_neg h, decide_eq_true (by omega)]; simp [crc_Roll.j0]

theorem T_zero : (0 : Int) = T 0#16 := rfl
theorem T_times2 (c : Crc.W) (k : Nat) (hk : 65536 < k) : crc_times.f k (T c) 2 = some (T (Crc.X c)) := by
  rw [show (2 : Int) = T (Crc.Xn 1 1#16) from by decide, crc_times _ _ k hk, Crc.times_pow]
  rfl
/-- The search from the last bit on: the first place from i down whose power is d. -/
theorem crc_find_yes (n : Nat) (hn : n ≤ 4000) (j : Nat) (hj : j < 8 * n) (d : Nat) : ∀ (k i : Nat), i < 8 * n → j ≤ i → i - j = d → 65536 + d + 1 < k →
    crc_Find.l0 k (T (Crc.Xn (8 * n - 1 - j) (Crc.Xn 16 1#16))) (T (Crc.Xn (8 * n - 1 - i) (Crc.Xn 16 1#16))) (i : Int) = some ((j : Int), 0) := by
  induction d with
  | zero =>
    intro k i hi h1 hd hk
    obtain ⟨k, rfl⟩ : ∃ m, k = m + 1 := ⟨k - 1, by omega⟩
    obtain rfl : i = j := by omega
    simp only [crc_Find.l0]
    rw [if_pos (by omega)]
    simp
  | succ d ih =>
    intro k i hi h1 hd hk
    obtain ⟨k, rfl⟩ : ∃ m, k = m + 1 := ⟨k - 1, by omega⟩
    simp only [crc_Find.l0]
    rw [if_pos (by omega), if_neg (fun e => by have := Crc.flip_inj hn hi hj (T_inj e); omega), T_times2 _ k (by omega)]
    simp only [Option.bind_some]
    rw [w64 (by omega) (by omega), show (i : Int) - 1 = ((i - 1 : Nat) : Int) by omega, show Crc.X (Crc.Xn (8 * n - 1 - i) (Crc.Xn 16 1#16)) = Crc.Xn (8 * n - 1 - (i - 1)) (Crc.Xn 16 1#16) from by
      rw [show 8 * n - 1 - (i - 1) = (8 * n - 1 - i) + 1 by omega]; rfl]
    exact ih k (i - 1) (by omega) (by omega) (by omega) (by omega)
theorem crc_find_no (n : Nat) (hn : n ≤ 4000) (x : Crc.W) (hx : ∀ j, j < 8 * n → Crc.Xn (8 * n - 1 - j) (Crc.Xn 16 1#16) ≠ x) (d : Nat) : ∀ (k : Nat), d ≤ 8 * n → 65536 + d + 1 < k →
    crc_Find.l0 k (T x) (T (Crc.Xn (8 * n - d) (Crc.Xn 16 1#16))) ((d : Int) - 1) = some (-1, 4) := by
  induction d with
  | zero =>
    intro k h1 hk
    obtain ⟨k, rfl⟩ : ∃ m, k = m + 1 := ⟨k - 1, by omega⟩
    simp only [crc_Find.l0]
    rw [if_neg (by omega)]
  | succ d ih =>
    intro k h1 hk
    obtain ⟨k, rfl⟩ : ∃ m, k = m + 1 := ⟨k - 1, by omega⟩
    simp only [crc_Find.l0]
    rw [if_pos (by omega), if_neg (fun e => hx d (by omega) (by rw [show 8 * n - 1 - d = 8 * n - (d + 1) by omega]; exact T_inj e)), T_times2 _ k (by omega)]
    simp only [Option.bind_some]
    rw [w64 (by omega) (by omega), show ((d + 1 : Nat) : Int) - 1 - 1 = (d : Int) - 1 by omega, show Crc.X (Crc.Xn (8 * n - (d + 1)) (Crc.Xn 16 1#16)) = Crc.Xn (8 * n - d) (Crc.Xn 16 1#16) from by
      rw [show 8 * n - d = (8 * n - (d + 1)) + 1 by omega]; rfl]
    exact ih k (by omega) (by omega)
theorem poly_X : (4129 : Int) = T (Crc.Xn 16 1#16) := by decide
theorem crc_find_same (l : List Crc.B) (hn : l.length ≤ 4000) (k : Nat) (hk : 100000 < k) : crc_Find.f k (enc l) (T (Crc.sum 0xffff#16 l)) = some (-1, 0) := by
  unfold crc_Find.f
  rw [if_neg (by rw [enc_length]; omega), crc_sum l (by omega) k (by omega)]
  simp only [Option.bind_some]
  rw [T_xor, BitVec.xor_self, if_pos (show T 0#16 = 0 from rfl)]
theorem crc_find_flip (l : List Crc.B) (hn : l.length ≤ 4000) (s : Crc.W) (j : Nat) (hj : j < 8 * l.length) (hs : Crc.sum 0xffff#16 (Crc.flip l j) = s) (k : Nat) (hk : 100000 < k) : crc_Find.f k (enc l) (T s) = some ((j : Int), 0) := by
  unfold crc_Find.f
  have hd : Crc.sum 0xffff#16 l ^^^ s = Crc.Xn (8 * l.length - 1 - j) (Crc.Xn 16 1#16) := by rw [← hs, Crc.flip_sum l j hj, Crc.xs]
  rw [if_neg (by rw [enc_length]; omega), crc_sum l (by omega) k (by omega)]
  simp only [Option.bind_some]
  rw [T_xor, hd, if_neg (fun e => Crc.flip_ne hj (T_inj (e.trans T_zero))), enc_length, w64 (n := 8 * (l.length : Int)) (by omega) (by omega), w64 (by omega) (by omega), show 8 * (l.length : Int) - 1 = ((8 * l.length - 1 : Nat) : Int) by omega, poly_X]
  have := crc_find_yes l.length hn j hj (8 * l.length - 1 - j) k (8 * l.length - 1) (by omega) (by omega) rfl (by omega)
  rw [show 8 * l.length - 1 - (8 * l.length - 1) = 0 by omega] at this
  exact this
theorem crc_find_none (l : List Crc.B) (hn : l.length ≤ 4000) (s : Crc.W) (h0 : Crc.sum 0xffff#16 l ≠ s) (hs : ∀ j, j < 8 * l.length → Crc.sum 0xffff#16 (Crc.flip l j) ≠ s) (k : Nat) (hk : 100000 < k) : crc_Find.f k (enc l) (T s) = some (-1, 4) := by
  unfold crc_Find.f
  rw [if_neg (by rw [enc_length]; omega), crc_sum l (by omega) k (by omega)]
  simp only [Option.bind_some]
  rw [T_xor, if_neg (fun e => h0 (Crc.eq_of_xor (T_inj (e.trans T_zero)))), enc_length, w64 (n := 8 * (l.length : Int)) (by omega) (by omega), w64 (by omega) (by omega), poly_X]
  have := crc_find_no l.length hn (Crc.sum 0xffff#16 l ^^^ s) (fun j hj e => hs j hj (by rw [Crc.flip_sum l j hj, e, Crc.xs])) (8 * l.length) k (by omega) (by omega)
  rw [show 8 * l.length - 8 * l.length = 0 by omega, show ((8 * l.length : Nat) : Int) - 1 = 8 * (l.length : Int) - 1 by omega] at this
  exact this

theorem enc_set (l : List Crc.B) (i : Nat) (b : Crc.B) : (enc l).set i (TB b) = enc (l.set i b) := by simp [enc, List.map_set]
theorem mask_ : ∀ r : Fin 8, shr .u8 128 (r.val : Int) = TB (128#8 >>> r.val) := by decide +kernel
theorem mask (r : Nat) (h : r < 8) : shr .u8 128 (r : Int) = TB (128#8 >>> r) := mask_ ⟨r, h⟩
theorem flip_at (l : List Crc.B) (i : Nat) (h : i / 8 < l.length) : Crc.flip l i = l.set (i / 8) (l[i / 8] ^^^ (128#8 >>> (i % 8))) := by
  unfold Crc.flip
  rw [List.getD_eq_getElem?_getD, List.getElem?_eq_getElem h, Option.getD_some]
/-! the law's own functions -/
theorem pick_ (n : Nat) (h0 : 0 < n) (h1 : n ≤ 4000) (a : Int) : ∃ i : Nat, i < 8 * n ∧ wrap64 (Int.tmod (IntKind.u64.wrap a) (8 * (n : Int))) = (i : Int) := by
  have e0 : 0 ≤ a % 18446744073709551616 := Int.emod_nonneg _ (by omega)
  have e1 : 0 ≤ a % 18446744073709551616 % (8 * (n : Int)) := Int.emod_nonneg _ (by omega)
  have e2 : a % 18446744073709551616 % (8 * (n : Int)) < 8 * (n : Int) := Int.emod_lt_of_pos _ (by omega)
  refine ⟨(a % 18446744073709551616 % (8 * (n : Int))).toNat, ?_, ?_⟩
  · generalize a % 18446744073709551616 % (8 * (n : Int)) = z at e1 e2
    omega
  · rw [wu64, Int.tmod_eq_emod_of_nonneg e0]
    generalize a % 18446744073709551616 % (8 * (n : Int)) = z at e1 e2
    rw [w64 (by omega) (by omega)]
    omega
theorem div8 (i : Nat) (h : i < 32000) : wrap64 (Int.tdiv (i : Int) 8) = ((i / 8 : Nat) : Int) := by
  rw [Int.tdiv_eq_ediv_of_nonneg (by omega), show (i : Int) / 8 = ((i / 8 : Nat) : Int) by omega, w64 (by omega) (by omega)]
theorem mod8 (i : Nat) : Int.tmod (i : Int) 8 = ((i % 8 : Nat) : Int) := by
  rw [Int.tmod_eq_emod_of_nonneg (by omega)]; omega
theorem set_flip (l : List Crc.B) (i : Nat) (h : i < 8 * l.length) : (enc l).set (((i / 8 : Nat) : Int)).toNat (Go.bits .xor .u8 (rd (enc l) ((i / 8 : Nat) : Int)) (shr .u8 128 ((i % 8 : Nat) : Int))) = enc (Crc.flip l i) := by
  rw [rd_enc l (i / 8) (by omega), mask (i % 8) (by omega), TB_xor, Int.toNat_natCast, enc_set, flip_at l i (by omega)]
theorem low_ : ∀ b : Crc.B, Go.bits .and .u8 (TB b) ((TB b - 1) % 256) = TB (b &&& (b - 1#8)) := by decide +kernel
theorem low_less : ∀ b : Crc.B, b ≠ 0#8 → (b &&& (b - 1#8)).toNat < b.toNat := by decide +kernel
theorem low_par : ∀ b : Crc.B, b ≠ 0#8 → Crc.parB (b &&& (b - 1#8)) = !Crc.parB b := by decide +kernel
theorem tells_l3 (m d : List Crc.B) (s n i : Int) (q : Bool) (N : Nat) (Bd : Int) (hB : Bd ≤ 10000000) (K : ∀ k o, N < k → 0 ≤ o → o ≤ Bd → (o % 2 = 1 ↔ q = true) → stillagelaw01_CrcTells.l2 k (enc m) s (enc d) o n (wrap64 (i + 1)) = some true) (t : Nat) : ∀ (b : Crc.B), b.toNat ≤ t → ∀ k o, N + t + 1 < k → 0 ≤ o → o + TB b ≤ Bd → (o % 2 = 1 ↔ (q ^^ Crc.parB b) = true) → stillagelaw01_CrcTells.l3 k (enc m) s (enc d) o (TB b) n i = some true := by
  induction t with
  | zero =>
    intro b hb k o hk h0 h1 hp
    obtain ⟨k, rfl⟩ : ∃ m, k = m + 1 := ⟨k - 1, by omega⟩
    obtain rfl : b = 0#8 := BitVec.eq_of_toNat_eq (by simpa using hb)
    simp only [stillagelaw01_CrcTells.l3]
    rw [if_pos (show TB 0#8 = 0 from rfl)]
    rw [show Crc.parB 0#8 = false from by decide, Bool.xor_false] at hp
    rw [show TB 0#8 = 0 from rfl] at h1
    exact K k o (by omega) h0 (by omega) hp
  | succ t ih =>
    intro b hb k o hk h0 h1 hp
    obtain ⟨k, rfl⟩ : ∃ m, k = m + 1 := ⟨k - 1, by omega⟩
    simp only [stillagelaw01_CrcTells.l3]
    by_cases hz : b = 0#8
    · subst hz
      rw [if_pos (show TB 0#8 = 0 from rfl)]
      rw [show Crc.parB 0#8 = false from by decide, Bool.xor_false] at hp
      rw [show TB 0#8 = 0 from rfl] at h1
      exact K k o (by omega) h0 (by omega) hp
    · have hl := low_less b hz
      have hq := low_par b hz
      have b0 := TB_lt b
      rw [if_neg (fun e => hz (TB_inj (e.trans (show (0 : Int) = TB 0#8 from rfl)))), low_, w64 (by omega) (by omega)]
      have hle : TB (b &&& (b - 1#8)) < TB b := by unfold TB; omega
      refine ih _ (by omega) k (o + 1) (by omega) (by omega) (by omega) ?_
      rw [hq]
      rw [show (o + 1) % 2 = 1 ↔ ¬ o % 2 = 1 by omega, hp]
      cases q <;> cases Crc.parB b <;> simp
theorem take_next (l : List Crc.B) (i : Nat) (h : i < l.length) : Crc.parL (l.take (i + 1)) = (Crc.parL (l.take i) ^^ Crc.parB l[i]) := by
  rw [List.take_succ_eq_append_getElem h, Crc.parL_append]
  simp [Crc.parL]
theorem tells_l2 (m d : List Crc.B) (hl : d.length = m.length) (hn : m.length ≤ 4000) (e : Nat) : ∀ (k i : Nat) (o : Int), i ≤ m.length → m.length - i = e → 300 * e + m.length + 2 < k → 0 ≤ o → o ≤ 255 * (i : Int) → (o % 2 = 1 ↔ (Crc.parL (d.take i) ^^ Crc.parL (m.take i)) = true) → stillagelaw01_CrcTells.l2 k (enc m) (T (Crc.sum 0xffff#16 m)) (enc d) o (m.length : Int) (i : Int) = some true := by
  induction e with
  | zero =>
    intro k i o hi he hk h0 h1 hp
    obtain ⟨k, rfl⟩ : ∃ m, k = m + 1 := ⟨k - 1, by omega⟩
    obtain rfl : i = m.length := by omega
    simp only [stillagelaw01_CrcTells.l2]
    rw [if_neg (by omega), Int.tmod_eq_emod_of_nonneg h0]
    rw [List.take_length, List.take_of_length_le (by omega)] at hp
    by_cases ho : o % 2 = 0
    · rw [if_pos ho]
    · rw [if_neg ho, crc_sum d (by omega) k (by omega), Option.bind_some]
      have hp := hp.mp (by omega)
      have hne : Crc.sum 0xffff#16 d ≠ Crc.sum 0xffff#16 m := Crc.sum_par (fun e => by rw [e] at hp; simp at hp)
      have : (T (Crc.sum 0xffff#16 d) != T (Crc.sum 0xffff#16 m)) = true := bne_iff_ne.mpr (fun e => hne (T_inj e))
      rw [this]
  | succ e ih =>
    intro k i o hi he hk h0 h1 hp
    obtain ⟨k, rfl⟩ : ∃ m, k = m + 1 := ⟨k - 1, by omega⟩
    simp only [stillagelaw01_CrcTells.l2]
    rw [if_pos (by omega), if_pos (by omega), enc_length, if_pos (by omega), enc_length, if_pos (by omega), rd_enc d i (by omega), rd_enc m i (by omega), TB_xor]
    have b0 := TB_lt (d[i]'(by omega) ^^^ m[i]'(by omega))
    refine tells_l3 m d _ _ _ (Crc.parL (d.take (i + 1)) ^^ Crc.parL (m.take (i + 1))) (300 * e + m.length + 2) (255 * ((i + 1 : Nat) : Int)) (by omega) (fun k o hk g0 g1 gp => ?_) 255 _ (by have := (d[i]'(by omega) ^^^ m[i]'(by omega)).isLt; omega) k o (by omega) h0 (by omega) ?_
    · rw [w64 (by omega) (by omega), show (i : Int) + 1 = ((i + 1 : Nat) : Int) by omega]
      exact ih k (i + 1) o (by omega) (by omega) hk g0 g1 gp
    · rw [take_next d i (by omega), take_next m i (by omega), Crc.parB_xor, hp]
      cases Crc.parL (d.take i) <;> cases Crc.parL (m.take i) <;> cases Crc.parB (d[i]'(by omega)) <;> cases Crc.parB (m[i]'(by omega)) <;> simp
theorem tells_j12 (m d : List Crc.B) (hl : d.length = m.length) (hn : m.length ≤ 4000) (k : Nat) (hk : 1300000 < k) : stillagelaw01_CrcTells.j12 k (enc m) (T (Crc.sum 0xffff#16 m)) (enc d) 0 = some true := by
  obtain ⟨k, rfl⟩ : ∃ m, k = m + 1 := ⟨k - 1, by omega⟩
  simp only [stillagelaw01_CrcTells.j12]
  rw [enc_length, hl]
  exact tells_l2 m d hl hn m.length k 0 0 (by omega) (by omega) (by omega) (by omega) (by omega) (by simp [Crc.parL])
theorem tells_l1 (m : List Crc.B) (more : List Int) (h0 : 0 < m.length) (hn : m.length ≤ 4000) (e : Nat) : ∀ (k i : Nat) (d : List Crc.B), d.length = m.length → i ≤ 101 → 101 - i = e → 1300001 + e < k → stillagelaw01_CrcTells.l1 k (enc m) more (8 * (m.length : Int)) (T (Crc.sum 0xffff#16 m)) (enc d) 0 (i : Int) = some true := by
  induction e with
  | zero =>
    intro k i d hd hi he hk
    obtain ⟨k, rfl⟩ : ∃ m, k = m + 1 := ⟨k - 1, by omega⟩
    simp only [stillagelaw01_CrcTells.l1]
    rw [tells_j12 m d hd hn k (by omega)]
    rw [if_neg (show ¬ (i : Int) < 101 by omega)]
    split <;> rfl
  | succ e ih =>
    intro k i d hd hi he hk
    obtain ⟨k, rfl⟩ : ∃ m, k = m + 1 := ⟨k - 1, by omega⟩
    simp only [stillagelaw01_CrcTells.l1]
    obtain ⟨j, hj, ej⟩ := pick_ m.length h0 hn (rd more (i : Int))
    rw [tells_j12 m d hd hn k (by omega), ej, div8 j (by omega), mod8 j, set_flip d j (by omega), if_pos (show (i : Int) < 101 by omega), if_pos (show (0 : Int) ≤ (i : Int) by omega), if_neg (show ¬ 8 * (m.length : Int) = 0 by omega), if_pos (show (0 : Int) ≤ ((j / 8 : Nat) : Int) by omega), enc_length, if_pos (show ((j / 8 : Nat) : Int) < (d.length : Int) by omega), if_pos (show (0 : Int) ≤ ((j % 8 : Nat) : Int) by omega), w64 (by omega) (by omega), show (i : Int) + 1 = ((i + 1 : Nat) : Int) by omega, ih k (i + 1) _ (by rw [Crc.flip_length]; exact hd) (by omega) (by omega) (by omega)]
    split <;> rfl
theorem tells_3 (m d : List Crc.B) (more : List Int) (h0 : 0 < m.length) (hn : m.length ≤ 4000) (k : Nat) (hk : 1400000 < k) (a b c x y z : Int) : stillagelaw01_CrcTells.l0 k (enc m) more (8 * (m.length : Int)) (T (Crc.sum 0xffff#16 m)) (enc d) 3 a b c x y z = some true := by
  obtain ⟨k, rfl⟩ : ∃ m, k = m + 1 := ⟨k - 1, by omega⟩
  simp only [stillagelaw01_CrcTells.l0]
  rw [if_neg (by decide), Option.bind_some, enc_length, List.length_nil, if_pos (by omega), List.nil_append]
  exact tells_l1 m more h0 hn 101 k 0 m rfl (by omega) rfl (by omega)
theorem ne_par {l m : List Crc.B} (h : Crc.parL l = !Crc.parL m) : (T (Crc.sum 0xffff#16 l) != T (Crc.sum 0xffff#16 m)) = true :=
  bne_iff_ne.mpr (fun e => Crc.sum_par (by rw [h]; cases Crc.parL m <;> simp) (T_inj e))
theorem tells_2 (m : List Crc.B) (more : List Int) (h0 : 0 < m.length) (hn : m.length ≤ 4000) (i j : Nat) (hi : i < 8 * m.length) (hj : j < 8 * m.length) (k : Nat) (hk : 1500000 < k) (a b c z : Int) : stillagelaw01_CrcTells.l0 k (enc m) more (8 * (m.length : Int)) (T (Crc.sum 0xffff#16 m)) (enc (Crc.flip (Crc.flip m i) j)) 2 a b c (i : Int) (j : Int) z = some true := by
  obtain ⟨k, rfl⟩ : ∃ m, k = m + 1 := ⟨k - 1, by omega⟩
  simp only [stillagelaw01_CrcTells.l0]
  obtain ⟨t, ht, et⟩ := pick_ m.length h0 hn (rd [a, b, c] 2)
  have hL : (Crc.flip (Crc.flip m i) j).length = m.length := by rw [Crc.flip_length, Crc.flip_length]
  rw [if_pos (show (2 : Int) < 3 by decide), if_pos (show (0 : Int) ≤ 2 by decide), if_neg (show ¬ 8 * (m.length : Int) = 0 by omega), if_neg (show ¬ (2 : Int) = 0 by decide), if_neg (show ¬ (2 : Int) = 1 by decide), if_pos trivial, et, div8 t (by omega), mod8 t, set_flip _ t (by rw [hL]; exact ht), if_pos (show (0 : Int) ≤ ((t / 8 : Nat) : Int) by omega), enc_length, hL, if_pos (show ((t / 8 : Nat) : Int) < (m.length : Int) by omega), if_pos (show (0 : Int) ≤ ((t % 8 : Nat) : Int) by omega), Option.bind_some, if_neg (by decide)]
  obtain ⟨k, rfl⟩ : ∃ m, k = m + 1 := ⟨k - 1, by omega⟩
  have H : ∀ k, 1450000 < k → stillagelaw01_CrcTells.j10 k (enc m) more (8 * (m.length : Int)) (T (Crc.sum 0xffff#16 m)) (enc (Crc.flip (Crc.flip (Crc.flip m i) j) t)) 2 true 2 a b c (i : Int) (j : Int) (t : Int) = some true := by
    intro k hk
    obtain ⟨k, rfl⟩ : ∃ m, k = m + 1 := ⟨k - 1, by omega⟩
    simp only [stillagelaw01_CrcTells.j10]
    have hp : Crc.parL (Crc.flip (Crc.flip (Crc.flip m i) j) t) = !Crc.parL m := by
      rw [Crc.parL_flip _ t (by rw [hL]; exact ht), Crc.parL_flip _ j (by rw [Crc.flip_length]; exact hj), Crc.parL_flip _ i hi]
      cases Crc.parL m <;> rfl
    rw [crc_sum _ (by rw [Crc.flip_length, hL]; omega) k (by rw [Crc.flip_length, hL]; omega), Option.bind_some, ne_par hp, if_neg (by decide), if_neg (by decide), w64 (by omega) (by omega)]
    exact tells_3 m _ more h0 hn k (by omega) _ _ _ _ _ _
  have H9 : ∀ k q, 1460000 < k → stillagelaw01_CrcTells.j9 k (enc m) more (8 * (m.length : Int)) (T (Crc.sum 0xffff#16 m)) (enc (Crc.flip (Crc.flip (Crc.flip m i) j) t)) 2 true 2 q a b c (i : Int) (j : Int) (t : Int) = some true := by
    intro k q hk
    obtain ⟨k, rfl⟩ : ∃ m, k = m + 1 := ⟨k - 1, by omega⟩
    simp only [stillagelaw01_CrcTells.j9]
    rw [H k (by omega)]
    split <;> rfl
  simp only [stillagelaw01_CrcTells.j8]
  rw [if_pos trivial, H9 k _ (by omega), H9 k _ (by omega), H9 k _ (by omega)]
  repeat' split
  all_goals rfl
theorem tells_1 (m : List Crc.B) (more : List Int) (h0 : 0 < m.length) (hn : m.length ≤ 4000) (i : Nat) (hi : i < 8 * m.length) (k : Nat) (hk : 1600000 < k) (a b c y z : Int) : stillagelaw01_CrcTells.l0 k (enc m) more (8 * (m.length : Int)) (T (Crc.sum 0xffff#16 m)) (enc (Crc.flip m i)) 1 a b c (i : Int) y z = some true := by
  obtain ⟨k, rfl⟩ : ∃ m, k = m + 1 := ⟨k - 1, by omega⟩
  simp only [stillagelaw01_CrcTells.l0]
  obtain ⟨t, ht, et⟩ := pick_ m.length h0 hn (rd [a, b, c] 1)
  have hL : (Crc.flip m i).length = m.length := by rw [Crc.flip_length]
  rw [if_pos (show (1 : Int) < 3 by decide), if_pos (show (0 : Int) ≤ 1 by decide), if_neg (show ¬ 8 * (m.length : Int) = 0 by omega), if_neg (show ¬ (1 : Int) = 0 by decide), if_pos trivial, et, div8 t (by omega), mod8 t, set_flip _ t (by rw [hL]; exact ht), if_pos (show (0 : Int) ≤ ((t / 8 : Nat) : Int) by omega), enc_length, hL, if_pos (show ((t / 8 : Nat) : Int) < (m.length : Int) by omega), if_pos (show (0 : Int) ≤ ((t % 8 : Nat) : Int) by omega), Option.bind_some, if_pos trivial]
  obtain ⟨k, rfl⟩ : ∃ m, k = m + 1 := ⟨k - 1, by omega⟩
  simp only [stillagelaw01_CrcTells.j5]
  rw [if_neg (show ¬ (1 : Int) = 2 by decide)]
  obtain ⟨k, rfl⟩ : ∃ m, k = m + 1 := ⟨k - 1, by omega⟩
  simp only [stillagelaw01_CrcTells.j6]
  rw [if_neg (show ¬ false = true by decide)]
  obtain ⟨k, rfl⟩ : ∃ m, k = m + 1 := ⟨k - 1, by omega⟩
  simp only [stillagelaw01_CrcTells.j7]
  rw [crc_sum _ (by rw [Crc.flip_length, hL]; omega) k (by rw [Crc.flip_length, hL]; omega), Option.bind_some]
  have hs : (T (Crc.sum 0xffff#16 (Crc.flip (Crc.flip m i) t)) != T (Crc.sum 0xffff#16 m)) = ((i : Int) != (t : Int)) := by
    by_cases e : i = t
    · subst e
      rw [Crc.flip_flip m i hi]
      simp
    · have h1 : ((i : Int) != (t : Int)) = true := bne_iff_ne.mpr (by omega)
      rw [h1]
      refine bne_iff_ne.mpr (fun h => e ?_)
      have h2 := T_inj h
      rw [Crc.flip_sum _ t (by rw [hL]; exact ht), Crc.flip_sum m i hi, hL] at h2
      have h3 := congrArg (Crc.sum 0xffff#16 m ^^^ ·) h2
      simp only [BitVec.xor_assoc, Crc.xs, BitVec.xor_self] at h3
      exact Crc.flip_inj hn hi ht (Crc.eq_of_xor h3)
  rw [hs, bne_self_eq_false, if_neg (by decide), if_neg (by decide), w64 (by omega) (by omega)]
  exact tells_2 m more h0 hn i t hi ht k (by omega) _ _ _ _
theorem tells_0 (m : List Crc.B) (more : List Int) (h0 : 0 < m.length) (hn : m.length ≤ 4000) (k : Nat) (hk : 1700000 < k) (a b c x y z : Int) : stillagelaw01_CrcTells.l0 k (enc m) more (8 * (m.length : Int)) (T (Crc.sum 0xffff#16 m)) (enc m) 0 a b c x y z = some true := by
  obtain ⟨k, rfl⟩ : ∃ m, k = m + 1 := ⟨k - 1, by omega⟩
  simp only [stillagelaw01_CrcTells.l0]
  obtain ⟨t, ht, et⟩ := pick_ m.length h0 hn (rd [a, b, c] 0)
  rw [if_pos (show (0 : Int) < 3 by decide), if_pos (show (0 : Int) ≤ 0 by decide), if_neg (show ¬ 8 * (m.length : Int) = 0 by omega), if_pos trivial, et, div8 t (by omega), mod8 t, set_flip _ t ht, if_pos (show (0 : Int) ≤ ((t / 8 : Nat) : Int) by omega), enc_length, if_pos (show ((t / 8 : Nat) : Int) < (m.length : Int) by omega), if_pos (show (0 : Int) ≤ ((t % 8 : Nat) : Int) by omega), Option.bind_some, if_neg (by decide)]
  obtain ⟨k, rfl⟩ : ∃ m, k = m + 1 := ⟨k - 1, by omega⟩
  simp only [stillagelaw01_CrcTells.j2]
  rw [if_neg (show ¬ (0 : Int) = 2 by decide)]
  obtain ⟨k, rfl⟩ : ∃ m, k = m + 1 := ⟨k - 1, by omega⟩
  simp only [stillagelaw01_CrcTells.j3]
  rw [if_neg (show ¬ false = true by decide)]
  obtain ⟨k, rfl⟩ : ∃ m, k = m + 1 := ⟨k - 1, by omega⟩
  simp only [stillagelaw01_CrcTells.j4]
  rw [crc_sum _ (by rw [Crc.flip_length]; omega) k (by rw [Crc.flip_length]; omega), Option.bind_some, ne_par (Crc.parL_flip m t ht), if_neg (by decide), if_pos trivial, crc_find_flip _ (by rw [Crc.flip_length]; exact hn) _ t (by rw [Crc.flip_length]; exact ht) (by rw [Crc.flip_flip m t ht]) k (by omega), Option.bind_some]
  simp only [if_true]
  rw [w64 (by omega) (by omega)]
  exact tells_1 m more h0 hn t ht k (by omega) _ _ _ _ _

theorem CrcTells (l0 : List Int) (a1_0 a1_1 a1_2 : Int) (l2 : List Int) (hm0 : l0.length ≤ maxLen) (hw0 : ∀ x ∈ l0, (Lit.int .u8 x).wf = true) (y0 : l0.length * 1 ≤ 140737488351232) (w1_0 : (Lit.int .i64 a1_0).wf = true) (w1_1 : (Lit.int .i64 a1_1).wf = true) (w1_2 : (Lit.int .i64 a1_2).wf = true) (hm2 : l2.length ≤ maxLen) (hw2 : ∀ x ∈ l2, (Lit.int .i64 x).wf = true) (y2 : l2.length * 8 ≤ 140737488351232) : ∃ k, stillagelaw01_CrcTells.f k l0 a1_0 a1_1 a1_2 l2 = some true := by
  obtain ⟨m, rfl⟩ := enc_of l0 hw0
  obtain ⟨k, hk⟩ : ∃ k : Nat, 1800000 < k := ⟨1800001, by omega⟩
  refine ⟨k + 1, ?_⟩
  unfold stillagelaw01_CrcTells.f stillagelaw01_awake.f
  simp only [Option.bind_some, if_true]
  rw [enc_length]
  by_cases h : (m.length : Int) = 0
  · rw [if_pos h]
    simp only [stillagelaw01_CrcTells.j0]
    rw [if_pos trivial]
    rfl
  · rw [if_neg h]
    by_cases h4 : (m.length : Int) > 4000
    · rw [decide_eq_true h4]
      simp only [stillagelaw01_CrcTells.j0]
      rw [if_pos trivial]
      rfl
    · rw [decide_eq_false h4]
      simp only [stillagelaw01_CrcTells.j0]
      rw [if_neg (by simp), crc_sum m (by omega) k (by omega), Option.bind_some, Option.bind_some, enc_length, List.length_nil, if_pos (by omega), List.nil_append, w64 (n := 8 * (m.length : Int)) (by omega) (by omega), wu64, Int.emod_eq_of_lt (by omega) (by omega)]
      exact tells_0 m l2 (by omega) (by omega) k (by omega) _ _ _ _ _ _

end Go.Proofs.Ytpcgjnjgenfhiaa.Pure
