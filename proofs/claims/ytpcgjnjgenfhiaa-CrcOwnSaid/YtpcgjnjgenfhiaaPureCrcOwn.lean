/- stillagelaw01.CrcOwn is true at every list of bytes and every number: no condition. -/
import Derived.OpenShut
import Derived.Laws.BitsAllLaws
import Derived.Test.YtpcgjnjgenfhiaaCrc
import Derived.Test.YtpcgjnjgenfhiaaOwnWalk
set_option linter.unusedVariables false
set_option linter.unusedSimpArgs false
set_option maxRecDepth 10000
namespace Go.Proofs.Ytpcgjnjgenfhiaa.Pure
open Go.RowKit Go.Proofs.Ytpcgjnjgenfhiaa.PCrcOwn Go.Proofs.YtpcgjnjgenfhiaaW.PrintWords Go.Proofs.YtpcgjnjgenfhiaaW.PrintLast
theorem w16 (n : Int) : IntKind.u16.wrap n = n % 65536 := by simp [IntKind.wrap, IntKind.bits, IntKind.signed]
theorem wu64 (n : Int) : IntKind.u64.wrap n = n % 18446744073709551616 := by simp [IntKind.wrap, IntKind.bits, IntKind.signed]
theorem w64 {n : Int} (h1 : -9223372036854775808 ≤ n) (h2 : n ≤ 9223372036854775807) : wrap64 n = n := by unfold wrap64; omega
/-! the numbers as bits -/
def T (c : Crc.W) : Int := (c.toNat : Int)
def TB (b : Crc.B) : Int := (b.toNat : Int)
theorem T_lt (c : Crc.W) : 0 ≤ T c ∧ T c < 65536 := by unfold T; have := c.isLt; omega
theorem TB_lt (b : Crc.B) : 0 ≤ TB b ∧ TB b < 256 := by unfold TB; have := b.isLt; omega
theorem T_inj {a b : Crc.W} (h : T a = T b) : a = b := by unfold T at h; exact BitVec.eq_of_toNat_eq (by omega)
theorem TB_inj {a b : Crc.B} (h : TB a = TB b) : a = b := by unfold TB at h; exact BitVec.eq_of_toNat_eq (by omega)
theorem T_of {a : Int} (h0 : 0 ≤ a) (h1 : a ≤ 65535) : ∃ c, a = T c := ⟨BitVec.ofNat 16 a.toNat, by unfold T; rw [BitVec.toNat_ofNat, Nat.mod_eq_of_lt (by omega)]; omega⟩
theorem TB_of {a : Int} (h0 : 0 ≤ a) (h1 : a ≤ 255) : ∃ c, a = TB c := ⟨BitVec.ofNat 8 a.toNat, by unfold TB; rw [BitVec.toNat_ofNat, Nat.mod_eq_of_lt (by omega)]; omega⟩
theorem T_xor (a b : Crc.W) : Go.bits .xor .u16 (T a) (T b) = T (a ^^^ b) := by
  unfold T; rw [u16_xor_nat _ _ a.isLt b.isLt, BitVec.toNat_xor]
theorem TB_xor (a b : Crc.B) : Go.bits .xor .u8 (TB a) (TB b) = TB (a ^^^ b) := by
  unfold TB; rw [u8_xor_nat _ _ a.isLt b.isLt, BitVec.toNat_xor]
theorem T_shl (a : Crc.W) (k : Nat) (m : Int) (hm : m = ((2 ^ k : Nat) : Int)) : IntKind.u16.wrap (T a * m) = T (a <<< k) := by
  unfold T; rw [w16, BitVec.toNat_shiftLeft, Nat.shiftLeft_eq, hm, ← Int.natCast_mul]; rfl
theorem T_shr (a : Crc.W) (k : Nat) (m : Int) (hm : m = ((2 ^ k : Nat) : Int)) : T a / m = T (a >>> k) := by
  unfold T; rw [BitVec.toNat_ushiftRight, Nat.shiftRight_eq_div_pow, hm]; rfl
theorem T_conv (b : Crc.B) : IntKind.u16.wrap (TB b) = T (b.zeroExtend 16) := by
  unfold T TB; rw [w16]; show _ = ((BitVec.setWidth 16 b).toNat : Int); rw [BitVec.toNat_setWidth]; rfl
theorem T_hi (b : Crc.B) : IntKind.u16.wrap (T (b.zeroExtend 16) * 256) = T (Crc.hi b) := T_shl _ 8 256 rfl
theorem T_poly : (4129 : Int) = T 0x1021#16 := rfl
theorem T_X (c : Crc.W) : (if T c ≥ 32768 then Go.bits .xor .u16 (IntKind.u16.wrap (T c * 2)) 4129 else IntKind.u16.wrap (T c * 2)) = T (Crc.X c) := by
  rw [T_shl c 1 2 rfl, T_poly, T_xor]
  unfold Crc.X
  have h := BitVec.msb_eq_decide c
  have h2 : T c = (c.toNat : Int) := rfl
  cases hm : c.msb with
  | true =>
    rw [hm] at h
    rw [if_pos (by have := h.symm; simp at this; omega), if_pos rfl]
  | false =>
    rw [hm] at h
    rw [if_neg (by have := h.symm; simp at this; omega), if_neg (by simp), Crc.x0]
/-! lists of bytes -/
def enc (l : List Crc.B) : List Int := l.map TB
theorem enc_length (l : List Crc.B) : (enc l).length = l.length := by simp [enc]
theorem enc_append (l m : List Crc.B) : enc l ++ enc m = enc (l ++ m) := by simp [enc]
theorem enc_inj {l m : List Crc.B} (h : enc l = enc m) : l = m := by
  induction l generalizing m with
  | nil => cases m with
    | nil => rfl
    | cons _ _ => simp [enc] at h
  | cons a l ih => cases m with
    | nil => simp [enc] at h
    | cons b m =>
      simp only [enc, List.map_cons, List.cons.injEq] at h
      rw [TB_inj h.1, ih (by simpa [enc] using h.2)]
theorem enc_of (l : List Int) (h : ∀ x ∈ l, (Lit.int .u8 x).wf = true) : ∃ m, l = enc m := by
  induction l with
  | nil => exact ⟨[], rfl⟩
  | cons a l ih =>
    obtain ⟨m, rfl⟩ := ih (fun x hx => h x (List.mem_cons_of_mem _ hx))
    have b := bounds_u8 (h a List.mem_cons_self)
    obtain ⟨c, rfl⟩ := TB_of b.1 b.2
    exact ⟨c :: m, rfl⟩
theorem rd_enc (l : List Crc.B) (i : Nat) (h : i < l.length) : rd (enc l) (i : Int) = TB l[i] := by
  unfold rd enc
  rw [List.getD_eq_getElem?_getD]
  simp [h]
theorem drop_cons (l : List Crc.B) (i : Nat) (h : i < l.length) : l.drop i = l[i] :: l.drop (i + 1) := List.drop_eq_getElem_cons h
/-! the program's functions -/
theorem crc_step (c : Crc.W) (b : Crc.B) : crc_Step.f (T c) (TB b) = some (T (Crc.step c b)) := by
  unfold crc_Step.f
  rw [T_conv, T_shr c 8 256 rfl, T_xor, T_shr _ 4 16 rfl, T_xor, T_shl _ 12 4096 rfl, T_shl _ 5 32 rfl, T_shl c 8 256 rfl, T_xor, T_xor, T_xor, ← Crc.stepI_eq]
  rfl
theorem crc_sum_loop (l : List Crc.B) (hn : l.length ≤ 140737488351232) (d : Nat) : ∀ (k i : Nat) (c : Crc.W), i ≤ l.length → l.length - i = d → d < k → crc_Sum.l0 k (T c) (enc l) (l.length : Int) (i : Int) = some (T (Crc.sum c (l.drop i))) := by
  induction d with
  | zero =>
    intro k i c h1 hd hk
    obtain ⟨k, rfl⟩ : ∃ m, k = m + 1 := ⟨k - 1, by omega⟩
    simp only [crc_Sum.l0]
    rw [if_neg (by omega), List.drop_eq_nil_of_le (by omega)]
    rfl
  | succ d ih =>
    intro k i c h1 hd hk
    obtain ⟨k, rfl⟩ : ∃ m, k = m + 1 := ⟨k - 1, by omega⟩
    simp only [crc_Sum.l0]
    rw [if_pos (by omega), if_pos (by omega), enc_length, if_pos (by omega), rd_enc l i (by omega), crc_step]
    simp only [Option.bind_some]
    rw [w64 (by omega) (by omega), show ((i : Int) + 1) = ((i + 1 : Nat) : Int) by omega, ih k (i + 1) _ (by omega) (by omega) (by omega), drop_cons l i (by omega)]
    rfl
theorem crc_sum (l : List Crc.B) (hn : l.length ≤ 140737488351232) (k : Nat) (hk : l.length < k) : crc_Sum.f k (enc l) = some (T (Crc.sum 0xffff#16 l)) := by
  unfold crc_Sum.f
  rw [enc_length]
  exact crc_sum_loop l hn l.length k 0 0xffff#16 (by omega) (by omega) (by omega)

theorem two_bits (c : Crc.W) : Crc.hi ((c >>> 8).setWidth 8) ^^^ (c.setWidth 8).zeroExtend 16 = c := by
  apply BitVec.eq_of_getLsbD_eq
  intro i hi
  simp only [Crc.hi, BitVec.getLsbD_xor, BitVec.getLsbD_shiftLeft, BitVec.getLsbD_setWidth, BitVec.getLsbD_ushiftRight]
  by_cases h : i < 8
  · simp [h, hi]
  · have h2 : 8 + (i - 8) = i := by omega
    have h3 : i - 8 < 8 := by omega
    simp [h, hi, h2, h3]
    intro _
    omega
theorem two_enc (c : Crc.W) : enc [(c >>> 8).setWidth 8, c.setWidth 8] = [T c / 256, T c % 256] := by
  have := c.isLt
  simp only [enc, List.map_cons, List.map_nil, T, TB, BitVec.toNat_setWidth, BitVec.toNat_ushiftRight, Nat.shiftRight_eq_div_pow]
  have e1 : ((c.toNat / 2 ^ 8 % 2 ^ 8 : Nat) : Int) = (c.toNat : Int) / 256 := by omega
  have e2 : ((c.toNat % 2 ^ 8 : Nat) : Int) = (c.toNat : Int) % 256 := by omega
  rw [e1, e2]
theorem own_two (l : List Crc.B) (hn : l.length ≤ 4000) (x : Crc.W) (k : Nat) (hk : l.length + 2 < k) : crc_Sum.f k (enc l ++ [T x / 256, T x % 256]) = some (T (Crc.Xn 16 (Crc.sum 0xffff#16 l ^^^ x))) := by
  rw [← two_enc, enc_append, crc_sum _ (by simp; omega) k (by simp; omega), Crc.sum_append, Crc.sum_cons, Crc.sum_cons, Crc.sum_nil, Crc.sum_two, two_bits]
theorem own_pure (l : List Int) (hl : l.length ≤ 4000) (hw : ∀ x ∈ l, (Lit.int .u8 x).wf = true) (x : Int) (h0 : 0 ≤ x) (h1 : x ≤ 65535) :
    ∃ k s r, crc_Sum.f k l = some s ∧ 0 ≤ s ∧ s ≤ 65535 ∧ crc_Sum.f k (l ++ [s / 256, s % 256]) = some 0 ∧ crc_Sum.f k (l ++ [x / 256, x % 256]) = some r ∧ (r == 0) = (x == s) := by
  obtain ⟨m, rfl⟩ := enc_of l hw
  rw [enc_length] at hl
  obtain ⟨c, rfl⟩ := T_of h0 h1
  have hb := T_lt (Crc.sum 0xffff#16 m)
  refine ⟨m.length + 3, T (Crc.sum 0xffff#16 m), T (Crc.Xn 16 (Crc.sum 0xffff#16 m ^^^ c)), crc_sum m (by omega) _ (by omega), hb.1, by omega, ?_, own_two m hl c _ (by omega), ?_⟩
  · rw [own_two m hl _ _ (by omega), BitVec.xor_self, Crc.Xn_zero]
    rfl
  · generalize Crc.sum 0xffff#16 m = s
    rw [Bool.eq_iff_iff, beq_iff_eq, beq_iff_eq]
    constructor
    · intro h
      have h2 : Crc.Xn 16 (s ^^^ c) = 0#16 := T_inj h
      have := Crc.eq_of_xor (Crc.Xn_eq_zero h2)
      rw [this]
    · intro h
      have := T_inj h
      subst this
      rw [BitVec.xor_self, Crc.Xn_zero]
      rfl
theorem own_walk (a0 : Option Addr) (len0 cap0 : Nat) (z0 : List Int) (a1 : Int) (w : World) (w0 : (a0 = none ∧ len0 = 0 ∧ cap0 = 0 ∧ z0 = []) ∨ ∃ x, a0 = some x ∧ len0 ≤ cap0 ∧ cap0 ≤ maxLen ∧ z0.length = cap0 ∧ (∀ i, i < z0.length → w.cell? (x.add i) = some (.int .u8 (z0.getD i 0))) ∧ ∀ n ∈ z0, (Lit.int .u8 n).wf = true) (y0 : len0 * 1 ≤ 140737488351232) (w1 : (Lit.int .u16 a1).wf = true) :
    Calls Try.prog 6 #[.slice a0 len0 cap0, .int .u16 a1] w fun e w' => e = .returned (.bool true) ∧ Below w.heap.size w w' := by
  obtain ⟨l0, rfl, hr0, hm0, hw0, hc0⟩ := ReadsInt.ofRowC w0
  have hb := bounds_u16 w1
  have hk : Kd.C (Kd.int .u8) w a0 l0.length l0 := Kd.C_of_reads (d := (0 : Int)) (h1 := fun _ => rfl) hr0
  by_cases hn : l0.length ≤ 4000
  · obtain ⟨k, s, r, h1, h2, h3, h4, h5, h6⟩ := own_pure l0 hn hw0 a1 hb.1 hb.2
    exact own_short k a0 cap0 l0 a1 s r w hk hc0 hn hb.1 hb.2 h1 h2 h3 h4 h5 h6
  · exact own_long a0 cap0 l0 a1 w (by omega) (by omega)
end Go.Proofs.Ytpcgjnjgenfhiaa.Pure
