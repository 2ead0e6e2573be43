/- stillagelaw01.CrcMixed is true at every three lists of bytes: no condition. -/
import Derived.OpenShut
import Derived.Laws.BitsAllLaws
import Derived.Test.YtpcgjnjgenfhiaaCrc
import Derived.Test.YtpcgjnjgenfhiaaPCrcMixedx
set_option linter.unusedVariables false
set_option linter.unusedSimpArgs false
set_option maxRecDepth 10000
namespace Go.Proofs.Ytpcgjnjgenfhiaa.Pure
open Go.RowKit Go.Proofs.Ytpcgjnjgenfhiaa.PCrcMixed Go.Proofs.YtpcgjnjgenfhiaaW.PrintWords Go.Proofs.YtpcgjnjgenfhiaaW.PrintLast
theorem w16 (n : Int) : IntKind.u16.wrap n = n % 65536 := by simp [IntKind.wrap, IntKind.bits, IntKind.signed]
theorem wu64 (n : Int) : IntKind.u64.wrap n = n % 18446744073709551616 := by simp [IntKind.wrap, IntKind.bits, IntKind.signed]
theorem w64 {n : Int} (h1 : -9223372036854775808 ≤ n) (h2 : n ≤ 9223372036854775807) : wrap64 n = n := by unfold wrap64; omega
/-! the numbers as bits -/
def T (c : Crc.W) : Int := (c.toNat : Int)
def TB (b : Crc.B) : Int := (b.toNat : Int)
theorem T_lt (c : Crc.W) : 0 ≤ T c ∧ T c < 65536 := by unfold T; have := c.isLt; omega
theorem TB_lt (b : Crc.B) : 0 ≤ TB b ∧ TB b < 256 := by unfold TB; have := b.isLt; omega
theorem T_inj {a b : Crc.W} (h : T a = T b) : a = b := by unfold T at h; exact BitVec.eq_of_toNat_eq (by omega)
theorem TB_inj {a b : Crc.B} (h : TB a = TB b) : a = b := by unfold TB at h; exact BitVec.eq_of_toNat_eq (by omega)
theorem T_of {a : Int} (h0 : 0 ≤ a) (h1 : a ≤ 65535) : ∃ c, a = T c := ⟨BitVec.ofNat 16 a.toNat, by unfold T; rw [BitVec.toNat_ofNat, Nat.mod_eq_of_lt (by omega)]; omega⟩
theorem TB_of {a : Int} (h0 : 0 ≤ a) (h1 : a ≤ 255) : ∃ c, a = TB c := ⟨BitVec.ofNat 8 a.toNat, by unfold TB; rw [BitVec.toNat_ofNat, Nat.mod_eq_of_lt (by omega)]; omega⟩
theorem T_xor (a b : Crc.W) : Go.bits .xor .u16 (T a) (T b) = T (a ^^^ b) := by
  unfold T; rw [u16_xor_nat _ _ a.isLt b.isLt, BitVec.toNat_xor]
theorem TB_xor (a b : Crc.B) : Go.bits .xor .u8 (TB a) (TB b) = TB (a ^^^ b) := by
  unfold TB; rw [u8_xor_nat _ _ a.isLt b.isLt, BitVec.toNat_xor]
theorem T_shl (a : Crc.W) (k : Nat) (m : Int) (hm : m = ((2 ^ k : Nat) : Int)) : IntKind.u16.wrap (T a * m) = T (a <<< k) := by
  unfold T; rw [w16, BitVec.toNat_shiftLeft, Nat.shiftLeft_eq, hm, ← Int.natCast_mul]; rfl
theorem T_shr (a : Crc.W) (k : Nat) (m : Int) (hm : m = ((2 ^ k : Nat) : Int)) : T a / m = T (a >>> k) := by
  unfold T; rw [BitVec.toNat_ushiftRight, Nat.shiftRight_eq_div_pow, hm]; rfl
theorem T_conv (b : Crc.B) : IntKind.u16.wrap (TB b) = T (b.zeroExtend 16) := by
  unfold T TB; rw [w16]; show _ = ((BitVec.setWidth 16 b).toNat : Int); rw [BitVec.toNat_setWidth]; rfl
theorem T_hi (b : Crc.B) : IntKind.u16.wrap (T (b.zeroExtend 16) * 256) = T (Crc.hi b) := T_shl _ 8 256 rfl
theorem T_poly : (4129 : Int) = T 0x1021#16 := rfl
theorem T_X (c : Crc.W) : (if T c ≥ 32768 then Go.bits .xor .u16 (IntKind.u16.wrap (T c * 2)) 4129 else IntKind.u16.wrap (T c * 2)) = T (Crc.X c) := by
  rw [T_shl c 1 2 rfl, T_poly, T_xor]
  unfold Crc.X
  have h := BitVec.msb_eq_decide c
  have h2 : T c = (c.toNat : Int) := rfl
  cases hm : c.msb with
  | true =>
    rw [hm] at h
    rw [if_pos (by have := h.symm; simp at this; omega), if_pos rfl]
  | false =>
    rw [hm] at h
    rw [if_neg (by have := h.symm; simp at this; omega), if_neg (by simp), Crc.x0]
/-! lists of bytes -/
def enc (l : List Crc.B) : List Int := l.map TB
theorem enc_length (l : List Crc.B) : (enc l).length = l.length := by simp [enc]
theorem enc_append (l m : List Crc.B) : enc l ++ enc m = enc (l ++ m) := by simp [enc]
theorem enc_inj {l m : List Crc.B} (h : enc l = enc m) : l = m := by
  induction l generalizing m with
  | nil => cases m with
    | nil => rfl
    | cons _ _ => simp [enc] at h
  | cons a l ih => cases m with
    | nil => simp [enc] at h
    | cons b m =>
      simp only [enc, List.map_cons, List.cons.injEq] at h
      rw [TB_inj h.1, ih (by simpa [enc] using h.2)]
theorem enc_of (l : List Int) (h : ∀ x ∈ l, (Lit.int .u8 x).wf = true) : ∃ m, l = enc m := by
  induction l with
  | nil => exact ⟨[], rfl⟩
  | cons a l ih =>
    obtain ⟨m, rfl⟩ := ih (fun x hx => h x (List.mem_cons_of_mem _ hx))
    have b := bounds_u8 (h a List.mem_cons_self)
    obtain ⟨c, rfl⟩ := TB_of b.1 b.2
    exact ⟨c :: m, rfl⟩
theorem rd_enc (l : List Crc.B) (i : Nat) (h : i < l.length) : rd (enc l) (i : Int) = TB l[i] := by
  unfold rd enc
  rw [List.getD_eq_getElem?_getD]
  simp [h]
theorem drop_cons (l : List Crc.B) (i : Nat) (h : i < l.length) : l.drop i = l[i] :: l.drop (i + 1) := List.drop_eq_getElem_cons h
/-! the program's functions -/
theorem crc_step (c : Crc.W) (b : Crc.B) : crc_Step.f (T c) (TB b) = some (T (Crc.step c b)) := by
  unfold crc_Step.f
  rw [T_conv, T_shr c 8 256 rfl, T_xor, T_shr _ 4 16 rfl, T_xor, T_shl _ 12 4096 rfl, T_shl _ 5 32 rfl, T_shl c 8 256 rfl, T_xor, T_xor, T_xor, ← Crc.stepI_eq]
  rfl
theorem crc_sum_loop (l : List Crc.B) (hn : l.length ≤ 140737488351232) (d : Nat) : ∀ (k i : Nat) (c : Crc.W), i ≤ l.length → l.length - i = d → d < k → crc_Sum.l0 k (T c) (enc l) (l.length : Int) (i : Int) = some (T (Crc.sum c (l.drop i))) := by
  induction d with
  | zero =>
    intro k i c h1 hd hk
    obtain ⟨k, rfl⟩ : ∃ m, k = m + 1 := ⟨k - 1, by omega⟩
    simp only [crc_Sum.l0]
    rw [if_neg (by omega), List.drop_eq_nil_of_le (by omega)]
    rfl
  | succ d ih =>
    intro k i c h1 hd hk
    obtain ⟨k, rfl⟩ : ∃ m, k = m + 1 := ⟨k - 1, by omega⟩
    simp only [crc_Sum.l0]
    rw [if_pos (by omega), if_pos (by omega), enc_length, if_pos (by omega), rd_enc l i (by omega), crc_step]
    simp only [Option.bind_some]
    rw [w64 (by omega) (by omega), show ((i : Int) + 1) = ((i + 1 : Nat) : Int) by omega, ih k (i + 1) _ (by omega) (by omega) (by omega), drop_cons l i (by omega)]
    rfl
theorem crc_sum (l : List Crc.B) (hn : l.length ≤ 140737488351232) (k : Nat) (hk : l.length < k) : crc_Sum.f k (enc l) = some (T (Crc.sum 0xffff#16 l)) := by
  unfold crc_Sum.f
  rw [enc_length]
  exact crc_sum_loop l hn l.length k 0 0xffff#16 (by omega) (by omega) (by omega)

def D (a b c : List Crc.B) (n : Nat) : List Crc.B := List.zipWith (· ^^^ ·) (List.zipWith (· ^^^ ·) (a.take n) (b.take n)) (c.take n)
theorem D_length (a b c : List Crc.B) (n : Nat) (ha : n ≤ a.length) (hb : n ≤ b.length) (hc : n ≤ c.length) : (D a b c n).length = n := by
  simp only [D, List.length_zipWith, List.length_take]; omega
theorem D_get (a b c : List Crc.B) (n i : Nat) (ha : n ≤ a.length) (hb : n ≤ b.length) (hc : n ≤ c.length) (hi : i < n) (h : i < (D a b c n).length) : (D a b c n)[i] = a[i] ^^^ b[i] ^^^ c[i] := by
  simp [D, List.getElem_zipWith, List.getElem_take]
theorem D_sum (a b c : List Crc.B) (n : Nat) (ha : n ≤ a.length) (hb : n ≤ b.length) (hc : n ≤ c.length) : Crc.sum 0xffff#16 (D a b c n) = Crc.sum 0xffff#16 (a.take n) ^^^ Crc.sum 0xffff#16 (b.take n) ^^^ Crc.sum 0xffff#16 (c.take n) := by
  have h1 := Crc.sum_xor (a.take n) (b.take n) 0xffff#16 0xffff#16 (by rw [List.length_take, List.length_take]; omega)
  have h2 := Crc.sum_xor (List.zipWith (· ^^^ ·) (a.take n) (b.take n)) (c.take n) (0xffff#16 ^^^ 0xffff#16) 0xffff#16 (by rw [List.length_zipWith, List.length_take, List.length_take, List.length_take]; omega)
  rw [h1] at h2
  rw [← h2]
  rfl
theorem enc_set (l : List Crc.B) (i : Nat) (b : Crc.B) : (enc l).set i (TB b) = enc (l.set i b) := by simp [enc, List.map_set]
theorem enc_take (l : List Crc.B) (n : Nat) : (enc l).take n = enc (l.take n) := by simp [enc, List.map_take]
theorem loop (a b c : List Crc.B) (n : Nat) (hn : n ≤ 2000) (ha : n ≤ a.length) (hb : n ≤ b.length) (hc : n ≤ c.length) (d : Nat) : ∀ (k i : Nat) (y : List Crc.B) (hy : y.length = n), (∀ j, j < i → ∀ h : j < y.length, y[j] = (D a b c n)[j]'(by rw [D_length a b c n ha hb hc]; omega)) → i ≤ n → n - i = d → d + 2001 < k →
    stillagelaw01_CrcMixed.l0 k (enc a) (enc b) (enc c) (n : Int) (enc y) (i : Int) = some true := by
  induction d with
  | zero =>
    intro k i y hy hj hi hd hk
    obtain ⟨k, rfl⟩ : ∃ m, k = m + 1 := ⟨k - 1, by omega⟩
    obtain rfl : i = n := by omega
    have hD : y = D a b c i := by
      apply List.ext_getElem
      · rw [D_length a b c i ha hb hc, hy]
      · intro j h1 h2
        exact hj j (by omega) h1
    simp only [stillagelaw01_CrcMixed.l0]
    rw [if_neg (by omega), hD, crc_sum _ (by rw [D_length a b c i ha hb hc]; omega) k (by rw [D_length a b c i ha hb hc]; omega), Option.bind_some, if_pos (by omega), enc_length, if_pos (by omega), Int.toNat_natCast, enc_take, enc_take, enc_take]
    rw [crc_sum _ (by rw [List.length_take]; omega) k (by rw [List.length_take]; omega), Option.bind_some, enc_length, if_pos (by omega), crc_sum _ (by rw [List.length_take]; omega) k (by rw [List.length_take]; omega), Option.bind_some, enc_length, if_pos (by omega), crc_sum _ (by rw [List.length_take]; omega) k (by rw [List.length_take]; omega), Option.bind_some]
    rw [T_xor, T_xor, D_sum a b c i ha hb hc]
    simp
  | succ d ih =>
    intro k i y hy hj hi hd hk
    obtain ⟨k, rfl⟩ : ∃ m, k = m + 1 := ⟨k - 1, by omega⟩
    simp only [stillagelaw01_CrcMixed.l0]
    rw [if_pos (by omega), if_pos (by omega), enc_length, if_pos (by omega), enc_length, if_pos (by omega), enc_length, if_pos (by omega), enc_length, if_pos (by omega), rd_enc a i (by omega), rd_enc b i (by omega), rd_enc c i (by omega), TB_xor, TB_xor, Int.toNat_natCast, enc_set, w64 (by omega) (by omega), show (i : Int) + 1 = ((i + 1 : Nat) : Int) by omega]
    refine ih k (i + 1) _ (by rw [List.length_set, hy]) ?_ (by omega) (by omega) (by omega)
    intro j hj1 h
    rw [List.length_set] at h
    rw [List.getElem_set]
    by_cases e : i = j
    · subst e
      rw [if_pos rfl, D_get a b c n i ha hb hc (by omega)]
    · rw [if_neg e]
      exact hj j (by omega) h
theorem CrcMixed : stillagelaw01_CrcMixed.Pure := by
  intro l0 l1 l2 h0 h1 h2 h3 h4 h5 h6 h7 h8
  obtain ⟨a, rfl⟩ := enc_of l0 h2
  obtain ⟨b, rfl⟩ := enc_of l1 h5
  obtain ⟨c, rfl⟩ := enc_of l2 h8
  have e0 := enc_length a
  have e1 := enc_length b
  have e2 := enc_length c
  obtain ⟨n, hn⟩ : ∃ n : Nat, mn (mn (mn ((enc a).length : Int) ((enc b).length : Int)) ((enc c).length : Int)) 2000 = (n : Int) := by
    refine ⟨min (min (min a.length b.length) c.length) 2000, ?_⟩
    unfold mn
    repeat' split
    all_goals omega
  have hb : n ≤ a.length ∧ n ≤ b.length ∧ n ≤ c.length ∧ n ≤ 2000 := by
    have := hn
    unfold mn at this
    repeat' split at this
    all_goals omega
  refine ⟨5000, ?_⟩
  unfold stillagelaw01_CrcMixed.f
  rw [hn, show stillagelaw01_awake.f = some true from rfl, Option.bind_some, if_pos rfl, if_pos (by omega), if_pos (by omega)]
  rw [Int.toNat_natCast, show List.replicate n (0 : Int) = enc (List.replicate n 0#8) from by simp [enc]; exact Or.inr (by decide)]
  exact loop a b c n (by omega) (by omega) (by omega) (by omega) n 5000 0 _ (by simp) (fun j hj => by omega) (by omega) (by omega) (by omega)

end Go.Proofs.Ytpcgjnjgenfhiaa.Pure
