/- stillagelaw02.TelePieces is true at every list of telegrams and of numbers: no condition. -/
import Derived.OpenShut
import Derived.Laws.BitsAllLaws
import Derived.Test.YtabkmjimdpdfaaaTele
import Derived.Test.YtabkmjimdpdfaaaEvt
import Derived.Test.YtabkmjimdpdfaaaPTelePiecesx
set_option linter.unusedVariables false
set_option linter.unusedSimpArgs false
set_option maxRecDepth 10000
namespace Go.Proofs.Ytabkmjimdpdfaaa.Pure
open Go.RowKit Go.Proofs.Ytabkmjimdpdfaaa.PTelePieces Go.Proofs.YtabkmjimdpdfaaaW.PrintWords Go.Proofs.YtabkmjimdpdfaaaW.PrintLast Go.Proofs.PlainEvt
open Tele (hiB loB wd Tl ten code chk tl err told)
theorem w16 (n : Int) : IntKind.u16.wrap n = n % 65536 := by simp [IntKind.wrap, IntKind.bits, IntKind.signed]
theorem wu64 (n : Int) : IntKind.u64.wrap n = n % 18446744073709551616 := by simp [IntKind.wrap, IntKind.bits, IntKind.signed]
theorem w64 {n : Int} (h1 : -9223372036854775808 ≤ n) (h2 : n ≤ 9223372036854775807) : wrap64 n = n := by unfold wrap64; omega
/-! the numbers as bits -/
def T (c : Crc.W) : Int := (c.toNat : Int)
def TB (b : Crc.B) : Int := (b.toNat : Int)
theorem T_lt (c : Crc.W) : 0 ≤ T c ∧ T c < 65536 := by unfold T; have := c.isLt; omega
theorem TB_lt (b : Crc.B) : 0 ≤ TB b ∧ TB b < 256 := by unfold TB; have := b.isLt; omega
theorem T_inj {a b : Crc.W} (h : T a = T b) : a = b := by unfold T at h; exact BitVec.eq_of_toNat_eq (by omega)
theorem TB_inj {a b : Crc.B} (h : TB a = TB b) : a = b := by unfold TB at h; exact BitVec.eq_of_toNat_eq (by omega)
theorem T_of {a : Int} (h0 : 0 ≤ a) (h1 : a ≤ 65535) : ∃ c, a = T c := ⟨BitVec.ofNat 16 a.toNat, by unfold T; rw [BitVec.toNat_ofNat, Nat.mod_eq_of_lt (by omega)]; omega⟩
theorem TB_of {a : Int} (h0 : 0 ≤ a) (h1 : a ≤ 255) : ∃ c, a = TB c := ⟨BitVec.ofNat 8 a.toNat, by unfold TB; rw [BitVec.toNat_ofNat, Nat.mod_eq_of_lt (by omega)]; omega⟩
theorem T_xor (a b : Crc.W) : Go.bits .xor .u16 (T a) (T b) = T (a ^^^ b) := by
  unfold T; rw [u16_xor_nat _ _ a.isLt b.isLt, BitVec.toNat_xor]
theorem TB_xor (a b : Crc.B) : Go.bits .xor .u8 (TB a) (TB b) = TB (a ^^^ b) := by
  unfold TB; rw [u8_xor_nat _ _ a.isLt b.isLt, BitVec.toNat_xor]
theorem T_shl (a : Crc.W) (k : Nat) (m : Int) (hm : m = ((2 ^ k : Nat) : Int)) : IntKind.u16.wrap (T a * m) = T (a <<< k) := by
  unfold T; rw [w16, BitVec.toNat_shiftLeft, Nat.shiftLeft_eq, hm, ← Int.natCast_mul]; rfl
theorem T_shr (a : Crc.W) (k : Nat) (m : Int) (hm : m = ((2 ^ k : Nat) : Int)) : T a / m = T (a >>> k) := by
  unfold T; rw [BitVec.toNat_ushiftRight, Nat.shiftRight_eq_div_pow, hm]; rfl
theorem T_conv (b : Crc.B) : IntKind.u16.wrap (TB b) = T (b.zeroExtend 16) := by
  unfold T TB; rw [w16]; show _ = ((BitVec.setWidth 16 b).toNat : Int); rw [BitVec.toNat_setWidth]; rfl
theorem T_hi (b : Crc.B) : IntKind.u16.wrap (T (b.zeroExtend 16) * 256) = T (Crc.hi b) := T_shl _ 8 256 rfl
theorem T_poly : (4129 : Int) = T 0x1021#16 := rfl
theorem T_X (c : Crc.W) : (if T c ≥ 32768 then Go.bits .xor .u16 (IntKind.u16.wrap (T c * 2)) 4129 else IntKind.u16.wrap (T c * 2)) = T (Crc.X c) := by
  rw [T_shl c 1 2 rfl, T_poly, T_xor]
  unfold Crc.X
  have h := BitVec.msb_eq_decide c
  have h2 : T c = (c.toNat : Int) := rfl
  cases hm : c.msb with
  | true =>
    rw [hm] at h
    rw [if_pos (by have := h.symm; simp at this; omega), if_pos rfl]
  | false =>
    rw [hm] at h
    rw [if_neg (by have := h.symm; simp at this; omega), if_neg (by simp), Crc.x0]
/-! lists of bytes -/
def enc (l : List Crc.B) : List Int := l.map TB
theorem enc_length (l : List Crc.B) : (enc l).length = l.length := by simp [enc]
theorem enc_append (l m : List Crc.B) : enc l ++ enc m = enc (l ++ m) := by simp [enc]
theorem enc_inj {l m : List Crc.B} (h : enc l = enc m) : l = m := by
  induction l generalizing m with
  | nil => cases m with
    | nil => rfl
    | cons _ _ => simp [enc] at h
  | cons a l ih => cases m with
    | nil => simp [enc] at h
    | cons b m =>
      simp only [enc, List.map_cons, List.cons.injEq] at h
      rw [TB_inj h.1, ih (by simpa [enc] using h.2)]
theorem enc_of (l : List Int) (h : ∀ x ∈ l, (Lit.int .u8 x).wf = true) : ∃ m, l = enc m := by
  induction l with
  | nil => exact ⟨[], rfl⟩
  | cons a l ih =>
    obtain ⟨m, rfl⟩ := ih (fun x hx => h x (List.mem_cons_of_mem _ hx))
    have b := bounds_u8 (h a List.mem_cons_self)
    obtain ⟨c, rfl⟩ := TB_of b.1 b.2
    exact ⟨c :: m, rfl⟩
theorem rd_enc (l : List Crc.B) (i : Nat) (h : i < l.length) : rd (enc l) (i : Int) = TB l[i] := by
  unfold rd enc
  rw [List.getD_eq_getElem?_getD]
  simp [h]
theorem drop_cons (l : List Crc.B) (i : Nat) (h : i < l.length) : l.drop i = l[i] :: l.drop (i + 1) := List.drop_eq_getElem_cons h
/-! the program's functions -/
theorem crc_step (c : Crc.W) (b : Crc.B) : crc_Step.f (T c) (TB b) = some (T (Crc.step c b)) := by
  unfold crc_Step.f
  rw [T_conv, T_shr c 8 256 rfl, T_xor, T_shr _ 4 16 rfl, T_xor, T_shl _ 12 4096 rfl, T_shl _ 5 32 rfl, T_shl c 8 256 rfl, T_xor, T_xor, T_xor, ← Crc.stepI_eq]
  rfl
theorem crc_sum_loop (l : List Crc.B) (hn : l.length ≤ 140737488351232) (d : Nat) : ∀ (k i : Nat) (c : Crc.W), i ≤ l.length → l.length - i = d → d < k → crc_Sum.l0 k (T c) (enc l) (l.length : Int) (i : Int) = some (T (Crc.sum c (l.drop i))) := by
  induction d with
  | zero =>
    intro k i c h1 hd hk
    obtain ⟨k, rfl⟩ : ∃ m, k = m + 1 := ⟨k - 1, by omega⟩
    simp only [crc_Sum.l0]
    rw [if_neg (by omega), List.drop_eq_nil_of_le (by omega)]
    rfl
  | succ d ih =>
    intro k i c h1 hd hk
    obtain ⟨k, rfl⟩ : ∃ m, k = m + 1 := ⟨k - 1, by omega⟩
    simp only [crc_Sum.l0]
    rw [if_pos (by omega), if_pos (by omega), enc_length, if_pos (by omega), rd_enc l i (by omega), crc_step]
    simp only [Option.bind_some]
    rw [w64 (by omega) (by omega), show ((i : Int) + 1) = ((i + 1 : Nat) : Int) by omega, ih k (i + 1) _ (by omega) (by omega) (by omega), drop_cons l i (by omega)]
    rfl
theorem crc_sum (l : List Crc.B) (hn : l.length ≤ 140737488351232) (k : Nat) (hk : l.length < k) : crc_Sum.f k (enc l) = some (T (Crc.sum 0xffff#16 l)) := by
  unfold crc_Sum.f
  rw [enc_length]
  exact crc_sum_loop l hn l.length k 0 0xffff#16 (by omega) (by omega) (by omega)
/-! what the program's small functions answer -/
theorem T_nat (w : Crc.W) : T w = (w.toNat : Int) := rfl
theorem TB_nat (b : Crc.B) : TB b = (b.toNat : Int) := rfl
theorem T_hiB (w : Crc.W) : T w / 256 % 256 = TB (hiB w) := by
  have := w.isLt
  rw [TB_nat, Tele.hiB_nat, T_nat]; omega
theorem T_loB (w : Crc.W) : T w % 256 = TB (loB w) := by
  rw [TB_nat, Tele.loB_nat, T_nat]; omega
theorem str_eq {l m : List Crc.B} : (strOfNums (enc l)).toList = (strOfNums (enc m)).toList ↔ l = m := by
  constructor
  · intro h
    have e : ∀ l : List Crc.B, (strOfNums (enc l)).toList.map (fun c => BitVec.ofNat 8 c.toNat) = l := by
      intro l
      have : (strOfNums (enc l)).toList = l.map (fun b => UInt8.ofNat (TB b).toNat) := by
        unfold strOfNums
        rw [ByteArray.toList_mk]
        simp [enc]
      rw [this, List.map_map]
      conv => rhs; rw [← List.map_id l]
      apply List.map_congr_left
      intro b _
      have := b.isLt
      apply BitVec.eq_of_toNat_eq
      simp [TB]
    rw [← e l, h, e m]
  · rintro rfl
    rfl
theorem within_f (a lo hi : Int) : tele_within.f a lo hi = some (decide (lo ≤ a) && decide (a ≤ hi)) := by
  unfold tele_within.f
  by_cases h : lo ≤ a <;> simp [h]
theorem check_f (k d s a b : Int) (n : Nat) (hn : 2 ≤ n) (h0 : 0 ≤ k) (h1 : 0 ≤ d) (h2 : 0 ≤ a) (h3 : 0 ≤ b) : tele_Check.f n k d s a b = some (chk k d s a b) := by
  obtain ⟨n, rfl⟩ : ∃ m, n = m + 2 := ⟨n - 2, by omega⟩
  have hk : k < 1 ∨ k = 1 ∨ k = 2 ∨ k = 3 ∨ k = 4 ∨ k = 5 ∨ k = 6 ∨ k = 7 ∨ 7 < k := by omega
  unfold tele_Check.f chk
  simp only [tele_Check.j0, tele_Check.j1, within_f, Option.bind_some]
  have both : ∀ (p q : Prop) [Decidable p] [Decidable q], ((decide p && decide q) = true) ↔ (p ∧ q) := by intro p q _ _; simp
  simp only [both]
  rcases hk with h | rfl | rfl | rfl | rfl | rfl | rfl | rfl | h
  · have e1 : ¬ k = 1 := by omega
    have e2 : ¬ k = 2 := by omega
    have e3 : ¬ k = 3 := by omega
    have e4 : ¬ k = 4 := by omega
    have e5 : ¬ k = 5 := by omega
    have e6 : ¬ k = 6 := by omega
    have e7 : ¬ k = 7 := by omega
    simp [e1, e2, e3, e4, e5, e6, e7, h]
  · simp; (repeat' split) <;> first | rfl | omega
  · simp; (repeat' split) <;> first | rfl | omega
  · simp; (repeat' split) <;> first | rfl | omega
  · simp; (repeat' split) <;> first | rfl | omega
  · simp; (repeat' split) <;> first | rfl | omega
  · simp; (repeat' split) <;> first | rfl | omega
  · simp; (repeat' split) <;> first | rfl | omega
  · have e1 : ¬ k = 1 := by omega
    have e2 : ¬ k = 2 := by omega
    have e3 : ¬ k = 3 := by omega
    have e4 : ¬ k = 4 := by omega
    have e5 : ¬ k = 5 := by omega
    have e6 : ¬ k = 6 := by omega
    have e7 : ¬ k = 7 := by omega
    simp [e1, e2, e3, e4, e5, e6, e7, h]
theorem pair_f (w : Crc.W) : tele_pair.f (T w) = some (enc [hiB w, loB w]) := by
  unfold tele_pair.f
  rw [T_hiB, T_loB]
  rfl
def lens (ls : List (List Int)) : Nat := (ls.map List.length).sum
theorem lens_drop (ls : List (List Int)) (i : Nat) (h : i < ls.length) : lens (ls.drop i) = ls[i].length + lens (ls.drop (i + 1)) := by
  unfold lens
  rw [List.drop_eq_getElem_cons h, List.map_cons, List.sum_cons]
theorem rd_L (ls : List (List Int)) (i : Nat) (h : i < ls.length) : rd_L1 ls (i : Int) = ls[i] := by
  simp [rd_L1, List.getElem?_eq_getElem h]
theorem concat_l1 (ls : List (List Int)) (hl : ls.length ≤ 100) (d : Nat) : ∀ (k i : Nat) (acc : List Int), i ≤ ls.length → ls.length - i = d → d < k → acc.length + lens (ls.drop i) ≤ 10000 →
    slices_Concat_byte_byte.l1 k acc ls (ls.length : Int) (i : Int) = some (acc ++ (ls.drop i).flatten) := by
  induction d with
  | zero =>
    intro k i acc h1 hd hk hs
    obtain ⟨k, rfl⟩ : ∃ m, k = m + 1 := ⟨k - 1, by omega⟩
    simp only [slices_Concat_byte_byte.l1]
    rw [if_neg (by omega), List.drop_eq_nil_of_le (by omega)]
    simp
  | succ d ih =>
    intro k i acc h1 hd hk hs
    obtain ⟨k, rfl⟩ : ∃ m, k = m + 1 := ⟨k - 1, by omega⟩
    rw [lens_drop ls i (by omega)] at hs
    simp only [slices_Concat_byte_byte.l1]
    rw [if_pos (by omega), if_pos (by omega), if_pos (by omega), rd_L ls i (by omega), if_pos (by omega), w64 (by omega) (by omega), show ((i : Int) + 1) = ((i + 1 : Nat) : Int) by omega, ih k (i + 1) _ (by omega) (by omega) (by omega) (by rw [List.length_append]; omega)]
    rw [List.drop_eq_getElem_cons (show i < ls.length by omega), List.flatten_cons, List.append_assoc]
theorem concat_l0 (ls : List (List Int)) (hl : ls.length ≤ 100) (d : Nat) : ∀ (k i s : Nat), i ≤ ls.length → ls.length - i = d → d + ls.length + 1 < k → s + lens (ls.drop i) ≤ 10000 → lens ls ≤ 10000 →
    slices_Concat_byte_byte.l0 k ls (s : Int) ls (ls.length : Int) (i : Int) = some ls.flatten := by
  induction d with
  | zero =>
    intro k i s h1 hd hk hs ht
    obtain ⟨k, rfl⟩ : ∃ m, k = m + 1 := ⟨k - 1, by omega⟩
    simp only [slices_Concat_byte_byte.l0]
    rw [if_neg (by omega)]
    unfold slices_Grow_byte_byte.f
    rw [if_pos ⟨by omega, by omega⟩, Option.bind_some, show (0 : Int) = ((0 : Nat) : Int) from rfl, concat_l1 ls hl ls.length k 0 [] (by omega) (by omega) (by omega) (by simpa using ht)]
    simp
  | succ d ih =>
    intro k i s h1 hd hk hs ht
    obtain ⟨k, rfl⟩ : ∃ m, k = m + 1 := ⟨k - 1, by omega⟩
    rw [lens_drop ls i (by omega)] at hs
    simp only [slices_Concat_byte_byte.l0]
    rw [if_pos (by omega), if_pos (by omega), if_pos (by omega), rd_L ls i (by omega), w64 (by omega) (by omega), if_neg (by omega), w64 (n := (i : Int) + 1) (by omega) (by omega), show ((i : Int) + 1) = ((i + 1 : Nat) : Int) by omega, show ((s : Int) + (ls[i].length : Int)) = ((s + ls[i].length : Nat) : Int) by omega]
    exact ih k (i + 1) _ (by omega) (by omega) (by omega) (by omega) ht
theorem concat_f (ls : List (List Int)) (hl : ls.length ≤ 100) (ht : lens ls ≤ 10000) (k : Nat) (hk : 2 * ls.length + 1 < k) : slices_Concat_byte_byte.f k ls = some ls.flatten := by
  unfold slices_Concat_byte_byte.f
  exact concat_l0 ls hl ls.length k 0 0 (by omega) (by omega) (by omega) (by simpa using ht) ht
theorem encode_f (t : Tl) (n : Nat) (hn : 20 ≤ n) : tele_Encode.f n (TB t.k) (T t.d) (T t.s) (T t.a) (T t.b) = some (if code t = 0 then enc (Tele.bytes t) else [], code t) := by
  unfold tele_Encode.f
  rw [check_f _ _ _ _ _ n (by omega) (TB_lt _).1 (T_lt _).1 (T_lt _).1 (T_lt _).1, Option.bind_some, show chk (TB t.k) (T t.d) (T t.s) (T t.a) (T t.b) = code t from rfl]
  by_cases h : code t = 0
  · rw [if_pos h, if_pos h, pair_f, Option.bind_some, pair_f, Option.bind_some, pair_f, Option.bind_some, pair_f, Option.bind_some, concat_f _ (by simp) (by simp [lens, enc]) n (by simp; omega), Option.bind_some]
    have e : [[165, TB t.k], enc [hiB t.d, loB t.d], enc [hiB t.s, loB t.s], enc [hiB t.a, loB t.a], enc [hiB t.b, loB t.b]].flatten = enc (ten t) := rfl
    rw [e, crc_sum (ten t) (by simp [ten]) n (by simp [ten]; omega), Option.bind_some, show Crc.sum 65535#16 (ten t) = Tele.sum (ten t) from rfl, pair_f, Option.bind_some, concat_f _ (by simp) (by simp [lens, enc, ten]) n (by simp; omega), Option.bind_some, h]
    rfl
  · rw [if_neg h, if_neg h]
theorem awake_f (n : Nat) (hn : 20 ≤ n) : stillagelaw02_awake.f n = some true := by
  unfold stillagelaw02_awake.f
  have e := encode_f ⟨1#8, 1#16, 2#16, 3#16, 0#16⟩ n hn
  have e' : tele_Encode.f n 1 1 2 3 0 = some (enc (Tele.bytes ⟨1#8, 1#16, 2#16, 3#16, 0#16⟩), 0) := e
  rw [e', Option.bind_some, if_pos rfl, if_pos (show ((enc (Tele.bytes ⟨1#8, 1#16, 2#16, 3#16, 0#16⟩)).length : Int) = 12 from rfl), if_pos (show (0 : Int) < ((enc (Tele.bytes ⟨1#8, 1#16, 2#16, 3#16, 0#16⟩)).length : Int) from by show (0 : Int) < 12; omega), if_pos (show rd (enc (Tele.bytes ⟨1#8, 1#16, 2#16, 3#16, 0#16⟩)) 0 = 165 from rfl), if_pos (show (7 : Int) < ((enc (Tele.bytes ⟨1#8, 1#16, 2#16, 3#16, 0#16⟩)).length : Int) from by show (7 : Int) < 12; omega), if_pos (show rd (enc (Tele.bytes ⟨1#8, 1#16, 2#16, 3#16, 0#16⟩)) 7 = 3 from rfl)]
  rw [check_f _ _ _ _ _ n (by omega) (by omega) (by omega) (by omega) (by omega), Option.bind_some, if_pos (by rfl), check_f _ _ _ _ _ n (by omega) (by omega) (by omega) (by omega) (by omega)]
  rfl
theorem tl_of {k d s a b : Int} (hk : (Lit.int .u8 k).wf = true) (hd : (Lit.int .u16 d).wf = true) (hs : (Lit.int .u16 s).wf = true) (ha : (Lit.int .u16 a).wf = true) (hb : (Lit.int .u16 b).wf = true) :
    ∃ t : Tl, k = TB t.k ∧ d = T t.d ∧ s = T t.s ∧ a = T t.a ∧ b = T t.b := by
  have b0 := bounds_u8 hk
  have b1 := bounds_u16 hd
  have b2 := bounds_u16 hs
  have b3 := bounds_u16 ha
  have b4 := bounds_u16 hb
  obtain ⟨k', rfl⟩ := TB_of b0.1 b0.2
  obtain ⟨d', rfl⟩ := T_of b1.1 b1.2
  obtain ⟨s', rfl⟩ := T_of b2.1 b2.2
  obtain ⟨a', rfl⟩ := T_of b3.1 b3.2
  obtain ⟨b', rfl⟩ := T_of b4.1 b4.2
  exact ⟨⟨k', d', s', a', b'⟩, rfl, rfl, rfl, rfl, rfl⟩
theorem tl_eq (t u : Tl) : (TB t.k == TB u.k && (T t.d == T u.d && (T t.s == T u.s && (T t.a == T u.a && (T t.b == T u.b))))) = decide (t = u) := by
  by_cases h : t = u
  · subst h
    simp
  · rw [decide_eq_false h, Bool.eq_false_iff]
    intro e
    simp only [Bool.and_eq_true, beq_iff_eq] at e
    obtain ⟨e0, e1, e2, e3, e4⟩ := e
    apply h
    have h0 := TB_inj e0
    have h1 := T_inj e1
    have h2 := T_inj e2
    have h3 := T_inj e3
    have h4 := T_inj e4
    cases t
    cases u
    simp only at h0 h1 h2 h3 h4
    subst h0 h1 h2 h3 h4
    rfl
/-! reading -/
theorem TB_u16 (b : Crc.B) : IntKind.u16.wrap (TB b) = TB b := by
  have := b.isLt
  rw [w16, TB_nat]; omega
theorem TB_u16_256 (b : Crc.B) : IntKind.u16.wrap (TB b * 256) = ((2 ^ 8 * b.toNat : Nat) : Int) := by
  have := b.isLt
  rw [w16, TB_nat]; omega
theorem wd_or (x y : Crc.B) : Go.bits .or .u16 (IntKind.u16.wrap ((IntKind.u16.wrap (TB x)) * 256)) (IntKind.u16.wrap (TB y)) = T (wd x y) := by
  have hx := x.isLt
  have hy := y.isLt
  rw [TB_u16, TB_u16_256, TB_u16, TB_nat, u16_or_nat _ _ (by omega) (by omega), ← Nat.two_pow_add_eq_or_of_lt hy, T_nat, Tele.wd_nat]
  omega
theorem wd_add (x y : Crc.B) : IntKind.u16.wrap ((IntKind.u16.wrap ((IntKind.u16.wrap (TB x)) * 256)) + (IntKind.u16.wrap (TB y))) = T (wd x y) := by
  have hx := x.isLt
  have hy := y.isLt
  rw [TB_u16, TB_u16_256, TB_u16, TB_nat, w16, T_nat, Tele.wd_nat]
  omega
theorem word_f (x y : Crc.B) (l : List Crc.B) : tele_word.f (enc (x :: y :: l)) = some (T (wd x y)) := by
  unfold tele_word.f
  rw [if_pos (by simp [enc]; omega), if_pos (by simp [enc]; omega), show rd (enc (x :: y :: l)) 0 = TB x from rfl, show rd (enc (x :: y :: l)) 1 = TB y from rfl, wd_or]
def tup (t : Tl) (e : Int) : Int × Int × Int × Int × Int × Int := (TB t.k, T t.d, T t.s, T t.a, T t.b, e)
theorem T_zero_iff (w : Crc.W) : T w = 0 ↔ w = 0#16 := by
  constructor
  · intro h
    exact T_inj (h.trans rfl)
  · rintro rfl
    rfl
theorem TB_iff (a b : Crc.B) : TB a = TB b ↔ a = b := ⟨TB_inj, fun h => by rw [h]⟩
theorem T_iff (a b : Crc.W) : T a = T b ↔ a = b := ⟨T_inj, fun h => by rw [h]⟩
theorem decode_f (l : List Crc.B) (n : Nat) (hn : 30 ≤ n) : tele_Decode.f n (enc l) = some (tup (told l) (err l)) := by
  unfold tele_Decode.f
  rw [enc_length]
  by_cases h : l.length = 12
  · obtain ⟨x0, x1, x2, x3, x4, x5, x6, x7, x8, x9, x10, x11, rfl⟩ := Tele.twelve h
    rw [if_pos (by simp), if_pos (by simp), show rd (enc [x0, x1, x2, x3, x4, x5, x6, x7, x8, x9, x10, x11]) 0 = TB x0 from rfl]
    by_cases h0 : x0 = 0xa5#8
    · rw [if_pos (by rw [h0]; rfl), crc_sum _ (by simp) n (by simp; omega), Option.bind_some, show Crc.sum 65535#16 [x0, x1, x2, x3, x4, x5, x6, x7, x8, x9, x10, x11] = Tele.sum [x0, x1, x2, x3, x4, x5, x6, x7, x8, x9, x10, x11] from rfl]
      by_cases hs : Tele.sum [x0, x1, x2, x3, x4, x5, x6, x7, x8, x9, x10, x11] = 0#16
      · rw [if_pos ((T_zero_iff _).2 hs), if_pos (by simp), if_pos (by simp), show (enc [x0, x1, x2, x3, x4, x5, x6, x7, x8, x9, x10, x11]).drop 2 = enc [x2, x3, x4, x5, x6, x7, x8, x9, x10, x11] from rfl, word_f, Option.bind_some,
          if_pos (by simp), show (enc [x0, x1, x2, x3, x4, x5, x6, x7, x8, x9, x10, x11]).drop 4 = enc [x4, x5, x6, x7, x8, x9, x10, x11] from rfl, word_f, Option.bind_some,
          if_pos (by simp), show (enc [x0, x1, x2, x3, x4, x5, x6, x7, x8, x9, x10, x11]).drop 6 = enc [x6, x7, x8, x9, x10, x11] from rfl, word_f, Option.bind_some,
          if_pos (by simp), show (enc [x0, x1, x2, x3, x4, x5, x6, x7, x8, x9, x10, x11]).drop 8 = enc [x8, x9, x10, x11] from rfl, word_f, Option.bind_some,
          show rd (enc [x0, x1, x2, x3, x4, x5, x6, x7, x8, x9, x10, x11]) 1 = TB x1 from rfl, check_f _ _ _ _ _ n (by omega) (TB_lt _).1 (T_lt _).1 (T_lt _).1 (T_lt _).1, Option.bind_some]
        have e : err [x0, x1, x2, x3, x4, x5, x6, x7, x8, x9, x10, x11] = chk (TB x1) (T (wd x2 x3)) (T (wd x4 x5)) (T (wd x6 x7)) (T (wd x8 x9)) := by
          unfold err
          rw [if_neg (by simp), if_neg (by simp [h0]), if_neg (by simp [hs])]
          rfl
        rw [← e]
        unfold told
        by_cases hc : err [x0, x1, x2, x3, x4, x5, x6, x7, x8, x9, x10, x11] = 0
        · rw [if_pos hc, if_pos hc, hc]
          rfl
        · rw [if_neg hc, if_neg hc]
          rfl
      · have e : err [x0, x1, x2, x3, x4, x5, x6, x7, x8, x9, x10, x11] = 22 := by
          unfold err
          rw [if_neg (by simp), if_neg (by simp [h0]), if_pos hs]
        rw [if_neg (fun c => hs ((T_zero_iff _).1 c))]
        unfold told
        rw [e, if_neg (by omega)]
        rfl
    · have e : err [x0, x1, x2, x3, x4, x5, x6, x7, x8, x9, x10, x11] = 21 := by
        unfold err
        rw [if_neg (by simp), if_pos (by simpa using h0)]
      rw [if_neg (fun c => h0 (TB_inj (c.trans rfl)))]
      unfold told
      rw [e, if_neg (by omega)]
      rfl
  · have e : err l = 20 := by
      unfold err
      rw [if_pos h]
    rw [if_neg (by omega)]
    unfold told
    rw [e, if_neg (by omega)]
    rfl
/-! streams -/
def s24 (t : Tl) : S24 := ⟨TB t.k, T t.d, T t.s, T t.a, T t.b⟩
theorem enc_take (l : List Crc.B) (n : Nat) : (enc l).take n = enc (l.take n) := by simp [enc, List.map_take]
theorem enc_drop (l : List Crc.B) (n : Nat) : (enc l).drop n = enc (l.drop n) := by simp [enc, List.map_drop]
theorem clone_f (l : List Crc.B) (h : l.length ≤ 100000) : slices_Clone_byte_byte.f (enc l) = some (enc l) := by
  unfold slices_Clone_byte_byte.f
  rw [if_pos (by rw [enc_length]; omega)]
theorem told_ok {l : List Crc.B} (h : err l = 0) : told l = tl l := by
  unfold told
  rw [if_pos h]
theorem split_loop (N : Nat) : ∀ (l : List Crc.B) (k s : Nat) (acc : List S24), l.length ≤ N → l.length + 31 < k → l.length ≤ 50000 → acc.length + l.length ≤ 100000 → s + l.length ≤ 100000 →
    tele_Split.l0 k (enc l) acc (s : Int) = some (acc ++ (Tele.split l).1.map s24, enc (Tele.split l).2.1, ((s + (Tele.split l).2.2 : Nat) : Int)) := by
  induction N with
  | zero =>
    intro l k s acc h1 hk hl ha hs
    obtain ⟨k, rfl⟩ : ∃ m, k = m + 1 := ⟨k - 1, by omega⟩
    simp only [tele_Split.l0]
    rw [enc_length, if_neg (by omega), clone_f l (by omega), Option.bind_some, Tele.split_short (by omega)]
    simp
  | succ N ih =>
    intro l k s acc h1 hk hl ha hs
    obtain ⟨k, rfl⟩ : ∃ m, k = m + 1 := ⟨k - 1, by omega⟩
    simp only [tele_Split.l0]
    rw [enc_length]
    by_cases h : l.length < 12
    · rw [if_neg (by omega), clone_f l (by omega), Option.bind_some, Tele.split_short h]
      simp
    · rw [if_pos (by omega), if_pos (by omega), enc_take, decode_f _ k (by omega), Option.bind_some, show (tup (told (l.take 12)) (err (l.take 12))).2.2.2.2.2 = err (l.take 12) from rfl]
      by_cases e : err (l.take 12) = 0
      · rw [if_pos e, if_pos (by omega), enc_drop, ih (l.drop 12) k s _ (by rw [List.length_drop]; omega) (by rw [List.length_drop]; omega) (by rw [List.length_drop]; omega) (by rw [List.length_append, List.length_drop]; simp; omega) (by rw [List.length_drop]; omega), Tele.split_yes h e, told_ok e]
        simp only [List.map_cons, List.append_assoc]
        rfl
      · rw [if_neg e, if_pos (by omega), enc_drop, w64 (by omega) (by omega), show ((s : Int) + 1) = ((s + 1 : Nat) : Int) by omega, ih (l.drop 1) k (s + 1) _ (by rw [List.length_drop]; omega) (by rw [List.length_drop]; omega) (by rw [List.length_drop]; omega) (by rw [List.length_drop]; omega) (by rw [List.length_drop]; omega), Tele.split_no h e]
        simp only [Nat.add_assoc, Nat.add_comm 1]
theorem split_f (l : List Crc.B) (k : Nat) (hk : l.length + 31 < k) (hl : l.length ≤ 50000) : tele_Split.f k (enc l) = some ((Tele.split l).1.map s24, enc (Tele.split l).2.1, ((Tele.split l).2.2 : Int)) := by
  unfold tele_Split.f
  rw [show (0 : Int) = ((0 : Nat) : Int) from rfl, split_loop l.length l k 0 [] (Nat.le_refl _) hk hl (by simp; omega) (by omega)]
  simp
theorem same_loop (l : List S24) (hl : l.length ≤ 100000) (d : Nat) : ∀ (k i : Nat), i ≤ l.length → l.length - i = d → d < k → stillageref02_Same.l0 k l l (l.length : Int) (i : Int) = some true := by
  induction d with
  | zero =>
    intro k i h1 hd hk
    obtain ⟨k, rfl⟩ : ∃ m, k = m + 1 := ⟨k - 1, by omega⟩
    simp only [stillageref02_Same.l0]
    rw [if_neg (by omega)]
  | succ d ih =>
    intro k i h1 hd hk
    obtain ⟨k, rfl⟩ : ∃ m, k = m + 1 := ⟨k - 1, by omega⟩
    simp only [stillageref02_Same.l0]
    rw [if_pos (by omega), if_pos (by omega), if_pos (by omega), if_pos (by omega), if_neg (by simp), w64 (by omega) (by omega), show ((i : Int) + 1) = ((i + 1 : Nat) : Int) by omega]
    exact ih k (i + 1) (by omega) (by omega) (by omega)
theorem same_f (l : List S24) (hl : l.length ≤ 100000) (k : Nat) (hk : l.length < k) : stillageref02_Same.f k l l = some true := by
  unfold stillageref02_Same.f
  rw [if_pos rfl]
  exact same_loop l hl l.length k 0 (by omega) (by omega) hk

theorem ws2 {n : Int} (h0 : -9223372036854775808 ≤ n) (h1 : n ≤ 9223372036854775807) : wrap64 n = n := by unfold wrap64; omega
theorem wn2 (i : Nat) (h : i ≤ 1000000000) : wrap64 ((i : Int) + 1) = ((i + 1 : Nat) : Int) := by rw [ws2] <;> omega
def oks (ts : List Tl) : List Tl := ts.filter (fun t => decide (code t = 0))
def cat (ts : List Tl) : List Crc.B := (ts.map Tele.bytes).flatten
theorem cat_cons (t : Tl) (ts : List Tl) : cat (t :: ts) = Tele.bytes t ++ cat ts := rfl
theorem cat_append (a b : List Tl) : cat (a ++ b) = cat a ++ cat b := by simp [cat]
theorem cat_length (ts : List Tl) : (cat ts).length = 12 * ts.length := by
  induction ts with
  | nil => rfl
  | cons t ts ih => rw [cat_cons, List.length_append, Tele.bytes_length, ih, List.length_cons]; omega
theorem oks_ok {ts : List Tl} : ∀ t ∈ oks ts, code t = 0 := fun t ht => by simpa using (List.mem_filter.mp ht).2
theorem oks_length (ts : List Tl) : (oks ts).length ≤ ts.length := List.length_filter_le _ _
theorem split_whole (ws : List Tl) (hw : ∀ t ∈ ws, code t = 0) : Tele.split (cat ws) = (ws, [], 0) := by
  induction ws with
  | nil => exact Tele.split_short (by simp [cat])
  | cons t ws ih => rw [cat_cons, Tele.split_bytes t (hw t List.mem_cons_self), ih (fun u hu => hw u (List.mem_cons_of_mem _ hu))]
theorem split_pre (rest : List Tl) (hr : ∀ t ∈ rest, code t = 0) : ∀ r : List Crc.B, r = (cat rest).take r.length →
    ∃ a b left, rest = a ++ b ∧ Tele.split r = (a, left, 0) ∧ left.length < 12 ∧ left ++ (cat rest).drop r.length = cat b := by
  induction rest with
  | nil =>
    intro r h
    have : r = [] := by rw [h]; simp [cat]
    subst this
    exact ⟨[], [], [], rfl, Tele.split_short (by simp), by simp, rfl⟩
  | cons t rest ih =>
    intro r h
    by_cases h12 : r.length < 12
    · refine ⟨[], t :: rest, r, rfl, Tele.split_short h12, h12, ?_⟩
      have e := List.take_append_drop r.length (cat (t :: rest))
      rwa [← h] at e
    · have hb := Tele.bytes_length t
      have h2 : r = Tele.bytes t ++ (cat rest).take (r.length - 12) := by
        rw [cat_cons, List.take_append, List.take_of_length_le (by omega), hb] at h
        exact h
      generalize hr' : (cat rest).take (r.length - 12) = r' at h2
      have hl : r'.length = r.length - 12 := by
        have := congrArg List.length h2
        rw [List.length_append, hb] at this
        omega
      obtain ⟨a, b, left, h3, h4, h5, h6⟩ := ih (fun u hu => hr u (List.mem_cons_of_mem _ hu)) r' (by rw [hl]; exact hr'.symm)
      refine ⟨t :: a, b, left, by rw [h3]; rfl, ?_, h5, ?_⟩
      · rw [h2, Tele.split_bytes t (hr t List.mem_cons_self), h4]
      · rw [cat_cons, List.drop_append, List.drop_of_length_le (by omega), hb, List.nil_append, ← hl]
        exact h6
theorem encode_e (t : Tl) : EvP (fun k => tele_Encode.f k (TB t.k) (T t.d) (T t.s) (T t.a) (T t.b)) (fun r => r = (if code t = 0 then enc (Tele.bytes t) else [], code t)) :=
  EvP.of ⟨20, fun k hk => encode_f t k hk⟩ rfl
theorem awake_e : EvP (fun k => stillagelaw02_awake.f k) (fun r => r = true) := EvP.of ⟨20, fun k hk => awake_f k hk⟩ rfl
theorem split_e (l : List Crc.B) (hl : l.length ≤ 50000) : EvP (fun k => tele_Split.f k (enc l)) (fun r => r = ((Tele.split l).1.map s24, enc (Tele.split l).2.1, ((Tele.split l).2.2 : Int))) :=
  EvP.of ⟨l.length + 32, fun k hk => split_f l k (by omega) hl⟩ rfl
theorem same_e (l : List S24) (hl : l.length ≤ 100000) : EvP (fun k => stillageref02_Same.f k l l) (fun r => r = true) :=
  EvP.of ⟨l.length + 1, fun k hk => same_f l hl k (by omega)⟩ rfl
theorem pieces_go (cuts : List Int) (W : List S24) (p q : List Crc.B) (dn rest : List Tl) (hr : ∀ t ∈ rest, code t = 0) (hrl : dn.length + rest.length ≤ 50) (hpq : p ++ q = cat rest) (x15 : Int) (kk : Nat) (hk : kk ≤ q.length) (P : Bool → Prop)
    (next : ∀ (a b : List Tl) (left : List Crc.B), rest = a ++ b → left ++ q.drop kk = cat b → left.length < 12 → EvP (fun k => stillagelaw02_TelePieces.l1 k cuts (enc (q.drop kk)) W (enc left) ((dn ++ a).map s24) (wrap64 (x15 + 1))) P) :
    EvP (fun k => (some (([] : List Int) : List Int)).bind fun y234 => (if y234.length + (enc p).length < 140737488355328 then ((some (y234 ++ (enc p) : List Int)).bind fun y237 => (if 0 ≤ (kk : Int) then (if (kk : Int) ≤ ((enc q).length : Int) then ((some ((enc q).take ((kk : Int) : Int).toNat : List Int)).bind fun y240 => (if y237.length + y240.length < 140737488355328 then ((tele_Split.f k (y237 ++ y240)).bind fun bt247 => (if bt247.2.2 = 0 then (if (dn.map s24).length + bt247.1.length < 14073748835532 then (stillagelaw02_TelePieces.l1 k cuts ((enc q).drop ((kk : Int) : Int).toNat) W bt247.2.1 ((dn.map s24) ++ bt247.1) (wrap64 (x15 + 1))) else (none)) else (some false))) else (none))) else (none)) else (none))) else (none))) P := by
  have hcl := cat_length rest
  have hpl : p.length + q.length = 12 * rest.length := by rw [← hcl, ← hpq, List.length_append]
  refine EvP.obind rfl (EvP.yes (by rw [enc_length, List.length_nil]; omega) (EvP.obind rfl (EvP.yes (by omega) (EvP.yes (by rw [enc_length]; omega) (EvP.obind rfl ?_)))))
  rw [Int.toNat_natCast, List.nil_append, enc_take, enc_append, enc_length, enc_length]
  have hlt : (q.take kk).length = kk := by rw [List.length_take]; omega
  obtain ⟨a, b, left, h3, h4, h5, h6⟩ := split_pre rest hr (p ++ q.take kk) (by
    rw [← hpq, List.length_append, hlt, List.take_append, List.take_of_length_le (l := p) (i := p.length + kk) (by omega), show p.length + kk - p.length = kk by omega])
  rw [List.length_append, hlt, ← hpq, List.drop_append, List.drop_of_length_le (l := p) (i := p.length + kk) (by omega), show p.length + kk - p.length = kk by omega, List.nil_append] at h6
  have hal : a.length ≤ rest.length := by rw [h3, List.length_append]; omega
  refine EvP.yes (by omega) (EvP.bind (split_e _ (by rw [List.length_append, hlt]; omega)) (fun r hr => ?_))
  rw [h4] at hr
  subst hr
  refine EvP.yes rfl (EvP.yes (by simp only [List.length_map]; omega) ?_)
  rw [enc_drop, ← List.map_append]
  exact next a b left h3 h6 h5
theorem pieces_end (cuts : List Int) (ws : List Tl) (hwl : ws.length ≤ 50) (p : List Crc.B) (dn rest : List Tl) (hd : dn ++ rest = ws) (hp : p = cat rest) (h12 : p.length < 12) (x15 : Int) :
    EvP (fun k => stillagelaw02_TelePieces.l1 k cuts (enc []) (ws.map s24) (enc p) (dn.map s24) x15) (fun r => r = true) := by
  have hcl := cat_length rest
  have hr : rest = [] := List.eq_nil_of_length_eq_zero (by rw [← hp] at hcl; omega)
  subst hr
  have hp2 : p = [] := hp
  subst hp2
  rw [List.append_nil] at hd
  subst hd
  refine EvP.succ (fun k => by rw [stillagelaw02_TelePieces.l1]) (EvP.no (by rw [enc_length]; simp) (EvP.bind (same_e _ (by rw [List.length_map]; omega)) (fun r hr => EvP.yes hr (EvP.ret (by rw [enc_length]; rfl)))))
theorem pieces_l1 (cuts : List Int) (hc : cuts.length ≤ 50) (ws : List Tl) (hwl : ws.length ≤ 50) (hok : ∀ t ∈ ws, code t = 0) (d : Nat) : ∀ (i : Nat) (p q : List Crc.B) (dn rest : List Tl), (q ≠ [] → i ≤ cuts.length ∧ cuts.length + 1 ≤ i + d) → dn ++ rest = ws → p ++ q = cat rest → p.length < 12 →
    EvP (fun k => stillagelaw02_TelePieces.l1 k cuts (enc q) (ws.map s24) (enc p) (dn.map s24) (i : Int)) (fun r => r = true) := by
  induction d with
  | zero =>
    intro i p q dn rest hq hd hpq h12
    by_cases hq0 : q = []
    · subst hq0
      exact pieces_end cuts ws hwl p dn rest hd (by rwa [List.append_nil] at hpq) h12 _
    · have := hq hq0
      omega
  | succ d ih =>
    intro i p q dn rest hq hd hpq h12
    by_cases hq0 : q = []
    · subst hq0
      exact pieces_end cuts ws hwl p dn rest hd (by rwa [List.append_nil] at hpq) h12 _
    · have hi := hq hq0
      have hlen : dn.length + rest.length ≤ 50 := by rw [← List.length_append, hd]; exact hwl
      have hql : 0 < q.length := List.length_pos_iff.mpr hq0
      have hcl := cat_length rest
      have hpl : p.length + q.length = 12 * rest.length := by rw [← hcl, ← hpq, List.length_append]
      have hr : ∀ t ∈ rest, code t = 0 := fun t ht => hok t (by rw [← hd]; exact List.mem_append_right _ ht)
      refine EvP.succ (fun k => by rw [stillagelaw02_TelePieces.l1]) (EvP.yes (by rw [enc_length]; omega) (EvP.split (fun c => ?_) (fun c => ?_)))
      · have wu : ∀ n : Int, IntKind.u64.wrap n = n % 18446744073709551616 := fun n => by simp [IntKind.wrap, IntKind.bits, IntKind.signed]
        have e1 : wrap64 (((enc q).length : Int) + 1) = (q.length : Int) + 1 := by rw [enc_length, ws2] <;> omega
        have e2 : IntKind.u64.wrap ((q.length : Int) + 1) = (q.length : Int) + 1 := by rw [wu, Int.emod_eq_of_lt] <;> omega
        obtain ⟨kk, hkk, hkl⟩ : ∃ kk : Nat, wrap64 (Int.tmod (IntKind.u64.wrap (rd cuts (i : Int))) ((q.length : Int) + 1)) = (kk : Int) ∧ kk ≤ q.length := by
          rw [wu]
          have h3 : 0 ≤ rd cuts (i : Int) % 18446744073709551616 := Int.emod_nonneg _ (by omega)
          generalize rd cuts (i : Int) % 18446744073709551616 = z at h3
          rw [Int.tmod_eq_emod_of_nonneg h3]
          have h4 : 0 ≤ z % ((q.length : Int) + 1) := Int.emod_nonneg _ (by omega)
          have h5 : z % ((q.length : Int) + 1) < (q.length : Int) + 1 := Int.emod_lt_of_pos _ (by omega)
          generalize z % ((q.length : Int) + 1) = y at h4 h5
          rw [ws2 (by omega) (by omega)]
          exact ⟨y.toNat, by omega, by omega⟩
        rw [e1, e2, hkk]
        refine EvP.yes (by omega) (EvP.no (by omega) ?_)
        refine pieces_go cuts _ p q dn rest hr hlen hpq _ kk hkl _ (fun a b left h1 h2 h3 => ?_)
        rw [wn2 i (by omega)]
        exact ih (i + 1) left _ (dn ++ a) b (fun _ => ⟨by omega, by omega⟩) (by rw [List.append_assoc, ← h1]; exact hd) h2 h3
      · have := pieces_go cuts (ws.map s24) p q dn rest hr hlen hpq (i : Int) q.length (Nat.le_refl _) (fun r => r = true) (fun a b left h1 h2 h3 => by
          rw [wn2 i (by omega)]
          exact ih (i + 1) left _ (dn ++ a) b (fun h => absurd (List.drop_length) h) (by rw [List.append_assoc, ← h1]; exact hd) h2 h3)
        simpa only [enc_length] using this
theorem oks_snoc (ts : List Tl) (i : Nat) (h : i < ts.length) : oks (ts.take (i + 1)) = oks (ts.take i) ++ (if code ts[i] = 0 then [ts[i]] else []) := by
  unfold oks
  rw [List.take_succ_eq_append_getElem h, List.filter_append]
  by_cases c : code ts[i] = 0 <;> simp [c]
theorem pieces_l0 (cuts : List Int) (hc : cuts.length ≤ 50) (ts : List Tl) (htl : ts.length ≤ 50) (d : Nat) : ∀ i : Nat, i + d = ts.length →
    EvP (fun k => stillagelaw02_TelePieces.l0 k cuts (enc (cat (oks (ts.take i)))) ((oks (ts.take i)).map s24) (ts.map s24) (ts.length : Int) (i : Int)) (fun r => r = true) := by
  induction d with
  | zero =>
    intro i hi
    rw [List.take_of_length_le (by omega)]
    have hol := oks_length ts
    have hcl := cat_length (oks ts)
    refine EvP.succ (fun k => by rw [stillagelaw02_TelePieces.l0]) (EvP.no (by omega) (EvP.bind (split_e _ (by omega)) (fun r hr => ?_)))
    rw [split_whole _ oks_ok] at hr
    subst hr
    dsimp only
    refine EvP.bind (same_e _ (by rw [List.length_map]; omega)) (fun b hb => EvP.yes hb (EvP.yes rfl ?_))
    refine EvP.succ (fun k => by rw [stillagelaw02_TelePieces.j2]) (EvP.no (by simp) ?_)
    exact pieces_l1 cuts hc (oks ts) (by omega) oks_ok (cuts.length + 1) 0 [] _ [] (oks ts) (fun _ => ⟨by omega, by omega⟩) rfl rfl (by simp)
  | succ d ih =>
    intro i hi
    have hi2 : i < ts.length := by omega
    have hrd : rd_T24 (ts.map s24) (i : Int) = ⟨TB ts[i].k, T ts[i].d, T ts[i].s, T ts[i].a, T ts[i].b⟩ := by simp [rd_T24, List.getElem?_eq_getElem hi2, s24]
    have hol := oks_length (ts.take i)
    rw [List.length_take] at hol
    have hcl := cat_length (oks (ts.take i))
    have hi3 := ih (i + 1) (by omega)
    rw [oks_snoc ts i hi2, cat_append, List.map_append, ← enc_append] at hi3
    refine EvP.succ (fun k => by rw [stillagelaw02_TelePieces.l0]) (EvP.yes (by omega) (EvP.yes (by omega) (EvP.yes (by rw [List.length_map]; omega) ?_)))
    simp only [hrd]
    refine EvP.bind (encode_e ts[i]) (fun r hr => ?_)
    subst hr
    rw [wn2 i (by omega)]
    by_cases c : code ts[i] = 0
    · rw [if_pos c] at hi3 ⊢
      refine EvP.yes c (EvP.yes (by rw [enc_length, enc_length, Tele.bytes_length]; omega) (EvP.yes (by rw [List.length_map]; omega) ?_))
      have e : cat [ts[i]] = Tele.bytes ts[i] := by rw [cat_cons]; exact List.append_nil _
      rw [e] at hi3
      exact hi3
    · rw [if_neg c] at hi3
      refine EvP.no c ?_
      have e : enc (cat []) = [] := rfl
      rw [e, List.append_nil, List.map_nil, List.append_nil] at hi3
      exact hi3
theorem tls_of : ∀ l : List S24, (∀ x ∈ l, (Lit.int .u8 x.f0).wf = true ∧ (Lit.int .u16 x.f1).wf = true ∧ (Lit.int .u16 x.f2).wf = true ∧ (Lit.int .u16 x.f3).wf = true ∧ (Lit.int .u16 x.f4).wf = true) → ∃ ts : List Tl, l = ts.map s24
  | [], _ => ⟨[], rfl⟩
  | ⟨f0, f1, f2, f3, f4⟩ :: l, h => by
    obtain ⟨ts, rfl⟩ := tls_of l (fun x hx => h x (List.mem_cons_of_mem _ hx))
    obtain ⟨h0, h1, h2, h3, h4⟩ := h _ List.mem_cons_self
    obtain ⟨t, e0, e1, e2, e3, e4⟩ := tl_of h0 h1 h2 h3 h4
    simp only at e0 e1 e2 e3 e4
    exact ⟨t :: ts, by rw [e0, e1, e2, e3, e4]; rfl⟩
theorem TelePieces (l0 : List S24) (l1 : List Int) (hm0 : l0.length ≤ maxLen) (hw0 : ∀ x ∈ l0, (Lit.int .u8 x.f0).wf = true ∧ (Lit.int .u16 x.f1).wf = true ∧ (Lit.int .u16 x.f2).wf = true ∧ (Lit.int .u16 x.f3).wf = true ∧ (Lit.int .u16 x.f4).wf = true)
    (hm1 : l1.length ≤ maxLen) (hw1 : ∀ x ∈ l1, (Lit.int .i64 x).wf = true) (y1 : l1.length * 8 ≤ 140737488351232) : ∃ k, stillagelaw02_TelePieces.f k l0 l1 = some true := by
  suffices h : EvP (fun k => stillagelaw02_TelePieces.f k l0 l1) (fun r => r = true) by
    obtain ⟨k, r, h1, h2⟩ := h.get
    exact ⟨k, by rw [h1, h2]⟩
  obtain ⟨ts, rfl⟩ := tls_of l0 hw0
  have yes : EvP (fun k => stillagelaw02_TelePieces.j0 k (ts.map s24) l1 true) (fun r => r = true) := EvP.succ (fun k => by rw [stillagelaw02_TelePieces.j0]) (EvP.yes rfl (EvP.bind awake_e (fun a ha => EvP.ret ha)))
  refine EvP.eq (fun k => by rw [stillagelaw02_TelePieces.f]) (EvP.bind awake_e (fun a ha => EvP.yes ha (EvP.split (fun _ => yes) (fun h50 => ?_))))
  rw [List.length_map] at h50
  by_cases hc : (l1.length : Int) > 50
  · rw [decide_eq_true hc]
    exact yes
  · rw [decide_eq_false hc]
    refine EvP.succ (fun k => by rw [stillagelaw02_TelePieces.j0]) (EvP.no (by simp) ?_)
    rw [List.length_map]
    exact pieces_l0 l1 (by omega) ts (by omega) ts.length 0 (by omega)

end Go.Proofs.Ytabkmjimdpdfaaa.Pure
