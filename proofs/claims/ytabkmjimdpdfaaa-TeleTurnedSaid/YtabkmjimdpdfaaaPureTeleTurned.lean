/- stillagelaw02.TeleTurned is true at every telegram and every three numbers: no condition. -/
import Derived.OpenShut
import Derived.Laws.BitsAllLaws
import Derived.Test.YtabkmjimdpdfaaaTele
import Derived.Test.YtabkmjimdpdfaaaPTeleTurnedx
set_option linter.unusedVariables false
set_option linter.unusedSimpArgs false
set_option maxRecDepth 10000
namespace Go.Proofs.Ytabkmjimdpdfaaa.Pure
open Go.RowKit Go.Proofs.Ytabkmjimdpdfaaa.PTeleTurned Go.Proofs.YtabkmjimdpdfaaaW.PrintWords Go.Proofs.YtabkmjimdpdfaaaW.PrintLast
open Tele (hiB loB wd Tl ten code chk tl err told)
theorem w16 (n : Int) : IntKind.u16.wrap n = n % 65536 := by simp [IntKind.wrap, IntKind.bits, IntKind.signed]
theorem wu64 (n : Int) : IntKind.u64.wrap n = n % 18446744073709551616 := by simp [IntKind.wrap, IntKind.bits, IntKind.signed]
theorem w64 {n : Int} (h1 : -9223372036854775808 ≤ n) (h2 : n ≤ 9223372036854775807) : wrap64 n = n := by unfold wrap64; omega
/-! the numbers as bits -/
def T (c : Crc.W) : Int := (c.toNat : Int)
def TB (b : Crc.B) : Int := (b.toNat : Int)
theorem T_lt (c : Crc.W) : 0 ≤ T c ∧ T c < 65536 := by unfold T; have := c.isLt; omega
theorem TB_lt (b : Crc.B) : 0 ≤ TB b ∧ TB b < 256 := by unfold TB; have := b.isLt; omega
theorem T_inj {a b : Crc.W} (h : T a = T b) : a = b := by unfold T at h; exact BitVec.eq_of_toNat_eq (by omega)
theorem TB_inj {a b : Crc.B} (h : TB a = TB b) : a = b := by unfold TB at h; exact BitVec.eq_of_toNat_eq (by omega)
theorem T_of {a : Int} (h0 : 0 ≤ a) (h1 : a ≤ 65535) : ∃ c, a = T c := ⟨BitVec.ofNat 16 a.toNat, by unfold T; rw [BitVec.toNat_ofNat, Nat.mod_eq_of_lt (by omega)]; omega⟩
theorem TB_of {a : Int} (h0 : 0 ≤ a) (h1 : a ≤ 255) : ∃ c, a = TB c := ⟨BitVec.ofNat 8 a.toNat, by unfold TB; rw [BitVec.toNat_ofNat, Nat.mod_eq_of_lt (by omega)]; omega⟩
theorem T_xor (a b : Crc.W) : Go.bits .xor .u16 (T a) (T b) = T (a ^^^ b) := by
  unfold T; rw [u16_xor_nat _ _ a.isLt b.isLt, BitVec.toNat_xor]
theorem TB_xor (a b : Crc.B) : Go.bits .xor .u8 (TB a) (TB b) = TB (a ^^^ b) := by
  unfold TB; rw [u8_xor_nat _ _ a.isLt b.isLt, BitVec.toNat_xor]
theorem T_shl (a : Crc.W) (k : Nat) (m : Int) (hm : m = ((2 ^ k : Nat) : Int)) : IntKind.u16.wrap (T a * m) = T (a <<< k) := by
  unfold T; rw [w16, BitVec.toNat_shiftLeft, Nat.shiftLeft_eq, hm, ← Int.natCast_mul]; rfl
theorem T_shr (a : Crc.W) (k : Nat) (m : Int) (hm : m = ((2 ^ k : Nat) : Int)) : T a / m = T (a >>> k) := by
  unfold T; rw [BitVec.toNat_ushiftRight, Nat.shiftRight_eq_div_pow, hm]; rfl
theorem T_conv (b : Crc.B) : IntKind.u16.wrap (TB b) = T (b.zeroExtend 16) := by
  unfold T TB; rw [w16]; show _ = ((BitVec.setWidth 16 b).toNat : Int); rw [BitVec.toNat_setWidth]; rfl
theorem T_hi (b : Crc.B) : IntKind.u16.wrap (T (b.zeroExtend 16) * 256) = T (Crc.hi b) := T_shl _ 8 256 rfl
theorem T_poly : (4129 : Int) = T 0x1021#16 := rfl
theorem T_X (c : Crc.W) : (if T c ≥ 32768 then Go.bits .xor .u16 (IntKind.u16.wrap (T c * 2)) 4129 else IntKind.u16.wrap (T c * 2)) = T (Crc.X c) := by
  rw [T_shl c 1 2 rfl, T_poly, T_xor]
  unfold Crc.X
  have h := BitVec.msb_eq_decide c
  have h2 : T c = (c.toNat : Int) := rfl
  cases hm : c.msb with
  | true =>
    rw [hm] at h
    rw [if_pos (by have := h.symm; simp at this; omega), if_pos rfl]
  | false =>
    rw [hm] at h
    rw [if_neg (by have := h.symm; simp at this; omega), if_neg (by simp), Crc.x0]
/-! lists of bytes -/
def enc (l : List Crc.B) : List Int := l.map TB
theorem enc_length (l : List Crc.B) : (enc l).length = l.length := by simp [enc]
theorem enc_append (l m : List Crc.B) : enc l ++ enc m = enc (l ++ m) := by simp [enc]
theorem enc_inj {l m : List Crc.B} (h : enc l = enc m) : l = m := by
  induction l generalizing m with
  | nil => cases m with
    | nil => rfl
    | cons _ _ => simp [enc] at h
  | cons a l ih => cases m with
    | nil => simp [enc] at h
    | cons b m =>
      simp only [enc, List.map_cons, List.cons.injEq] at h
      rw [TB_inj h.1, ih (by simpa [enc] using h.2)]
theorem enc_of (l : List Int) (h : ∀ x ∈ l, (Lit.int .u8 x).wf = true) : ∃ m, l = enc m := by
  induction l with
  | nil => exact ⟨[], rfl⟩
  | cons a l ih =>
    obtain ⟨m, rfl⟩ := ih (fun x hx => h x (List.mem_cons_of_mem _ hx))
    have b := bounds_u8 (h a List.mem_cons_self)
    obtain ⟨c, rfl⟩ := TB_of b.1 b.2
    exact ⟨c :: m, rfl⟩
theorem rd_enc (l : List Crc.B) (i : Nat) (h : i < l.length) : rd (enc l) (i : Int) = TB l[i] := by
  unfold rd enc
  rw [List.getD_eq_getElem?_getD]
  simp [h]
theorem drop_cons (l : List Crc.B) (i : Nat) (h : i < l.length) : l.drop i = l[i] :: l.drop (i + 1) := List.drop_eq_getElem_cons h
/-! the program's functions -/
theorem crc_step (c : Crc.W) (b : Crc.B) : crc_Step.f (T c) (TB b) = some (T (Crc.step c b)) := by
  unfold crc_Step.f
  rw [T_conv, T_shr c 8 256 rfl, T_xor, T_shr _ 4 16 rfl, T_xor, T_shl _ 12 4096 rfl, T_shl _ 5 32 rfl, T_shl c 8 256 rfl, T_xor, T_xor, T_xor, ← Crc.stepI_eq]
  rfl
theorem crc_sum_loop (l : List Crc.B) (hn : l.length ≤ 140737488351232) (d : Nat) : ∀ (k i : Nat) (c : Crc.W), i ≤ l.length → l.length - i = d → d < k → crc_Sum.l0 k (T c) (enc l) (l.length : Int) (i : Int) = some (T (Crc.sum c (l.drop i))) := by
  induction d with
  | zero =>
    intro k i c h1 hd hk
    obtain ⟨k, rfl⟩ : ∃ m, k = m + 1 := ⟨k - 1, by omega⟩
    simp only [crc_Sum.l0]
    rw [if_neg (by omega), List.drop_eq_nil_of_le (by omega)]
    rfl
  | succ d ih =>
    intro k i c h1 hd hk
    obtain ⟨k, rfl⟩ : ∃ m, k = m + 1 := ⟨k - 1, by omega⟩
    simp only [crc_Sum.l0]
    rw [if_pos (by omega), if_pos (by omega), enc_length, if_pos (by omega), rd_enc l i (by omega), crc_step]
    simp only [Option.bind_some]
    rw [w64 (by omega) (by omega), show ((i : Int) + 1) = ((i + 1 : Nat) : Int) by omega, ih k (i + 1) _ (by omega) (by omega) (by omega), drop_cons l i (by omega)]
    rfl
theorem crc_sum (l : List Crc.B) (hn : l.length ≤ 140737488351232) (k : Nat) (hk : l.length < k) : crc_Sum.f k (enc l) = some (T (Crc.sum 0xffff#16 l)) := by
  unfold crc_Sum.f
  rw [enc_length]
  exact crc_sum_loop l hn l.length k 0 0xffff#16 (by omega) (by omega) (by omega)
/-! what the program's small functions answer -/
theorem T_nat (w : Crc.W) : T w = (w.toNat : Int) := rfl
theorem TB_nat (b : Crc.B) : TB b = (b.toNat : Int) := rfl
theorem T_hiB (w : Crc.W) : T w / 256 % 256 = TB (hiB w) := by
  have := w.isLt
  rw [TB_nat, Tele.hiB_nat, T_nat]; omega
theorem T_loB (w : Crc.W) : T w % 256 = TB (loB w) := by
  rw [TB_nat, Tele.loB_nat, T_nat]; omega
theorem str_eq {l m : List Crc.B} : (strOfNums (enc l)).toList = (strOfNums (enc m)).toList ↔ l = m := by
  constructor
  · intro h
    have e : ∀ l : List Crc.B, (strOfNums (enc l)).toList.map (fun c => BitVec.ofNat 8 c.toNat) = l := by
      intro l
      have : (strOfNums (enc l)).toList = l.map (fun b => UInt8.ofNat (TB b).toNat) := by
        unfold strOfNums
        rw [ByteArray.toList_mk]
        simp [enc]
      rw [this, List.map_map]
      conv => rhs; rw [← List.map_id l]
      apply List.map_congr_left
      intro b _
      have := b.isLt
      apply BitVec.eq_of_toNat_eq
      simp [TB]
    rw [← e l, h, e m]
  · rintro rfl
    rfl
theorem within_f (a lo hi : Int) : tele_within.f a lo hi = some (decide (lo ≤ a) && decide (a ≤ hi)) := by
  unfold tele_within.f
  by_cases h : lo ≤ a <;> simp [h]
theorem check_f (k d s a b : Int) (n : Nat) (hn : 2 ≤ n) (h0 : 0 ≤ k) (h1 : 0 ≤ d) (h2 : 0 ≤ a) (h3 : 0 ≤ b) : tele_Check.f n k d s a b = some (chk k d s a b) := by
  obtain ⟨n, rfl⟩ : ∃ m, n = m + 2 := ⟨n - 2, by omega⟩
  have hk : k < 1 ∨ k = 1 ∨ k = 2 ∨ k = 3 ∨ k = 4 ∨ k = 5 ∨ k = 6 ∨ k = 7 ∨ 7 < k := by omega
  unfold tele_Check.f chk
  simp only [tele_Check.j0, tele_Check.j1, within_f, Option.bind_some]
  have both : ∀ (p q : Prop) [Decidable p] [Decidable q], ((decide p && decide q) = true) ↔ (p ∧ q) := by intro p q _ _; simp
  simp only [both]
  rcases hk with h | rfl | rfl | rfl | rfl | rfl | rfl | rfl | h
  · have e1 : ¬ k = 1 := by omega
    have e2 : ¬ k = 2 := by omega
    have e3 : ¬ k = 3 := by omega
    have e4 : ¬ k = 4 := by omega
    have e5 : ¬ k = 5 := by omega
    have e6 : ¬ k = 6 := by omega
    have e7 : ¬ k = 7 := by omega
    simp [e1, e2, e3, e4, e5, e6, e7, h]
  · simp; (repeat' split) <;> first | rfl | omega
  · simp; (repeat' split) <;> first | rfl | omega
  · simp; (repeat' split) <;> first | rfl | omega
  · simp; (repeat' split) <;> first | rfl | omega
  · simp; (repeat' split) <;> first | rfl | omega
  · simp; (repeat' split) <;> first | rfl | omega
  · simp; (repeat' split) <;> first | rfl | omega
  · have e1 : ¬ k = 1 := by omega
    have e2 : ¬ k = 2 := by omega
    have e3 : ¬ k = 3 := by omega
    have e4 : ¬ k = 4 := by omega
    have e5 : ¬ k = 5 := by omega
    have e6 : ¬ k = 6 := by omega
    have e7 : ¬ k = 7 := by omega
    simp [e1, e2, e3, e4, e5, e6, e7, h]
theorem pair_f (w : Crc.W) : tele_pair.f (T w) = some (enc [hiB w, loB w]) := by
  unfold tele_pair.f
  rw [T_hiB, T_loB]
  rfl
def lens (ls : List (List Int)) : Nat := (ls.map List.length).sum
theorem lens_drop (ls : List (List Int)) (i : Nat) (h : i < ls.length) : lens (ls.drop i) = ls[i].length + lens (ls.drop (i + 1)) := by
  unfold lens
  rw [List.drop_eq_getElem_cons h, List.map_cons, List.sum_cons]
theorem rd_L (ls : List (List Int)) (i : Nat) (h : i < ls.length) : rd_L1 ls (i : Int) = ls[i] := by
  simp [rd_L1, List.getElem?_eq_getElem h]
theorem concat_l1 (ls : List (List Int)) (hl : ls.length ≤ 100) (d : Nat) : ∀ (k i : Nat) (acc : List Int), i ≤ ls.length → ls.length - i = d → d < k → acc.length + lens (ls.drop i) ≤ 10000 →
    slices_Concat_byte_byte.l1 k acc ls (ls.length : Int) (i : Int) = some (acc ++ (ls.drop i).flatten) := by
  induction d with
  | zero =>
    intro k i acc h1 hd hk hs
    obtain ⟨k, rfl⟩ : ∃ m, k = m + 1 := ⟨k - 1, by omega⟩
    simp only [slices_Concat_byte_byte.l1]
    rw [if_neg (by omega), List.drop_eq_nil_of_le (by omega)]
    simp
  | succ d ih =>
    intro k i acc h1 hd hk hs
    obtain ⟨k, rfl⟩ : ∃ m, k = m + 1 := ⟨k - 1, by omega⟩
    rw [lens_drop ls i (by omega)] at hs
    simp only [slices_Concat_byte_byte.l1]
    rw [if_pos (by omega), if_pos (by omega), if_pos (by omega), rd_L ls i (by omega), if_pos (by omega), w64 (by omega) (by omega), show ((i : Int) + 1) = ((i + 1 : Nat) : Int) by omega, ih k (i + 1) _ (by omega) (by omega) (by omega) (by rw [List.length_append]; omega)]
    rw [List.drop_eq_getElem_cons (show i < ls.length by omega), List.flatten_cons, List.append_assoc]
theorem concat_l0 (ls : List (List Int)) (hl : ls.length ≤ 100) (d : Nat) : ∀ (k i s : Nat), i ≤ ls.length → ls.length - i = d → d + ls.length + 1 < k → s + lens (ls.drop i) ≤ 10000 → lens ls ≤ 10000 →
    slices_Concat_byte_byte.l0 k ls (s : Int) ls (ls.length : Int) (i : Int) = some ls.flatten := by
  induction d with
  | zero =>
    intro k i s h1 hd hk hs ht
    obtain ⟨k, rfl⟩ : ∃ m, k = m + 1 := ⟨k - 1, by omega⟩
    simp only [slices_Concat_byte_byte.l0]
    rw [if_neg (by omega)]
    unfold slices_Grow_byte_byte.f
    rw [if_pos ⟨by omega, by omega⟩, Option.bind_some, show (0 : Int) = ((0 : Nat) : Int) from rfl, concat_l1 ls hl ls.length k 0 [] (by omega) (by omega) (by omega) (by simpa using ht)]
    simp
  | succ d ih =>
    intro k i s h1 hd hk hs ht
    obtain ⟨k, rfl⟩ : ∃ m, k = m + 1 := ⟨k - 1, by omega⟩
    rw [lens_drop ls i (by omega)] at hs
    simp only [slices_Concat_byte_byte.l0]
    rw [if_pos (by omega), if_pos (by omega), if_pos (by omega), rd_L ls i (by omega), w64 (by omega) (by omega), if_neg (by omega), w64 (n := (i : Int) + 1) (by omega) (by omega), show ((i : Int) + 1) = ((i + 1 : Nat) : Int) by omega, show ((s : Int) + (ls[i].length : Int)) = ((s + ls[i].length : Nat) : Int) by omega]
    exact ih k (i + 1) _ (by omega) (by omega) (by omega) (by omega) ht
theorem concat_f (ls : List (List Int)) (hl : ls.length ≤ 100) (ht : lens ls ≤ 10000) (k : Nat) (hk : 2 * ls.length + 1 < k) : slices_Concat_byte_byte.f k ls = some ls.flatten := by
  unfold slices_Concat_byte_byte.f
  exact concat_l0 ls hl ls.length k 0 0 (by omega) (by omega) (by omega) (by simpa using ht) ht
theorem encode_f (t : Tl) (n : Nat) (hn : 20 ≤ n) : tele_Encode.f n (TB t.k) (T t.d) (T t.s) (T t.a) (T t.b) = some (if code t = 0 then enc (Tele.bytes t) else [], code t) := by
  unfold tele_Encode.f
  rw [check_f _ _ _ _ _ n (by omega) (TB_lt _).1 (T_lt _).1 (T_lt _).1 (T_lt _).1, Option.bind_some, show chk (TB t.k) (T t.d) (T t.s) (T t.a) (T t.b) = code t from rfl]
  by_cases h : code t = 0
  · rw [if_pos h, if_pos h, pair_f, Option.bind_some, pair_f, Option.bind_some, pair_f, Option.bind_some, pair_f, Option.bind_some, concat_f _ (by simp) (by simp [lens, enc]) n (by simp; omega), Option.bind_some]
    have e : [[165, TB t.k], enc [hiB t.d, loB t.d], enc [hiB t.s, loB t.s], enc [hiB t.a, loB t.a], enc [hiB t.b, loB t.b]].flatten = enc (ten t) := rfl
    rw [e, crc_sum (ten t) (by simp [ten]) n (by simp [ten]; omega), Option.bind_some, show Crc.sum 65535#16 (ten t) = Tele.sum (ten t) from rfl, pair_f, Option.bind_some, concat_f _ (by simp) (by simp [lens, enc, ten]) n (by simp; omega), Option.bind_some, h]
    rfl
  · rw [if_neg h, if_neg h]
theorem awake_f (n : Nat) (hn : 20 ≤ n) : stillagelaw02_awake.f n = some true := by
  unfold stillagelaw02_awake.f
  have e := encode_f ⟨1#8, 1#16, 2#16, 3#16, 0#16⟩ n hn
  have e' : tele_Encode.f n 1 1 2 3 0 = some (enc (Tele.bytes ⟨1#8, 1#16, 2#16, 3#16, 0#16⟩), 0) := e
  rw [e', Option.bind_some, if_pos rfl, if_pos (show ((enc (Tele.bytes ⟨1#8, 1#16, 2#16, 3#16, 0#16⟩)).length : Int) = 12 from rfl), if_pos (show (0 : Int) < ((enc (Tele.bytes ⟨1#8, 1#16, 2#16, 3#16, 0#16⟩)).length : Int) from by show (0 : Int) < 12; omega), if_pos (show rd (enc (Tele.bytes ⟨1#8, 1#16, 2#16, 3#16, 0#16⟩)) 0 = 165 from rfl), if_pos (show (7 : Int) < ((enc (Tele.bytes ⟨1#8, 1#16, 2#16, 3#16, 0#16⟩)).length : Int) from by show (7 : Int) < 12; omega), if_pos (show rd (enc (Tele.bytes ⟨1#8, 1#16, 2#16, 3#16, 0#16⟩)) 7 = 3 from rfl)]
  rw [check_f _ _ _ _ _ n (by omega) (by omega) (by omega) (by omega) (by omega), Option.bind_some, if_pos (by rfl), check_f _ _ _ _ _ n (by omega) (by omega) (by omega) (by omega) (by omega)]
  rfl
theorem tl_of {k d s a b : Int} (hk : (Lit.int .u8 k).wf = true) (hd : (Lit.int .u16 d).wf = true) (hs : (Lit.int .u16 s).wf = true) (ha : (Lit.int .u16 a).wf = true) (hb : (Lit.int .u16 b).wf = true) :
    ∃ t : Tl, k = TB t.k ∧ d = T t.d ∧ s = T t.s ∧ a = T t.a ∧ b = T t.b := by
  have b0 := bounds_u8 hk
  have b1 := bounds_u16 hd
  have b2 := bounds_u16 hs
  have b3 := bounds_u16 ha
  have b4 := bounds_u16 hb
  obtain ⟨k', rfl⟩ := TB_of b0.1 b0.2
  obtain ⟨d', rfl⟩ := T_of b1.1 b1.2
  obtain ⟨s', rfl⟩ := T_of b2.1 b2.2
  obtain ⟨a', rfl⟩ := T_of b3.1 b3.2
  obtain ⟨b', rfl⟩ := T_of b4.1 b4.2
  exact ⟨⟨k', d', s', a', b'⟩, rfl, rfl, rfl, rfl, rfl⟩
theorem tl_eq (t u : Tl) : (TB t.k == TB u.k && (T t.d == T u.d && (T t.s == T u.s && (T t.a == T u.a && (T t.b == T u.b))))) = decide (t = u) := by
  by_cases h : t = u
  · subst h
    simp
  · rw [decide_eq_false h, Bool.eq_false_iff]
    intro e
    simp only [Bool.and_eq_true, beq_iff_eq] at e
    obtain ⟨e0, e1, e2, e3, e4⟩ := e
    apply h
    have h0 := TB_inj e0
    have h1 := T_inj e1
    have h2 := T_inj e2
    have h3 := T_inj e3
    have h4 := T_inj e4
    cases t
    cases u
    simp only at h0 h1 h2 h3 h4
    subst h0 h1 h2 h3 h4
    rfl
/-! reading -/
theorem TB_u16 (b : Crc.B) : IntKind.u16.wrap (TB b) = TB b := by
  have := b.isLt
  rw [w16, TB_nat]; omega
theorem TB_u16_256 (b : Crc.B) : IntKind.u16.wrap (TB b * 256) = ((2 ^ 8 * b.toNat : Nat) : Int) := by
  have := b.isLt
  rw [w16, TB_nat]; omega
theorem wd_or (x y : Crc.B) : Go.bits .or .u16 (IntKind.u16.wrap ((IntKind.u16.wrap (TB x)) * 256)) (IntKind.u16.wrap (TB y)) = T (wd x y) := by
  have hx := x.isLt
  have hy := y.isLt
  rw [TB_u16, TB_u16_256, TB_u16, TB_nat, u16_or_nat _ _ (by omega) (by omega), ← Nat.two_pow_add_eq_or_of_lt hy, T_nat, Tele.wd_nat]
  omega
theorem wd_add (x y : Crc.B) : IntKind.u16.wrap ((IntKind.u16.wrap ((IntKind.u16.wrap (TB x)) * 256)) + (IntKind.u16.wrap (TB y))) = T (wd x y) := by
  have hx := x.isLt
  have hy := y.isLt
  rw [TB_u16, TB_u16_256, TB_u16, TB_nat, w16, T_nat, Tele.wd_nat]
  omega
theorem word_f (x y : Crc.B) (l : List Crc.B) : tele_word.f (enc (x :: y :: l)) = some (T (wd x y)) := by
  unfold tele_word.f
  rw [if_pos (by simp [enc]; omega), if_pos (by simp [enc]; omega), show rd (enc (x :: y :: l)) 0 = TB x from rfl, show rd (enc (x :: y :: l)) 1 = TB y from rfl, wd_or]
def tup (t : Tl) (e : Int) : Int × Int × Int × Int × Int × Int := (TB t.k, T t.d, T t.s, T t.a, T t.b, e)
theorem T_zero_iff (w : Crc.W) : T w = 0 ↔ w = 0#16 := by
  constructor
  · intro h
    exact T_inj (h.trans rfl)
  · rintro rfl
    rfl
theorem TB_iff (a b : Crc.B) : TB a = TB b ↔ a = b := ⟨TB_inj, fun h => by rw [h]⟩
theorem T_iff (a b : Crc.W) : T a = T b ↔ a = b := ⟨T_inj, fun h => by rw [h]⟩
theorem decode_f (l : List Crc.B) (n : Nat) (hn : 30 ≤ n) : tele_Decode.f n (enc l) = some (tup (told l) (err l)) := by
  unfold tele_Decode.f
  rw [enc_length]
  by_cases h : l.length = 12
  · obtain ⟨x0, x1, x2, x3, x4, x5, x6, x7, x8, x9, x10, x11, rfl⟩ := Tele.twelve h
    rw [if_pos (by simp), if_pos (by simp), show rd (enc [x0, x1, x2, x3, x4, x5, x6, x7, x8, x9, x10, x11]) 0 = TB x0 from rfl]
    by_cases h0 : x0 = 0xa5#8
    · rw [if_pos (by rw [h0]; rfl), crc_sum _ (by simp) n (by simp; omega), Option.bind_some, show Crc.sum 65535#16 [x0, x1, x2, x3, x4, x5, x6, x7, x8, x9, x10, x11] = Tele.sum [x0, x1, x2, x3, x4, x5, x6, x7, x8, x9, x10, x11] from rfl]
      by_cases hs : Tele.sum [x0, x1, x2, x3, x4, x5, x6, x7, x8, x9, x10, x11] = 0#16
      · rw [if_pos ((T_zero_iff _).2 hs), if_pos (by simp), if_pos (by simp), show (enc [x0, x1, x2, x3, x4, x5, x6, x7, x8, x9, x10, x11]).drop 2 = enc [x2, x3, x4, x5, x6, x7, x8, x9, x10, x11] from rfl, word_f, Option.bind_some,
          if_pos (by simp), show (enc [x0, x1, x2, x3, x4, x5, x6, x7, x8, x9, x10, x11]).drop 4 = enc [x4, x5, x6, x7, x8, x9, x10, x11] from rfl, word_f, Option.bind_some,
          if_pos (by simp), show (enc [x0, x1, x2, x3, x4, x5, x6, x7, x8, x9, x10, x11]).drop 6 = enc [x6, x7, x8, x9, x10, x11] from rfl, word_f, Option.bind_some,
          if_pos (by simp), show (enc [x0, x1, x2, x3, x4, x5, x6, x7, x8, x9, x10, x11]).drop 8 = enc [x8, x9, x10, x11] from rfl, word_f, Option.bind_some,
          show rd (enc [x0, x1, x2, x3, x4, x5, x6, x7, x8, x9, x10, x11]) 1 = TB x1 from rfl, check_f _ _ _ _ _ n (by omega) (TB_lt _).1 (T_lt _).1 (T_lt _).1 (T_lt _).1, Option.bind_some]
        have e : err [x0, x1, x2, x3, x4, x5, x6, x7, x8, x9, x10, x11] = chk (TB x1) (T (wd x2 x3)) (T (wd x4 x5)) (T (wd x6 x7)) (T (wd x8 x9)) := by
          unfold err
          rw [if_neg (by simp), if_neg (by simp [h0]), if_neg (by simp [hs])]
          rfl
        rw [← e]
        unfold told
        by_cases hc : err [x0, x1, x2, x3, x4, x5, x6, x7, x8, x9, x10, x11] = 0
        · rw [if_pos hc, if_pos hc, hc]
          rfl
        · rw [if_neg hc, if_neg hc]
          rfl
      · have e : err [x0, x1, x2, x3, x4, x5, x6, x7, x8, x9, x10, x11] = 22 := by
          unfold err
          rw [if_neg (by simp), if_neg (by simp [h0]), if_pos hs]
        rw [if_neg (fun c => hs ((T_zero_iff _).1 c))]
        unfold told
        rw [e, if_neg (by omega)]
        rfl
    · have e : err [x0, x1, x2, x3, x4, x5, x6, x7, x8, x9, x10, x11] = 21 := by
        unfold err
        rw [if_neg (by simp), if_pos (by simpa using h0)]
      rw [if_neg (fun c => h0 (TB_inj (c.trans rfl)))]
      unfold told
      rw [e, if_neg (by omega)]
      rfl
  · have e : err l = 20 := by
      unfold err
      rw [if_pos h]
    rw [if_neg (by omega)]
    unfold told
    rw [e, if_neg (by omega)]
    rfl
theorem enc_set (l : List Crc.B) (i : Nat) (b : Crc.B) : (enc l).set i (TB b) = enc (l.set i b) := by simp [enc, List.map_set]
theorem mask_ : ∀ r : Fin 8, shr .u8 128 (r.val : Int) = TB (128#8 >>> r.val) := by decide +kernel
theorem mask (r : Nat) (h : r < 8) : shr .u8 128 (r : Int) = TB (128#8 >>> r) := mask_ ⟨r, h⟩
theorem flip_at (l : List Crc.B) (i : Nat) (h : i / 8 < l.length) : Crc.flip l i = l.set (i / 8) (l[i / 8] ^^^ (128#8 >>> (i % 8))) := by
  unfold Crc.flip
  rw [List.getD_eq_getElem?_getD, List.getElem?_eq_getElem h, Option.getD_some]
theorem ref_turned (l : List Crc.B) (hn : l.length ≤ 140737488351232) (i : Nat) (h : i < 8 * l.length) : stillageref01_Turned.f (enc l) (i : Int) = some (enc (Crc.flip l i)) := by
  unfold stillageref01_Turned.f
  rw [Option.bind_some, if_pos (show ([] : List Int).length + (enc l).length < 140737488355328 by rw [enc_length, List.length_nil]; omega), Option.bind_some, List.nil_append, Int.tdiv_eq_ediv_of_nonneg (by omega), Int.tmod_eq_emod_of_nonneg (by omega), show (i : Int) / 8 = ((i / 8 : Nat) : Int) by omega, show (i : Int) % 8 = ((i % 8 : Nat) : Int) by omega, w64 (by omega) (by omega), if_pos (by omega), if_pos (by rw [enc_length]; omega), if_pos (by omega), rd_enc l (i / 8) (by omega), mask (i % 8) (by omega), TB_xor, Int.toNat_natCast, enc_set, flip_at l i (by omega)]

theorem place (a : Int) : ∃ p : Nat, p < 96 ∧ Int.tmod (IntKind.u64.wrap a) 96 = (p : Int) := by
  have h0 : 0 ≤ IntKind.u64.wrap a := by rw [wu64]; omega
  have h1 : Int.tmod (IntKind.u64.wrap a) 96 = (IntKind.u64.wrap a) % 96 := Int.tmod_eq_emod_of_nonneg h0
  exact ⟨((IntKind.u64.wrap a) % 96).toNat, by omega, by omega⟩
theorem bad_of {l : List Crc.B} (hl : l.length = 12) (hs : Tele.sum l ≠ 0#16) : told l = Tele.zero ∧ ((err l = 21 ∧ l.getD 0 0#8 ≠ 0xa5#8) ∨ (err l = 22 ∧ l.getD 0 0#8 = 0xa5#8)) := by
  have e : (err l = 21 ∧ l.getD 0 0#8 ≠ 0xa5#8) ∨ (err l = 22 ∧ l.getD 0 0#8 = 0xa5#8) := by
    unfold err
    rw [if_neg (by omega)]
    by_cases h : l.getD 0 0#8 ≠ 0xa5#8
    · rw [if_pos h]
      exact .inl ⟨rfl, h⟩
    · rw [if_neg h, if_pos hs]
      exact .inr ⟨rfl, Classical.not_not.1 h⟩
  refine ⟨?_, e⟩
  unfold told
  rw [if_neg (by omega)]
/-- What the law asks of a telegram that is not read. -/
theorem bad_go {l : List Crc.B} (hl : l.length = 12) (hs : Tele.sum l ≠ 0#16) (k : Nat) (hk : 40 < k) (F : Option Bool) :
    (tele_Decode.f k (enc l)).bind (fun bt198 => if (false != (bt198.2.2.2.2.2 == 0)) = true then some false else (if (!(bt198.1 == 0) || (!(bt198.2.1 == 0) || (!(bt198.2.2.1 == 0) || (!(bt198.2.2.2.1 == 0) || (!(bt198.2.2.2.2.1 == 0)))))) = true then (some false) else (if 0 < ((enc l).length : Int) then (if ((bt198.2.2.2.2.2 == 21) != ((rd (enc l) 0) != 165)) = true then (some false) else (if bt198.2.2.2.2.2 = 21 then F else (if bt198.2.2.2.2.2 = 22 then F else (some false)))) else (none)))) = F := by
  obtain ⟨ht, he⟩ := bad_of hl hs
  rw [decode_f l k (by omega), Option.bind_some, ht]
  have hr : rd (enc l) 0 = TB (l.getD 0 0#8) := by
    obtain ⟨x0, x1, x2, x3, x4, x5, x6, x7, x8, x9, x10, x11, rfl⟩ := Tele.twelve hl
    rfl
  have hz : (!((tup Tele.zero (err l)).1 == 0) || (!((tup Tele.zero (err l)).2.1 == 0) || (!((tup Tele.zero (err l)).2.2.1 == 0) || (!((tup Tele.zero (err l)).2.2.2.1 == 0) || (!((tup Tele.zero (err l)).2.2.2.2.1 == 0)))))) = false := rfl
  rw [hz, if_neg (show ¬ (false = true) by decide), enc_length, if_pos (show (0 : Int) < (l.length : Int) by omega), hr]
  show (if (false != (err l == 0)) = true then _ else if ((err l == 21) != (TB (l.getD 0 0#8) != 165)) = true then _ else if err l = 21 then _ else if err l = 22 then _ else _) = _
  rcases he with ⟨e1, e2⟩ | ⟨e1, e2⟩
  · have : (TB (l.getD 0 0#8) != 165) = true := by
      rw [bne_iff_ne]
      intro c
      exact e2 (TB_inj (c.trans rfl))
    rw [e1, this]
    rfl
  · rw [e1, e2]
    rfl
theorem good_go {l : List Crc.B} (he : err l = 0) (k : Nat) (hk : 40 < k) : (tele_Decode.f k (enc l)) = some (tup (told l) 0) := by
  rw [decode_f l k (by omega), he]
theorem par_ne {l m : List Crc.B} (h : Crc.parL l ≠ Crc.parL m) (hm : Tele.sum m = 0#16) : Tele.sum l ≠ 0#16 := by
  intro e
  exact Crc.sum_par h (e.trans hm.symm)
set_option maxHeartbeats 1000000 in
theorem TeleTurned (a0_0 a0_1 a0_2 a0_3 a0_4 a1_0 a1_1 a1_2 : Int) (w0_0 : (Lit.int .u8 a0_0).wf = true) (w0_1 : (Lit.int .u16 a0_1).wf = true) (w0_2 : (Lit.int .u16 a0_2).wf = true) (w0_3 : (Lit.int .u16 a0_3).wf = true) (w0_4 : (Lit.int .u16 a0_4).wf = true)
    (w1_0 : (Lit.int .i64 a1_0).wf = true) (w1_1 : (Lit.int .i64 a1_1).wf = true) (w1_2 : (Lit.int .i64 a1_2).wf = true) :
    ∃ k, stillagelaw02_TeleTurned.f k a0_0 a0_1 a0_2 a0_3 a0_4 a1_0 a1_1 a1_2 = some true := by
  obtain ⟨t, rfl, rfl, rfl, rfl, rfl⟩ := tl_of w0_0 w0_1 w0_2 w0_3 w0_4
  obtain ⟨p0, h0, e0⟩ := place a1_0
  obtain ⟨p1, h1, e1⟩ := place a1_1
  obtain ⟨p2, h2, e2⟩ := place a1_2
  obtain ⟨k, hk⟩ : ∃ k : Nat, 100 < k := ⟨101, by omega⟩
  refine ⟨k + 1, ?_⟩
  unfold stillagelaw02_TeleTurned.f
  rw [awake_f _ (by omega), Option.bind_some, if_pos rfl, encode_f t _ (by omega), Option.bind_some]
  by_cases hc : code t = 0
  · rw [if_pos hc, if_pos hc, if_pos (by rw [enc_length, Tele.bytes_length]; rfl)]
    obtain ⟨b, hb⟩ : ∃ b, b = Tele.bytes t := ⟨_, rfl⟩
    have hl : b.length = 12 := by rw [hb]; exact Tele.bytes_length t
    have hs : Tele.sum b = 0#16 := by rw [hb]; exact Tele.sum_bytes t
    have herr : err b = 0 := by rw [hb, Tele.err_bytes]; exact hc
    rw [← hb]
    have l0 : (Crc.flip b p0).length = 12 := by rw [Crc.flip_length]; exact hl
    have l1 : (Crc.flip (Crc.flip b p0) p1).length = 12 := by rw [Crc.flip_length]; exact l0
    have l2 : (Crc.flip (Crc.flip (Crc.flip b p0) p1) p2).length = 12 := by rw [Crc.flip_length]; exact l1
    have q0 : Crc.parL (Crc.flip b p0) = !Crc.parL b := Crc.parL_flip b p0 (by omega)
    have q1 : Crc.parL (Crc.flip (Crc.flip b p0) p1) = Crc.parL b := by rw [Crc.parL_flip _ p1 (by omega), q0, Bool.not_not]
    have q2 : Crc.parL (Crc.flip (Crc.flip (Crc.flip b p0) p1) p2) = !Crc.parL b := by rw [Crc.parL_flip _ p2 (by omega), q1]
    have s0 : Tele.sum (Crc.flip b p0) ≠ 0#16 := par_ne (m := b) (by rw [q0]; cases Crc.parL b <;> decide) hs
    have s2 : Tele.sum (Crc.flip (Crc.flip (Crc.flip b p0) p1) p2) ≠ 0#16 := par_ne (m := b) (by rw [q2]; cases Crc.parL b <;> decide) hs
    -- the first
    simp only [stillagelaw02_TeleTurned.l0]
    rw [if_pos (by omega), if_pos (by omega), show rd [a1_0, a1_1, a1_2] 0 = a1_0 from rfl, e0, w64 (by omega) (by omega), ref_turned b (by omega) p0 (by omega), Option.bind_some]
    simp only [show ¬ ((0 : Int) = 1) by decide, if_false]
    rw [bad_go l0 s0 k (by omega), show wrap64 (0 + 1) = 1 from (w64 (by omega) (by omega)).trans rfl]
    -- the second
    obtain ⟨k, rfl⟩ : ∃ m, k = m + 1 := ⟨k - 1, by omega⟩
    simp only [stillagelaw02_TeleTurned.l0]
    rw [if_pos (by omega), if_pos (by omega), show rd [a1_0, a1_1, a1_2] 1 = a1_1 from rfl, e0, e1, w64 (by omega) (by omega), ref_turned _ (by omega) p1 (by omega), Option.bind_some]
    simp only [if_true]
    have third : stillagelaw02_TeleTurned.l0 k (enc (Crc.flip (Crc.flip b p0) p1)) (wrap64 (1 + 1)) a1_0 a1_1 a1_2 = some true := by
      obtain ⟨k, rfl⟩ : ∃ m, k = m + 1 := ⟨k - 1, by omega⟩
      rw [show wrap64 (1 + 1) = 2 from (w64 (by omega) (by omega)).trans rfl]
      simp only [stillagelaw02_TeleTurned.l0]
      rw [if_pos (by omega), if_pos (by omega), show rd [a1_0, a1_1, a1_2] 2 = a1_2 from rfl, e2, w64 (by omega) (by omega), ref_turned _ (by omega) p2 (by omega), Option.bind_some]
      simp only [show ¬ ((2 : Int) = 1) by decide, if_false]
      obtain ⟨k, rfl⟩ : ∃ m, k = m + 1 := ⟨k - 1, by omega⟩
      rw [bad_go l2 s2 _ (by omega), show wrap64 (2 + 1) = 3 from (w64 (by omega) (by omega)).trans rfl]
      simp only [stillagelaw02_TeleTurned.l0]
      rw [if_neg (by omega)]
    by_cases hp : p0 = p1
    · have hbb : Crc.flip (Crc.flip b p0) p1 = b := by rw [← hp]; exact Crc.flip_flip b p0 (by omega)
      rw [hbb] at third ⊢
      rw [good_go herr _ (by omega), Option.bind_some, hp]
      simp only [beq_self_eq_true, if_true]
      exact third
    · have s1 : Tele.sum (Crc.flip (Crc.flip b p0) p1) ≠ 0#16 := by
        intro e
        unfold Tele.sum at e hs
        rw [Crc.flip_sum _ p1 (by omega), Crc.flip_sum b p0 (by omega), hs, Crc.flip_length, hl, BitVec.zero_xor] at e
        exact hp (Crc.flip_inj (n := 12) (by omega) (by omega) (by omega) (Crc.eq_of_xor e))
      have hbe : (((p0 : Nat) : Int) == (p1 : Int)) = false := by simp; omega
      have hne : ¬ ((p0 : Int) = (p1 : Int)) := by omega
      simp only [hbe, hne, if_false]
      rw [bad_go l1 s1 _ (by omega)]
      exact third
  · rw [if_neg hc]

end Go.Proofs.Ytabkmjimdpdfaaa.Pure
