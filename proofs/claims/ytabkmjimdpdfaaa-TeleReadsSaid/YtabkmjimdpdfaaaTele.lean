/- Telegrams as bytes: the plain laws that the statements about tele use. No program in sight. -/
import Derived.Test.YtabkmjimdpdfaaaCrc
set_option linter.unusedSimpArgs false
set_option linter.unusedVariables false
namespace Tele
open Crc (W B)
def hiB (w : W) : B := BitVec.ofNat 8 (w.toNat / 256)
def loB (w : W) : B := BitVec.ofNat 8 (w.toNat % 256)
def wd (a b : B) : W := BitVec.ofNat 16 (a.toNat * 256 + b.toNat)
theorem wd_nat (a b : B) : (wd a b).toNat = a.toNat * 256 + b.toNat := by
  have := a.isLt; have := b.isLt
  unfold wd; rw [BitVec.toNat_ofNat]; omega
theorem hiB_nat (w : W) : (hiB w).toNat = w.toNat / 256 := by
  have := w.isLt
  unfold hiB; rw [BitVec.toNat_ofNat]; omega
theorem loB_nat (w : W) : (loB w).toNat = w.toNat % 256 := by
  unfold loB; rw [BitVec.toNat_ofNat]; omega
theorem wd_of (w : W) : wd (hiB w) (loB w) = w := by
  apply BitVec.eq_of_toNat_eq
  rw [wd_nat, hiB_nat, loB_nat]; omega
theorem hiB_wd (a b : B) : hiB (wd a b) = a := by
  have := b.isLt
  apply BitVec.eq_of_toNat_eq
  rw [hiB_nat, wd_nat]; omega
theorem loB_wd (a b : B) : loB (wd a b) = b := by
  have := b.isLt
  apply BitVec.eq_of_toNat_eq
  rw [loB_nat, wd_nat]; omega
theorem wd_inj {a b c d : B} (h : wd a b = wd c d) : a = c ∧ b = d := by
  have h1 := congrArg hiB h
  have h2 := congrArg loB h
  rw [hiB_wd, hiB_wd] at h1
  rw [loB_wd, loB_wd] at h2
  exact ⟨h1, h2⟩
theorem wd_hi (a b : B) : Crc.hi a ^^^ b.zeroExtend 16 = wd a b := by
  apply BitVec.eq_of_getLsbD_eq
  intro i hi
  have hb := b.isLt
  have ha := a.isLt
  have e : (wd a b).getLsbD i = (a.toNat * 2 ^ 8 + b.toNat).testBit i := by
    rw [BitVec.getLsbD, wd_nat]
  rw [e, Nat.mul_comm, Nat.testBit_two_pow_mul_add _ hb]
  simp only [Crc.hi, BitVec.getLsbD_xor, BitVec.getLsbD_shiftLeft, BitVec.truncate_eq_setWidth, BitVec.getLsbD_setWidth]
  by_cases h : i < 8
  · simp [h, hi, BitVec.getLsbD]
  · have h1 : ¬ i < 8 := h
    have h2 : b.getLsbD i = false := BitVec.getLsbD_of_ge _ _ (by omega)
    have h3 : i - 8 < 16 := by omega
    simp [h, hi, h3, BitVec.getLsbD, h2]
    have h4 : b.toNat.testBit i = false := by simpa [BitVec.getLsbD] using h2
    rw [h4]; simp
/-- The sum of bytes, with two behind: 0 just where these are the sum. -/
def sum (l : List B) : W := Crc.sum 0xffff#16 l
theorem sum_two (l : List B) (a b : B) : sum (l ++ [a, b]) = 0#16 ↔ sum l = wd a b := by
  unfold sum
  rw [Crc.sum_append]
  show Crc.step (Crc.step _ a) b = _ ↔ _
  rw [Crc.sum_two, wd_hi]
  constructor
  · intro h
    exact Crc.eq_of_xor (Crc.Xn_eq_zero h)
  · intro h
    rw [h, BitVec.xor_self]
    exact Crc.Xn_zero 16
/-- A telegram. -/
structure Tl where
  k : B
  d : W
  s : W
  a : W
  b : W
deriving DecidableEq
/-- What is wrong with it. -/
def chk (k d s a b : Int) : Int :=
  if k < 1 ∨ 7 < k then 23
  else if (d < 1 ∨ 200 < d) ∨ (k ≤ 3 ∧ (a < 1 ∨ 30 < a)) ∨ ((k ≤ 2 ∨ (4 ≤ k ∧ k ≤ 6)) ∧ b ≠ 0) ∨ (k = 3 ∧ (b < 1 ∨ 3 < b)) ∨ (4 ≤ k ∧ k ≤ 6 ∧ a ≠ 0) ∨ ((k = 4 ∨ k = 5) ∧ s ≠ 0) ∨ (k = 7 ∧ 30 < b) then 24
  else 0
def code (t : Tl) : Int := chk (t.k.toNat : Int) (t.d.toNat : Int) (t.s.toNat : Int) (t.a.toNat : Int) (t.b.toNat : Int)
theorem chk_cases (k d s a b : Int) : chk k d s a b = 0 ∨ chk k d s a b = 23 ∨ chk k d s a b = 24 := by
  unfold chk
  split
  · exact .inr (.inl rfl)
  · split
    · exact .inr (.inr rfl)
    · exact .inl rfl
def ten (t : Tl) : List B := [0xa5#8, t.k, hiB t.d, loB t.d, hiB t.s, loB t.s, hiB t.a, loB t.a, hiB t.b, loB t.b]
def bytes (t : Tl) : List B := ten t ++ [hiB (sum (ten t)), loB (sum (ten t))]
theorem bytes_length (t : Tl) : (bytes t).length = 12 := rfl
def tl (l : List B) : Tl := ⟨l.getD 1 0#8, wd (l.getD 2 0#8) (l.getD 3 0#8), wd (l.getD 4 0#8) (l.getD 5 0#8), wd (l.getD 6 0#8) (l.getD 7 0#8), wd (l.getD 8 0#8) (l.getD 9 0#8)⟩
theorem tl_bytes (t : Tl) : tl (bytes t) = t := by
  show Tl.mk t.k (wd (hiB t.d) (loB t.d)) (wd (hiB t.s) (loB t.s)) (wd (hiB t.a) (loB t.a)) (wd (hiB t.b) (loB t.b)) = t
  rw [wd_of, wd_of, wd_of, wd_of]
theorem bytes_inj {t u : Tl} (h : bytes t = bytes u) : t = u := by rw [← tl_bytes t, h, tl_bytes]
theorem sum_bytes (t : Tl) : sum (bytes t) = 0#16 := (sum_two _ _ _).2 (wd_of _).symm
theorem twelve {l : List B} (h : l.length = 12) : ∃ x0 x1 x2 x3 x4 x5 x6 x7 x8 x9 x10 x11, l = [x0, x1, x2, x3, x4, x5, x6, x7, x8, x9, x10, x11] := by
  match l, h with
  | [x0, x1, x2, x3, x4, x5, x6, x7, x8, x9, x10, x11], _ => exact ⟨x0, x1, x2, x3, x4, x5, x6, x7, x8, x9, x10, x11, rfl⟩
/-- What 12 bytes say: the error that comes first. -/
def err (l : List B) : Int := if l.length ≠ 12 then 20 else if l.getD 0 0#8 ≠ 0xa5#8 then 21 else if sum l ≠ 0#16 then 22 else code (tl l)
def zero : Tl := ⟨0#8, 0#16, 0#16, 0#16, 0#16⟩
def told (l : List B) : Tl := if err l = 0 then tl l else zero
theorem err_bytes (t : Tl) : err (bytes t) = code t := by
  unfold err
  rw [if_neg (by simp [bytes_length]), if_neg (by simp [bytes, ten]), if_neg (by simp [sum_bytes]), tl_bytes]
theorem err_ok {l : List B} (h : err l = 0) : l.length = 12 ∧ l.getD 0 0#8 = 0xa5#8 ∧ sum l = 0#16 ∧ code (tl l) = 0 := by
  unfold err at h
  split at h
  · cases h
  · split at h
    · cases h
    · split at h
      · cases h
      · rename_i h1 h2 h3
        exact ⟨by omega, Classical.not_not.1 h2, Classical.not_not.1 h3, h⟩
theorem of_ok {l : List B} (h : err l = 0) : bytes (tl l) = l ∧ code (tl l) = 0 := by
  obtain ⟨h1, h2, h3, h4⟩ := err_ok h
  refine ⟨?_, h4⟩
  obtain ⟨x0, x1, x2, x3, x4, x5, x6, x7, x8, x9, x10, x11, rfl⟩ := twelve h1
  have h2' : x0 = 0xa5#8 := h2
  subst h2'
  have e : ten (tl [0xa5#8, x1, x2, x3, x4, x5, x6, x7, x8, x9, x10, x11]) = [0xa5#8, x1, x2, x3, x4, x5, x6, x7, x8, x9] := by
    show [0xa5#8, x1, hiB (wd x2 x3), loB (wd x2 x3), hiB (wd x4 x5), loB (wd x4 x5), hiB (wd x6 x7), loB (wd x6 x7), hiB (wd x8 x9), loB (wd x8 x9)] = _
    simp only [hiB_wd, loB_wd]
  have e2 : sum [0xa5#8, x1, x2, x3, x4, x5, x6, x7, x8, x9] = wd x10 x11 := (sum_two [0xa5#8, x1, x2, x3, x4, x5, x6, x7, x8, x9] x10 x11).1 h3
  unfold bytes
  rw [e, e2, hiB_wd, loB_wd]
  rfl
theorem eq_bytes {t : Tl} {l : List B} : bytes t = l → err l = code t ∧ tl l = t := by
  rintro rfl
  exact ⟨err_bytes t, tl_bytes t⟩
end Tele
