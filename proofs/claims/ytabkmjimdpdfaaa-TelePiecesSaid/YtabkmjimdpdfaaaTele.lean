/- Telegrams as bytes: the plain laws that the statements about tele use. No program in sight. -/
import Derived.Test.YtabkmjimdpdfaaaCrc
set_option linter.unusedSimpArgs false
set_option linter.unusedVariables false
namespace Tele
open Crc (W B)
def hiB (w : W) : B := BitVec.ofNat 8 (w.toNat / 256)
def loB (w : W) : B := BitVec.ofNat 8 (w.toNat % 256)
def wd (a b : B) : W := BitVec.ofNat 16 (a.toNat * 256 + b.toNat)
theorem wd_nat (a b : B) : (wd a b).toNat = a.toNat * 256 + b.toNat := by
  have := a.isLt; have := b.isLt
  unfold wd; rw [BitVec.toNat_ofNat]; omega
theorem hiB_nat (w : W) : (hiB w).toNat = w.toNat / 256 := by
  have := w.isLt
  unfold hiB; rw [BitVec.toNat_ofNat]; omega
theorem loB_nat (w : W) : (loB w).toNat = w.toNat % 256 := by
  unfold loB; rw [BitVec.toNat_ofNat]; omega
theorem wd_of (w : W) : wd (hiB w) (loB w) = w := by
  apply BitVec.eq_of_toNat_eq
  rw [wd_nat, hiB_nat, loB_nat]; omega
theorem hiB_wd (a b : B) : hiB (wd a b) = a := by
  have := b.isLt
  apply BitVec.eq_of_toNat_eq
  rw [hiB_nat, wd_nat]; omega
theorem loB_wd (a b : B) : loB (wd a b) = b := by
  have := b.isLt
  apply BitVec.eq_of_toNat_eq
  rw [loB_nat, wd_nat]; omega
theorem wd_inj {a b c d : B} (h : wd a b = wd c d) : a = c ∧ b = d := by
  have h1 := congrArg hiB h
  have h2 := congrArg loB h
  rw [hiB_wd, hiB_wd] at h1
  rw [loB_wd, loB_wd] at h2
  exact ⟨h1, h2⟩
theorem wd_hi (a b : B) : Crc.hi a ^^^ b.zeroExtend 16 = wd a b := by
  apply BitVec.eq_of_getLsbD_eq
  intro i hi
  have hb := b.isLt
  have ha := a.isLt
  have e : (wd a b).getLsbD i = (a.toNat * 2 ^ 8 + b.toNat).testBit i := by
    rw [BitVec.getLsbD, wd_nat]
  rw [e, Nat.mul_comm, Nat.testBit_two_pow_mul_add _ hb]
  simp only [Crc.hi, BitVec.getLsbD_xor, BitVec.getLsbD_shiftLeft, BitVec.truncate_eq_setWidth, BitVec.getLsbD_setWidth]
  by_cases h : i < 8
  · simp [h, hi, BitVec.getLsbD]
  · have h1 : ¬ i < 8 := h
    have h2 : b.getLsbD i = false := BitVec.getLsbD_of_ge _ _ (by omega)
    have h3 : i - 8 < 16 := by omega
    simp [h, hi, h3, BitVec.getLsbD, h2]
    have h4 : b.toNat.testBit i = false := by simpa [BitVec.getLsbD] using h2
    rw [h4]; simp
/-- The sum of bytes, with two behind: 0 just where these are the sum. -/
def sum (l : List B) : W := Crc.sum 0xffff#16 l
theorem sum_two (l : List B) (a b : B) : sum (l ++ [a, b]) = 0#16 ↔ sum l = wd a b := by
  unfold sum
  rw [Crc.sum_append]
  show Crc.step (Crc.step _ a) b = _ ↔ _
  rw [Crc.sum_two, wd_hi]
  constructor
  · intro h
    exact Crc.eq_of_xor (Crc.Xn_eq_zero h)
  · intro h
    rw [h, BitVec.xor_self]
    exact Crc.Xn_zero 16
/-- A telegram. -/
structure Tl where
  k : B
  d : W
  s : W
  a : W
  b : W
deriving DecidableEq
/-- What is wrong with it. -/
def chk (k d s a b : Int) : Int :=
  if k < 1 ∨ 7 < k then 23
  else if (d < 1 ∨ 200 < d) ∨ (k ≤ 3 ∧ (a < 1 ∨ 30 < a)) ∨ ((k ≤ 2 ∨ (4 ≤ k ∧ k ≤ 6)) ∧ b ≠ 0) ∨ (k = 3 ∧ (b < 1 ∨ 3 < b)) ∨ (4 ≤ k ∧ k ≤ 6 ∧ a ≠ 0) ∨ ((k = 4 ∨ k = 5) ∧ s ≠ 0) ∨ (k = 7 ∧ 30 < b) then 24
  else 0
def code (t : Tl) : Int := chk (t.k.toNat : Int) (t.d.toNat : Int) (t.s.toNat : Int) (t.a.toNat : Int) (t.b.toNat : Int)
theorem chk_cases (k d s a b : Int) : chk k d s a b = 0 ∨ chk k d s a b = 23 ∨ chk k d s a b = 24 := by
  unfold chk
  split
  · exact .inr (.inl rfl)
  · split
    · exact .inr (.inr rfl)
    · exact .inl rfl
def ten (t : Tl) : List B := [0xa5#8, t.k, hiB t.d, loB t.d, hiB t.s, loB t.s, hiB t.a, loB t.a, hiB t.b, loB t.b]
def bytes (t : Tl) : List B := ten t ++ [hiB (sum (ten t)), loB (sum (ten t))]
theorem bytes_length (t : Tl) : (bytes t).length = 12 := rfl
def tl (l : List B) : Tl := ⟨l.getD 1 0#8, wd (l.getD 2 0#8) (l.getD 3 0#8), wd (l.getD 4 0#8) (l.getD 5 0#8), wd (l.getD 6 0#8) (l.getD 7 0#8), wd (l.getD 8 0#8) (l.getD 9 0#8)⟩
theorem tl_bytes (t : Tl) : tl (bytes t) = t := by
  show Tl.mk t.k (wd (hiB t.d) (loB t.d)) (wd (hiB t.s) (loB t.s)) (wd (hiB t.a) (loB t.a)) (wd (hiB t.b) (loB t.b)) = t
  rw [wd_of, wd_of, wd_of, wd_of]
theorem bytes_inj {t u : Tl} (h : bytes t = bytes u) : t = u := by rw [← tl_bytes t, h, tl_bytes]
theorem sum_bytes (t : Tl) : sum (bytes t) = 0#16 := (sum_two _ _ _).2 (wd_of _).symm
theorem twelve {l : List B} (h : l.length = 12) : ∃ x0 x1 x2 x3 x4 x5 x6 x7 x8 x9 x10 x11, l = [x0, x1, x2, x3, x4, x5, x6, x7, x8, x9, x10, x11] := by
  match l, h with
  | [x0, x1, x2, x3, x4, x5, x6, x7, x8, x9, x10, x11], _ => exact ⟨x0, x1, x2, x3, x4, x5, x6, x7, x8, x9, x10, x11, rfl⟩
/-- What 12 bytes say: the error that comes first. -/
def err (l : List B) : Int := if l.length ≠ 12 then 20 else if l.getD 0 0#8 ≠ 0xa5#8 then 21 else if sum l ≠ 0#16 then 22 else code (tl l)
def zero : Tl := ⟨0#8, 0#16, 0#16, 0#16, 0#16⟩
def told (l : List B) : Tl := if err l = 0 then tl l else zero
theorem err_bytes (t : Tl) : err (bytes t) = code t := by
  unfold err
  rw [if_neg (by simp [bytes_length]), if_neg (by simp [bytes, ten]), if_neg (by simp [sum_bytes]), tl_bytes]
theorem err_ok {l : List B} (h : err l = 0) : l.length = 12 ∧ l.getD 0 0#8 = 0xa5#8 ∧ sum l = 0#16 ∧ code (tl l) = 0 := by
  unfold err at h
  split at h
  · cases h
  · split at h
    · cases h
    · split at h
      · cases h
      · rename_i h1 h2 h3
        exact ⟨by omega, Classical.not_not.1 h2, Classical.not_not.1 h3, h⟩
theorem of_ok {l : List B} (h : err l = 0) : bytes (tl l) = l ∧ code (tl l) = 0 := by
  obtain ⟨h1, h2, h3, h4⟩ := err_ok h
  refine ⟨?_, h4⟩
  obtain ⟨x0, x1, x2, x3, x4, x5, x6, x7, x8, x9, x10, x11, rfl⟩ := twelve h1
  have h2' : x0 = 0xa5#8 := h2
  subst h2'
  have e : ten (tl [0xa5#8, x1, x2, x3, x4, x5, x6, x7, x8, x9, x10, x11]) = [0xa5#8, x1, x2, x3, x4, x5, x6, x7, x8, x9] := by
    show [0xa5#8, x1, hiB (wd x2 x3), loB (wd x2 x3), hiB (wd x4 x5), loB (wd x4 x5), hiB (wd x6 x7), loB (wd x6 x7), hiB (wd x8 x9), loB (wd x8 x9)] = _
    simp only [hiB_wd, loB_wd]
  have e2 : sum [0xa5#8, x1, x2, x3, x4, x5, x6, x7, x8, x9] = wd x10 x11 := (sum_two [0xa5#8, x1, x2, x3, x4, x5, x6, x7, x8, x9] x10 x11).1 h3
  unfold bytes
  rw [e, e2, hiB_wd, loB_wd]
  rfl
theorem eq_bytes {t : Tl} {l : List B} : bytes t = l → err l = code t ∧ tl l = t := by
  rintro rfl
  exact ⟨err_bytes t, tl_bytes t⟩
/-- The telegrams of a stream, what is left, how many bytes were gone by. -/
def splitN : Nat → List B → List Tl × List B × Nat
  | 0, l => ([], l, 0)
  | n + 1, l =>
    if l.length < 12 then ([], l, 0)
    else if err (l.take 12) = 0 then (tl (l.take 12) :: (splitN n (l.drop 12)).1, (splitN n (l.drop 12)).2.1, (splitN n (l.drop 12)).2.2)
    else ((splitN n (l.drop 1)).1, (splitN n (l.drop 1)).2.1, (splitN n (l.drop 1)).2.2 + 1)
theorem splitN_enough (n : Nat) : ∀ (m : Nat) (l : List B), l.length ≤ n → l.length ≤ m → splitN n l = splitN m l := by
  induction n with
  | zero =>
    intro m l h1 h2
    obtain rfl : l = [] := List.eq_nil_of_length_eq_zero (by omega)
    cases m with
    | zero => rfl
    | succ m => rfl
  | succ n ih =>
    intro m l h1 h2
    cases m with
    | zero =>
      obtain rfl : l = [] := List.eq_nil_of_length_eq_zero (by omega)
      rfl
    | succ m =>
      unfold splitN
      by_cases h : l.length < 12
      · rw [if_pos h, if_pos h]
      · rw [if_neg h, if_neg h, ih m (l.drop 12) (by rw [List.length_drop]; omega) (by rw [List.length_drop]; omega), ih m (l.drop 1) (by rw [List.length_drop]; omega) (by rw [List.length_drop]; omega)]
def split (l : List B) : List Tl × List B × Nat := splitN l.length l
theorem split_short {l : List B} (h : l.length < 12) : split l = ([], l, 0) := by
  unfold split
  cases hn : l.length with
  | zero => rfl
  | succ n => unfold splitN; rw [if_pos h]
theorem split_yes {l : List B} (h : ¬ l.length < 12) (e : err (l.take 12) = 0) : split l = (tl (l.take 12) :: (split (l.drop 12)).1, (split (l.drop 12)).2.1, (split (l.drop 12)).2.2) := by
  unfold split
  obtain ⟨n, hn⟩ : ∃ n, l.length = n + 1 := ⟨l.length - 1, by omega⟩
  rw [hn]
  conv => lhs; unfold splitN
  rw [if_neg h, if_pos e, splitN_enough n (l.drop 12).length (l.drop 12) (by rw [List.length_drop]; omega) (Nat.le_refl _)]
theorem split_no {l : List B} (h : ¬ l.length < 12) (e : ¬ err (l.take 12) = 0) : split l = ((split (l.drop 1)).1, (split (l.drop 1)).2.1, (split (l.drop 1)).2.2 + 1) := by
  unfold split
  obtain ⟨n, hn⟩ : ∃ n, l.length = n + 1 := ⟨l.length - 1, by omega⟩
  rw [hn]
  conv => lhs; unfold splitN
  rw [if_neg h, if_neg e, splitN_enough n (l.drop 1).length (l.drop 1) (by rw [List.length_drop]; omega) (Nat.le_refl _)]
theorem split_ind {M : List B → Prop} (h0 : ∀ l, l.length < 12 → M l) (h1 : ∀ l, ¬ l.length < 12 → err (l.take 12) = 0 → M (l.drop 12) → M l) (h2 : ∀ l, ¬ l.length < 12 → ¬ err (l.take 12) = 0 → M (l.drop 1) → M l) (l : List B) : M l := by
  obtain ⟨n, hn⟩ : ∃ n, l.length = n := ⟨_, rfl⟩
  induction n using Nat.strongRecOn generalizing l with
  | _ n ih =>
    by_cases h : l.length < 12
    · exact h0 l h
    · by_cases e : err (l.take 12) = 0
      · exact h1 l h e (ih (l.drop 12).length (by rw [List.length_drop]; omega) _ rfl)
      · exact h2 l h e (ih (l.drop 1).length (by rw [List.length_drop]; omega) _ rfl)
theorem split_left (l : List B) : (split l).2.1.length < 12 ∧ (split l).2.1.length ≤ l.length ∧ (split l).2.1 = l.drop (l.length - (split l).2.1.length) ∧ (split l).1.length ≤ l.length ∧ (split l).2.2 ≤ l.length ∧ 12 * (split l).1.length + (split l).2.2 + (split l).2.1.length = l.length := by
  refine split_ind (M := fun l => (split l).2.1.length < 12 ∧ (split l).2.1.length ≤ l.length ∧ (split l).2.1 = l.drop (l.length - (split l).2.1.length) ∧ (split l).1.length ≤ l.length ∧ (split l).2.2 ≤ l.length ∧ 12 * (split l).1.length + (split l).2.2 + (split l).2.1.length = l.length) ?_ ?_ ?_ l
  · intro l h
    rw [split_short h]
    simp only [Nat.sub_self, List.drop_zero, List.length_nil]
    refine ⟨h, Nat.le_refl _, trivial, by omega, by omega, by omega⟩
  · intro l h e ⟨i1, i2, i3, i4, i5, i6⟩
    rw [split_yes h e]
    rw [List.length_drop] at i2 i3 i4 i5 i6
    refine ⟨i1, by show (split (l.drop 12)).2.1.length ≤ _; omega, ?_, by simp only [List.length_cons]; omega, by show (split (l.drop 12)).2.2 ≤ _; omega, by simp only [List.length_cons]; omega⟩
    show (split (l.drop 12)).2.1 = l.drop (l.length - (split (l.drop 12)).2.1.length)
    rw [List.drop_drop] at i3
    rw [show l.length - (split (l.drop 12)).2.1.length = 12 + (l.length - 12 - (split (l.drop 12)).2.1.length) by omega]
    exact i3
  · intro l h e ⟨i1, i2, i3, i4, i5, i6⟩
    rw [split_no h e]
    rw [List.length_drop] at i2 i3 i4 i5 i6
    refine ⟨i1, by show (split (l.drop 1)).2.1.length ≤ _; omega, ?_, by show (split (l.drop 1)).1.length ≤ _; omega, by show (split (l.drop 1)).2.2 + 1 ≤ _; omega, by show 12 * (split (l.drop 1)).1.length + ((split (l.drop 1)).2.2 + 1) + (split (l.drop 1)).2.1.length = _; omega⟩
    show (split (l.drop 1)).2.1 = l.drop (l.length - (split (l.drop 1)).2.1.length)
    rw [List.drop_drop] at i3
    rw [show l.length - (split (l.drop 1)).2.1.length = 1 + (l.length - 1 - (split (l.drop 1)).2.1.length) by omega]
    exact i3
theorem split_plain (l : List B) (h : ∀ x ∈ l, x ≠ 0xa5#8) : (split l).1 = [] := by
  revert h
  refine split_ind (M := fun l => (∀ x ∈ l, x ≠ 0xa5#8) → (split l).1 = []) ?_ ?_ ?_ l
  · intro l h _
    rw [split_short h]
  · intro l h e _ hm
    exfalso
    obtain ⟨h1, h2, _, _⟩ := err_ok e
    cases l with
    | nil => simp at h
    | cons a l => exact hm a (by simp) (by simpa using h2)
  · intro l h e ih hm
    rw [split_no h e]
    exact ih (fun x hx => hm x (List.mem_of_mem_drop hx))
theorem split_ahead (p q : List B) (hp : ∀ x ∈ p, x ≠ 0xa5#8) (hq : 12 ≤ q.length) : split (p ++ q) = ((split q).1, (split q).2.1, (split q).2.2 + p.length) := by
  induction p with
  | nil => rfl
  | cons a p ih =>
    have e : ¬ err ((a :: p ++ q).take 12) = 0 := by
      intro e
      obtain ⟨_, h2, _, _⟩ := err_ok e
      exact hp a (by simp) (by simpa using h2)
    rw [split_no (by simp; omega) e]
    have := ih (fun x hx => hp x (by simp [hx]))
    show ((split (p ++ q)).1, (split (p ++ q)).2.1, (split (p ++ q)).2.2 + 1) = _
    rw [this]
    simp only [List.length_cons, Nat.add_assoc]
theorem split_bytes (t : Tl) (ht : code t = 0) (q : List B) : split (bytes t ++ q) = (t :: (split q).1, (split q).2.1, (split q).2.2) := by
  have h1 : (bytes t ++ q).take 12 = bytes t := by rw [List.take_left' (bytes_length t)]
  have h2 : (bytes t ++ q).drop 12 = q := by rw [List.drop_left' (bytes_length t)]
  rw [split_yes (by simp [bytes_length]) (by rw [h1, err_bytes, ht]), h1, h2, tl_bytes]
theorem split_eleven (l : List B) (h : 11 ≤ l.length) (hm : ∀ x ∈ l, x ≠ 0xa5#8) : 11 ≤ (split l).2.1.length := by
  revert h hm
  refine split_ind (M := fun l => 11 ≤ l.length → (∀ x ∈ l, x ≠ 0xa5#8) → 11 ≤ (split l).2.1.length) ?_ ?_ ?_ l
  · intro l h h2 _
    rw [split_short h]
    exact h2
  · intro l h e _ h2 hm
    exfalso
    obtain ⟨_, h2, _, _⟩ := err_ok e
    cases l with
    | nil => simp at h
    | cons a l => exact hm a (by simp) (by simpa using h2)
  · intro l h e ih h2 hm
    rw [split_no h e]
    exact ih (by rw [List.length_drop]; omega) (fun x hx => hm x (List.mem_of_mem_drop hx))
end Tele
