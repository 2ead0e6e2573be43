/- The sum of chapter 1 as a linear map over BitVec 16: the plain laws that the statements about crc and tele use. No program in sight. -/
set_option linter.unusedSimpArgs false
set_option linter.unusedVariables false
namespace Crc
abbrev W := BitVec 16
theorem xs (a b : W) : a ^^^ (a ^^^ b) = b := by rw [← BitVec.xor_assoc, BitVec.xor_self, BitVec.zero_xor]
theorem xl (a b c : W) : a ^^^ (b ^^^ c) = b ^^^ (a ^^^ c) := by rw [← BitVec.xor_assoc, BitVec.xor_comm a b, BitVec.xor_assoc]
theorem x0 (a : W) : a ^^^ 0#16 = a := BitVec.xor_zero
theorem eq_of_xor {a b : W} (h : a ^^^ b = 0#16) : a = b := by
  have := congrArg (a ^^^ ·) h
  simp only [xs, x0] at this
  exact this.symm
/-- Times x, modulo x^16 + x^12 + x^5 + 1. -/
def X (a : W) : W := (a <<< 1) ^^^ (if a.msb then 0x1021#16 else 0#16)
theorem X_xor (a b : W) : X (a ^^^ b) = X a ^^^ X b := by
  unfold X
  rw [BitVec.shiftLeft_xor_distrib, BitVec.msb_xor]
  cases a.msb <;> cases b.msb <;> simp [BitVec.xor_assoc, BitVec.xor_comm, xl, xs]
theorem X_zero : X 0#16 = 0#16 := by decide
def Xn : Nat → W → W
  | 0, a => a
  | n + 1, a => X (Xn n a)
theorem Xn_xor (n : Nat) (a b : W) : Xn n (a ^^^ b) = Xn n a ^^^ Xn n b := by
  induction n with
  | zero => rfl
  | succ n ih => simp only [Xn, ih, X_xor]
theorem Xn_zero (n : Nat) : Xn n 0#16 = 0#16 := by
  induction n with
  | zero => rfl
  | succ n ih => simp only [Xn, ih, X_zero]
theorem Xn_add (m n : Nat) (a : W) : Xn (m + n) a = Xn m (Xn n a) := by
  induction m with
  | zero => simp [Xn]
  | succ m ih => rw [Nat.succ_add]; simp only [Xn, ih]
theorem Xn_X (n : Nat) (a : W) : Xn n (X a) = X (Xn n a) := by
  rw [show X a = Xn 1 a from rfl, ← Xn_add, Nat.add_comm, Xn_add]; rfl
/-- Every number is made of 1 by X and sums. -/
theorem parts (a : W) : a = X (a >>> 1) ^^^ (if a.getLsbD 0 then 1#16 else 0#16) := by
  have hm : (a >>> 1).msb = false := by simp [BitVec.msb_eq_getLsbD_last]
  unfold X
  rw [hm]
  have h1 : ∀ j, (1#16 : W).getLsbD j = decide (j = 0) := fun j => by
    rw [show (1#16 : W) = BitVec.ofNat 16 1 from rfl]
    rcases j with _ | j
    · decide
    · simp [BitVec.getLsbD_one]
  apply BitVec.eq_of_getLsbD_eq
  intro i hi
  cases h : a.getLsbD 0 with
  | true =>
    rcases i with _ | i
    · simp [h, h1]
    · simp [h1, hi, Nat.add_comm 1 i]
  | false =>
    rcases i with _ | i
    · simp; rw [← BitVec.getLsbD_eq_getElem]; exact h
    · simp [hi, Nat.add_comm 1 i]
theorem ind {P : W → Prop} (h0 : P 0#16) (h1 : P 1#16) (hx : ∀ a b, P a → P b → P (a ^^^ b)) (hX : ∀ a, P a → P (X a)) (a : W) : P a := by
  suffices h : ∀ n, ∀ a : W, a.toNat ≤ n → P a from h _ a (Nat.le_refl _)
  intro n
  induction n with
  | zero =>
    intro a ha
    have : a = 0#16 := BitVec.eq_of_toNat_eq (by simpa using ha)
    rw [this]; exact h0
  | succ n ih =>
    intro a ha
    rw [parts a]
    refine hx _ _ (hX _ (ih _ ?_)) ?_
    · simp only [BitVec.toNat_ushiftRight, Nat.shiftRight_eq_div_pow]; omega
    · split
      · exact h1
      · exact h0
/-- A linear map that goes with X is told by its value at 1. -/
structure Lin (f : W → W) : Prop where
  xor : ∀ a b, f (a ^^^ b) = f a ^^^ f b
  x : ∀ a, f (X a) = X (f a)
theorem Lin.zero {f : W → W} (h : Lin f) : f 0#16 = 0#16 := by
  have := h.xor 0#16 0#16
  simpa using this
theorem Lin.ext {f g : W → W} (hf : Lin f) (hg : Lin g) (h : f 1#16 = g 1#16) (a : W) : f a = g a :=
  ind (P := fun a => f a = g a) (by rw [hf.zero, hg.zero]) h (fun a b ha hb => by rw [hf.xor, hg.xor, ha, hb]) (fun a ha => by rw [hf.x, hg.x, ha]) a
theorem lin_Xn (n : Nat) : Lin (Xn n) := ⟨Xn_xor n, Xn_X n⟩
theorem Lin.Xn {f : W → W} (h : Lin f) (n : Nat) (a : W) : f (Crc.Xn n a) = Crc.Xn n (f a) := by
  induction n with
  | zero => rfl
  | succ n ih => simp only [Crc.Xn, h.x, ih]
/-- The program's product: by the second number's bits, the lowest first. -/
def times (a b : W) : W := if h : b = 0#16 then 0#16 else (if b.getLsbD 0 then a else 0#16) ^^^ times (X a) (b >>> 1)
termination_by b.toNat
decreasing_by
  have : b.toNat ≠ 0 := fun e => h (BitVec.eq_of_toNat_eq (by simpa using e))
  simp only [BitVec.toNat_ushiftRight, Nat.shiftRight_eq_div_pow]; omega
theorem times_zero (a : W) : times a 0#16 = 0#16 := by rw [times]; simp
theorem times_step (a b : W) : times a b = (if b.getLsbD 0 then a else 0#16) ^^^ times (X a) (b >>> 1) := by
  by_cases h : b = 0#16
  · subst h; simp [times_zero]
  · rw [times]; simp [h]
theorem times_lin (b : W) : Lin (fun a => times a b) := by
  suffices h : ∀ n, ∀ b : W, b.toNat ≤ n → (∀ a c, times (a ^^^ c) b = times a b ^^^ times c b) ∧ ∀ a, times (X a) b = X (times a b) from ⟨(h _ b (Nat.le_refl _)).1, (h _ b (Nat.le_refl _)).2⟩
  intro n
  induction n with
  | zero =>
    intro b hb
    have : b = 0#16 := BitVec.eq_of_toNat_eq (by simpa using hb)
    subst this
    exact ⟨fun a c => by simp [times_zero], fun a => by simp [times_zero, X_zero]⟩
  | succ n ih =>
    intro b hb
    have ih := ih (b >>> 1) (by simp only [BitVec.toNat_ushiftRight, Nat.shiftRight_eq_div_pow]; omega)
    refine ⟨fun a c => ?_, fun a => ?_⟩
    · rw [times_step, times_step a, times_step c, X_xor, ih.1]
      split <;> simp [BitVec.xor_assoc, BitVec.xor_comm, xl]
    · rw [times_step, times_step a, X_xor, ih.2]
      split
      · rfl
      · rw [X_zero]
theorem times_one (a : W) : times a 1#16 = a := by
  rw [times_step, show (1#16 >>> 1 : W) = 0#16 from by decide, times_zero]; simp
theorem one_times (b : W) : times 1#16 b = b := by
  suffices h : ∀ n, ∀ b : W, b.toNat ≤ n → times 1#16 b = b from h _ b (Nat.le_refl _)
  intro n
  induction n with
  | zero =>
    intro b hb
    have : b = 0#16 := BitVec.eq_of_toNat_eq (by simpa using hb)
    subst this; exact times_zero _
  | succ n ih =>
    intro b hb
    have ih := ih (b >>> 1) (by simp only [BitVec.toNat_ushiftRight, Nat.shiftRight_eq_div_pow]; omega)
    rw [times_step, (times_lin (b >>> 1)).x, ih, BitVec.xor_comm]
    exact (parts b).symm
/-- times by X^n of 1 is n times X. -/
theorem times_pow (n : Nat) (a : W) : times a (Xn n 1#16) = Xn n a :=
  Lin.ext (times_lin _) (lin_Xn n) (one_times _) a
theorem pow_times (m n : Nat) : times (Xn m 1#16) (Xn n 1#16) = Xn (m + n) 1#16 := by
  rw [times_pow, ← Xn_add, Nat.add_comm]
/-! ### X has no kernel -/
theorem X_eq_zero {a : W} (h : X a = 0#16) : a = 0#16 := by
  unfold X at h
  cases hm : a.msb with
  | true =>
    exfalso
    have := congrArg (fun w : W => w.getLsbD 0) h
    simp [hm] at this
  | false =>
    rw [hm] at h
    simp only [Bool.false_eq_true, if_false, x0] at h
    apply BitVec.eq_of_toNat_eq
    have h2 := congrArg BitVec.toNat h
    have h3 : a.toNat < 32768 := by
      have := BitVec.msb_eq_decide a
      rw [hm] at this
      simpa using this.symm
    simp only [BitVec.toNat_shiftLeft, Nat.shiftLeft_eq] at h2
    simp only [BitVec.toNat_ofNat] at h2 ⊢
    omega
theorem Xn_eq_zero {n : Nat} {a : W} (h : Xn n a = 0#16) : a = 0#16 := by
  induction n with
  | zero => exact h
  | succ n ih => exact ih (X_eq_zero h)
theorem Xn_inj {n : Nat} {a b : W} (h : Xn n a = Xn n b) : a = b := by
  apply eq_of_xor
  apply Xn_eq_zero (n := n)
  rw [Xn_xor, h, BitVec.xor_self]
/-! ### The parity of the bits -/
def parN : Nat → W → Bool
  | 0, _ => false
  | n + 1, a => parN n a ^^ a.getLsbD n
def par (a : W) : Bool := parN 16 a
theorem parN_xor (n : Nat) (a b : W) : parN n (a ^^^ b) = (parN n a ^^ parN n b) := by
  induction n with
  | zero => rfl
  | succ n ih =>
    simp only [parN, ih, BitVec.getLsbD_xor]
    cases parN n a <;> cases parN n b <;> cases a.getLsbD n <;> cases b.getLsbD n <;> rfl
theorem par_xor (a b : W) : par (a ^^^ b) = (par a ^^ par b) := parN_xor 16 a b
theorem parN_shl (n : Nat) (a : W) (h : n + 1 ≤ 16) : parN (n + 1) (a <<< 1) = parN n a := by
  induction n with
  | zero => simp [parN]
  | succ n ih =>
    rw [parN, ih (by omega), parN, BitVec.getLsbD_shiftLeft]
    simp [show n + 1 < 16 by omega]
theorem par_X (a : W) : par (X a) = par a := by
  unfold X
  rw [par_xor]
  have h1 : par (a <<< 1) = (par a ^^ a.msb) := by
    unfold par
    rw [parN_shl 15 a (by omega), BitVec.msb_eq_getLsbD_last, show parN 16 a = (parN 15 a ^^ a.getLsbD 15) from rfl]
    simp
  rw [h1]
  have h2 : par 0x1021#16 = true := by decide
  have h3 : par 0#16 = false := by decide
  cases a.msb <;> simp [h2, h3]
theorem par_Xn (n : Nat) (a : W) : par (Xn n a) = par a := by
  induction n with
  | zero => rfl
  | succ n ih => rw [Xn, par_X, ih]
/-! ### A step by a byte -/
abbrev B := BitVec 8
def hi (b : B) : W := b.zeroExtend 16 <<< 8
def step (c : W) (b : B) : W := Xn 8 (c ^^^ hi b)
theorem hi_xor (a b : B) : hi (a ^^^ b) = hi a ^^^ hi b := by
  unfold hi
  apply BitVec.eq_of_getLsbD_eq
  intro i hi
  simp
  simp only [hi, decide_true, Bool.true_and]
  by_cases h : i < 8
  · simp [h]
  · simp [h, show i - 8 < 16 by omega]
theorem step_xor (c d : W) (a b : B) : step (c ^^^ d) (a ^^^ b) = step c a ^^^ step d b := by
  unfold step
  rw [hi_xor, ← Xn_xor]
  congr 1
  simp [BitVec.xor_assoc, BitVec.xor_comm, xl]
theorem step_zero (c : W) : step c 0#8 = Xn 8 c := by
  unfold step
  rw [show hi 0#8 = 0#16 from by decide, x0]
def sum (c : W) (l : List B) : W := l.foldl step c
theorem sum_append (c : W) (l m : List B) : sum c (l ++ m) = sum (sum c l) m := List.foldl_append
theorem sum_cons (c : W) (b : B) (l : List B) : sum c (b :: l) = sum (step c b) l := rfl
theorem sum_nil (c : W) : sum c [] = c := rfl
theorem sum_xor (l : List B) : ∀ (m : List B) (c d : W), l.length = m.length → sum (c ^^^ d) (List.zipWith (· ^^^ ·) l m) = sum c l ^^^ sum d m := by
  induction l with
  | nil => intro m c d h; cases m with
    | nil => rfl
    | cons _ _ => cases h
  | cons a l ih => intro m c d h; cases m with
    | nil => cases h
    | cons b m =>
      simp only [List.zipWith_cons_cons, sum_cons, step_xor]
      exact ih m _ _ (by simpa using h)
theorem sum_zeros (n : Nat) : ∀ c, sum c (List.replicate n 0#8) = Xn (8 * n) c := by
  induction n with
  | zero => intro c; rfl
  | succ n ih =>
    intro c
    rw [List.replicate_succ, sum_cons, ih, step_zero, ← Xn_add]
    congr 1
theorem sum_start (l : List B) (c d : W) : sum (c ^^^ d) l = sum c l ^^^ Xn (8 * l.length) d := by
  have h := sum_xor l (List.replicate l.length 0#8) c d (by simp)
  rw [sum_zeros] at h
  rw [← h]
  congr 1
  apply List.ext_getElem
  · simp
  · intro i h1 h2; simp
theorem lo_shift : ∀ b : B, Xn 8 (b.zeroExtend 16) = hi b := by decide +kernel
/-- Two bytes behind: the sum is 0 if and only if they are the sum. -/
theorem sum_two (c : W) (a b : B) : step (step c a) b = Xn 16 (c ^^^ (hi a ^^^ b.zeroExtend 16)) := by
  unfold step
  rw [← lo_shift b, ← Xn_xor, ← Xn_add]
  congr 1
  simp [BitVec.xor_assoc]
/-- The program's step: eight bits at once. -/
def stepI (c : W) (b : B) : W :=
  let x := (c >>> 8) ^^^ b.zeroExtend 16
  let y := x ^^^ (x >>> 4)
  (c <<< 8) ^^^ (y <<< 12) ^^^ (y <<< 5) ^^^ y
theorem stepI_eq (c : W) (b : B) : stepI c b = step c b := by
  have split : c = hi (c >>> 8 |>.truncate 8) ^^^ (c.truncate 8 : B).zeroExtend 16 := by
    unfold hi
    apply BitVec.eq_of_getLsbD_eq
    intro i hi
    simp only [BitVec.getLsbD_xor, BitVec.getLsbD_shiftLeft, BitVec.truncate_eq_setWidth, BitVec.getLsbD_setWidth, BitVec.getLsbD_ushiftRight]
    by_cases h : i < 8
    · simp [h, hi]
    · simp [h, hi, show i - 8 < 8 by omega, show i - 8 < 16 by omega, show 8 + (i - 8) = i by omega]
  have key : ∀ x : B, Xn 8 (hi x) = ((x.zeroExtend 16 ^^^ (x.zeroExtend 16 >>> 4)) <<< 12) ^^^ ((x.zeroExtend 16 ^^^ (x.zeroExtend 16 >>> 4)) <<< 5) ^^^ (x.zeroExtend 16 ^^^ (x.zeroExtend 16 >>> 4)) := by decide +kernel
  obtain ⟨u, hu⟩ : ∃ u : B, u = (c >>> 8).truncate 8 := ⟨_, rfl⟩
  obtain ⟨v, hv⟩ : ∃ v : B, v = c.truncate 8 := ⟨_, rfl⟩
  have hc : c = hi u ^^^ v.zeroExtend 16 := by rw [hu, hv]; exact split
  have h8 : c >>> 8 = u.zeroExtend 16 := by
    rw [hu]
    apply BitVec.eq_of_getLsbD_eq
    intro i hi
    simp only [BitVec.truncate_eq_setWidth, BitVec.getLsbD_setWidth, BitVec.getLsbD_ushiftRight]
    by_cases h : i < 8
    · simp [h, hi]
    · simp [h]; exact BitVec.getLsbD_of_ge _ _ (by omega)
  have hl : c <<< 8 = hi v := by
    rw [hv]
    unfold hi
    apply BitVec.eq_of_getLsbD_eq
    intro i hi
    simp only [BitVec.truncate_eq_setWidth, BitVec.getLsbD_setWidth, BitVec.getLsbD_shiftLeft]
    by_cases h : i < 8
    · simp [h]
    · simp [h, hi, show i - 8 < 8 by omega, show i - 8 < 16 by omega]
  have hx : (c >>> 8) ^^^ b.zeroExtend 16 = (u ^^^ b).zeroExtend 16 := by
    rw [h8]
    apply BitVec.eq_of_getLsbD_eq
    intro i hi
    simp [hi]
  unfold stepI step
  simp only [hx, hl]
  rw [hc, show hi u ^^^ v.zeroExtend 16 ^^^ hi b = hi (u ^^^ b) ^^^ v.zeroExtend 16 from by rw [hi_xor]; simp [BitVec.xor_assoc, BitVec.xor_comm, xl], Xn_xor, key, lo_shift]
  simp [BitVec.xor_assoc, BitVec.xor_comm, xl]
/-! ### The powers of X up to 32000 are all different -/
def gN (a : Nat) : Nat := if a < 32768 then 2 * a else (2 * a - 65536) ^^^ 4129
def runN : Nat → Nat → Nat
  | 0, a => a
  | n + 1, a => runN n (if a = 1 then 0 else gN a)
theorem r0 : runN 2000 2 = 16678 := by decide +kernel
theorem r1 : runN 2000 16678 = 2979 := by decide +kernel
theorem r2 : runN 2000 2979 = 19154 := by decide +kernel
theorem r3 : runN 2000 19154 = 11826 := by decide +kernel
theorem r4 : runN 2000 11826 = 52381 := by decide +kernel
theorem r5 : runN 2000 52381 = 42251 := by decide +kernel
theorem r6 : runN 2000 42251 = 64397 := by decide +kernel
theorem r7 : runN 2000 64397 = 57800 := by decide +kernel
theorem r8 : runN 2000 57800 = 46276 := by decide +kernel
theorem r9 : runN 2000 46276 = 33437 := by decide +kernel
theorem r10 : runN 2000 33437 = 57566 := by decide +kernel
theorem r11 : runN 2000 57566 = 59838 := by decide +kernel
theorem r12 : runN 2000 59838 = 16965 := by decide +kernel
theorem r13 : runN 2000 16965 = 21693 := by decide +kernel
theorem r14 : runN 2000 21693 = 33167 := by decide +kernel
theorem r15 : runN 2000 33167 = 16653 := by decide +kernel
theorem runN_add (m n a : Nat) : runN (m + n) a = runN n (runN m a) := by
  induction m generalizing a with
  | zero => simp [runN]
  | succ m ih => rw [Nat.succ_add]; simp only [runN, ih]
theorem r_all : runN 32000 2 = 16653 := by
  rw [show 32000 = 2000 + 2000 + 2000 + 2000 + 2000 + 2000 + 2000 + 2000 + 2000 + 2000 + 2000 + 2000 + 2000 + 2000 + 2000 + 2000 from rfl]
  rw [runN_add, runN_add, runN_add, runN_add, runN_add, runN_add, runN_add, runN_add, runN_add, runN_add, runN_add, runN_add, runN_add, runN_add, runN_add, r0, r1, r2, r3, r4, r5, r6, r7, r8, r9, r10, r11, r12, r13, r14, r15]
theorem runN_zero (n : Nat) : runN n 0 = 0 := by
  induction n with
  | zero => rfl
  | succ n ih => simpa [runN, gN] using ih
theorem X_gN (a : W) : (X a).toNat = gN a.toNat := by
  unfold X gN
  have h := BitVec.msb_eq_decide a
  have hb := a.isLt
  cases hm : a.msb with
  | false =>
    rw [hm] at h
    have h2 : a.toNat < 32768 := by simpa using h.symm
    simp [h2, BitVec.toNat_shiftLeft, Nat.shiftLeft_eq]; omega
  | true =>
    rw [hm] at h
    have h2 : ¬ a.toNat < 32768 := by
      have := h.symm
      simp at this
      omega
    simp only [h2, if_true, if_false, BitVec.toNat_xor, BitVec.toNat_shiftLeft, Nat.shiftLeft_eq]
    rw [show a.toNat * 2 ^ 1 % 2 ^ 16 = 2 * a.toNat - 65536 by omega]
    rfl
theorem run_ne (n : Nat) : ∀ a : W, runN n a.toNat ≠ 0 → ∀ j, j < n → Xn j a ≠ 1#16 := by
  induction n with
  | zero => intro a _ j hj; omega
  | succ n ih =>
    intro a h j hj
    simp only [runN] at h
    by_cases h1 : a.toNat = 1
    · rw [if_pos h1, runN_zero] at h; exact absurd rfl h
    · rw [if_neg h1, ← X_gN] at h
      rcases j with _ | j
      · intro e
        exact h1 (by rw [show a = 1#16 from e]; rfl)
      · have := ih (X a) h j (by omega)
        rwa [Xn_X] at this
theorem Xn_ne_one (k : Nat) (h0 : 0 < k) (h1 : k ≤ 32000) : Xn k 1#16 ≠ 1#16 := by
  obtain ⟨k, rfl⟩ : ∃ j, k = j + 1 := ⟨k - 1, by omega⟩
  have h := run_ne 32000 (X 1#16) (by rw [show (X 1#16).toNat = 2 from by decide, r_all]; decide) k (by omega)
  rwa [Xn_X] at h
theorem Xn_diff (i j : Nat) (h : i < j) (h1 : j - i ≤ 32000) (a : W) (ha : Xn i 1#16 = a) : Xn j 1#16 ≠ a := by
  intro e
  rw [← ha, show j = i + (j - i) by omega, Xn_add] at e
  exact Xn_ne_one (j - i) (by omega) h1 (Xn_inj e)
/-! ### A turned bit -/
def flip (l : List B) (i : Nat) : List B := l.set (i / 8) (l.getD (i / 8) 0#8 ^^^ (128#8 >>> (i % 8)))
theorem flip_length (l : List B) (i : Nat) : (flip l i).length = l.length := by simp [flip]
theorem bit_sum : ∀ r : Fin 8, Xn 8 (hi (128#8 >>> r.val)) = Xn (23 - r.val) 1#16 := by decide +kernel
theorem flip_parts (l : List B) (i : Nat) (h : i < 8 * l.length) : ∃ p b q, l = p ++ b :: q ∧ p.length = i / 8 ∧ q.length = l.length - 1 - i / 8 ∧ flip l i = p ++ (b ^^^ (128#8 >>> (i % 8))) :: q := by
  have hj : i / 8 < l.length := by omega
  refine ⟨l.take (i / 8), l[i / 8], l.drop (i / 8 + 1), ?_, ?_, ?_, ?_⟩
  · rw [← List.drop_eq_getElem_cons hj, List.take_append_drop]
  · rw [List.length_take]; omega
  · rw [List.length_drop]; omega
  · unfold flip
    rw [List.set_eq_take_append_cons_drop, if_pos hj, List.getD_eq_getElem?_getD, List.getElem?_eq_getElem hj]
    rfl
theorem flip_sum (l : List B) (i : Nat) (h : i < 8 * l.length) (c : W) : sum c (flip l i) = sum c l ^^^ Xn (8 * l.length - 1 - i) (Xn 16 1#16) := by
  obtain ⟨p, b, q, e1, e2, e3, e4⟩ := flip_parts l i h
  have hs : ∀ (s : W) (m : B), step s (b ^^^ m) = step s b ^^^ Xn 8 (hi m) := by
    intro s m
    have := step_xor s 0#16 b m
    rw [x0] at this
    rw [this]
    unfold step
    rw [BitVec.zero_xor]
  rw [e4, sum_append, sum_cons, hs, bit_sum ⟨i % 8, by omega⟩, sum_start, e3, ← Xn_add]
  have hl : sum c l = sum (step (sum c p) b) q := by rw [e1, sum_append, sum_cons]
  rw [hl, ← Xn_add]
  congr 2
  simp only
  omega
theorem flip_diff (n i : Nat) (h : i < 8 * n) : Xn (8 * n - 1 - i) (Xn 16 1#16) = Xn (8 * n + 15 - i) 1#16 := by
  rw [← Xn_add]; congr 1; omega
theorem flip_ne {n i : Nat} (h : i < 8 * n) : Xn (8 * n - 1 - i) (Xn 16 1#16) ≠ 0#16 := by
  intro e
  have := Xn_eq_zero e
  exact absurd (Xn_eq_zero this) (by decide)
theorem flip_inj {n i j : Nat} (hn : n ≤ 4000) (hi : i < 8 * n) (hj : j < 8 * n) (h : Xn (8 * n - 1 - i) (Xn 16 1#16) = Xn (8 * n - 1 - j) (Xn 16 1#16)) : i = j := by
  rw [flip_diff n i hi, flip_diff n j hj] at h
  rcases Nat.lt_trichotomy i j with c | c | c
  · exact absurd h (Xn_diff _ _ (by omega) (by omega) _ rfl)
  · exact c
  · exact absurd h.symm (Xn_diff _ _ (by omega) (by omega) _ rfl)
/-! ### The parity of a list -/
def parB (b : B) : Bool := par (b.zeroExtend 16)
def parL : List B → Bool
  | [] => false
  | b :: l => parB b ^^ parL l
theorem par_hi : ∀ b : B, par (hi b) = parB b := by decide +kernel
theorem parB_xor (a b : B) : parB (a ^^^ b) = (parB a ^^ parB b) := by
  unfold parB
  rw [← par_xor]
  congr 1
theorem par_step (c : W) (b : B) : par (step c b) = (par c ^^ parB b) := by
  unfold step
  rw [par_Xn, par_xor, par_hi]
theorem par_sum (l : List B) : ∀ c, par (sum c l) = (par c ^^ parL l) := by
  induction l with
  | nil => intro c; simp [sum_nil, parL]
  | cons b l ih =>
    intro c
    rw [sum_cons, ih, par_step, parL]
    cases par c <;> cases parB b <;> cases parL l <;> rfl
theorem parL_append (l m : List B) : parL (l ++ m) = (parL l ^^ parL m) := by
  induction l with
  | nil => simp [parL]
  | cons a l ih => rw [List.cons_append, parL, parL, ih]; cases parB a <;> cases parL l <;> cases parL m <;> rfl
theorem bit_par : ∀ r : Fin 8, parB (128#8 >>> r.val) = true := by decide
theorem parL_flip (l : List B) (i : Nat) (h : i < 8 * l.length) : parL (flip l i) = !parL l := by
  obtain ⟨p, b, q, e1, e2, e3, e4⟩ := flip_parts l i h
  rw [e4, e1, parL_append, parL_append, parL, parL, parB_xor, bit_par ⟨i % 8, by omega⟩]
  cases parL p <;> cases parB b <;> cases parL q <;> rfl
theorem sum_par {l m : List B} {c : W} (h : parL l ≠ parL m) : sum c l ≠ sum c m := by
  intro e
  have := congrArg par e
  rw [par_sum, par_sum] at this
  apply h
  cases h1 : par c <;> rw [h1] at this <;> simpa using this
theorem flip_comm (l : List B) (i j : Nat) : flip (flip l i) j = flip (flip l j) i := by
  apply List.ext_getElem
  · simp [flip]
  · intro k h1 h2
    have hk : k < l.length := by simpa [flip] using h1
    simp only [flip, List.getElem_set, List.getD_eq_getElem?_getD, List.getElem?_set]
    by_cases a : j / 8 = k <;> by_cases b : i / 8 = k
    · have hij : i / 8 = j / 8 := by omega
      simp [a, b, hk]
      rw [BitVec.xor_assoc, BitVec.xor_assoc, BitVec.xor_comm (128#8 >>> (i % 8))]
    · have : ¬ i / 8 = j / 8 := by omega
      have : ¬ j / 8 = i / 8 := by omega
      simp [*]
    · have : ¬ i / 8 = j / 8 := by omega
      have : ¬ j / 8 = i / 8 := by omega
      simp [*]
    · simp [a, b]
theorem flip_flip (l : List B) (i : Nat) (h : i < 8 * l.length) : flip (flip l i) i = l := by
  have hj : i / 8 < l.length := by omega
  apply List.ext_getElem
  · simp [flip]
  · intro k h1 h2
    simp only [flip, List.getElem_set, List.getD_eq_getElem?_getD, List.getElem?_set]
    by_cases a : i / 8 = k
    · subst a
      simp [hj]
      rw [BitVec.xor_assoc, BitVec.xor_self, BitVec.xor_zero]
    · simp [a]
end Crc
