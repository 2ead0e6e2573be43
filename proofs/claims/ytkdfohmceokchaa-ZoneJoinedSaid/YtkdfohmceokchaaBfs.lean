/- Lengths of ways: what fixes them. Plain Lean, no program. -/
namespace Go.Proofs.PlainBfs
structure LensOk (n s : Int) (Ed : Int → Int → Prop) (r : Int → Int) : Prop where
  low : ∀ v, 0 ≤ v → v < n → -1 ≤ r v
  start : r s = 0
  only : ∀ v, 0 ≤ v → v < n → r v = 0 → v = s
  step : ∀ a b, Ed a b → 0 ≤ r a → 0 ≤ r b ∧ r b ≤ r a + 1
  back : ∀ v, 0 ≤ v → v < n → 0 < r v → ∃ a, 0 ≤ a ∧ a < n ∧ Ed a v ∧ r a = r v - 1
theorem LensOk.le {n s : Int} {Ed : Int → Int → Prop} {r r' : Int → Int} (h : LensOk n s Ed r) (h' : LensOk n s Ed r') (d : Nat) : ∀ v, 0 ≤ v → v < n → r v = d → 0 ≤ r' v ∧ r' v ≤ d := by
  induction d with
  | zero =>
    intro v h0 h1 hv
    have := h.only v h0 h1 hv
    subst this
    rw [h'.start]
    omega
  | succ d ih =>
    intro v h0 h1 hv
    obtain ⟨a, ha0, ha1, he, ha⟩ := h.back v h0 h1 (by omega)
    have i := ih a ha0 ha1 (by omega)
    have j := h'.step a v he i.1
    omega
theorem LensOk.eq {n s : Int} {Ed : Int → Int → Prop} {r r' : Int → Int} (h : LensOk n s Ed r) (h' : LensOk n s Ed r') (v : Int) (h0 : 0 ≤ v) (h1 : v < n) : r v = r' v := by
  have l := h.low v h0 h1
  have l' := h'.low v h0 h1
  by_cases c : 0 ≤ r v
  · have i := h.le h' (r v).toNat v h0 h1 (by omega)
    have j := h'.le h (r' v).toNat v h0 h1 (by omega)
    omega
  · by_cases c' : 0 ≤ r' v
    · have j := h'.le h (r' v).toNat v h0 h1 (by omega)
      omega
    · omega
/-- The two ends of a way: told forwards from s and backwards from t. K: what may be gone through. -/
theorem both_le {n s t : Int} {E : Int → Int → Prop} {K : Int → Prop} {r r' : Int → Int}
    (h : LensOk n s (fun a b => E a b ∧ (a = s ∨ K a)) r) (h' : LensOk n t (fun u a => E a u ∧ (u = t ∨ K u)) r') (j : Nat) :
    ∀ v c, 0 ≤ v → v < n → r v = j → (v = t ∨ K v) → 0 ≤ r' v → r' v ≤ c → 0 ≤ r' s ∧ r' s ≤ c + j := by
  induction j with
  | zero =>
    intro v c h0 h1 hv _ hp hc
    have := h.only v h0 h1 hv
    subst this
    omega
  | succ j ih =>
    intro v c h0 h1 hv hk hp hc
    obtain ⟨a, ha0, ha1, ⟨he, hs⟩, ha⟩ := h.back v h0 h1 (by omega)
    have st := h'.step v a ⟨he, hk⟩ hp
    by_cases cs : a = s
    · subst cs; omega
    · have := ih a (c + 1) ha0 ha1 (by omega) (.inr (hs.resolve_left cs)) st.1 (by omega)
      omega
theorem both_ge {n s t : Int} {E : Int → Int → Prop} {K : Int → Prop} {r r' : Int → Int}
    (h : LensOk n s (fun a b => E a b ∧ (a = s ∨ K a)) r) (h' : LensOk n t (fun u a => E a u ∧ (u = t ∨ K u)) r') (j : Nat) :
    ∀ v c, 0 ≤ v → v < n → r' v = j → (v = s ∨ K v) → 0 ≤ r v → r v ≤ c → 0 ≤ r t ∧ r t ≤ c + j := by
  induction j with
  | zero =>
    intro v c h0 h1 hv _ hp hc
    have := h'.only v h0 h1 hv
    subst this
    omega
  | succ j ih =>
    intro v c h0 h1 hv hk hp hc
    obtain ⟨a, ha0, ha1, ⟨he, hs⟩, ha⟩ := h'.back v h0 h1 (by omega)
    have st := h.step v a ⟨he, hk⟩ hp
    by_cases cs : a = t
    · subst cs; omega
    · have := ih a (c + 1) ha0 ha1 (by omega) (.inr (hs.resolve_left cs)) st.1 (by omega)
      omega
theorem both {n s t : Int} {E : Int → Int → Prop} {K : Int → Prop} {r r' : Int → Int} (hs0 : 0 ≤ s) (hs1 : s < n) (ht0 : 0 ≤ t) (ht1 : t < n)
    (h : LensOk n s (fun a b => E a b ∧ (a = s ∨ K a)) r) (h' : LensOk n t (fun u a => E a u ∧ (u = t ∨ K u)) r') : r t = r' s := by
  have l := h.low t ht0 ht1
  have l' := h'.low s hs0 hs1
  have st := h.start
  have st' := h'.start
  by_cases c : 0 ≤ r t
  · have i := both_le h h' (r t).toNat t 0 ht0 ht1 (by omega) (.inl rfl) (by omega) (by omega)
    have j := both_ge h h' (r' s).toNat s 0 hs0 hs1 (by omega) (.inl rfl) (by omega) (by omega)
    omega
  · by_cases c' : 0 ≤ r' s
    · have j := both_ge h h' (r' s).toNat s 0 hs0 hs1 (by omega) (.inl rfl) (by omega) (by omega)
      omega
    · omega
theorem LensOk.congr {n s : Int} {Ed Ed' : Int → Int → Prop} {r : Int → Int} (h : LensOk n s Ed r) (he : ∀ a b, Ed a b ↔ Ed' a b) : LensOk n s Ed' r := by
  refine ⟨h.low, h.start, h.only, fun a b e => h.step a b ((he a b).2 e), fun v h0 h1 h2 => ?_⟩
  obtain ⟨a, a0, a1, a2, a3⟩ := h.back v h0 h1 h2
  exact ⟨a, a0, a1, (he a v).1 a2, a3⟩
def g (r : List Int) (v : Int) : Int := r.getD v.toNat 0
def cnt (r : List Int) : Nat := r.countP (fun x => decide (x < 0))
theorem g_set {r : List Int} {b v x : Int} (h0 : 0 ≤ b) (h1 : b < (r.length : Int)) (hv : 0 ≤ v) : g (r.set b.toNat x) v = if v = b then x else g r v := by
  unfold g
  by_cases c : v = b
  · subst c
    have : v.toNat < r.length := by omega
    simp [List.getD_eq_getElem?_getD, this]
  · have : ¬ b.toNat = v.toNat := by omega
    simp [List.getD_eq_getElem?_getD, c, List.getElem?_set_ne this]
theorem cnt_set {r : List Int} {b x : Int} (h0 : 0 ≤ b) (h1 : b < (r.length : Int)) (hn : g r b < 0) (hx : 0 ≤ x) : cnt (r.set b.toNat x) + 1 = cnt r := by
  have hb : b.toNat < r.length := by omega
  have hg : r[b.toNat] < 0 := by
    unfold g at hn
    simpa [List.getD_eq_getElem?_getD, hb] using hn
  have hp : 0 < r.countP (fun x => decide (x < 0)) := List.countP_pos_iff.2 ⟨_, List.getElem_mem hb, by simpa using hg⟩
  unfold cnt
  rw [List.countP_set hb]
  simp only [decide_eq_true_eq, hg, if_true]
  rw [if_neg (by omega)]
  omega
structure Inv (n : Nat) (s : Int) (Ed : Int → Int → Prop) (r q : List Int) : Prop where
  len : r.length = n
  low : ∀ v : Int, 0 ≤ v → v < n → -1 ≤ g r v
  hi : ∀ v : Int, 0 ≤ v → v < n → g r v + cnt r ≤ n
  start : g r s = 0
  sin : 0 ≤ s ∧ s < n
  only : ∀ v : Int, 0 ≤ v → v < n → g r v = 0 → v = s
  back : ∀ v : Int, 0 ≤ v → v < n → 0 < g r v → ∃ a : Int, 0 ≤ a ∧ a < n ∧ Ed a v ∧ g r a = g r v - 1
  qin : ∀ x ∈ q, 0 ≤ x ∧ x < n ∧ 0 ≤ g r x
  top : ∀ u rest, q = u :: rest → ∀ v : Int, 0 ≤ v → v < n → g r v ≤ g r u + 1
  sorted : q.Pairwise (fun x y => g r x ≤ g r y)
  fin : ∀ a : Int, 0 ≤ a → a < n → 0 ≤ g r a → a ∈ q ∨ ∀ b, Ed a b → 0 ≤ g r b ∧ g r b ≤ g r a + 1
theorem Inv.pop {n : Nat} {s : Int} {Ed : Int → Int → Prop} {r rest : List Int} {u : Int} (h : Inv n s Ed r (u :: rest)) (hu : ∀ b, Ed u b → 0 ≤ g r b ∧ g r b ≤ g r u + 1) : Inv n s Ed r rest := by
  refine { h with qin := fun x hx => h.qin x (List.mem_cons_of_mem _ hx), top := ?_, sorted := (List.pairwise_cons.1 h.sorted).2, fin := ?_ }
  · intro w rs e v h0 h1
    subst e
    have a := h.top u _ rfl v h0 h1
    have b := (List.pairwise_cons.1 h.sorted).1 w (by simp)
    omega
  · intro a h0 h1 ha
    rcases h.fin a h0 h1 ha with hm | hs
    · rcases List.mem_cons.1 hm with rfl | hm
      · exact .inr hu
      · exact .inl hm
    · exact .inr hs
theorem Inv.good {n : Nat} {s : Int} {Ed : Int → Int → Prop} {r : List Int} (h : Inv n s Ed r []) (he : ∀ a b, Ed a b → 0 ≤ a ∧ a < n ∧ 0 ≤ b ∧ b < n) : LensOk n s Ed (g r) := by
  refine ⟨h.low, h.start, h.only, fun a b e ha => ?_, h.back⟩
  have i := he a b e
  rcases h.fin a i.1 i.2.1 ha with hm | hs
  · cases hm
  · exact hs b e
theorem Inv.assign {n : Nat} {s : Int} {Ed : Int → Int → Prop} {r rest : List Int} {u b : Int} (h : Inv n s Ed r (u :: rest)) (hb0 : 0 ≤ b) (hb1 : b < n) (hn : g r b < 0) (he : Ed u b) (hE : ∀ a b, Ed a b → 0 ≤ a ∧ a < n ∧ 0 ≤ b ∧ b < n) :
    Inv n s Ed (r.set b.toNat (g r u + 1)) (u :: rest ++ [b]) := by
  have hl : b < (r.length : Int) := by rw [h.len]; exact hb1
  have hu := h.qin u (by simp)
  have G : ∀ v : Int, 0 ≤ v → g (r.set b.toNat (g r u + 1)) v = if v = b then g r u + 1 else g r v := fun v hv => g_set hb0 hl hv
  have C := cnt_set (x := g r u + 1) hb0 hl hn (by omega)
  have hsb : s ≠ b := by intro e; subst e; rw [h.start] at hn; omega
  have hub : u ≠ b := by intro e; subst e; omega
  refine ⟨by rw [List.length_set]; exact h.len, ?_, ?_, ?_, h.sin, ?_, ?_, ?_, ?_, ?_, ?_⟩
  · intro v h0 h1
    rw [G v h0]
    have := h.low v h0 h1
    split <;> omega
  · intro v h0 h1
    rw [G v h0]
    have a := h.hi v h0 h1
    have c := h.hi u hu.1 hu.2.1
    split <;> omega
  · rw [G s h.sin.1, if_neg hsb, h.start]
  · intro v h0 h1
    rw [G v h0]
    split
    · intro e; omega
    · exact h.only v h0 h1
  · intro v h0 h1
    rw [G v h0]
    split
    · rename_i e
      subst e
      intro _
      exact ⟨u, hu.1, hu.2.1, he, by rw [G u hu.1, if_neg hub]; omega⟩
    · intro hp
      obtain ⟨a, a0, a1, a2, a3⟩ := h.back v h0 h1 hp
      refine ⟨a, a0, a1, a2, ?_⟩
      rw [G a a0, if_neg ?_, a3]
      intro e
      subst e
      omega
  · intro x hx
    rcases List.mem_append.1 hx with hx | hx
    · have i := h.qin x hx
      refine ⟨i.1, i.2.1, ?_⟩
      rw [G x i.1]
      split <;> omega
    · rw [List.mem_singleton] at hx
      subst hx
      refine ⟨hb0, hb1, ?_⟩
      rw [G x hb0, if_pos rfl]
      omega
  · intro w rs e v h0 h1
    rw [List.cons_append] at e
    injection e with e1 e2
    subst e1
    rw [G u hu.1, if_neg hub, G v h0]
    have := h.top u _ rfl v h0 h1
    split <;> omega
  · rw [List.pairwise_append]
    refine ⟨?_, List.pairwise_singleton _ _, ?_⟩
    · refine List.Pairwise.imp_of_mem ?_ h.sorted
      intro x y hx hy hxy
      have i := h.qin x hx
      have j := h.qin y hy
      rw [G x i.1, G y j.1, if_neg (by intro e; subst e; omega), if_neg (by intro e; subst e; omega)]
      exact hxy
    · intro x hx y hy
      rw [List.mem_singleton] at hy
      subst hy
      have i := h.qin x hx
      rw [G x i.1, G y hb0, if_pos rfl]
      have := h.top u _ rfl x i.1 i.2.1
      split <;> omega
  · intro a h0 h1
    rw [G a h0]
    split
    · rename_i e
      subst e
      intro _
      exact .inl (by simp)
    · intro ha
      rcases h.fin a h0 h1 ha with hm | hs
      · exact .inl (List.mem_append_left _ hm)
      · refine .inr fun c hc => ?_
        have i := hs c hc
        have k := hE a c hc
        rw [G c k.2.2.1, if_neg (by intro e; subst e; omega)]
        exact i
theorem Inv.init {n : Nat} {s : Int} {Ed : Int → Int → Prop} (h0 : 0 ≤ s) (h1 : s < n) : Inv n s Ed ((List.replicate n (-1 : Int)).set s.toNat 0) [s] := by
  have hl : s < ((List.replicate n (-1 : Int)).length : Int) := by simpa using h1
  have R : ∀ v : Int, 0 ≤ v → v < n → g (List.replicate n (-1 : Int)) v = -1 := by
    intro v hv hn
    have : v.toNat < n := by omega
    simp [g, List.getD_eq_getElem?_getD, this]
  have G : ∀ v : Int, 0 ≤ v → v < n → g ((List.replicate n (-1 : Int)).set s.toNat 0) v = if v = s then 0 else -1 := by
    intro v hv hn
    rw [g_set h0 hl hv, R v hv hn]
  have C := cnt_set (x := 0) h0 hl (by rw [R s h0 h1]; omega) (by omega)
  have D : cnt (List.replicate n (-1 : Int)) ≤ n := by
    have := List.countP_le_length (p := fun x : Int => decide (x < 0)) (l := List.replicate n (-1 : Int))
    simpa [cnt] using this
  refine ⟨by simp, ?_, ?_, by rw [G s h0 h1, if_pos rfl], ⟨h0, h1⟩, ?_, ?_, ?_, ?_, List.pairwise_singleton _ _, ?_⟩
  · intro v hv hn; rw [G v hv hn]; split <;> omega
  · intro v hv hn; rw [G v hv hn]; split <;> omega
  · intro v hv hn; rw [G v hv hn]; split
    · intro _; assumption
    · intro e; omega
  · intro v hv hn; rw [G v hv hn]; split <;> (intro e; omega)
  · intro x hx
    rw [List.mem_singleton] at hx
    subst hx
    exact ⟨h0, h1, by rw [G x h0 h1, if_pos rfl]; omega⟩
  · intro u rest e v hv hn
    injection e with e1 e2
    subst e1
    rw [G v hv hn, G s h0 h1, if_pos rfl]
    split <;> omega
  · intro a ha hn
    rw [G a ha hn]
    split
    · rename_i e; subst e; intro _; exact .inl (by simp)
    · intro e; omega
/-! Rounds: until nothing changes. -/
def wt (x : Int) : Nat := if x < 0 then 1000 else x.toNat
def meas (r : List Int) : Nat := (r.map wt).sum
theorem meas_set (r : List Int) : ∀ (b : Nat) (x : Int), b < r.length → wt x < wt (r.getD b 0) → meas (r.set b x) < meas r := by
  induction r with
  | nil => intro b x h; simp at h
  | cons y r ih =>
    intro b x h hw
    cases b with
    | zero =>
      simp at hw
      simp [meas]
      omega
    | succ b =>
      have := ih b x (by simpa using h) (by simpa using hw)
      simp only [List.set_cons_succ, meas, List.map_cons, List.sum_cons]
      unfold meas at this
      omega
structure Inr (n : Nat) (s : Int) (Ed : Int → Int → Prop) (r : List Int) : Prop where
  len : r.length = n
  low : ∀ v : Int, 0 ≤ v → v < n → -1 ≤ g r v
  hi : ∀ v : Int, 0 ≤ v → v < n → g r v + cnt r ≤ n
  start : g r s = 0
  sin : 0 ≤ s ∧ s < n
  only : ∀ v : Int, 0 ≤ v → v < n → g r v = 0 → v = s
  back : ∀ v : Int, 0 ≤ v → v < n → 0 < g r v → ∃ a : Int, 0 ≤ a ∧ a < n ∧ Ed a v ∧ 0 ≤ g r a ∧ g r a ≤ g r v - 1
theorem Inr.good {n : Nat} {s : Int} {Ed : Int → Int → Prop} {r : List Int} (h : Inr n s Ed r) (hs : ∀ a b, Ed a b → 0 ≤ g r a → 0 ≤ g r b ∧ g r b ≤ g r a + 1) : LensOk n s Ed (g r) := by
  refine ⟨h.low, h.start, h.only, hs, fun v h0 h1 hv => ?_⟩
  obtain ⟨a, a0, a1, a2, a3, a4⟩ := h.back v h0 h1 hv
  have := hs a v a2 a3
  exact ⟨a, a0, a1, a2, by omega⟩
theorem Inr.set {n : Nat} {s : Int} {Ed : Int → Int → Prop} {r : List Int} {a b : Int} (h : Inr n s Ed r) (he : Ed a b) (ha0 : 0 ≤ a) (ha1 : a < n) (hb0 : 0 ≤ b) (hb1 : b < n) (ha : 0 ≤ g r a) (hb : g r b < 0 ∨ g r a + 1 < g r b) (hn : n ≤ 900) :
    Inr n s Ed (r.set b.toNat (g r a + 1)) ∧ meas (r.set b.toNat (g r a + 1)) < meas r := by
  have hl : b < (r.length : Int) := by rw [h.len]; exact hb1
  have G : ∀ v : Int, 0 ≤ v → g (r.set b.toNat (g r a + 1)) v = if v = b then g r a + 1 else g r v := fun v hv => g_set hb0 hl hv
  have hia := h.hi a ha0 ha1
  have hsb : s ≠ b := by intro e; subst e; have := h.start; omega
  have hab : a ≠ b := by intro e; subst e; omega
  have C : cnt (r.set b.toNat (g r a + 1)) ≤ cnt r ∧ (g r b < 0 → cnt (r.set b.toNat (g r a + 1)) + 1 = cnt r) := by
    rcases Int.lt_or_le (g r b) 0 with c | c
    · have := cnt_set (x := g r a + 1) hb0 hl c (by omega)
      exact ⟨by omega, fun _ => this⟩
    · refine ⟨?_, fun h => by omega⟩
      have hb' : b.toNat < r.length := by omega
      have hg : ¬ r[b.toNat] < 0 := by
        have : g r b = r[b.toNat] := by simp [g, List.getD_eq_getElem?_getD, hb']
        omega
      unfold cnt
      rw [List.countP_set hb']
      simp only [decide_eq_true_eq, hg, if_false]
      rw [if_neg (by omega)]
      omega
  refine ⟨⟨by rw [List.length_set]; exact h.len, ?_, ?_, ?_, h.sin, ?_, ?_⟩, ?_⟩
  · intro v h0 h1
    rw [G v h0]
    have := h.low v h0 h1
    split <;> omega
  · intro v h0 h1
    rw [G v h0]
    have i := h.hi v h0 h1
    have j := h.hi b hb0 hb1
    split
    · rcases hb with hb | hb
      · have := C.2 hb; omega
      · have := C.1; omega
    · have := C.1; omega
  · rw [G s h.sin.1, if_neg hsb, h.start]
  · intro v h0 h1
    rw [G v h0]
    split
    · intro e; omega
    · exact h.only v h0 h1
  · intro v h0 h1
    rw [G v h0]
    split
    · rename_i e
      subst e
      intro _
      exact ⟨a, ha0, ha1, he, by rw [G a ha0, if_neg hab]; omega⟩
    · intro hp
      obtain ⟨c, c0, c1, c2, c3, c4⟩ := h.back v h0 h1 hp
      refine ⟨c, c0, c1, c2, ?_⟩
      rw [G c c0]
      split
      · rename_i e
        subst e
        omega
      · omega
  · refine meas_set r b.toNat _ (by omega) ?_
    have e : r.getD b.toNat 0 = g r b := rfl
    rw [e]
    unfold wt
    rw [if_neg (by omega)]
    split <;> omega
theorem Inr.init {n : Nat} {s : Int} {Ed : Int → Int → Prop} (h0 : 0 ≤ s) (h1 : s < n) : Inr n s Ed ((List.replicate n (-1 : Int)).set s.toNat 0) := by
  have I := Inv.init (Ed := Ed) h0 h1
  exact ⟨I.len, I.low, I.hi, I.start, I.sin, I.only, fun v a b c => by
    obtain ⟨x, y0, y1, y2, y3⟩ := I.back v a b c
    exact ⟨x, y0, y1, y2, by omega⟩⟩
end Go.Proofs.PlainBfs
