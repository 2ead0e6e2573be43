/- stillagelaw09.ZoneOrders is true at every list of numbers: no condition. -/
import Derived.OpenShut
import Derived.Test.YtkdfohmceokchaaEvt
import Derived.Test.YtkdfohmceokchaaPZoneOrdersx
set_option linter.unusedVariables false
set_option linter.unusedSimpArgs false
set_option maxRecDepth 10000
namespace Go.Proofs.Ytkdfohmceokchaa.Pure
open Go.RowKit Go.Proofs.Ytkdfohmceokchaa.PZoneOrders Go.Proofs.YtkdfohmceokchaaW.PrintWords Go.Proofs.YtkdfohmceokchaaW.PrintLast Go.Proofs.PlainEvt
theorem wsm {n : Int} (h0 : -9223372036854775808 ≤ n) (h1 : n ≤ 9223372036854775807) : wrap64 n = n := by unfold wrap64; omega
theorem wnext (i : Nat) (h : i ≤ 1000000000) : wrap64 ((i : Int) + 1) = ((i + 1 : Nat) : Int) := by rw [wsm] <;> omega
theorem rd_in {l : List Int} {i : Nat} (h : i < l.length) : rd l (i : Int) = l[i] := by simp [rd, List.getElem?_eq_getElem h]
theorem ext_of_sorted {α : Type} (r : α → α → Prop) (hi : ∀ a, ¬ r a a) (ha : ∀ a b, r a b → ¬ r b a) : ∀ l1 l2 : List α, l1.Pairwise r → l2.Pairwise r → (∀ x, x ∈ l1 ↔ x ∈ l2) → l1 = l2
  | [], [], _, _, _ => rfl
  | [], b :: l2, _, _, h => by have := (h b).2 List.mem_cons_self; simp at this
  | a :: l1, [], _, _, h => by have := (h a).1 List.mem_cons_self; simp at this
  | a :: l1, b :: l2, h1, h2, h => by
    rw [List.pairwise_cons] at h1 h2
    have e : a = b := by
      rcases List.mem_cons.mp ((h a).1 List.mem_cons_self) with e | e
      · exact e
      · rcases List.mem_cons.mp ((h b).2 List.mem_cons_self) with e' | e'
        · exact e'.symm
        · exact absurd (h1.1 b e') (ha _ _ (h2.1 a e))
    subst e
    congr 1
    refine ext_of_sorted r hi ha l1 l2 h1.2 h2.2 (fun x => ?_)
    constructor
    · intro hx
      rcases List.mem_cons.mp ((h x).1 (List.mem_cons_of_mem _ hx)) with e | e
      · subst e; exact absurd (h1.1 x hx) (hi x)
      · exact e
    · intro hx
      rcases List.mem_cons.mp ((h x).2 (List.mem_cons_of_mem _ hx)) with e | e
      · subst e; exact absurd (h2.1 x hx) (hi x)
      · exact e
/-- What is told of numbers put in order. -/
structure OrdZ (l R : List Int) : Prop where
  pw : R.Pairwise (fun x y => x < y)
  mem : ∀ x, x ∈ R ↔ x ∈ l
theorem OrdZ.eq {l R Q : List Int} (h : OrdZ l R) (h' : OrdZ l Q) : R = Q :=
  ext_of_sorted _ (fun _ => by omega) (fun _ _ _ => by omega) R Q h.pw h'.pw (fun x => (h.mem x).trans (h'.mem x).symm)
theorem comp_inv (s : Array Int) (hs : ∀ i j, i < j → j < s.size → s[i]! ≤ s[j]!) : ∀ m, m ≤ s.size →
    (Lib.compactUpTo s m).Pairwise (fun x y => x < y) ∧ (∀ x ∈ Lib.compactUpTo s m, ∃ j, j < m ∧ x = s[j]!) ∧ ∀ j, j < m → s[j]! ∈ Lib.compactUpTo s m := by
  intro m
  induction m with
  | zero => intro _; exact ⟨by simp [Lib.compactUpTo], by simp [Lib.compactUpTo], fun j h => by omega⟩
  | succ m ih =>
    intro hm
    obtain ⟨h1, h2, h3⟩ := ih (by omega)
    rw [Lib.compactUpTo_succ]
    cases hk : Lib.keeps s m with
    | false =>
      have hz : m ≠ 0 ∧ s[m]! = s[m - 1]! := by simpa [Lib.keeps] using hk
      simp only [Bool.false_eq_true, if_false, List.append_nil]
      refine ⟨h1, fun x hx => ?_, fun j hj => ?_⟩
      · obtain ⟨j, hj, e⟩ := h2 x hx
        exact ⟨j, by omega, e⟩
      · by_cases e : j = m
        · subst e; rw [hz.2]; exact h3 _ (by omega)
        · exact h3 j (by omega)
    | true =>
      have hz : m = 0 ∨ s[m]! ≠ s[m - 1]! := by simpa [Lib.keeps] using hk
      simp only [if_true]
      refine ⟨?_, fun x hx => ?_, fun j hj => ?_⟩
      · rw [List.pairwise_append]
        refine ⟨h1, by simp, fun x hx y hy => ?_⟩
        obtain rfl : y = s[m]! := by simpa using hy
        obtain ⟨j, hj, rfl⟩ := h2 x hx
        rcases hz with rfl | hz
        · omega
        · have hlast : s[m - 1]! < s[m]! := by
            have := hs (m - 1) m (by omega) (by omega)
            omega
          by_cases e : j = m - 1
          · subst e; exact hlast
          · have := hs j (m - 1) (by omega) (by omega)
            omega
      · rcases List.mem_append.mp hx with hx | hx
        · obtain ⟨j, hj, e⟩ := h2 x hx
          exact ⟨j, by omega, e⟩
        · obtain rfl : x = s[m]! := by simpa using hx
          exact ⟨m, by omega, rfl⟩
      · by_cases e : j = m
        · subst e; simp
        · exact List.mem_append_left _ (h3 j (by omega))
theorem sortZ_sorted (l : List Int) : ∀ i j, i < j → j < (sortZ l).toArray.size → (sortZ l).toArray[i]! ≤ (sortZ l).toArray[j]! := by
  intro i j hij hj
  have hp := List.pairwise_mergeSort (le := fun x y : Int => decide (x ≤ y)) (fun a b c h1 h2 => by simp at *; omega) (fun a b => by simp; omega) l
  rw [List.pairwise_iff_getElem] at hp
  have hj' : j < (l.mergeSort fun x y => decide (x ≤ y)).length := by simpa [sortZ] using hj
  have := hp i j (by omega) hj' hij
  rw [getElem!_pos (sortZ l).toArray i (by omega), getElem!_pos (sortZ l).toArray j hj]
  simpa [sortZ] using this
theorem orderZ_ord (l : List Int) : OrdZ l (orderZ l) := by
  obtain ⟨h1, h2, h3⟩ := comp_inv (sortZ l).toArray (sortZ_sorted l) _ (Nat.le_refl _)
  have hm : ∀ y, y ∈ sortZ l ↔ y ∈ l := fun y => by simp [sortZ, List.mem_mergeSort]
  refine ⟨h1, fun x => ⟨fun hx => ?_, fun hx => ?_⟩⟩
  · obtain ⟨j, hj, e⟩ := h2 x hx
    rw [← hm, e, getElem!_pos (sortZ l).toArray j hj]
    simp
  · rw [← hm] at hx
    obtain ⟨j, hj, e⟩ := List.getElem_of_mem hx
    have hj' : j < (sortZ l).toArray.size := by simpa using hj
    have := h3 j hj'
    rw [getElem!_pos (sortZ l).toArray j hj'] at this
    rw [← e]
    simpa [orderZ] using this
theorem Ints_loop (x y : List Int) (hl : x.length = y.length) (hm : x.length ≤ 100000) (n : Nat) : ∀ i : Nat, i + n = x.length → EvP (fun k => stillageref01_Ints.l0 k x y (x.length : Int) (i : Int)) (fun r => r = true ↔ x.drop i = y.drop i) := by
  induction n with
  | zero =>
    intro i hi
    refine EvP.succ (fun k => stillageref01_Ints.l0.eq_2 _ _ _ _ k) (EvP.no (by omega) (EvP.ret ?_))
    rw [List.drop_eq_nil_of_le (by omega), List.drop_eq_nil_of_le (by omega)]
    simp
  | succ n ih =>
    intro i hi
    have h1 : i < x.length := by omega
    have h2 : i < y.length := by omega
    have e1 : rd x (i : Int) = x[i] := rd_in h1
    have e2 : rd y (i : Int) = y[i] := rd_in h2
    refine EvP.succ (fun k => stillageref01_Ints.l0.eq_2 _ _ _ _ k) (EvP.yes (by omega) (EvP.yes (by omega) (EvP.yes (by omega) (EvP.yes (by omega) (EvP.split (fun c => ?_) (fun c => EvP.ret ?_))))))
    · rw [wnext i (by omega)]
      refine (ih (i + 1) (by omega)).mono (fun r h => ?_)
      rw [h, List.drop_eq_getElem_cons h1, List.drop_eq_getElem_cons h2]
      rw [e1, e2] at c
      simp only [List.cons.injEq, c, true_and]
    · rw [List.drop_eq_getElem_cons h1, List.drop_eq_getElem_cons h2]
      rw [e1, e2] at c
      simp only [List.cons.injEq, c, false_and]
      simp
theorem Ints_e (x y : List Int) (hm : x.length ≤ 100000) : EvP (fun k => stillageref01_Ints.f k x y) (fun r => r = true ↔ x = y) := by
  refine EvP.split (fun c => ?_) (fun c => EvP.ret ?_)
  · exact Ints_loop x y (by omega) hm x.length 0 (by omega)
  · constructor
    · intro h; cases h
    · rintro rfl
      exact absurd rfl c
theorem Ints_eq {x y : List Int} (h : x = y) (hm : x.length ≤ 100000) : EvP (fun k => stillageref01_Ints.f k x y) (fun r => r = true) := (Ints_e x y hm).mono (fun r e => e.2 h)
theorem stuck1 : Evt (fun k => zone_Stuck.f k [⟨[0], 1⟩, ⟨[1], 0⟩]) ([0, 1], 0) := Evt.mono (n := 20) (by decide +kernel) (fun k r h => zone_Stuck.mono _ k r h)
theorem stuck2 : Evt (fun k => zone_Stuck.f k [⟨[0], 1⟩, ⟨[1], -1⟩]) ([], 0) := Evt.mono (n := 20) (by decide +kernel) (fun k r h => zone_Stuck.mono _ k r h)
theorem order1 : zone_Order.f [3, 1, 3] = some ([1, 3], 0) := by
  unfold zone_Order.f
  rw [if_pos (by simp), if_neg (by decide), (orderZ_ord [3, 1, 3]).eq (Q := [1, 3]) ⟨by simp, fun x => by simp; omega⟩]
theorem awake_e : EvP (fun k => stillagelaw09_awake.f k) (fun r => r = true) := by
  refine EvP.ebind stuck1 (EvP.ebind stuck2 (EvP.obind order1 ?_))
  refine EvP.yes rfl (EvP.yes rfl (EvP.yes rfl (EvP.yes rfl (EvP.yes rfl ?_))))
  exact EvP.bind (Ints_eq rfl (by simp)) (fun a ha => EvP.ret ha)
theorem RO_l2 (l : List Int) (hn : l.length ≤ 300) (P : List Int × Bool → Prop) (z : Nat) (hz : z < 8) (out : List Int) (ho : out.length ≤ 8) (n : Nat) : ∀ i : Nat, i + n = l.length →
    ((z : Int) ∈ l.drop i → EvP (fun k => stillageref09_Order.l1 k l (out ++ [(z : Int)]) ((z + 1 : Nat) : Int)) P) → (¬ (z : Int) ∈ l.drop i → EvP (fun k => stillageref09_Order.l1 k l out ((z + 1 : Nat) : Int)) P) →
    EvP (fun k => stillageref09_Order.l2 k l out (z : Int) (l.length : Int) (i : Int)) P := by
  induction n with
  | zero =>
    intro i hi h1 h2
    refine EvP.succ (fun k => by rw [stillageref09_Order.l2]) (EvP.no (by omega) ?_)
    rw [wnext z (by omega)]
    exact h2 (by rw [List.drop_eq_nil_of_le (by omega)]; simp)
  | succ n ih =>
    intro i hi h1 h2
    have hl : i < l.length := by omega
    rw [List.drop_eq_getElem_cons hl] at h1 h2
    refine EvP.succ (fun k => by rw [stillageref09_Order.l2]) (EvP.yes (by omega) (EvP.yes (by omega) (EvP.yes (by omega) (EvP.split (fun c => EvP.yes (by omega) ?_) (fun c => ?_)))))
    · rw [wnext z (by omega)]
      rw [rd_in hl] at c
      exact h1 (by rw [← c]; exact List.mem_cons_self)
    · rw [wnext i (by omega)]
      rw [rd_in hl] at c
      exact ih (i + 1) (by omega) (fun h => h1 (List.mem_cons_of_mem _ h)) (fun h => h2 (by
        intro h3
        rcases List.mem_cons.mp h3 with e | e
        · exact c e.symm
        · exact h e))
theorem RO_l1 (l : List Int) (hn : l.length ≤ 300) (hl : ∀ x ∈ l, 0 ≤ x ∧ x ≤ 7) (d : Nat) : ∀ (z : Nat) (out : List Int), z + d = 8 → out.length ≤ z → out.Pairwise (fun x y => x < y) → (∀ x, x ∈ out ↔ x ∈ l ∧ x < z) →
    EvP (fun k => stillageref09_Order.l1 k l out (z : Int)) (fun r => r.2 = true ∧ OrdZ l r.1) := by
  induction d with
  | zero =>
    intro z out hz ho hp hm
    refine EvP.succ (fun k => by rw [stillageref09_Order.l1]) (EvP.no (by omega) (EvP.ret ⟨rfl, hp, fun x => ?_⟩))
    rw [hm]
    exact ⟨fun h => h.1, fun h => ⟨h, by have := hl x h; omega⟩⟩
  | succ d ih =>
    intro z out hz ho hp hm
    refine EvP.succ (fun k => by rw [stillageref09_Order.l1]) (EvP.yes (by omega) ?_)
    refine RO_l2 l hn _ z (by omega) out (by omega) l.length 0 (by omega) (fun hin => ?_) (fun hin => ?_)
    · rw [List.drop_zero] at hin
      refine ih (z + 1) (out ++ [(z : Int)]) (by omega) (by simp; omega) ?_ (fun x => ?_)
      · rw [List.pairwise_append]
        refine ⟨hp, by simp, fun x hx y hy => ?_⟩
        have e : y = (z : Int) := by simpa using hy
        have := (hm x).1 hx
        omega
      · rw [List.mem_append, hm, List.mem_singleton]
        constructor
        · rintro (h | rfl)
          · exact ⟨h.1, by omega⟩
          · exact ⟨hin, by omega⟩
        · rintro ⟨h, h2⟩
          by_cases e : x = (z : Int)
          · exact .inr e
          · exact .inl ⟨h, by omega⟩
    · rw [List.drop_zero] at hin
      refine ih (z + 1) out (by omega) (by omega) hp (fun x => ?_)
      rw [hm]
      constructor
      · rintro ⟨h, h2⟩
        exact ⟨h, by omega⟩
      · rintro ⟨h, h2⟩
        refine ⟨h, ?_⟩
        have : x ≠ (z : Int) := by rintro rfl; exact hin h
        omega
theorem RO_e (l : List Int) (hn : l.length ≤ 300) (n : Nat) : ∀ i : Nat, i + n = l.length → (∀ x ∈ l.take i, badZ x = false) →
    EvP (fun k => stillageref09_Order.l0 k l (l.length : Int) (i : Int)) (fun r => (l.any badZ = true ∧ r = ([], false)) ∨ (l.any badZ = false ∧ r.2 = true ∧ OrdZ l r.1)) := by
  induction n with
  | zero =>
    intro i hi hb
    rw [List.take_of_length_le (by omega)] at hb
    refine EvP.succ (fun k => by rw [stillageref09_Order.l0]) (EvP.no (by omega) ?_)
    have hany : l.any badZ = false := by rw [List.any_eq_false]; intro x hx; rw [hb x hx]; simp
    refine (RO_l1 l hn (fun x hx => ?_) 8 0 [] (by omega) (by simp) (by simp) (fun x => ?_)).mono (fun r hr => .inr ⟨hany, hr⟩)
    · have := hb x hx
      unfold badZ at this
      simp at this
      omega
    · simp
      intro hx
      have := hb x hx
      unfold badZ at this
      simp at this
      omega
  | succ n ih =>
    intro i hi hb
    have hl : i < l.length := by omega
    have hbad : badZ l[i] = true → l.any badZ = true := fun h => List.any_eq_true.mpr ⟨_, List.getElem_mem hl, h⟩
    refine EvP.succ (fun k => by rw [stillageref09_Order.l0]) (EvP.yes (by omega) (EvP.yes (by omega) (EvP.yes (by omega) ?_)))
    rw [rd_in hl]
    refine EvP.split (fun c => EvP.ret (.inl ⟨hbad (by unfold badZ; simp; omega), rfl⟩)) (fun c => EvP.split (fun c2 => EvP.ret (.inl ⟨hbad (by unfold badZ; simp; omega), rfl⟩)) (fun c2 => ?_))
    rw [wnext i (by omega)]
    refine ih (i + 1) (by omega) (fun x hx => ?_)
    rw [List.take_succ_eq_append_getElem hl] at hx
    rcases List.mem_append.mp hx with h | h
    · exact hb x h
    · obtain rfl : x = l[i] := by simpa using h
      unfold badZ
      simp
      omega
theorem OrdZ.short {l R : List Int} (h : OrdZ l R) (hl : ∀ x ∈ l, badZ x = false) : R.length ≤ 8 := by
  have g : ∀ (n : Nat) (Q : List Int) (b : Int), Q.length = n → Q.Pairwise (fun x y => x < y) → (∀ x ∈ Q, b ≤ x ∧ x ≤ 7) → b + (n : Int) ≤ 8 ∨ n = 0 := by
    intro n
    induction n with
    | zero => intro Q b _ _ _; exact .inr rfl
    | succ n ih =>
      intro Q b hn hp hQ
      cases Q with
      | nil => simp at hn
      | cons q Q =>
        rw [List.pairwise_cons] at hp
        have h0 := hQ q List.mem_cons_self
        rcases ih Q (q + 1) (by simpa using hn) hp.2 (fun x hx => ⟨by have := hp.1 x hx; omega, (hQ x (List.mem_cons_of_mem _ hx)).2⟩) with h | h
        · left; omega
        · left; subst h; omega
  rcases g R.length R 0 rfl h.pw (fun x hx => by have := hl x ((h.mem x).1 hx); unfold badZ at this; simp at this; omega) with h | h <;> omega
theorem ZoneOrders : stillagelaw09_ZoneOrders.Pure := by
  intro l hm hb hw
  suffices h : EvP (fun k => stillagelaw09_ZoneOrders.f k l) (fun r => r = true) by
    obtain ⟨k, r, h1, h2⟩ := h.get
    exact ⟨k, by rw [h1, h2]⟩
  refine EvP.bind awake_e (fun a ha => EvP.yes ha ?_)
  refine EvP.succ (fun k => by rw [stillagelaw09_ZoneOrders.j0]) (EvP.split (fun c => EvP.bind awake_e (fun b hb => EvP.ret hb)) (fun c => ?_))
  have hn : l.length ≤ 300 := by simp at c; omega
  refine EvP.obind rfl (EvP.yes (by simp; omega) (EvP.obind rfl ?_))
  rw [List.nil_append]
  have hO : zone_Order.f l = some (if l.any badZ = true then ([], 1) else (orderZ l, 0)) := by
    unfold zone_Order.f
    rw [if_pos (by omega)]
    split <;> rfl
  refine EvP.obind hO (EvP.bind (RO_e l hn l.length 0 (by omega) (by simp)) (fun q hq => EvP.bind (Ints_eq rfl (by omega)) (fun b hb => EvP.yes hb ?_)))
  rcases hq with ⟨h1, rfl⟩ | ⟨h1, h2, h3⟩
  · rw [if_pos h1]
    refine EvP.yes rfl (EvP.no (by simp) (EvP.yes rfl ?_))
    exact EvP.bind (Ints_eq rfl (by simp)) (fun a ha => EvP.ret ha)
  · rw [if_neg (by rw [h1]; simp)]
    refine EvP.yes (by rw [h2]; rfl) (EvP.yes h2 ?_)
    have hs := (orderZ_ord l).short (fun x hx => by
      have := List.any_eq_false.mp h1 x hx
      simpa using this)
    exact EvP.bind (Ints_eq ((orderZ_ord l).eq h3) (show (orderZ l).length ≤ 100000 by omega)) (fun a ha => EvP.ret ha)

end Go.Proofs.Ytkdfohmceokchaa.Pure
