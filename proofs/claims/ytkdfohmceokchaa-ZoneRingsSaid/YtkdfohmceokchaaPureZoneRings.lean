/- stillagelaw09.ZoneRings is true at every three numbers: no condition. -/
import Derived.OpenShut
import Derived.Test.YtkdfohmceokchaaEvt
import Derived.Test.YtkdfohmceokchaaPZoneRingsx
set_option linter.unusedVariables false
set_option linter.unusedSimpArgs false
set_option maxRecDepth 10000
namespace Go.Proofs.Ytkdfohmceokchaa.Pure
open Go.RowKit Go.Proofs.Ytkdfohmceokchaa.PZoneRings Go.Proofs.YtkdfohmceokchaaW.PrintWords Go.Proofs.YtkdfohmceokchaaW.PrintLast Go.Proofs.PlainEvt
theorem wsm {n : Int} (h0 : -9223372036854775808 ≤ n) (h1 : n ≤ 9223372036854775807) : wrap64 n = n := by unfold wrap64; omega
theorem wnext (i : Nat) (h : i ≤ 1000000000) : wrap64 ((i : Int) + 1) = ((i + 1 : Nat) : Int) := by rw [wsm] <;> omega
theorem rd_in {l : List Int} {i : Nat} (h : i < l.length) : rd l (i : Int) = l[i] := by simp [rd, List.getElem?_eq_getElem h]
theorem ext_of_sorted {α : Type} (r : α → α → Prop) (hi : ∀ a, ¬ r a a) (ha : ∀ a b, r a b → ¬ r b a) : ∀ l1 l2 : List α, l1.Pairwise r → l2.Pairwise r → (∀ x, x ∈ l1 ↔ x ∈ l2) → l1 = l2
  | [], [], _, _, _ => rfl
  | [], b :: l2, _, _, h => by have := (h b).2 List.mem_cons_self; simp at this
  | a :: l1, [], _, _, h => by have := (h a).1 List.mem_cons_self; simp at this
  | a :: l1, b :: l2, h1, h2, h => by
    rw [List.pairwise_cons] at h1 h2
    have e : a = b := by
      rcases List.mem_cons.mp ((h a).1 List.mem_cons_self) with e | e
      · exact e
      · rcases List.mem_cons.mp ((h b).2 List.mem_cons_self) with e' | e'
        · exact e'.symm
        · exact absurd (h1.1 b e') (ha _ _ (h2.1 a e))
    subst e
    congr 1
    refine ext_of_sorted r hi ha l1 l2 h1.2 h2.2 (fun x => ?_)
    constructor
    · intro hx
      rcases List.mem_cons.mp ((h x).1 (List.mem_cons_of_mem _ hx)) with e | e
      · subst e; exact absurd (h1.1 x hx) (hi x)
      · exact e
    · intro hx
      rcases List.mem_cons.mp ((h x).2 (List.mem_cons_of_mem _ hx)) with e | e
      · subst e; exact absurd (h2.1 x hx) (hi x)
      · exact e
/-- What is told of numbers put in order. -/
structure OrdZ (l R : List Int) : Prop where
  pw : R.Pairwise (fun x y => x < y)
  mem : ∀ x, x ∈ R ↔ x ∈ l
theorem OrdZ.eq {l R Q : List Int} (h : OrdZ l R) (h' : OrdZ l Q) : R = Q :=
  ext_of_sorted _ (fun _ => by omega) (fun _ _ _ => by omega) R Q h.pw h'.pw (fun x => (h.mem x).trans (h'.mem x).symm)
theorem comp_inv (s : Array Int) (hs : ∀ i j, i < j → j < s.size → s[i]! ≤ s[j]!) : ∀ m, m ≤ s.size →
    (Lib.compactUpTo s m).Pairwise (fun x y => x < y) ∧ (∀ x ∈ Lib.compactUpTo s m, ∃ j, j < m ∧ x = s[j]!) ∧ ∀ j, j < m → s[j]! ∈ Lib.compactUpTo s m := by
  intro m
  induction m with
  | zero => intro _; exact ⟨by simp [Lib.compactUpTo], by simp [Lib.compactUpTo], fun j h => by omega⟩
  | succ m ih =>
    intro hm
    obtain ⟨h1, h2, h3⟩ := ih (by omega)
    rw [Lib.compactUpTo_succ]
    cases hk : Lib.keeps s m with
    | false =>
      have hz : m ≠ 0 ∧ s[m]! = s[m - 1]! := by simpa [Lib.keeps] using hk
      simp only [Bool.false_eq_true, if_false, List.append_nil]
      refine ⟨h1, fun x hx => ?_, fun j hj => ?_⟩
      · obtain ⟨j, hj, e⟩ := h2 x hx
        exact ⟨j, by omega, e⟩
      · by_cases e : j = m
        · subst e; rw [hz.2]; exact h3 _ (by omega)
        · exact h3 j (by omega)
    | true =>
      have hz : m = 0 ∨ s[m]! ≠ s[m - 1]! := by simpa [Lib.keeps] using hk
      simp only [if_true]
      refine ⟨?_, fun x hx => ?_, fun j hj => ?_⟩
      · rw [List.pairwise_append]
        refine ⟨h1, by simp, fun x hx y hy => ?_⟩
        obtain rfl : y = s[m]! := by simpa using hy
        obtain ⟨j, hj, rfl⟩ := h2 x hx
        rcases hz with rfl | hz
        · omega
        · have hlast : s[m - 1]! < s[m]! := by
            have := hs (m - 1) m (by omega) (by omega)
            omega
          by_cases e : j = m - 1
          · subst e; exact hlast
          · have := hs j (m - 1) (by omega) (by omega)
            omega
      · rcases List.mem_append.mp hx with hx | hx
        · obtain ⟨j, hj, e⟩ := h2 x hx
          exact ⟨j, by omega, e⟩
        · obtain rfl : x = s[m]! := by simpa using hx
          exact ⟨m, by omega, rfl⟩
      · by_cases e : j = m
        · subst e; simp
        · exact List.mem_append_left _ (h3 j (by omega))
theorem sortZ_sorted (l : List Int) : ∀ i j, i < j → j < (sortZ l).toArray.size → (sortZ l).toArray[i]! ≤ (sortZ l).toArray[j]! := by
  intro i j hij hj
  have hp := List.pairwise_mergeSort (le := fun x y : Int => decide (x ≤ y)) (fun a b c h1 h2 => by simp at *; omega) (fun a b => by simp; omega) l
  rw [List.pairwise_iff_getElem] at hp
  have hj' : j < (l.mergeSort fun x y => decide (x ≤ y)).length := by simpa [sortZ] using hj
  have := hp i j (by omega) hj' hij
  rw [getElem!_pos (sortZ l).toArray i (by omega), getElem!_pos (sortZ l).toArray j hj]
  simpa [sortZ] using this
theorem orderZ_ord (l : List Int) : OrdZ l (orderZ l) := by
  obtain ⟨h1, h2, h3⟩ := comp_inv (sortZ l).toArray (sortZ_sorted l) _ (Nat.le_refl _)
  have hm : ∀ y, y ∈ sortZ l ↔ y ∈ l := fun y => by simp [sortZ, List.mem_mergeSort]
  refine ⟨h1, fun x => ⟨fun hx => ?_, fun hx => ?_⟩⟩
  · obtain ⟨j, hj, e⟩ := h2 x hx
    rw [← hm, e, getElem!_pos (sortZ l).toArray j hj]
    simp
  · rw [← hm] at hx
    obtain ⟨j, hj, e⟩ := List.getElem_of_mem hx
    have hj' : j < (sortZ l).toArray.size := by simpa using hj
    have := h3 j hj'
    rw [getElem!_pos (sortZ l).toArray j hj'] at this
    rw [← e]
    simpa [orderZ] using this
theorem Ints_loop (x y : List Int) (hl : x.length = y.length) (hm : x.length ≤ 100000) (n : Nat) : ∀ i : Nat, i + n = x.length → EvP (fun k => stillageref01_Ints.l0 k x y (x.length : Int) (i : Int)) (fun r => r = true ↔ x.drop i = y.drop i) := by
  induction n with
  | zero =>
    intro i hi
    refine EvP.succ (fun k => stillageref01_Ints.l0.eq_2 _ _ _ _ k) (EvP.no (by omega) (EvP.ret ?_))
    rw [List.drop_eq_nil_of_le (by omega), List.drop_eq_nil_of_le (by omega)]
    simp
  | succ n ih =>
    intro i hi
    have h1 : i < x.length := by omega
    have h2 : i < y.length := by omega
    have e1 : rd x (i : Int) = x[i] := rd_in h1
    have e2 : rd y (i : Int) = y[i] := rd_in h2
    refine EvP.succ (fun k => stillageref01_Ints.l0.eq_2 _ _ _ _ k) (EvP.yes (by omega) (EvP.yes (by omega) (EvP.yes (by omega) (EvP.yes (by omega) (EvP.split (fun c => ?_) (fun c => EvP.ret ?_))))))
    · rw [wnext i (by omega)]
      refine (ih (i + 1) (by omega)).mono (fun r h => ?_)
      rw [h, List.drop_eq_getElem_cons h1, List.drop_eq_getElem_cons h2]
      rw [e1, e2] at c
      simp only [List.cons.injEq, c, true_and]
    · rw [List.drop_eq_getElem_cons h1, List.drop_eq_getElem_cons h2]
      rw [e1, e2] at c
      simp only [List.cons.injEq, c, false_and]
      simp
theorem Ints_e (x y : List Int) (hm : x.length ≤ 100000) : EvP (fun k => stillageref01_Ints.f k x y) (fun r => r = true ↔ x = y) := by
  refine EvP.split (fun c => ?_) (fun c => EvP.ret ?_)
  · exact Ints_loop x y (by omega) hm x.length 0 (by omega)
  · constructor
    · intro h; cases h
    · rintro rfl
      exact absurd rfl c
theorem Ints_eq {x y : List Int} (h : x = y) (hm : x.length ≤ 100000) : EvP (fun k => stillageref01_Ints.f k x y) (fun r => r = true) := (Ints_e x y hm).mono (fun r e => e.2 h)
theorem stuck1 : Evt (fun k => zone_Stuck.f k [⟨[0], 1⟩, ⟨[1], 0⟩]) ([0, 1], 0) := Evt.mono (n := 20) (by decide +kernel) (fun k r h => zone_Stuck.mono _ k r h)
theorem stuck2 : Evt (fun k => zone_Stuck.f k [⟨[0], 1⟩, ⟨[1], -1⟩]) ([], 0) := Evt.mono (n := 20) (by decide +kernel) (fun k r h => zone_Stuck.mono _ k r h)
theorem order1 : zone_Order.f [3, 1, 3] = some ([1, 3], 0) := by
  unfold zone_Order.f
  rw [if_pos (by simp), if_neg (by decide), (orderZ_ord [3, 1, 3]).eq (Q := [1, 3]) ⟨by simp, fun x => by simp; omega⟩]
theorem awake_e : EvP (fun k => stillagelaw09_awake.f k) (fun r => r = true) := by
  refine EvP.ebind stuck1 (EvP.ebind stuck2 (EvP.obind order1 ?_))
  refine EvP.yes rfl (EvP.yes rfl (EvP.yes rfl (EvP.yes rfl (EvP.yes rfl ?_))))
  exact EvP.bind (Ints_eq rfl (by simp)) (fun a ha => EvP.ret ha)
/-! looking for a ring: what is found is one, and where none is found there is a rank that falls -/
theorem nodup_len : ∀ (n : Nat) (l : List Int), l.Nodup → (∀ x ∈ l, 0 ≤ x ∧ x < (n : Int)) → l.length ≤ n
  | 0, l, _, h => by
    cases l with
    | nil => simp
    | cons x l => have := h x List.mem_cons_self; omega
  | n + 1, l, hd, h => by
    by_cases hm : (n : Int) ∈ l
    · have h1 := List.length_erase_of_mem hm
      have h2 := nodup_len n (l.erase (n : Int)) (hd.erase _) (fun x hx => by
        have h3 := (hd.mem_erase_iff).1 hx
        have h4 := h x h3.2
        have : x ≠ (n : Int) := h3.1
        omega)
      omega
    · have := nodup_len n l hd (fun x hx => by
        have h4 := h x hx
        have : x ≠ (n : Int) := by rintro rfl; exact hm hx
        omega)
      omega
structure IsRing (h : List S62) (l : List Int) : Prop where
  ne : 0 < l.length
  rng : ∀ x ∈ l, 0 ≤ x ∧ x < (h.length : Int)
  nd : l.Nodup
  next : ∀ (t : Nat) (ht : t < l.length), wantsZ h l[t] (l[(t + 1) % l.length]'(Nat.mod_lt _ ne)) = true
structure DInv (h : List S62) (seen path F : List Int) : Prop where
  sl : seen.length = 40
  gray : ∀ v : Int, 0 ≤ v → v < h.length → (rd seen v = 1 ↔ v ∈ path)
  black : ∀ v : Int, 0 ≤ v → v < h.length → (rd seen v = 2 ↔ v ∈ F)
  some3 : ∀ v : Int, 0 ≤ v → v < h.length → rd seen v = 0 ∨ rd seen v = 1 ∨ rd seen v = 2
  nd : (F ++ path).Nodup
  rng : ∀ x ∈ F ++ path, 0 ≤ x ∧ x < (h.length : Int)
  chain : ∀ (t : Nat) (ht : t + 1 < path.length), wantsZ h path[t] path[t + 1] = true
  closed : ∀ (t : Nat) (ht : t < F.length) (j : Int), 0 ≤ j → j < h.length → wantsZ h F[t] j = true → ∃ s, ∃ hs : s < t, F[s] = j
theorem rd_set_self {l : List Int} {i : Nat} (h : i < l.length) (x : Int) : rd (l.set i x) (i : Int) = x := by simp [rd, h]
theorem rd_set_other {l : List Int} {i : Nat} {v : Int} (h0 : 0 ≤ v) (h : v ≠ (i : Int)) (x : Int) : rd (l.set i x) v = rd l v := by
  obtain ⟨j, rfl⟩ := Int.eq_ofNat_of_zero_le h0
  have : j ≠ i := by omega
  simp [rd, List.getElem?_set_ne this.symm]
theorem DInv.len {h : List S62} {seen path F : List Int} (D : DInv h seen path F) : F.length + path.length ≤ h.length := by
  have := nodup_len h.length (F ++ path) D.nd D.rng
  simpa using this
/-- i, not yet seen, comes onto the path. -/
theorem DInv.push {h : List S62} (hh : h.length ≤ 40) {seen path F : List Int} (D : DInv h seen path F) {i : Nat} (hi : i < h.length) (hw : rd seen (i : Int) = 0) (hl : ∀ hp : 0 < path.length, wantsZ h (path[path.length - 1]'(by omega)) (i : Int) = true) :
    DInv h (seen.set i 1) (path ++ [(i : Int)]) F := by
  have hs := D.sl
  have hnp : ¬ (i : Int) ∈ path := fun hm => by have := (D.gray i (by omega) (by omega)).2 hm; omega
  have hnf : ¬ (i : Int) ∈ F := fun hm => by have := (D.black i (by omega) (by omega)).2 hm; omega
  refine ⟨by simp [hs], fun v h0 h1 => ?_, fun v h0 h1 => ?_, fun v h0 h1 => ?_, ?_, ?_, ?_, D.closed⟩
  · by_cases e : v = (i : Int)
    · subst e
      rw [rd_set_self (by omega)]
      simp
    · rw [rd_set_other h0 e, D.gray v h0 h1]
      simp [e]
  · by_cases e : v = (i : Int)
    · subst e
      rw [rd_set_self (by omega)]
      simp [hnf]
    · rw [rd_set_other h0 e, D.black v h0 h1]
  · by_cases e : v = (i : Int)
    · subst e
      rw [rd_set_self (by omega)]
      simp
    · rw [rd_set_other h0 e]
      exact D.some3 v h0 h1
  · rw [← List.append_assoc, List.nodup_append]
    refine ⟨D.nd, by simp, fun a ha b hb => ?_⟩
    obtain rfl : b = (i : Int) := by simpa using hb
    rintro rfl
    rcases List.mem_append.mp ha with hx | hx
    · exact hnf hx
    · exact hnp hx
  · intro x hx
    rw [← List.append_assoc] at hx
    rcases List.mem_append.mp hx with hx | hx
    · exact D.rng x hx
    · obtain rfl : x = (i : Int) := by simpa using hx
      omega
  · intro t ht
    rw [List.length_append, List.length_singleton] at ht
    by_cases e : t + 1 < path.length
    · rw [List.getElem_append_left (by omega), List.getElem_append_left e]
      exact D.chain t e
    · have e1 : t = path.length - 1 := by omega
      have e2 : t + 1 = path.length := by omega
      have h3 := hl (by omega)
      rw [List.getElem_append_left (by omega), List.getElem_append_right (by omega)]
      simp only [e1]
      simpa using h3
/-- The path's last one is done with: all that it waits for leads to no ring. -/
theorem DInv.pop {h : List S62} (hh : h.length ≤ 40) {seen path F : List Int} {i : Nat} (D : DInv h seen (path ++ [(i : Int)]) F) (hi : i < h.length) (hd : ∀ j : Int, 0 ≤ j → j < h.length → wantsZ h (i : Int) j = true → j ∈ F) :
    DInv h (seen.set i 2) path (F ++ [(i : Int)]) := by
  have hs := D.sl
  have hnd := D.nd
  rw [List.nodup_append, List.nodup_append] at hnd
  obtain ⟨n1, ⟨n2, n3, n4⟩, n5⟩ := hnd
  have hnp : ¬ (i : Int) ∈ path := fun hm => n4 (i : Int) hm (i : Int) (by simp) rfl
  refine ⟨by simp [hs], fun v h0 h1 => ?_, fun v h0 h1 => ?_, fun v h0 h1 => ?_, ?_, ?_, ?_, ?_⟩
  · by_cases e : v = (i : Int)
    · subst e
      rw [rd_set_self (by omega)]
      simp [hnp]
    · rw [rd_set_other h0 e, D.gray v h0 h1]
      simp [e]
  · by_cases e : v = (i : Int)
    · subst e
      rw [rd_set_self (by omega)]
      simp
    · rw [rd_set_other h0 e, D.black v h0 h1]
      simp [e]
  · by_cases e : v = (i : Int)
    · subst e
      rw [rd_set_self (by omega)]
      simp
    · rw [rd_set_other h0 e]
      exact D.some3 v h0 h1
  · rw [List.nodup_append, List.nodup_append]
    refine ⟨⟨n1, by simp, fun a ha b hb => ?_⟩, n2, fun a ha b hb => ?_⟩
    · exact n5 a ha b (List.mem_append_right _ hb)
    · rcases List.mem_append.mp ha with ha | ha
      · exact n5 a ha b (List.mem_append_left _ hb)
      · exact fun e => n4 b hb a ha e.symm
  · intro x hx
    apply D.rng
    simp only [List.mem_append] at hx ⊢
    rcases hx with (hx | hx) | hx
    · exact .inl hx
    · exact .inr (.inr hx)
    · exact .inr (.inl hx)
  · intro t ht
    have := D.chain t (by simp; omega)
    rw [List.getElem_append_left (by omega), List.getElem_append_left ht] at this
    exact this
  · intro t ht j h0 h1 hw
    rw [List.length_append, List.length_singleton] at ht
    by_cases e : t < F.length
    · rw [List.getElem_append_left e] at hw
      obtain ⟨s, hs, e2⟩ := D.closed t e j h0 h1 hw
      exact ⟨s, hs, by rw [List.getElem_append_left (by omega)]; exact e2⟩
    · have e1 : t = F.length := by omega
      subst e1
      rw [List.getElem_append_right (by omega)] at hw
      simp only [Nat.sub_self, List.getElem_cons_zero] at hw
      obtain ⟨s, hs, e2⟩ := List.getElem_of_mem (hd j h0 h1 hw)
      exact ⟨s, hs, by rw [List.getElem_append_left hs]; exact e2⟩
/-- What is behind a holder that is come to twice is a ring. -/
theorem ring_aux {h : List S62} {q : List Int} {i j : Int} (hq : 0 < q.length) (hm : j ∈ q) (hlast : q[q.length - 1]'(by omega) = i) (hch : ∀ (t : Nat) (ht : t + 1 < q.length), wantsZ h q[t] q[t + 1] = true) (hnd : q.Nodup) (hrng : ∀ x ∈ q, 0 ≤ x ∧ x < (h.length : Int)) (hw : wantsZ h i j = true) : IsRing h (q.drop (q.idxOf j)) := by
  have hx : q.idxOf j < q.length := List.idxOf_lt_length_of_mem hm
  have hget : q[q.idxOf j] = j := List.getElem_idxOf hx
  generalize q.idxOf j = a at hx hget ⊢
  refine ⟨by simp; omega, fun x hx2 => hrng x (List.mem_of_mem_drop hx2), hnd.sublist (List.drop_sublist _ _), fun t ht => ?_⟩
  rw [List.length_drop] at ht
  by_cases e : t + 1 < q.length - a
  · have e2 : (t + 1) % (q.drop a).length = t + 1 := Nat.mod_eq_of_lt (by simpa using e)
    simp only [e2, List.getElem_drop]
    have := hch (a + t) (by omega)
    simpa [Nat.add_assoc] using this
  · have e2 : (t + 1) % (q.drop a).length = 0 := by
      have : t + 1 = (q.drop a).length := by simp; omega
      rw [this, Nat.mod_self]
    simp only [e2, List.getElem_drop, Nat.add_zero]
    rw [hget]
    have e3 : a + t = q.length - 1 := by omega
    simp only [e3, hlast]
    exact hw
theorem DInv.ring {h : List S62} {seen path F : List Int} {i : Nat} (D : DInv h seen (path ++ [(i : Int)]) F) {j : Int} (hm : j ∈ path ++ [(i : Int)]) (hw : wantsZ h (i : Int) j = true) : IsRing h ((path ++ [(i : Int)]).drop ((path ++ [(i : Int)]).idxOf j)) :=
  ring_aux (by simp) hm (by simp) D.chain (List.nodup_append.1 D.nd).2.1 (fun x hx => D.rng x (List.mem_append_right _ hx)) hw
theorem visit_spec (h : List S62) (hh : h.length ≤ 40) (d : Nat) : ∀ (i : Nat) (seen path F : List Int), DInv h seen path F → i < h.length → rd seen (i : Int) = 0 → (∀ hp : 0 < path.length, wantsZ h (path[path.length - 1]'(by omega)) (i : Int) = true) → h.length ≤ d + F.length + path.length →
    EvP (fun k => visitZ h k (i : Int) seen path) (fun r => (r.1 = true ∧ IsRing h r.2.2.2) ∨ (r.1 = false ∧ r.2.2.1 = path ∧ ∃ G, DInv h r.2.1 path (F ++ G) ∧ (i : Int) ∈ F ++ G)) := by
  induction d with
  | zero =>
    intro i seen path F D hi hw hl hd
    have := (D.push hh hi hw hl).len
    simp at this
    omega
  | succ d ih =>
    intro i seen path F D hi hw hl hd
    have D1 := D.push hh hi hw hl
    have hlen := D.len
    have loop : ∀ (n : Nat) (j : Nat) (sn G : List Int), j + n = h.length → DInv h sn (path ++ [(i : Int)]) (F ++ G) → (∀ v : Int, 0 ≤ v → v < j → wantsZ h (i : Int) v = true → v ∈ F ++ G) →
        EvP (fun k => loopZ h k (i : Int) sn (path ++ [(i : Int)]) j) (fun r => (r.1 = true ∧ IsRing h r.2.2.2) ∨ (r.1 = false ∧ r.2.2.1 = path ∧ ∃ G, DInv h r.2.1 path (F ++ G) ∧ (i : Int) ∈ F ++ G)) := by
      intro n
      induction n with
      | zero =>
        intro j sn G hj D2 hall
        refine EvP.succ (fun k => by rw [loopZ]) (EvP.no (by omega) (EvP.no (by simp) (EvP.ret (.inr ⟨rfl, by simp, G ++ [(i : Int)], ?_, by simp⟩))))
        have := D2.pop hh hi (fun v h0 h1 hw => hall v h0 (by omega) hw)
        rw [List.append_assoc] at this
        exact this
      | succ n ihn =>
        intro j sn G hj D2 hall
        have hnext : ∀ (sn' G' : List Int), DInv h sn' (path ++ [(i : Int)]) (F ++ (G ++ G')) → (wantsZ h (i : Int) (j : Int) = true → (j : Int) ∈ F ++ (G ++ G')) → EvP (fun k => loopZ h k (i : Int) sn' (path ++ [(i : Int)]) (j + 1)) (fun r => (r.1 = true ∧ IsRing h r.2.2.2) ∨ (r.1 = false ∧ r.2.2.1 = path ∧ ∃ G, DInv h r.2.1 path (F ++ G) ∧ (i : Int) ∈ F ++ G)) := by
          intro sn' G' D3 hj3
          refine ihn (j + 1) sn' (G ++ G') (by omega) D3 (fun v h0 h1 hw => ?_)
          by_cases e : v = (j : Int)
          · subst e; exact hj3 hw
          · have := hall v h0 (by omega) hw
            rw [← List.append_assoc]
            exact List.mem_append_left _ this
        refine EvP.succ (fun k => by rw [loopZ]) (EvP.yes (by omega) (EvP.split (fun cw => ?_) (fun cw => ?_)))
        · refine EvP.split (fun c1 => ?_) (fun c1 => EvP.split (fun c0 => ?_) (fun c0 => ?_))
          · have hm := (D2.gray j (by omega) (by omega)).1 c1
            refine EvP.yes hm (EvP.ret (.inl ⟨rfl, D2.ring hm cw⟩))
          · have hv := ih j sn (path ++ [(i : Int)]) (F ++ G) D2 (by omega) c0 (fun hp => by simpa using cw) (by simp; omega)
            refine EvP.bind hv (fun r hr => ?_)
            rcases hr with ⟨hb, hring⟩ | ⟨hb, hp, G', D3, hjm⟩
            · exact EvP.yes hb (EvP.ret (.inl ⟨hb, hring⟩))
            · refine EvP.no (by rw [hb]; simp) ?_
              rw [hp]
              rw [List.append_assoc] at D3 hjm
              exact hnext _ G' D3 (fun _ => hjm)
          · have h2 : rd sn (j : Int) = 2 := by
              rcases D2.some3 j (by omega) (by omega) with e | e | e
              · exact absurd e c0
              · exact absurd e c1
              · exact e
            have hm := (D2.black j (by omega) (by omega)).1 h2
            exact hnext sn [] (by rw [List.append_nil]; exact D2) (fun _ => by rw [List.append_nil]; exact hm)
        · exact hnext sn [] (by rw [List.append_nil]; exact D2) (fun hw => absurd hw cw)
    refine EvP.succ (fun k => by rw [visitZ]) (EvP.yes (show 0 ≤ (i : Int) ∧ (i : Int) < h.length ∧ path.length < 1000 from ⟨by omega, by omega, by omega⟩) ?_)
    exact loop h.length 0 (seen.set i 1) [] (by omega) (by rw [List.append_nil]; exact D1) (fun v h0 h1 => by omega)
/-- Where nobody is stuck: a rank that falls from each holder to those that it waits for. -/
def Ranked (h : List S62) : Prop := ∃ rank : Int → Nat, ∀ i j : Int, 0 ≤ i → i < h.length → 0 ≤ j → j < h.length → wantsZ h i j = true → rank j < rank i
theorem stuckL_spec (h : List S62) (hh : h.length ≤ 40) (n : Nat) : ∀ (j : Nat) (seen F : List Int), j + n = h.length → DInv h seen [] F → (∀ v : Int, 0 ≤ v → v < j → v ∈ F) →
    EvP (fun k => stuckL h k seen [] j) (fun r => IsRing h r ∨ (r = [] ∧ Ranked h)) := by
  induction n with
  | zero =>
    intro j seen F hj D hall
    refine EvP.succ (fun k => by rw [stuckL]) (EvP.no (by omega) (EvP.ret (.inr ⟨rfl, fun v => F.idxOf v, fun a b ha0 ha1 hb0 hb1 hw => ?_⟩)))
    have hm := hall a ha0 (by omega)
    have hx : F.idxOf a < F.length := List.idxOf_lt_length_of_mem hm
    have hg : F[F.idxOf a] = a := List.getElem_idxOf hx
    obtain ⟨s, hs, e⟩ := D.closed (F.idxOf a) hx b hb0 hb1 (by rw [hg]; exact hw)
    have hnF := (List.nodup_append.1 D.nd).1
    have : F.idxOf b = s := by
      rw [← e]
      exact hnF.idxOf_getElem s (by omega)
    show F.idxOf b < F.idxOf a
    omega
  | succ n ih =>
    intro j seen F hj D hall
    refine EvP.succ (fun k => by rw [stuckL]) (EvP.yes (by omega) (EvP.split (fun c0 => ?_) (fun c0 => ?_)))
    · refine EvP.bind (visit_spec h hh h.length j seen [] F D (by omega) c0 (fun hp => absurd hp (by simp)) (by simp)) (fun r hr => ?_)
      rcases hr with ⟨hb, hring⟩ | ⟨hb, hp, G, D3, hjm⟩
      · exact EvP.yes hb (EvP.ret (.inl hring))
      · refine EvP.no (by rw [hb]; simp) ?_
        rw [hp]
        refine ih (j + 1) _ (F ++ G) (by omega) D3 (fun v h0 h1 => ?_)
        by_cases e : v = (j : Int)
        · subst e; exact hjm
        · exact List.mem_append_left _ (hall v h0 (by omega))
    · have h2 : rd seen (j : Int) = 2 := by
        rcases D.some3 j (by omega) (by omega) with e | e | e
        · exact absurd e c0
        · have := (D.gray j (by omega) (by omega)).1 e
          simp at this
        · exact e
      refine ih (j + 1) seen F (by omega) D (fun v h0 h1 => ?_)
      by_cases e : v = (j : Int)
      · subst e; exact (D.black j (by omega) (by omega)).1 h2
      · exact hall v h0 (by omega)
theorem Stuck_e (h : List S62) (hh : h.length ≤ 40) (hb : h.any badH = false) : EvP (fun k => zone_Stuck.f k h) (fun r => r.2 = 0 ∧ (IsRing h r.1 ∨ (r.1 = [] ∧ Ranked h))) := by
  refine EvP.eq (G := fun k => (stuckL h k (List.replicate 40 0) [] 0).bind fun r => some (r, 0)) (fun k => by unfold zone_Stuck.f; rw [if_neg (by omega), if_neg (by rw [hb]; simp)]) ?_
  refine EvP.bind (stuckL_spec h hh h.length 0 (List.replicate 40 0) [] (by omega) ?_ (fun v h0 h1 => by omega)) (fun r hr => EvP.ret ⟨rfl, hr⟩)
  have hz : ∀ v : Int, 0 ≤ v → v < h.length → rd (List.replicate 40 0) v = 0 := by
    intro v h0 h1
    obtain ⟨j, rfl⟩ := Int.eq_ofNat_of_zero_le h0
    simp only [rd, Int.toNat_natCast, List.getD_eq_getElem?_getD, List.getElem?_replicate]
    split <;> rfl
  refine ⟨by simp, fun v h0 h1 => ?_, fun v h0 h1 => ?_, fun v h0 h1 => .inl (hz v h0 h1), by simp, by simp, fun t ht => by simp at ht, fun t ht => by simp at ht⟩
  · rw [hz v h0 h1]; simp
  · rw [hz v h0 h1]; simp
/-- A ring has no rank. -/
theorem IsRing.not_ranked {h : List S62} {l : List Int} (R : IsRing h l) : ¬ Ranked h := by
  rintro ⟨rank, hr⟩
  have step : ∀ t (ht : t < l.length), rank (l[(t + 1) % l.length]'(Nat.mod_lt _ R.ne)) < rank l[t] := fun t ht => by
    have h1 := R.rng _ (List.getElem_mem ht)
    have h2 := R.rng _ (List.getElem_mem (Nat.mod_lt (t + 1) R.ne))
    exact hr _ _ h1.1 h1.2 h2.1 h2.2 (R.next t ht)
  have down : ∀ t (ht : t < l.length), rank l[t] + t ≤ rank (l[0]'R.ne) := by
    intro t
    induction t with
    | zero => intro ht; simp
    | succ t ih =>
      intro ht
      have h1 := ih (by omega)
      have h2 := step t (by omega)
      have e : (t + 1) % l.length = t + 1 := Nat.mod_eq_of_lt ht
      simp only [e] at h2
      omega
  have h1 := down (l.length - 1) (by have := R.ne; omega)
  have h2 := step (l.length - 1) (by have := R.ne; omega)
  have e : (l.length - 1 + 1) % l.length = 0 := by
    have := R.ne
    rw [show l.length - 1 + 1 = l.length by omega, Nat.mod_self]
  simp only [e] at h2
  omega
def hA (n : Nat) (i : Nat) : S62 := ⟨[(i : Int)], ((i + 1) % n : Nat)⟩
def hB (n : Nat) (i : Nat) : S62 := ⟨[], (i % n : Nat)⟩
def ringOf (n m : Nat) : List S62 := (List.range n).map (hA n) ++ (List.range m).map (hB n)
theorem ringOf_length (n m : Nat) : (ringOf n m).length = n + m := by simp [ringOf]
theorem ringOf_lo {n m i : Nat} (h : i < n) : rd_T62 (ringOf n m) (i : Int) = hA n i := by
  simp [rd_T62, ringOf, List.getElem?_append_left, h]
theorem ringOf_hi {n m i : Nat} (h : n ≤ i) (h2 : i < n + m) : rd_T62 (ringOf n m) (i : Int) = hB n (i - n) := by
  simp only [rd_T62, ringOf, Int.toNat_natCast, List.getD_eq_getElem?_getD]
  rw [List.getElem?_append_right (by simpa using h)]
  simp [show i - n < m by omega]
/-- Who waits for whom, but for one whose want is told by w. -/
theorem wants_ring {n m : Nat} {h : List S62} (hn : 1 ≤ n) (hlen : h.length = n + m) (hf0 : ∀ j : Nat, j < n + m → (rd_T62 h (j : Int)).f0 = if j < n then [(j : Int)] else []) {i j : Nat} (hi : i < n + m) (hj : j < n + m) :
    wantsZ h (i : Int) (j : Int) = true ↔ j < n ∧ (rd_T62 h (i : Int)).f1 = (j : Int) := by
  unfold wantsZ
  rw [hf0 j hj]
  by_cases hjn : j < n
  · rw [if_pos hjn]
    simp only [Bool.and_eq_true, decide_eq_true_eq, List.contains_iff_mem, List.mem_singleton]
    constructor
    · rintro ⟨_, h2⟩
      exact ⟨hjn, h2⟩
    · rintro ⟨_, h2⟩
      exact ⟨by omega, h2⟩
  · rw [if_neg hjn]
    simp [hjn]
theorem ringOf_f0 (n m : Nat) : ∀ j : Nat, j < n + m → (rd_T62 (ringOf n m) (j : Int)).f0 = if j < n then [(j : Int)] else [] := by
  intro j hj
  by_cases h : j < n
  · rw [ringOf_lo h, if_pos h]; rfl
  · rw [ringOf_hi (by omega) hj, if_neg h]; rfl
theorem ringOf_f1 (n m : Nat) {i : Nat} (h : i < n) : (rd_T62 (ringOf n m) (i : Int)).f1 = ((i + 1) % n : Nat) := by rw [ringOf_lo h]; rfl
theorem badZ_off {n : Int} (h0 : 0 ≤ n) (h1 : n < 8) : badZ n = false := by
  unfold badZ
  simp only [Bool.or_eq_false_iff, decide_eq_false_iff_not]
  omega
theorem badH_off {x : S62} (hl : ∀ y ∈ x.f0, 0 ≤ y ∧ y < 8) (h0 : 0 ≤ x.f1) (h1 : x.f1 < 8) : badH x = false := by
  unfold badH
  rw [Bool.or_eq_false_iff, badZ_off h0 h1, Bool.and_false]
  refine ⟨?_, rfl⟩
  rw [List.any_eq_false]
  intro y hy
  rw [badZ_off (hl y hy).1 (hl y hy).2]
  simp
theorem ringOf_good (n m : Nat) (hn : 1 ≤ n) (h8 : n ≤ 8) : (ringOf n m).any badH = false := by
  rw [List.any_eq_false]
  intro x hx
  rw [Bool.not_eq_true]
  unfold ringOf at hx
  rcases List.mem_append.mp hx with hx | hx
  · obtain ⟨i, hi, rfl⟩ := List.mem_map.mp hx
    rw [List.mem_range] at hi
    have := Nat.mod_lt (i + 1) hn
    exact badH_off (by intro y hy; obtain rfl := List.mem_singleton.mp hy; constructor <;> omega) (by simp only [hA]; omega) (by simp only [hA]; omega)
  · obtain ⟨i, hi, rfl⟩ := List.mem_map.mp hx
    have := Nat.mod_lt i hn
    exact badH_off (by intro y hy; exact absurd hy (List.not_mem_nil)) (by simp only [hB]; omega) (by simp only [hB]; omega)
theorem ringOf_ring (n m : Nat) (hn : 1 ≤ n) : IsRing (ringOf n m) ((List.range n).map fun i : Nat => (i : Int)) := by
  refine ⟨by simp; omega, fun x hx => ?_, ?_, fun t ht => ?_⟩
  · obtain ⟨i, hi, rfl⟩ := List.mem_map.mp hx
    rw [List.mem_range] at hi
    rw [ringOf_length]
    omega
  · rw [List.Nodup, List.pairwise_map]
    exact List.nodup_range.imp (fun h e => h (by omega))
  · simp only [List.length_map, List.length_range] at ht
    simp only [List.getElem_map, List.getElem_range, List.length_map, List.length_range]
    have := Nat.mod_lt (t + 1) hn
    rw [wants_ring hn (ringOf_length n m) (ringOf_f0 n m) (by omega) (by omega)]
    exact ⟨this, ringOf_f1 n m ht⟩
theorem ringOf_only {n m : Nat} (hn : 1 ≤ n) {l : List Int} (R : IsRing (ringOf n m) l) : l.length = n ∧ (∀ x ∈ l, 0 ≤ x ∧ x < (n : Int)) ∧ ∀ (t : Nat) (ht : t < l.length), l[(t + 1) % l.length]'(Nat.mod_lt _ R.ne) = (l[t] + 1) % (n : Int) := by
  have hne := R.ne
  have hw : ∀ (t : Nat) (ht : t < l.length), l[(t + 1) % l.length]'(Nat.mod_lt _ hne) < (n : Int) ∧ (rd_T62 (ringOf n m) l[t]).f1 = l[(t + 1) % l.length]'(Nat.mod_lt _ hne) := by
    intro t ht
    have h1 := R.rng _ (List.getElem_mem ht)
    have h2 := R.rng _ (List.getElem_mem (Nat.mod_lt (t + 1) hne))
    have h3 := R.next t ht
    generalize l[t] = a at h1 h3 ⊢
    generalize l[(t + 1) % l.length]'(Nat.mod_lt _ hne) = b at h2 h3 ⊢
    obtain ⟨a, rfl⟩ := Int.eq_ofNat_of_zero_le h1.1
    obtain ⟨b, rfl⟩ := Int.eq_ofNat_of_zero_le h2.1
    rw [ringOf_length] at h1 h2
    have := (wants_ring hn (ringOf_length n m) (ringOf_f0 n m) (by omega) (by omega)).1 h3
    exact ⟨by omega, this.2⟩
  have hlt : ∀ x ∈ l, 0 ≤ x ∧ x < (n : Int) := by
    intro x hx
    obtain ⟨t, ht, rfl⟩ := List.getElem_of_mem hx
    refine ⟨(R.rng _ hx).1, ?_⟩
    have e : (((if t = 0 then l.length else t) - 1) + 1) % l.length = t := by
      by_cases h0 : t = 0
      · subst h0
        rw [if_pos rfl, show l.length - 1 + 1 = l.length by omega, Nat.mod_self]
      · rw [if_neg h0, show t - 1 + 1 = t by omega, Nat.mod_eq_of_lt ht]
    have h1 := (hw ((if t = 0 then l.length else t) - 1) (by split <;> omega)).1
    simp only [e] at h1
    exact h1
  have hstep : ∀ (t : Nat) (ht : t < l.length), l[(t + 1) % l.length]'(Nat.mod_lt _ hne) = (l[t] + 1) % (n : Int) := by
    intro t ht
    have h1 := (hw t ht).2
    have h2 := hlt _ (List.getElem_mem ht)
    rw [← h1]
    generalize l[t] = a at h2 ⊢
    obtain ⟨a, rfl⟩ := Int.eq_ofNat_of_zero_le h2.1
    rw [ringOf_f1 n m (by omega), Int.natCast_emod, Int.natCast_add]
    rfl
  have hat : ∀ (t : Nat) (ht : t < l.length), l[t] = (l[0] + (t : Int)) % (n : Int) := by
    intro t
    induction t with
    | zero =>
      intro ht
      have := hlt _ (List.getElem_mem ht)
      rw [Int.emod_eq_of_lt (by omega) (by omega)]
      omega
    | succ t ih =>
      intro ht
      have h1 := ih (by omega)
      have h2 := hstep t (by omega)
      have e : (t + 1) % l.length = t + 1 := Nat.mod_eq_of_lt ht
      simp only [e] at h2
      rw [h2, h1, Int.emod_add_emod]
      congr 1
      omega
  have hle := nodup_len n l R.nd hlt
  have hback : l[0] = (l[0] + (l.length : Int)) % (n : Int) := by
    have h1 := hstep (l.length - 1) (by omega)
    have e : (l.length - 1 + 1) % l.length = 0 := by rw [show l.length - 1 + 1 = l.length by omega, Nat.mod_self]
    simp only [e] at h1
    have h2 := hat (l.length - 1) (by omega)
    rw [h2, Int.emod_add_emod] at h1
    have h5 : l[0] + ((l.length - 1 : Nat) : Int) + 1 = l[0] + (l.length : Int) := by omega
    exact h1.trans (congrArg (· % (n : Int)) h5)
  have h0 := hlt _ (List.getElem_mem hne)
  refine ⟨?_, hlt, hstep⟩
  rcases Nat.lt_or_ge l.length n with h | h
  · exfalso
    generalize l[0] = a at h0 hback
    by_cases e : a + (l.length : Int) < n
    · rw [Int.emod_eq_of_lt (by omega) e] at hback
      omega
    · have : (a + (l.length : Int)) % (n : Int) = a + (l.length : Int) - n := by
        rw [← Int.sub_emod_right, Int.emod_eq_of_lt (by omega) (by omega)]
      omega
  · omega
def rkZ (n o : Nat) (v : Int) : Nat := if v < (n : Int) then (if v ≤ (o : Int) then ((o : Int) - v).toNat else ((o : Int) + n - v).toNat) else n + 1
theorem rkZ_lt {n o : Nat} {i j : Nat} (ho : o < n) (h : (i + 1 = n ∧ j = 0 ∧ i ≠ o) ∨ (i + 1 < n ∧ j = i + 1 ∧ i ≠ o) ∨ (n ≤ i ∧ j < n)) : rkZ n o (j : Int) < rkZ n o (i : Int) := by
  unfold rkZ
  repeat' split
  all_goals omega
theorem cut_ranked (n m o : Nat) (hn : 1 ≤ n) (ho : o < n) (v : S62) (hv : v = ⟨[(o : Int)], -1⟩) : Ranked ((ringOf n m).set o v) ∧ (n ≤ 8 → ((ringOf n m).set o v).any badH = false) := by
  subst hv
  have hlen : ((ringOf n m).set o ⟨[(o : Int)], -1⟩).length = n + m := by rw [List.length_set, ringOf_length]
  have hget : ∀ j : Nat, j < n + m → rd_T62 ((ringOf n m).set o ⟨[(o : Int)], -1⟩) (j : Int) = if j = o then ⟨[(o : Int)], -1⟩ else rd_T62 (ringOf n m) (j : Int) := by
    intro j hj
    by_cases e : j = o
    · subst e
      rw [if_pos rfl]
      simp [rd_T62, ringOf_length, hj]
    · rw [if_neg e]
      simp [rd_T62, List.getElem?_set_ne (show o ≠ j by omega)]
  have hf0 : ∀ j : Nat, j < n + m → (rd_T62 ((ringOf n m).set o ⟨[(o : Int)], -1⟩) (j : Int)).f0 = if j < n then [(j : Int)] else [] := by
    intro j hj
    rw [hget j hj]
    by_cases e : j = o
    · subst e
      rw [if_pos rfl, if_pos ho]
    · rw [if_neg e]
      exact ringOf_f0 n m j hj
  refine ⟨⟨rkZ n o, fun i j hi0 hi1 hj0 hj1 hw => ?_⟩, fun h8 => ?_⟩
  · obtain ⟨i, rfl⟩ := Int.eq_ofNat_of_zero_le hi0
    obtain ⟨j, rfl⟩ := Int.eq_ofNat_of_zero_le hj0
    rw [hlen] at hi1 hj1
    obtain ⟨hjn, hf1⟩ := (wants_ring hn hlen hf0 (by omega) (by omega)).1 hw
    rw [hget i (by omega)] at hf1
    by_cases e : i = o
    · rw [if_pos e] at hf1
      simp only at hf1
      omega
    · rw [if_neg e] at hf1
      by_cases hin : i < n
      · rw [ringOf_f1 n m hin] at hf1
        have hji : j = (i + 1) % n := by omega
        by_cases e2 : i + 1 = n
        · rw [e2, Nat.mod_self] at hji
          subst hji
          exact rkZ_lt (by omega) (by omega)
        · rw [Nat.mod_eq_of_lt (by omega)] at hji
          subst hji
          exact rkZ_lt (by omega) (by omega)
      · exact rkZ_lt (by omega) (by omega)
  · rw [List.any_eq_false]
    intro x hx
    rcases List.mem_or_eq_of_mem_set hx with h | rfl
    · have := List.any_eq_false.mp (ringOf_good n m hn h8) x h
      exact this
    · simp [badH, badZ]
      omega
theorem rings_l2 (n m o : Nat) (hn : 1 ≤ n) (h8 : n ≤ 8) (hm : m ≤ 9) (a2 : Int) (ho : o < n) (hao : wrap64 (Int.tmod (IntKind.u64.wrap a2) (IntKind.u64.wrap (n : Int))) = (o : Int)) (l : List Int) (R : IsRing (ringOf n m) l) (d : Nat) : ∀ t : Nat, t + d = l.length →
    EvP (fun k => stillagelaw09_ZoneRings.l2 k (n : Int) a2 (ringOf n m) l (l.length : Int) (t : Int)) (fun r => r = true) := by
  obtain ⟨hl, hlt, hst⟩ := ringOf_only hn R
  have wu : ∀ n : Int, IntKind.u64.wrap n = n % 18446744073709551616 := fun n => by simp [IntKind.wrap, IntKind.bits, IntKind.signed]
  induction d with
  | zero =>
    intro t ht
    refine EvP.succ (fun k => by rw [stillagelaw09_ZoneRings.l2]) (EvP.no (by omega) (EvP.no (by rw [wu]; omega) ?_))
    rw [hao, Int.toNat_natCast]
    have he : rd_T62 (ringOf n m) (o : Int) = hA n o := ringOf_lo ho
    obtain ⟨hrk, hgd⟩ := cut_ranked n m o hn ho ⟨(rd_T62 (ringOf n m) (o : Int)).f0, -1⟩ (by rw [he]; rfl)
    refine EvP.yes (by omega) (EvP.yes (by rw [ringOf_length]; omega) ?_)
    refine EvP.bind (Stuck_e _ (by rw [List.length_set, ringOf_length]; omega) (hgd h8)) (fun r hr => ?_)
    refine EvP.yes hr.1 (EvP.ret ?_)
    rcases hr.2 with h | h
    · exact absurd hrk h.not_ranked
    · rw [h.1]; rfl
  | succ d ih =>
    intro t ht
    have h1 : t < l.length := by omega
    have h2 := hlt _ (List.getElem_mem h1)
    have h3 := hst t h1
    have e1 : rd l (t : Int) = l[t] := rd_in h1
    have hmod : Int.tmod (wrap64 ((t : Int) + 1)) (n : Int) = (((t + 1) % l.length : Nat) : Int) := by
      rw [wnext t (by omega), Int.tmod_eq_emod_of_nonneg (by omega), hl]
      omega
    have h4 := Nat.mod_lt (t + 1) R.ne
    have e2 : rd l (((t + 1) % l.length : Nat) : Int) = l[(t + 1) % l.length] := rd_in h4
    refine EvP.succ (fun k => by rw [stillagelaw09_ZoneRings.l2]) (EvP.yes (by omega) (EvP.yes (by omega) (EvP.yes (by omega) ?_)))
    rw [hmod, e1, e2]
    refine EvP.no (by omega) (EvP.no (by omega) (EvP.no (by omega) (EvP.yes (by omega) (EvP.yes (by omega) (EvP.yes ?_ ?_)))))
    · rw [h3, wsm (by omega) (by omega), Int.tmod_eq_emod_of_nonneg (by omega)]
    · rw [wnext t (by omega)]
      exact ih (t + 1) (by omega)
theorem rings_l1 (n m o : Nat) (hn : 1 ≤ n) (h8 : n ≤ 8) (hm : m ≤ 9) (a2 : Int) (ho : o < n) (hao : wrap64 (Int.tmod (IntKind.u64.wrap a2) (IntKind.u64.wrap (n : Int))) = (o : Int)) (d : Nat) : ∀ i : Nat, i + d = m →
    EvP (fun k => stillagelaw09_ZoneRings.l1 k (n : Int) (m : Int) a2 (ringOf n i) (i : Int)) (fun r => r = true) := by
  induction d with
  | zero =>
    intro i hi
    obtain rfl : i = m := by omega
    refine EvP.succ (fun k => by rw [stillagelaw09_ZoneRings.l1]) (EvP.no (by omega) (EvP.bind (Stuck_e _ (by rw [ringOf_length]; omega) (ringOf_good n i hn h8)) (fun r hr => EvP.yes hr.1 ?_)))
    have R : IsRing (ringOf n i) r.1 := by
      rcases hr.2 with h | h
      · exact h
      · exact absurd h.2 (ringOf_ring n i hn).not_ranked
    have hl := (ringOf_only hn R).1
    have hb : ((r.1.length : Int) != (n : Int)) = false := by rw [hl]; simp
    rw [hb]
    refine EvP.succ (fun k => by rw [stillagelaw09_ZoneRings.j2]) (EvP.no (by simp) ?_)
    exact rings_l2 n i o hn h8 hm a2 ho hao r.1 R r.1.length 0 (by omega)
  | succ d ih =>
    intro i hi
    refine EvP.succ (fun k => by rw [stillagelaw09_ZoneRings.l1]) (EvP.yes (by omega) (EvP.no (by omega) (EvP.yes (by rw [ringOf_length]; omega) ?_)))
    have e : ringOf n i ++ [(⟨([] : List Int), Int.tmod (i : Int) (n : Int)⟩ : S62)] = ringOf n (i + 1) := by
      simp only [ringOf, List.range_succ, List.map_append, List.append_assoc, List.map_cons, List.map_nil, hB]
      rw [Int.tmod_eq_emod_of_nonneg (by omega)]
      rfl
    rw [e, wnext i (by omega)]
    exact ih (i + 1) (by omega)
theorem rings_l0 (n m o : Nat) (hn : 1 ≤ n) (h8 : n ≤ 8) (hm : m ≤ 9) (a2 : Int) (ho : o < n) (hao : wrap64 (Int.tmod (IntKind.u64.wrap a2) (IntKind.u64.wrap (n : Int))) = (o : Int)) (d : Nat) : ∀ i : Nat, i + d = n →
    EvP (fun k => stillagelaw09_ZoneRings.l0 k (n : Int) (m : Int) a2 ((List.range i).map (hA n)) (i : Int)) (fun r => r = true) := by
  induction d with
  | zero =>
    intro i hi
    obtain rfl : i = n := by omega
    refine EvP.succ (fun k => by rw [stillagelaw09_ZoneRings.l0]) (EvP.no (by omega) ?_)
    have := rings_l1 i m o hn h8 hm a2 ho hao m 0 (by omega)
    simpa [ringOf] using this
  | succ d ih =>
    intro i hi
    refine EvP.succ (fun k => by rw [stillagelaw09_ZoneRings.l0]) (EvP.yes (by omega) (EvP.no (by omega) (EvP.yes (by simp; omega) ?_)))
    have e : (List.range i).map (hA n) ++ [(⟨([(i : Int)] : List Int), Int.tmod (wrap64 ((i : Int) + 1)) (n : Int)⟩ : S62)] = (List.range (i + 1)).map (hA n) := by
      simp only [List.range_succ, List.map_append, List.map_cons, List.map_nil, hA]
      rw [wnext i (by omega), Int.tmod_eq_emod_of_nonneg (by omega)]
      rfl
    rw [e, wnext i (by omega)]
    exact ih (i + 1) (by omega)
theorem ZoneRings : stillagelaw09_ZoneRings.Pure := by
  intro a0 a1 a2 h0 h1 h2
  suffices h : EvP (fun k => stillagelaw09_ZoneRings.f k a0 a1 a2) (fun r => r = true) by
    obtain ⟨k, r, h1, h2⟩ := h.get
    exact ⟨k, by rw [h1, h2]⟩
  have wu : ∀ n : Int, IntKind.u64.wrap n = n % 18446744073709551616 := fun n => by simp [IntKind.wrap, IntKind.bits, IntKind.signed]
  obtain ⟨n, hn, hn1, hn2⟩ : ∃ n : Nat, wrap64 ((wrap64 (Int.tmod (IntKind.u64.wrap a0) 8)) + 1) = (n : Int) ∧ 1 ≤ n ∧ n ≤ 8 := by
    rw [wu]
    have h3 : 0 ≤ a0 % 18446744073709551616 := Int.emod_nonneg _ (by omega)
    generalize a0 % 18446744073709551616 = z at h3
    rw [Int.tmod_eq_emod_of_nonneg h3]
    have h4 : 0 ≤ z % 8 := Int.emod_nonneg _ (by omega)
    have h5 : z % 8 < 8 := Int.emod_lt_of_pos _ (by omega)
    generalize z % 8 = y at h4 h5
    rw [wsm (n := y) (by omega) (by omega), wsm (by omega) (by omega)]
    exact ⟨(y + 1).toNat, by omega, by omega, by omega⟩
  obtain ⟨m, hm, hm2⟩ : ∃ m : Nat, wrap64 (Int.tmod (IntKind.u64.wrap a1) 10) = (m : Int) ∧ m ≤ 9 := by
    rw [wu]
    have h3 : 0 ≤ a1 % 18446744073709551616 := Int.emod_nonneg _ (by omega)
    generalize a1 % 18446744073709551616 = z at h3
    rw [Int.tmod_eq_emod_of_nonneg h3]
    have h4 : 0 ≤ z % 10 := Int.emod_nonneg _ (by omega)
    have h5 : z % 10 < 10 := Int.emod_lt_of_pos _ (by omega)
    generalize z % 10 = y at h4 h5
    rw [wsm (n := y) (by omega) (by omega)]
    exact ⟨y.toNat, by omega, by omega⟩
  obtain ⟨o, ho, ho2⟩ : ∃ o : Nat, wrap64 (Int.tmod (IntKind.u64.wrap a2) (IntKind.u64.wrap (n : Int))) = (o : Int) ∧ o < n := by
    rw [wu, wu, Int.emod_eq_of_lt (a := (n : Int)) (by omega) (by omega)]
    have h3 : 0 ≤ a2 % 18446744073709551616 := Int.emod_nonneg _ (by omega)
    generalize a2 % 18446744073709551616 = z at h3
    rw [Int.tmod_eq_emod_of_nonneg h3]
    have h4 : 0 ≤ z % (n : Int) := Int.emod_nonneg _ (by omega)
    have h5 : z % (n : Int) < n := Int.emod_lt_of_pos _ (by omega)
    generalize z % (n : Int) = y at h4 h5
    rw [wsm (by omega) (by omega)]
    exact ⟨y.toNat, by omega, by omega⟩
  refine EvP.bind awake_e (fun a ha => EvP.yes ha ?_)
  rw [hn, hm]
  exact rings_l0 n m o hn1 hn2 hm2 a2 ho2 ho n 0 (by omega)

end Go.Proofs.Ytkdfohmceokchaa.Pure
