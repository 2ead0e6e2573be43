/- stillagelaw09.ZoneStuck is true at every list of holders: no condition. -/
import Derived.OpenShut
import Derived.Test.YtkdfohmceokchaaEvt
import Derived.Test.YtkdfohmceokchaaPZoneStuckx
set_option linter.unusedVariables false
set_option linter.unusedSimpArgs false
set_option maxRecDepth 10000
namespace Go.Proofs.Ytkdfohmceokchaa.Pure
open Go.RowKit Go.Proofs.Ytkdfohmceokchaa.PZoneStuck Go.Proofs.YtkdfohmceokchaaW.PrintWords Go.Proofs.YtkdfohmceokchaaW.PrintLast Go.Proofs.PlainEvt
theorem wsm {n : Int} (h0 : -9223372036854775808 ≤ n) (h1 : n ≤ 9223372036854775807) : wrap64 n = n := by unfold wrap64; omega
theorem wnext (i : Nat) (h : i ≤ 1000000000) : wrap64 ((i : Int) + 1) = ((i + 1 : Nat) : Int) := by rw [wsm] <;> omega
theorem rd_in {l : List Int} {i : Nat} (h : i < l.length) : rd l (i : Int) = l[i] := by simp [rd, List.getElem?_eq_getElem h]
theorem ext_of_sorted {α : Type} (r : α → α → Prop) (hi : ∀ a, ¬ r a a) (ha : ∀ a b, r a b → ¬ r b a) : ∀ l1 l2 : List α, l1.Pairwise r → l2.Pairwise r → (∀ x, x ∈ l1 ↔ x ∈ l2) → l1 = l2
  | [], [], _, _, _ => rfl
  | [], b :: l2, _, _, h => by have := (h b).2 List.mem_cons_self; simp at this
  | a :: l1, [], _, _, h => by have := (h a).1 List.mem_cons_self; simp at this
  | a :: l1, b :: l2, h1, h2, h => by
    rw [List.pairwise_cons] at h1 h2
    have e : a = b := by
      rcases List.mem_cons.mp ((h a).1 List.mem_cons_self) with e | e
      · exact e
      · rcases List.mem_cons.mp ((h b).2 List.mem_cons_self) with e' | e'
        · exact e'.symm
        · exact absurd (h1.1 b e') (ha _ _ (h2.1 a e))
    subst e
    congr 1
    refine ext_of_sorted r hi ha l1 l2 h1.2 h2.2 (fun x => ?_)
    constructor
    · intro hx
      rcases List.mem_cons.mp ((h x).1 (List.mem_cons_of_mem _ hx)) with e | e
      · subst e; exact absurd (h1.1 x hx) (hi x)
      · exact e
    · intro hx
      rcases List.mem_cons.mp ((h x).2 (List.mem_cons_of_mem _ hx)) with e | e
      · subst e; exact absurd (h2.1 x hx) (hi x)
      · exact e
/-- What is told of numbers put in order. -/
structure OrdZ (l R : List Int) : Prop where
  pw : R.Pairwise (fun x y => x < y)
  mem : ∀ x, x ∈ R ↔ x ∈ l
theorem OrdZ.eq {l R Q : List Int} (h : OrdZ l R) (h' : OrdZ l Q) : R = Q :=
  ext_of_sorted _ (fun _ => by omega) (fun _ _ _ => by omega) R Q h.pw h'.pw (fun x => (h.mem x).trans (h'.mem x).symm)
theorem comp_inv (s : Array Int) (hs : ∀ i j, i < j → j < s.size → s[i]! ≤ s[j]!) : ∀ m, m ≤ s.size →
    (Lib.compactUpTo s m).Pairwise (fun x y => x < y) ∧ (∀ x ∈ Lib.compactUpTo s m, ∃ j, j < m ∧ x = s[j]!) ∧ ∀ j, j < m → s[j]! ∈ Lib.compactUpTo s m := by
  intro m
  induction m with
  | zero => intro _; exact ⟨by simp [Lib.compactUpTo], by simp [Lib.compactUpTo], fun j h => by omega⟩
  | succ m ih =>
    intro hm
    obtain ⟨h1, h2, h3⟩ := ih (by omega)
    rw [Lib.compactUpTo_succ]
    cases hk : Lib.keeps s m with
    | false =>
      have hz : m ≠ 0 ∧ s[m]! = s[m - 1]! := by simpa [Lib.keeps] using hk
      simp only [Bool.false_eq_true, if_false, List.append_nil]
      refine ⟨h1, fun x hx => ?_, fun j hj => ?_⟩
      · obtain ⟨j, hj, e⟩ := h2 x hx
        exact ⟨j, by omega, e⟩
      · by_cases e : j = m
        · subst e; rw [hz.2]; exact h3 _ (by omega)
        · exact h3 j (by omega)
    | true =>
      have hz : m = 0 ∨ s[m]! ≠ s[m - 1]! := by simpa [Lib.keeps] using hk
      simp only [if_true]
      refine ⟨?_, fun x hx => ?_, fun j hj => ?_⟩
      · rw [List.pairwise_append]
        refine ⟨h1, by simp, fun x hx y hy => ?_⟩
        obtain rfl : y = s[m]! := by simpa using hy
        obtain ⟨j, hj, rfl⟩ := h2 x hx
        rcases hz with rfl | hz
        · omega
        · have hlast : s[m - 1]! < s[m]! := by
            have := hs (m - 1) m (by omega) (by omega)
            omega
          by_cases e : j = m - 1
          · subst e; exact hlast
          · have := hs j (m - 1) (by omega) (by omega)
            omega
      · rcases List.mem_append.mp hx with hx | hx
        · obtain ⟨j, hj, e⟩ := h2 x hx
          exact ⟨j, by omega, e⟩
        · obtain rfl : x = s[m]! := by simpa using hx
          exact ⟨m, by omega, rfl⟩
      · by_cases e : j = m
        · subst e; simp
        · exact List.mem_append_left _ (h3 j (by omega))
theorem sortZ_sorted (l : List Int) : ∀ i j, i < j → j < (sortZ l).toArray.size → (sortZ l).toArray[i]! ≤ (sortZ l).toArray[j]! := by
  intro i j hij hj
  have hp := List.pairwise_mergeSort (le := fun x y : Int => decide (x ≤ y)) (fun a b c h1 h2 => by simp at *; omega) (fun a b => by simp; omega) l
  rw [List.pairwise_iff_getElem] at hp
  have hj' : j < (l.mergeSort fun x y => decide (x ≤ y)).length := by simpa [sortZ] using hj
  have := hp i j (by omega) hj' hij
  rw [getElem!_pos (sortZ l).toArray i (by omega), getElem!_pos (sortZ l).toArray j hj]
  simpa [sortZ] using this
theorem orderZ_ord (l : List Int) : OrdZ l (orderZ l) := by
  obtain ⟨h1, h2, h3⟩ := comp_inv (sortZ l).toArray (sortZ_sorted l) _ (Nat.le_refl _)
  have hm : ∀ y, y ∈ sortZ l ↔ y ∈ l := fun y => by simp [sortZ, List.mem_mergeSort]
  refine ⟨h1, fun x => ⟨fun hx => ?_, fun hx => ?_⟩⟩
  · obtain ⟨j, hj, e⟩ := h2 x hx
    rw [← hm, e, getElem!_pos (sortZ l).toArray j hj]
    simp
  · rw [← hm] at hx
    obtain ⟨j, hj, e⟩ := List.getElem_of_mem hx
    have hj' : j < (sortZ l).toArray.size := by simpa using hj
    have := h3 j hj'
    rw [getElem!_pos (sortZ l).toArray j hj'] at this
    rw [← e]
    simpa [orderZ] using this
theorem Ints_loop (x y : List Int) (hl : x.length = y.length) (hm : x.length ≤ 100000) (n : Nat) : ∀ i : Nat, i + n = x.length → EvP (fun k => stillageref01_Ints.l0 k x y (x.length : Int) (i : Int)) (fun r => r = true ↔ x.drop i = y.drop i) := by
  induction n with
  | zero =>
    intro i hi
    refine EvP.succ (fun k => stillageref01_Ints.l0.eq_2 _ _ _ _ k) (EvP.no (by omega) (EvP.ret ?_))
    rw [List.drop_eq_nil_of_le (by omega), List.drop_eq_nil_of_le (by omega)]
    simp
  | succ n ih =>
    intro i hi
    have h1 : i < x.length := by omega
    have h2 : i < y.length := by omega
    have e1 : rd x (i : Int) = x[i] := rd_in h1
    have e2 : rd y (i : Int) = y[i] := rd_in h2
    refine EvP.succ (fun k => stillageref01_Ints.l0.eq_2 _ _ _ _ k) (EvP.yes (by omega) (EvP.yes (by omega) (EvP.yes (by omega) (EvP.yes (by omega) (EvP.split (fun c => ?_) (fun c => EvP.ret ?_))))))
    · rw [wnext i (by omega)]
      refine (ih (i + 1) (by omega)).mono (fun r h => ?_)
      rw [h, List.drop_eq_getElem_cons h1, List.drop_eq_getElem_cons h2]
      rw [e1, e2] at c
      simp only [List.cons.injEq, c, true_and]
    · rw [List.drop_eq_getElem_cons h1, List.drop_eq_getElem_cons h2]
      rw [e1, e2] at c
      simp only [List.cons.injEq, c, false_and]
      simp
theorem Ints_e (x y : List Int) (hm : x.length ≤ 100000) : EvP (fun k => stillageref01_Ints.f k x y) (fun r => r = true ↔ x = y) := by
  refine EvP.split (fun c => ?_) (fun c => EvP.ret ?_)
  · exact Ints_loop x y (by omega) hm x.length 0 (by omega)
  · constructor
    · intro h; cases h
    · rintro rfl
      exact absurd rfl c
theorem Ints_eq {x y : List Int} (h : x = y) (hm : x.length ≤ 100000) : EvP (fun k => stillageref01_Ints.f k x y) (fun r => r = true) := (Ints_e x y hm).mono (fun r e => e.2 h)
theorem stuck1 : Evt (fun k => zone_Stuck.f k [⟨[0], 1⟩, ⟨[1], 0⟩]) ([0, 1], 0) := Evt.mono (n := 20) (by decide +kernel) (fun k r h => zone_Stuck.mono _ k r h)
theorem stuck2 : Evt (fun k => zone_Stuck.f k [⟨[0], 1⟩, ⟨[1], -1⟩]) ([], 0) := Evt.mono (n := 20) (by decide +kernel) (fun k r h => zone_Stuck.mono _ k r h)
theorem order1 : zone_Order.f [3, 1, 3] = some ([1, 3], 0) := by
  unfold zone_Order.f
  rw [if_pos (by simp), if_neg (by decide), (orderZ_ord [3, 1, 3]).eq (Q := [1, 3]) ⟨by simp, fun x => by simp; omega⟩]
theorem awake_e : EvP (fun k => stillagelaw09_awake.f k) (fun r => r = true) := by
  refine EvP.ebind stuck1 (EvP.ebind stuck2 (EvP.obind order1 ?_))
  refine EvP.yes rfl (EvP.yes rfl (EvP.yes rfl (EvP.yes rfl (EvP.yes rfl ?_))))
  exact EvP.bind (Ints_eq rfl (by simp)) (fun a ha => EvP.ret ha)
/-! looking for a ring: what is found is one, and where none is found there is a rank that falls -/
theorem nodup_len : ∀ (n : Nat) (l : List Int), l.Nodup → (∀ x ∈ l, 0 ≤ x ∧ x < (n : Int)) → l.length ≤ n
  | 0, l, _, h => by
    cases l with
    | nil => simp
    | cons x l => have := h x List.mem_cons_self; omega
  | n + 1, l, hd, h => by
    by_cases hm : (n : Int) ∈ l
    · have h1 := List.length_erase_of_mem hm
      have h2 := nodup_len n (l.erase (n : Int)) (hd.erase _) (fun x hx => by
        have h3 := (hd.mem_erase_iff).1 hx
        have h4 := h x h3.2
        have : x ≠ (n : Int) := h3.1
        omega)
      omega
    · have := nodup_len n l hd (fun x hx => by
        have h4 := h x hx
        have : x ≠ (n : Int) := by rintro rfl; exact hm hx
        omega)
      omega
structure IsRing (h : List S62) (l : List Int) : Prop where
  ne : 0 < l.length
  rng : ∀ x ∈ l, 0 ≤ x ∧ x < (h.length : Int)
  nd : l.Nodup
  next : ∀ (t : Nat) (ht : t < l.length), wantsZ h l[t] (l[(t + 1) % l.length]'(Nat.mod_lt _ ne)) = true
structure DInv (h : List S62) (seen path F : List Int) : Prop where
  sl : seen.length = 40
  gray : ∀ v : Int, 0 ≤ v → v < h.length → (rd seen v = 1 ↔ v ∈ path)
  black : ∀ v : Int, 0 ≤ v → v < h.length → (rd seen v = 2 ↔ v ∈ F)
  some3 : ∀ v : Int, 0 ≤ v → v < h.length → rd seen v = 0 ∨ rd seen v = 1 ∨ rd seen v = 2
  nd : (F ++ path).Nodup
  rng : ∀ x ∈ F ++ path, 0 ≤ x ∧ x < (h.length : Int)
  chain : ∀ (t : Nat) (ht : t + 1 < path.length), wantsZ h path[t] path[t + 1] = true
  closed : ∀ (t : Nat) (ht : t < F.length) (j : Int), 0 ≤ j → j < h.length → wantsZ h F[t] j = true → ∃ s, ∃ hs : s < t, F[s] = j
theorem rd_set_self {l : List Int} {i : Nat} (h : i < l.length) (x : Int) : rd (l.set i x) (i : Int) = x := by simp [rd, h]
theorem rd_set_other {l : List Int} {i : Nat} {v : Int} (h0 : 0 ≤ v) (h : v ≠ (i : Int)) (x : Int) : rd (l.set i x) v = rd l v := by
  obtain ⟨j, rfl⟩ := Int.eq_ofNat_of_zero_le h0
  have : j ≠ i := by omega
  simp [rd, List.getElem?_set_ne this.symm]
theorem DInv.len {h : List S62} {seen path F : List Int} (D : DInv h seen path F) : F.length + path.length ≤ h.length := by
  have := nodup_len h.length (F ++ path) D.nd D.rng
  simpa using this
/-- i, not yet seen, comes onto the path. -/
theorem DInv.push {h : List S62} (hh : h.length ≤ 40) {seen path F : List Int} (D : DInv h seen path F) {i : Nat} (hi : i < h.length) (hw : rd seen (i : Int) = 0) (hl : ∀ hp : 0 < path.length, wantsZ h (path[path.length - 1]'(by omega)) (i : Int) = true) :
    DInv h (seen.set i 1) (path ++ [(i : Int)]) F := by
  have hs := D.sl
  have hnp : ¬ (i : Int) ∈ path := fun hm => by have := (D.gray i (by omega) (by omega)).2 hm; omega
  have hnf : ¬ (i : Int) ∈ F := fun hm => by have := (D.black i (by omega) (by omega)).2 hm; omega
  refine ⟨by simp [hs], fun v h0 h1 => ?_, fun v h0 h1 => ?_, fun v h0 h1 => ?_, ?_, ?_, ?_, D.closed⟩
  · by_cases e : v = (i : Int)
    · subst e
      rw [rd_set_self (by omega)]
      simp
    · rw [rd_set_other h0 e, D.gray v h0 h1]
      simp [e]
  · by_cases e : v = (i : Int)
    · subst e
      rw [rd_set_self (by omega)]
      simp [hnf]
    · rw [rd_set_other h0 e, D.black v h0 h1]
  · by_cases e : v = (i : Int)
    · subst e
      rw [rd_set_self (by omega)]
      simp
    · rw [rd_set_other h0 e]
      exact D.some3 v h0 h1
  · rw [← List.append_assoc, List.nodup_append]
    refine ⟨D.nd, by simp, fun a ha b hb => ?_⟩
    obtain rfl : b = (i : Int) := by simpa using hb
    rintro rfl
    rcases List.mem_append.mp ha with hx | hx
    · exact hnf hx
    · exact hnp hx
  · intro x hx
    rw [← List.append_assoc] at hx
    rcases List.mem_append.mp hx with hx | hx
    · exact D.rng x hx
    · obtain rfl : x = (i : Int) := by simpa using hx
      omega
  · intro t ht
    rw [List.length_append, List.length_singleton] at ht
    by_cases e : t + 1 < path.length
    · rw [List.getElem_append_left (by omega), List.getElem_append_left e]
      exact D.chain t e
    · have e1 : t = path.length - 1 := by omega
      have e2 : t + 1 = path.length := by omega
      have h3 := hl (by omega)
      rw [List.getElem_append_left (by omega), List.getElem_append_right (by omega)]
      simp only [e1]
      simpa using h3
/-- The path's last one is done with: all that it waits for leads to no ring. -/
theorem DInv.pop {h : List S62} (hh : h.length ≤ 40) {seen path F : List Int} {i : Nat} (D : DInv h seen (path ++ [(i : Int)]) F) (hi : i < h.length) (hd : ∀ j : Int, 0 ≤ j → j < h.length → wantsZ h (i : Int) j = true → j ∈ F) :
    DInv h (seen.set i 2) path (F ++ [(i : Int)]) := by
  have hs := D.sl
  have hnd := D.nd
  rw [List.nodup_append, List.nodup_append] at hnd
  obtain ⟨n1, ⟨n2, n3, n4⟩, n5⟩ := hnd
  have hnp : ¬ (i : Int) ∈ path := fun hm => n4 (i : Int) hm (i : Int) (by simp) rfl
  refine ⟨by simp [hs], fun v h0 h1 => ?_, fun v h0 h1 => ?_, fun v h0 h1 => ?_, ?_, ?_, ?_, ?_⟩
  · by_cases e : v = (i : Int)
    · subst e
      rw [rd_set_self (by omega)]
      simp [hnp]
    · rw [rd_set_other h0 e, D.gray v h0 h1]
      simp [e]
  · by_cases e : v = (i : Int)
    · subst e
      rw [rd_set_self (by omega)]
      simp
    · rw [rd_set_other h0 e, D.black v h0 h1]
      simp [e]
  · by_cases e : v = (i : Int)
    · subst e
      rw [rd_set_self (by omega)]
      simp
    · rw [rd_set_other h0 e]
      exact D.some3 v h0 h1
  · rw [List.nodup_append, List.nodup_append]
    refine ⟨⟨n1, by simp, fun a ha b hb => ?_⟩, n2, fun a ha b hb => ?_⟩
    · exact n5 a ha b (List.mem_append_right _ hb)
    · rcases List.mem_append.mp ha with ha | ha
      · exact n5 a ha b (List.mem_append_left _ hb)
      · exact fun e => n4 b hb a ha e.symm
  · intro x hx
    apply D.rng
    simp only [List.mem_append] at hx ⊢
    rcases hx with (hx | hx) | hx
    · exact .inl hx
    · exact .inr (.inr hx)
    · exact .inr (.inl hx)
  · intro t ht
    have := D.chain t (by simp; omega)
    rw [List.getElem_append_left (by omega), List.getElem_append_left ht] at this
    exact this
  · intro t ht j h0 h1 hw
    rw [List.length_append, List.length_singleton] at ht
    by_cases e : t < F.length
    · rw [List.getElem_append_left e] at hw
      obtain ⟨s, hs, e2⟩ := D.closed t e j h0 h1 hw
      exact ⟨s, hs, by rw [List.getElem_append_left (by omega)]; exact e2⟩
    · have e1 : t = F.length := by omega
      subst e1
      rw [List.getElem_append_right (by omega)] at hw
      simp only [Nat.sub_self, List.getElem_cons_zero] at hw
      obtain ⟨s, hs, e2⟩ := List.getElem_of_mem (hd j h0 h1 hw)
      exact ⟨s, hs, by rw [List.getElem_append_left hs]; exact e2⟩
/-- What is behind a holder that is come to twice is a ring. -/
theorem ring_aux {h : List S62} {q : List Int} {i j : Int} (hq : 0 < q.length) (hm : j ∈ q) (hlast : q[q.length - 1]'(by omega) = i) (hch : ∀ (t : Nat) (ht : t + 1 < q.length), wantsZ h q[t] q[t + 1] = true) (hnd : q.Nodup) (hrng : ∀ x ∈ q, 0 ≤ x ∧ x < (h.length : Int)) (hw : wantsZ h i j = true) : IsRing h (q.drop (q.idxOf j)) := by
  have hx : q.idxOf j < q.length := List.idxOf_lt_length_of_mem hm
  have hget : q[q.idxOf j] = j := List.getElem_idxOf hx
  generalize q.idxOf j = a at hx hget ⊢
  refine ⟨by simp; omega, fun x hx2 => hrng x (List.mem_of_mem_drop hx2), hnd.sublist (List.drop_sublist _ _), fun t ht => ?_⟩
  rw [List.length_drop] at ht
  by_cases e : t + 1 < q.length - a
  · have e2 : (t + 1) % (q.drop a).length = t + 1 := Nat.mod_eq_of_lt (by simpa using e)
    simp only [e2, List.getElem_drop]
    have := hch (a + t) (by omega)
    simpa [Nat.add_assoc] using this
  · have e2 : (t + 1) % (q.drop a).length = 0 := by
      have : t + 1 = (q.drop a).length := by simp; omega
      rw [this, Nat.mod_self]
    simp only [e2, List.getElem_drop, Nat.add_zero]
    rw [hget]
    have e3 : a + t = q.length - 1 := by omega
    simp only [e3, hlast]
    exact hw
theorem DInv.ring {h : List S62} {seen path F : List Int} {i : Nat} (D : DInv h seen (path ++ [(i : Int)]) F) {j : Int} (hm : j ∈ path ++ [(i : Int)]) (hw : wantsZ h (i : Int) j = true) : IsRing h ((path ++ [(i : Int)]).drop ((path ++ [(i : Int)]).idxOf j)) :=
  ring_aux (by simp) hm (by simp) D.chain (List.nodup_append.1 D.nd).2.1 (fun x hx => D.rng x (List.mem_append_right _ hx)) hw
theorem visit_spec (h : List S62) (hh : h.length ≤ 40) (d : Nat) : ∀ (i : Nat) (seen path F : List Int), DInv h seen path F → i < h.length → rd seen (i : Int) = 0 → (∀ hp : 0 < path.length, wantsZ h (path[path.length - 1]'(by omega)) (i : Int) = true) → h.length ≤ d + F.length + path.length →
    EvP (fun k => visitZ h k (i : Int) seen path) (fun r => (r.1 = true ∧ IsRing h r.2.2.2) ∨ (r.1 = false ∧ r.2.2.1 = path ∧ ∃ G, DInv h r.2.1 path (F ++ G) ∧ (i : Int) ∈ F ++ G)) := by
  induction d with
  | zero =>
    intro i seen path F D hi hw hl hd
    have := (D.push hh hi hw hl).len
    simp at this
    omega
  | succ d ih =>
    intro i seen path F D hi hw hl hd
    have D1 := D.push hh hi hw hl
    have hlen := D.len
    have loop : ∀ (n : Nat) (j : Nat) (sn G : List Int), j + n = h.length → DInv h sn (path ++ [(i : Int)]) (F ++ G) → (∀ v : Int, 0 ≤ v → v < j → wantsZ h (i : Int) v = true → v ∈ F ++ G) →
        EvP (fun k => loopZ h k (i : Int) sn (path ++ [(i : Int)]) j) (fun r => (r.1 = true ∧ IsRing h r.2.2.2) ∨ (r.1 = false ∧ r.2.2.1 = path ∧ ∃ G, DInv h r.2.1 path (F ++ G) ∧ (i : Int) ∈ F ++ G)) := by
      intro n
      induction n with
      | zero =>
        intro j sn G hj D2 hall
        refine EvP.succ (fun k => by rw [loopZ]) (EvP.no (by omega) (EvP.no (by simp) (EvP.ret (.inr ⟨rfl, by simp, G ++ [(i : Int)], ?_, by simp⟩))))
        have := D2.pop hh hi (fun v h0 h1 hw => hall v h0 (by omega) hw)
        rw [List.append_assoc] at this
        exact this
      | succ n ihn =>
        intro j sn G hj D2 hall
        have hnext : ∀ (sn' G' : List Int), DInv h sn' (path ++ [(i : Int)]) (F ++ (G ++ G')) → (wantsZ h (i : Int) (j : Int) = true → (j : Int) ∈ F ++ (G ++ G')) → EvP (fun k => loopZ h k (i : Int) sn' (path ++ [(i : Int)]) (j + 1)) (fun r => (r.1 = true ∧ IsRing h r.2.2.2) ∨ (r.1 = false ∧ r.2.2.1 = path ∧ ∃ G, DInv h r.2.1 path (F ++ G) ∧ (i : Int) ∈ F ++ G)) := by
          intro sn' G' D3 hj3
          refine ihn (j + 1) sn' (G ++ G') (by omega) D3 (fun v h0 h1 hw => ?_)
          by_cases e : v = (j : Int)
          · subst e; exact hj3 hw
          · have := hall v h0 (by omega) hw
            rw [← List.append_assoc]
            exact List.mem_append_left _ this
        refine EvP.succ (fun k => by rw [loopZ]) (EvP.yes (by omega) (EvP.split (fun cw => ?_) (fun cw => ?_)))
        · refine EvP.split (fun c1 => ?_) (fun c1 => EvP.split (fun c0 => ?_) (fun c0 => ?_))
          · have hm := (D2.gray j (by omega) (by omega)).1 c1
            refine EvP.yes hm (EvP.ret (.inl ⟨rfl, D2.ring hm cw⟩))
          · have hv := ih j sn (path ++ [(i : Int)]) (F ++ G) D2 (by omega) c0 (fun hp => by simpa using cw) (by simp; omega)
            refine EvP.bind hv (fun r hr => ?_)
            rcases hr with ⟨hb, hring⟩ | ⟨hb, hp, G', D3, hjm⟩
            · exact EvP.yes hb (EvP.ret (.inl ⟨hb, hring⟩))
            · refine EvP.no (by rw [hb]; simp) ?_
              rw [hp]
              rw [List.append_assoc] at D3 hjm
              exact hnext _ G' D3 (fun _ => hjm)
          · have h2 : rd sn (j : Int) = 2 := by
              rcases D2.some3 j (by omega) (by omega) with e | e | e
              · exact absurd e c0
              · exact absurd e c1
              · exact e
            have hm := (D2.black j (by omega) (by omega)).1 h2
            exact hnext sn [] (by rw [List.append_nil]; exact D2) (fun _ => by rw [List.append_nil]; exact hm)
        · exact hnext sn [] (by rw [List.append_nil]; exact D2) (fun hw => absurd hw cw)
    refine EvP.succ (fun k => by rw [visitZ]) (EvP.yes (show 0 ≤ (i : Int) ∧ (i : Int) < h.length ∧ path.length < 1000 from ⟨by omega, by omega, by omega⟩) ?_)
    exact loop h.length 0 (seen.set i 1) [] (by omega) (by rw [List.append_nil]; exact D1) (fun v h0 h1 => by omega)
/-- Where nobody is stuck: a rank that falls from each holder to those that it waits for. -/
def Ranked (h : List S62) : Prop := ∃ rank : Int → Nat, ∀ i j : Int, 0 ≤ i → i < h.length → 0 ≤ j → j < h.length → wantsZ h i j = true → rank j < rank i
theorem stuckL_spec (h : List S62) (hh : h.length ≤ 40) (n : Nat) : ∀ (j : Nat) (seen F : List Int), j + n = h.length → DInv h seen [] F → (∀ v : Int, 0 ≤ v → v < j → v ∈ F) →
    EvP (fun k => stuckL h k seen [] j) (fun r => IsRing h r ∨ (r = [] ∧ Ranked h)) := by
  induction n with
  | zero =>
    intro j seen F hj D hall
    refine EvP.succ (fun k => by rw [stuckL]) (EvP.no (by omega) (EvP.ret (.inr ⟨rfl, fun v => F.idxOf v, fun a b ha0 ha1 hb0 hb1 hw => ?_⟩)))
    have hm := hall a ha0 (by omega)
    have hx : F.idxOf a < F.length := List.idxOf_lt_length_of_mem hm
    have hg : F[F.idxOf a] = a := List.getElem_idxOf hx
    obtain ⟨s, hs, e⟩ := D.closed (F.idxOf a) hx b hb0 hb1 (by rw [hg]; exact hw)
    have hnF := (List.nodup_append.1 D.nd).1
    have : F.idxOf b = s := by
      rw [← e]
      exact hnF.idxOf_getElem s (by omega)
    show F.idxOf b < F.idxOf a
    omega
  | succ n ih =>
    intro j seen F hj D hall
    refine EvP.succ (fun k => by rw [stuckL]) (EvP.yes (by omega) (EvP.split (fun c0 => ?_) (fun c0 => ?_)))
    · refine EvP.bind (visit_spec h hh h.length j seen [] F D (by omega) c0 (fun hp => absurd hp (by simp)) (by simp)) (fun r hr => ?_)
      rcases hr with ⟨hb, hring⟩ | ⟨hb, hp, G, D3, hjm⟩
      · exact EvP.yes hb (EvP.ret (.inl hring))
      · refine EvP.no (by rw [hb]; simp) ?_
        rw [hp]
        refine ih (j + 1) _ (F ++ G) (by omega) D3 (fun v h0 h1 => ?_)
        by_cases e : v = (j : Int)
        · subst e; exact hjm
        · exact List.mem_append_left _ (hall v h0 (by omega))
    · have h2 : rd seen (j : Int) = 2 := by
        rcases D.some3 j (by omega) (by omega) with e | e | e
        · exact absurd e c0
        · have := (D.gray j (by omega) (by omega)).1 e
          simp at this
        · exact e
      refine ih (j + 1) seen F (by omega) D (fun v h0 h1 => ?_)
      by_cases e : v = (j : Int)
      · subst e; exact (D.black j (by omega) (by omega)).1 h2
      · exact hall v h0 (by omega)
theorem Stuck_e (h : List S62) (hh : h.length ≤ 40) (hb : h.any badH = false) : EvP (fun k => zone_Stuck.f k h) (fun r => r.2 = 0 ∧ (IsRing h r.1 ∨ (r.1 = [] ∧ Ranked h))) := by
  refine EvP.eq (G := fun k => (stuckL h k (List.replicate 40 0) [] 0).bind fun r => some (r, 0)) (fun k => by unfold zone_Stuck.f; rw [if_neg (by omega), if_neg (by rw [hb]; simp)]) ?_
  refine EvP.bind (stuckL_spec h hh h.length 0 (List.replicate 40 0) [] (by omega) ?_ (fun v h0 h1 => by omega)) (fun r hr => EvP.ret ⟨rfl, hr⟩)
  have hz : ∀ v : Int, 0 ≤ v → v < h.length → rd (List.replicate 40 0) v = 0 := by
    intro v h0 h1
    obtain ⟨j, rfl⟩ := Int.eq_ofNat_of_zero_le h0
    simp only [rd, Int.toNat_natCast, List.getD_eq_getElem?_getD, List.getElem?_replicate]
    split <;> rfl
  refine ⟨by simp, fun v h0 h1 => ?_, fun v h0 h1 => ?_, fun v h0 h1 => .inl (hz v h0 h1), by simp, by simp, fun t ht => by simp at ht, fun t ht => by simp at ht⟩
  · rw [hz v h0 h1]; simp
  · rw [hz v h0 h1]; simp
/-- A ring has no rank. -/
theorem IsRing.not_ranked {h : List S62} {l : List Int} (R : IsRing h l) : ¬ Ranked h := by
  rintro ⟨rank, hr⟩
  have step : ∀ t (ht : t < l.length), rank (l[(t + 1) % l.length]'(Nat.mod_lt _ R.ne)) < rank l[t] := fun t ht => by
    have h1 := R.rng _ (List.getElem_mem ht)
    have h2 := R.rng _ (List.getElem_mem (Nat.mod_lt (t + 1) R.ne))
    exact hr _ _ h1.1 h1.2 h2.1 h2.2 (R.next t ht)
  have down : ∀ t (ht : t < l.length), rank l[t] + t ≤ rank (l[0]'R.ne) := by
    intro t
    induction t with
    | zero => intro ht; simp
    | succ t ih =>
      intro ht
      have h1 := ih (by omega)
      have h2 := step t (by omega)
      have e : (t + 1) % l.length = t + 1 := Nat.mod_eq_of_lt ht
      simp only [e] at h2
      omega
  have h1 := down (l.length - 1) (by have := R.ne; omega)
  have h2 := step (l.length - 1) (by have := R.ne; omega)
  have e : (l.length - 1 + 1) % l.length = 0 := by
    have := R.ne
    rw [show l.length - 1 + 1 = l.length by omega, Nat.mod_self]
  simp only [e] at h2
  omega
def toRef (h : List S62) : List S79 := h.map fun x => ⟨x.f0, x.f1⟩
theorem toRef_length (h : List S62) : (toRef h).length = h.length := by simp [toRef]
theorem toRef_rd (h : List S62) (i : Int) : rd_T79 (toRef h) i = ⟨(rd_T62 h i).f0, (rd_T62 h i).f1⟩ := by
  simp only [rd_T79, rd_T62, toRef, List.getD_eq_getElem?_getD, List.getElem?_map]
  cases h[i.toNat]? <;> rfl
theorem toRef_rd0 (h : List S62) (i : Int) : (rd_T79 (toRef h) i).f0 = (rd_T62 h i).f0 := by rw [toRef_rd]
theorem toRef_rd1 (h : List S62) (i : Int) : (rd_T79 (toRef h) i).f1 = (rd_T62 h i).f1 := by rw [toRef_rd]
theorem few_e (h : List S62) (hh : h.length ≤ 9223372036854775807) (d : Nat) : ∀ i : Nat, i + d = h.length →
    EvP (fun k => stillagelaw09_few.l0 k h (h.length : Int) (i : Int)) (fun r => r = true → ∀ t : Nat, i ≤ t → t < h.length → t ≤ 60 ∧ (rd_T62 h (t : Int)).f0.length ≤ 30) := by
  induction d with
  | zero => intro i hi; exact EvP.succ (fun k => by rw [stillagelaw09_few.l0]) (EvP.no (by omega) (EvP.ret (fun _ t h1 h2 => by omega)))
  | succ d ih =>
    intro i hi
    refine EvP.succ (fun k => by rw [stillagelaw09_few.l0]) (EvP.yes (by omega) (EvP.yes (by omega) (EvP.yes (by omega) ?_)))
    refine EvP.split (fun _ => EvP.ret (fun h => by simp at h)) (fun h1 => EvP.split (fun _ => EvP.ret (fun h => by simp at h)) (fun h2 => ?_))
    have e : wrap64 ((i : Int) + 1) = ((i + 1 : Nat) : Int) := by rw [wsm] <;> omega
    rw [e]
    refine (ih (i + 1) (by omega)).mono (fun r hr hrt t h3 h4 => ?_)
    by_cases e2 : t = i
    · subst e2; exact ⟨by omega, by omega⟩
    · exact hr hrt t (by omega) h4
theorem ref_e (h : List S62) (hh : h.length ≤ 61) (d : Nat) : ∀ i : Nat, i + d = h.length →
    EvP (fun k => stillagelaw09_ref.l0 k h (toRef (h.take i)) (h.length : Int) (i : Int)) (fun r => r = toRef h) := by
  induction d with
  | zero =>
    intro i hi
    refine EvP.succ (fun k => by rw [stillagelaw09_ref.l0]) (EvP.no (by omega) (EvP.ret ?_))
    rw [List.take_of_length_le (by omega)]
  | succ d ih =>
    intro i hi
    have hi2 : i < h.length := by omega
    refine EvP.succ (fun k => by rw [stillagelaw09_ref.l0]) (EvP.yes (by omega) (EvP.yes (by omega) (EvP.yes (by omega) (EvP.yes (by rw [toRef_length, List.length_take]; omega) ?_))))
    have e : toRef (h.take i) ++ [(⟨(rd_T62 h (i : Int)).f0, (rd_T62 h (i : Int)).f1⟩ : S79)] = toRef (h.take (i + 1)) := by
      have hg : rd_T62 h (i : Int) = h[i] := by simp [rd_T62, List.getElem?_eq_getElem hi2]
      rw [List.take_succ_eq_append_getElem hi2, hg]
      unfold toRef
      rw [List.map_append]
      rfl
    rw [e, wnext i (by omega)]
    exact ih (i + 1) (by omega)
theorem look_l1 (h : List S62) (hh : h.length ≤ 40) (i : Nat) (hi : i < h.length) (hl : (rd_T62 h (i : Int)).f0.length ≤ 30)
    (hn : (rd_T62 h (i : Int)).f0.any badZ = false → EvP (fun k => stillageref09_Look.l0 k (toRef h) (h.length : Int) ((i + 1 : Nat) : Int)) (fun r => r = if (h.drop (i + 1)).any badH = true then 1 else 0)) (d : Nat) :
    ∀ j : Nat, j + d = (rd_T62 h (i : Int)).f0.length → (∀ t : Nat, t < j → badZ (rd (rd_T62 h (i : Int)).f0 (t : Int)) = false) →
    EvP (fun k => stillageref09_Look.l1 k (toRef h) (i : Int) (h.length : Int) (i : Int) ((rd_T62 h (i : Int)).f0.length : Int) (j : Int)) (fun r => r = if (rd_T62 h (i : Int)).f0.any badZ = true then 1 else (if (h.drop (i + 1)).any badH = true then 1 else 0)) := by
  induction d with
  | zero =>
    intro j hj hall
    have hno : (rd_T62 h (i : Int)).f0.any badZ = false := by
      rw [List.any_eq_false]
      intro x hx
      obtain ⟨t, ht, rfl⟩ := List.getElem_of_mem hx
      have := hall t (by omega)
      rw [rd_in ht] at this
      rw [this]; simp
    refine EvP.succ (fun k => by rw [stillageref09_Look.l1]) (EvP.no (by omega) ?_)
    rw [wnext i (by omega)]
    refine (hn hno).mono (fun r hr => ?_)
    rw [hno, if_neg (by simp)]
    exact hr
  | succ d ih =>
    intro j hj hall
    have hj2 : j < (rd_T62 h (i : Int)).f0.length := by omega
    refine EvP.succ (fun k => by rw [stillageref09_Look.l1]) (EvP.yes (by omega) (EvP.yes (by omega) (EvP.yes (by rw [toRef_length]; omega) ?_)))
    simp only [toRef_rd0, toRef_rd1]
    refine EvP.yes (by omega) (EvP.yes (by omega) ?_)
    have hbad : badZ (rd (rd_T62 h (i : Int)).f0 (j : Int)) = true → (rd_T62 h (i : Int)).f0.any badZ = true := by
      intro hb
      rw [rd_in hj2] at hb
      exact List.any_eq_true.mpr ⟨_, List.getElem_mem hj2, hb⟩
    refine EvP.split (fun h1 => EvP.ret ?_) (fun h1 => EvP.split (fun h2 => EvP.ret ?_) (fun h2 => ?_))
    · rw [if_pos (hbad (by unfold badZ; simp only [Bool.or_eq_true, decide_eq_true_eq]; omega))]
    · rw [if_pos (hbad (by unfold badZ; simp only [Bool.or_eq_true, decide_eq_true_eq]; omega))]
    · rw [wnext j (by omega)]
      refine ih (j + 1) (by omega) (fun t ht => ?_)
      by_cases e : t = j
      · subst e
        unfold badZ; simp only [Bool.or_eq_false_iff, decide_eq_false_iff_not]; omega
      · exact hall t (by omega)
theorem look_e (h : List S62) (hh : h.length ≤ 40) (hl : ∀ t : Nat, t < h.length → (rd_T62 h (t : Int)).f0.length ≤ 30) (d : Nat) : ∀ i : Nat, i + d = h.length →
    EvP (fun k => stillageref09_Look.l0 k (toRef h) (h.length : Int) (i : Int)) (fun r => r = if (h.drop i).any badH = true then 1 else 0) := by
  induction d with
  | zero =>
    intro i hi
    refine EvP.succ (fun k => by rw [stillageref09_Look.l0]) (EvP.no (by omega) (EvP.ret ?_))
    rw [List.drop_of_length_le (by omega)]
    rfl
  | succ d ih =>
    intro i hi
    have hi2 : i < h.length := by omega
    have hg : rd_T62 h (i : Int) = h[i] := by simp [rd_T62, List.getElem?_eq_getElem hi2]
    have hd : (h.drop i).any badH = (badH (rd_T62 h (i : Int)) || (h.drop (i + 1)).any badH) := by
      rw [List.drop_eq_getElem_cons hi2, hg]
      rfl
    refine EvP.succ (fun k => by rw [stillageref09_Look.l0]) (EvP.yes (by omega) (EvP.yes (by omega) (EvP.yes (by rw [toRef_length]; omega) ?_)))
    rw [hd]
    simp only [toRef_rd0, toRef_rd1]
    have hj : ∀ b : Bool, (b = (decide ((rd_T62 h (i : Int)).f1 ≠ -1) && badZ (rd_T62 h (i : Int)).f1)) →
        EvP (fun k => stillageref09_Look.j1 k (toRef h) (i : Int) (h.length : Int) (i : Int) b) (fun r => r = if (badH (rd_T62 h (i : Int)) || (h.drop (i + 1)).any badH) = true then 1 else 0) := by
      intro b hb
      cases b with
      | true =>
        refine EvP.succ (fun k => by rw [stillageref09_Look.j1]) (EvP.yes rfl (EvP.ret ?_))
        rw [if_pos]
        unfold badH
        rw [← hb]
        simp
      | false =>
        refine EvP.succ (fun k => by rw [stillageref09_Look.j1]) (EvP.no (by simp) (EvP.yes (by omega) (EvP.yes (by rw [toRef_length]; omega) ?_)))
        simp only [toRef_rd0, toRef_rd1]
        refine (look_l1 h hh i hi2 (hl i hi2) (fun _ => ih (i + 1) (by omega)) (rd_T62 h (i : Int)).f0.length 0 (by omega) (fun t ht => by omega)).mono (fun r hr => ?_)
        rw [hr]
        unfold badH
        rw [← hb]
        cases (rd_T62 h (i : Int)).f0.any badZ <;> simp
    refine EvP.split (fun h1 => hj true ?_) (fun h1 => hj _ ?_)
    · unfold badZ
      have h1' : (rd_T62 h (i : Int)).f1 < -1 := h1
      have a1 : decide ((rd_T62 h (i : Int)).f1 ≠ -1) = true := decide_eq_true (by omega)
      have a2 : decide ((rd_T62 h (i : Int)).f1 < 0) = true := decide_eq_true (by omega)
      rw [a1, a2]; rfl
    · have h1' : ¬ (rd_T62 h (i : Int)).f1 < -1 := h1
      show decide ((rd_T62 h (i : Int)).f1 > 7) = _
      generalize (rd_T62 h (i : Int)).f1 = z at h1'
      unfold badZ
      rw [Bool.eq_iff_iff]
      simp only [Bool.and_eq_true, Bool.or_eq_true, decide_eq_true_eq]
      omega
theorem waits_e (h : List S62) (hh : h.length ≤ 40) (hl : ∀ t : Nat, t < h.length → (rd_T62 h (t : Int)).f0.length ≤ 30) (a b : Int) (ha0 : 0 ≤ a) (ha : a < (h.length : Int)) (hb0 : 0 ≤ b) (hb : b < (h.length : Int)) :
    EvP (fun k => stillageref09_Waits.f k (toRef h) a b) (fun r => r = wantsZ h a b) := by
  refine EvP.eq (fun k => by rw [stillageref09_Waits.f]) (EvP.yes hb0 (EvP.yes (by rw [toRef_length]; exact hb) ?_))
  simp only [toRef_rd0, toRef_rd1]
  have hlb : (rd_T62 h b).f0.length ≤ 30 := by
    have := hl b.toNat (by omega)
    rwa [Int.toNat_of_nonneg hb0] at this
  suffices hs : ∀ (d j : Nat), j + d = (rd_T62 h b).f0.length → (0 ≤ (rd_T62 h a).f1 → ∀ t : Nat, t < j → rd (rd_T62 h b).f0 (t : Int) ≠ (rd_T62 h a).f1) →
      EvP (fun k => stillageref09_Waits.l0 k (toRef h) a b ((rd_T62 h b).f0.length : Int) (j : Int)) (fun r => r = wantsZ h a b) from hs (rd_T62 h b).f0.length 0 (by omega) (fun _ t ht => by omega)
  intro d
  induction d with
  | zero =>
    intro j hj hall
    refine EvP.succ (fun k => by rw [stillageref09_Waits.l0]) (EvP.no (by omega) (EvP.ret ?_))
    symm
    rw [Bool.eq_false_iff]
    intro hw
    unfold wantsZ at hw
    rw [Bool.and_eq_true, decide_eq_true_eq, List.contains_iff_mem] at hw
    obtain ⟨t, ht, e⟩ := List.getElem_of_mem hw.2
    have := hall hw.1 t (by omega)
    rw [rd_in ht] at this
    exact this e
  | succ d ih =>
    intro j hj hall
    have hj2 : j < (rd_T62 h b).f0.length := by omega
    refine EvP.succ (fun k => by rw [stillageref09_Waits.l0]) (EvP.yes (by omega) (EvP.yes (by omega) (EvP.yes (by rw [toRef_length]; omega) ?_)))
    simp only [toRef_rd0, toRef_rd1]
    rw [wnext j (by omega)]
    refine EvP.split (fun h1 => EvP.yes hb0 (EvP.yes (by rw [toRef_length]; exact hb) (EvP.yes (by omega) (EvP.yes (by omega) ?_)))) (fun h1 => ?_)
    · refine EvP.split (fun h2 => EvP.ret ?_) (fun h2 => ih (j + 1) (by omega) (fun h3 t ht => ?_))
      · symm
        unfold wantsZ
        rw [Bool.and_eq_true, decide_eq_true_eq, List.contains_iff_mem]
        have h2' : rd (rd_T62 h b).f0 (j : Int) = (rd_T62 h a).f1 := h2
        rw [rd_in hj2] at h2'
        exact ⟨h1, h2' ▸ List.getElem_mem hj2⟩
      · by_cases e : t = j
        · subst e; exact h2
        · exact hall h3 t (by omega)
    · exact ih (j + 1) (by omega) (fun h3 t ht => absurd h3 h1)
/-- What the reference tells at its end. -/
def Told (h : List S62) (r : Bool) : Prop := (∀ l, IsRing h l → r = true) ∧ (Ranked h → r = false)
def Keep (h : List S62) (g : List Bool) : Prop := g.length = h.length ∧ ∀ l, IsRing h l → ∀ x ∈ l, rdOf false g x = false
def Closed (h : List S62) (g : List Bool) (i : Nat) : Prop := ∀ t : Nat, t < i → rdOf false g (t : Int) = false → ∃ s : Nat, s < h.length ∧ rdOf false g (s : Int) = false ∧ wantsZ h (t : Int) (s : Int) = true
theorem rdOf_in {g : List Bool} {i : Nat} (h : i < g.length) : rdOf false g (i : Int) = g[i] := by simp [rdOf, List.getElem?_eq_getElem h]
theorem rdOf_set {g : List Bool} {i : Nat} (h : i < g.length) (v : Int) (h0 : 0 ≤ v) : rdOf false (g.set i true) v = if v = (i : Int) then true else rdOf false g v := by
  obtain ⟨t, rfl⟩ := Int.eq_ofNat_of_zero_le h0
  by_cases e : t = i
  · subst e; simp [rdOf, h]
  · have e2 : ¬ ((t : Int) = (i : Int)) := by omega
    rw [if_neg e2]
    simp [rdOf, List.getElem?_set_ne (show i ≠ t by omega)]
theorem keep_set {h : List S62} {g : List Bool} (K : Keep h g) {i : Nat} (hi : i < h.length) (hw : ∀ s : Nat, s < h.length → rdOf false g (s : Int) = false → wantsZ h (i : Int) (s : Int) = false) : Keep h (g.set i true) := by
  refine ⟨by rw [List.length_set]; exact K.1, fun l R x hx => ?_⟩
  have hx0 := R.rng x hx
  rw [rdOf_set (by rw [K.1]; exact hi) x hx0.1]
  by_cases e : x = (i : Int)
  · exfalso
    subst e
    obtain ⟨t, ht, e⟩ := List.getElem_of_mem hx
    have h1 := R.next t ht
    have h2 := List.getElem_mem (Nat.mod_lt (t + 1) R.ne)
    have h3 := K.2 l R _ h2
    have h4 := R.rng _ h2
    rw [e] at h1
    generalize l[(t + 1) % l.length]'(Nat.mod_lt _ R.ne) = y at h1 h2 h3 h4
    obtain ⟨s, rfl⟩ := Int.eq_ofNat_of_zero_le h4.1
    rw [hw s (by omega) h3] at h1
    cases h1
  · rw [if_neg e]
    exact K.2 l R x hx
theorem told_of (h : List S62) (g : List Bool) (K : Keep h g) (C : Closed h g h.length) (r : Bool) (hr : r = true ↔ ∃ s : Nat, s < h.length ∧ rdOf false g (s : Int) = false) : Told h r := by
  refine ⟨fun l R => ?_, fun ⟨rk, hk⟩ => ?_⟩
  · rw [hr]
    have h1 := List.getElem_mem R.ne
    have h2 := K.2 l R _ h1
    have h3 := R.rng _ h1
    obtain ⟨s, e⟩ := Int.eq_ofNat_of_zero_le h3.1
    rw [e] at h2 h3
    exact ⟨s, by omega, h2⟩
  · rw [Bool.eq_false_iff]
    intro h1
    obtain ⟨s, hs, hg⟩ := hr.1 h1
    have : ∀ (n : Nat) (s : Nat), rk (s : Int) ≤ n → s < h.length → rdOf false g (s : Int) = false → False := by
      intro n
      induction n with
      | zero =>
        intro s h2 hs hg
        obtain ⟨t, ht, hgt, hw⟩ := C s hs hg
        have := hk _ _ (by omega) (by omega) (by omega) (by omega) hw
        omega
      | succ n ih =>
        intro s h2 hs hg
        obtain ⟨t, ht, hgt, hw⟩ := C s hs hg
        have := hk _ _ (by omega) (by omega) (by omega) (by omega) hw
        exact ih t (by omega) ht hgt
    exact this _ s (Nat.le_refl _) hs hg
theorem stuck_l3 (h : List S62) (hh : h.length ≤ 40) (g : List Bool) (K : Keep h g) (C : Closed h g h.length) (d : Nat) : ∀ i : Nat, i + d = h.length → (∀ t : Nat, t < i → rdOf false g (t : Int) = true) →
    EvP (fun k => stillageref09_Stuck.l3 k g (h.length : Int) (i : Int)) (fun r => Told h r) := by
  induction d with
  | zero =>
    intro i hi hall
    refine EvP.succ (fun k => by rw [stillageref09_Stuck.l3]) (EvP.no (by omega) (EvP.ret (told_of h g K C false ?_)))
    constructor
    · intro h1; cases h1
    · rintro ⟨s, h1, h2⟩
      rw [hall s (by omega)] at h2; cases h2
  | succ d ih =>
    intro i hi hall
    have := K.1
    refine EvP.succ (fun k => by rw [stillageref09_Stuck.l3]) (EvP.yes (by omega) (EvP.yes (by omega) (EvP.yes (by omega) ?_)))
    rw [wnext i (by omega)]
    refine EvP.split (fun h1 => ih (i + 1) (by omega) (fun t ht => ?_)) (fun h1 => EvP.ret (told_of h g K C true ?_))
    · by_cases e : t = i
      · subst e; exact h1
      · exact hall t (by omega)
    · exact ⟨fun _ => ⟨i, by omega, by rwa [Bool.not_eq_true] at h1⟩, fun _ => rfl⟩
theorem stuck_l2 (h : List S62) (hh : h.length ≤ 40) (hl : ∀ t : Nat, t < h.length → (rd_T62 h (t : Int)).f0.length ≤ 30) (g : List Bool) (hg : g.length = h.length) (ag : Bool) (i : Nat) (hi : i < h.length) (P : Bool → Prop)
    (hA : (rdOf false g (i : Int) = true ∨ ∃ s : Nat, s < h.length ∧ rdOf false g (s : Int) = false ∧ wantsZ h (i : Int) (s : Int) = true) → EvP (fun k => stillageref09_Stuck.l1 k (toRef h) g ag (h.length : Int) ((i + 1 : Nat) : Int)) P)
    (hB : rdOf false g (i : Int) = false → (∀ s : Nat, s < h.length → rdOf false g (s : Int) = false → wantsZ h (i : Int) (s : Int) = false) → EvP (fun k => stillageref09_Stuck.l1 k (toRef h) (g.set i true) true (h.length : Int) ((i + 1 : Nat) : Int)) P) (d : Nat) :
    ∀ (j : Nat) (w : Bool), j + d = h.length → (w = true → ∃ s : Nat, s < h.length ∧ rdOf false g (s : Int) = false ∧ wantsZ h (i : Int) (s : Int) = true) → (w = false → ∀ s : Nat, s < j → rdOf false g (s : Int) = false → wantsZ h (i : Int) (s : Int) = false) →
    EvP (fun k => stillageref09_Stuck.l2 k (toRef h) g ag (i : Int) w (h.length : Int) (i : Int) (h.length : Int) (j : Int)) P := by
  induction d with
  | zero =>
    intro j w hj h1 h2
    refine EvP.succ (fun k => by rw [stillageref09_Stuck.l2]) (EvP.no (by omega) (EvP.yes (by omega) (EvP.yes (by omega) ?_)))
    rw [wnext i (by omega), Int.toNat_natCast]
    refine EvP.split (fun h3 => hA (.inl h3)) (fun h3 => EvP.split (fun h4 => hA (.inr (h1 h4))) (fun h4 => hB (by rwa [Bool.not_eq_true] at h3) (fun s hs hgs => h2 (by rwa [Bool.not_eq_true] at h4) s (by omega) hgs)))
  | succ d ih =>
    intro j w hj h1 h2
    refine EvP.succ (fun k => by rw [stillageref09_Stuck.l2]) (EvP.yes (by omega) ?_)
    rw [wnext j (by omega)]
    refine EvP.split (fun h3 => ih (j + 1) true (by omega) (fun _ => h1 h3) (fun h => by cases h)) (fun h3 => ?_)
    rw [Bool.not_eq_true] at h3
    refine EvP.yes (by omega) (EvP.yes (by omega) (EvP.split (fun h4 => ih (j + 1) false (by omega) (fun h => by cases h) (fun _ s hs hgs => ?_)) (fun h4 => ?_)))
    · by_cases e : s = j
      · subst e; rw [h4] at hgs; cases hgs
      · exact h2 h3 s (by omega) hgs
    · rw [Bool.not_eq_true] at h4
      refine EvP.bind (waits_e h hh hl (i : Int) (j : Int) (by omega) (by omega) (by omega) (by omega)) (fun a ha => ih (j + 1) a (by omega) (fun h5 => ⟨j, by omega, h4, by rw [← ha]; exact h5⟩) (fun h5 s hs hgs => ?_))
      by_cases e : s = j
      · subst e; rw [← ha]; exact h5
      · exact h2 h3 s (by omega) hgs
theorem count_set {g : List Bool} {i : Nat} (h : i < g.length) (hf : rdOf false g (i : Int) = false) : (g.set i true).count false + 1 = g.count false := by
  rw [rdOf_in h] at hf
  have h1 := List.count_pos_iff.mpr (hf ▸ List.getElem_mem h)
  rw [List.count_set h, hf]
  simp only [beq_self_eq_true, if_true]
  have : (true == false) = false := rfl
  rw [this]
  simp only [Bool.false_eq_true, if_false]
  omega
theorem stuck_l1 (h : List S62) (hh : h.length ≤ 40) (hl : ∀ t : Nat, t < h.length → (rd_T62 h (t : Int)).f0.length ≤ 30) (M : Nat) (hrec : ∀ g : List Bool, Keep h g → g.count false < M → EvP (fun k => stillageref09_Stuck.l0 k (toRef h) g true) (fun r => Told h r)) (d : Nat) :
    ∀ (i : Nat) (g : List Bool) (ag : Bool), i + d = h.length → Keep h g → (ag = true → g.count false < M) → (ag = false → g.count false ≤ M ∧ Closed h g i) →
    EvP (fun k => stillageref09_Stuck.l1 k (toRef h) g ag (h.length : Int) (i : Int)) (fun r => Told h r) := by
  induction d with
  | zero =>
    intro i g ag hi K h1 h2
    refine EvP.succ (fun k => by rw [stillageref09_Stuck.l1]) (EvP.no (by omega) ?_)
    cases ag with
    | true => exact hrec g K (h1 rfl)
    | false =>
      refine EvP.succ (fun k => by rw [stillageref09_Stuck.l0]) (EvP.no (by simp) ?_)
      rw [K.1]
      have hC := (h2 rfl).2
      obtain rfl : i = h.length := by omega
      exact stuck_l3 h hh g K hC h.length 0 (by omega) (fun t ht => by omega)
  | succ d ih =>
    intro i g ag hi K h1 h2
    refine EvP.succ (fun k => by rw [stillageref09_Stuck.l1]) (EvP.yes (by omega) ?_)
    rw [toRef_length]
    refine stuck_l2 h hh hl g K.1 ag i (by omega) _ (fun hA => ?_) (fun hf hw => ?_) h.length 0 false (by omega) (fun h => by cases h) (fun _ s hs => by omega)
    · refine ih (i + 1) g ag (by omega) K h1 (fun h3 => ⟨(h2 h3).1, fun t ht hgt => ?_⟩)
      by_cases e : t = i
      · subst e
        rcases hA with hA | hA
        · rw [hA] at hgt; cases hgt
        · exact hA
      · exact (h2 h3).2 t (by omega) hgt
    · have hlt : i < g.length := by rw [K.1]; omega
      have hc := count_set hlt hf
      refine ih (i + 1) (g.set i true) true (by omega) (keep_set K (by omega) hw) (fun _ => ?_) (fun h3 => by cases h3)
      cases ag with
      | true => have := h1 rfl; omega
      | false => have := (h2 rfl).1; omega
theorem stuck_l0 (h : List S62) (hh : h.length ≤ 40) (hl : ∀ t : Nat, t < h.length → (rd_T62 h (t : Int)).f0.length ≤ 30) (M : Nat) : ∀ g : List Bool, Keep h g → g.count false < M → EvP (fun k => stillageref09_Stuck.l0 k (toRef h) g true) (fun r => Told h r) := by
  induction M with
  | zero => intro g _ hc; omega
  | succ M ih =>
    intro g K hc
    refine EvP.succ (fun k => by rw [stillageref09_Stuck.l0]) (EvP.yes rfl ?_)
    rw [toRef_length]
    exact stuck_l1 h hh hl M ih h.length 0 g false (by omega) K (fun h => by cases h) (fun _ => ⟨by omega, fun t ht => by omega⟩)
theorem refStuck_e (h : List S62) (hh : h.length ≤ 40) (hl : ∀ t : Nat, t < h.length → (rd_T62 h (t : Int)).f0.length ≤ 30) : EvP (fun k => stillageref09_Stuck.f k (toRef h)) (fun r => Told h r) := by
  refine EvP.eq (fun k => by rw [stillageref09_Stuck.f, toRef_length]) (EvP.yes (by omega) (EvP.yes (by omega) ?_))
  rw [Int.toNat_natCast]
  refine stuck_l0 h hh hl _ _ ⟨by simp, fun l R x hx => ?_⟩ (Nat.lt_succ_self _)
  have h1 := R.rng x hx
  obtain ⟨t, rfl⟩ := Int.eq_ofNat_of_zero_le h1.1
  simp only [rdOf, Int.toNat_natCast, List.getD_eq_getElem?_getD, List.getElem?_replicate]
  split <;> rfl
theorem ring_l2 (h : List S62) (hh : h.length ≤ 40) (hl : ∀ t : Nat, t < h.length → (rd_T62 h (t : Int)).f0.length ≤ 30) (l : List Int) (R : IsRing h l) (hln : l.length ≤ 40) (d : Nat) : ∀ i : Nat, i + d = l.length →
    EvP (fun k => stillageref09_Ring.l2 k (toRef h) l (l.length : Int) (i : Int)) (fun r => r = true) := by
  have hne := R.ne
  induction d with
  | zero =>
    intro i hi
    refine EvP.succ (fun k => by rw [stillageref09_Ring.l2]) (EvP.no (by omega) (EvP.ret ?_))
    exact decide_eq_true (by omega)
  | succ d ih =>
    intro i hi
    have hi2 : i < l.length := by omega
    have hm := Nat.mod_lt (i + 1) hne
    have e : Int.tmod (wrap64 ((i : Int) + 1)) (l.length : Int) = (((i + 1) % l.length : Nat) : Int) := by
      rw [wnext i (by omega), Int.tmod_eq_emod_of_nonneg (by omega)]
      exact (Int.natCast_emod _ _).symm
    refine EvP.succ (fun k => by rw [stillageref09_Ring.l2]) (EvP.yes (by omega) (EvP.yes (by omega) (EvP.yes (by omega) (EvP.no (by omega) ?_))))
    rw [e, rd_in hi2, rd_in hm, wnext i (by omega)]
    refine EvP.yes (by omega) (EvP.yes (by omega) ?_)
    have r1 := R.rng _ (List.getElem_mem hi2)
    have r2 := R.rng _ (List.getElem_mem hm)
    refine EvP.bind (waits_e h hh hl _ _ r1.1 r1.2 r2.1 r2.2) (fun a ha => EvP.yes (by rw [ha]; exact R.next i hi2) (ih (i + 1) (by omega)))
theorem ring_l1 (h : List S62) (l : List Int) (R : IsRing h l) (hln : l.length ≤ 40) (i : Nat) (hi : i < l.length) (P : Bool → Prop) (hn : EvP (fun k => stillageref09_Ring.l0 k (toRef h) l (l.length : Int) ((i + 1 : Nat) : Int)) P) (d : Nat) : ∀ j : Nat, j + d = i →
    EvP (fun k => stillageref09_Ring.l1 k (toRef h) l (i : Int) (j : Int) (l.length : Int) (i : Int)) P := by
  induction d with
  | zero =>
    intro j hj
    refine EvP.succ (fun k => by rw [stillageref09_Ring.l1]) (EvP.no (by omega) ?_)
    rw [wnext i (by omega)]
    exact hn
  | succ d ih =>
    intro j hj
    have hj2 : j < l.length := by omega
    refine EvP.succ (fun k => by rw [stillageref09_Ring.l1]) (EvP.yes (by omega) (EvP.yes (by omega) (EvP.yes (by omega) (EvP.yes (by omega) (EvP.yes (by omega) ?_)))))
    rw [rd_in hj2, rd_in hi, wnext j (by omega)]
    refine EvP.no (fun e => ?_) (ih (j + 1) (by omega))
    have := (List.getElem_inj R.nd).mp e
    omega
theorem ring_e (h : List S62) (hh : h.length ≤ 40) (hl : ∀ t : Nat, t < h.length → (rd_T62 h (t : Int)).f0.length ≤ 30) (l : List Int) (R : IsRing h l) : EvP (fun k => stillageref09_Ring.f k (toRef h) l) (fun r => r = true) := by
  have hln : l.length ≤ 40 := Nat.le_trans (nodup_len h.length l R.nd R.rng) hh
  refine EvP.eq (fun k => by rw [stillageref09_Ring.f]) ?_
  suffices hs : ∀ (d i : Nat), i + d = l.length → EvP (fun k => stillageref09_Ring.l0 k (toRef h) l (l.length : Int) (i : Int)) (fun r => r = true) from hs l.length 0 (by omega)
  intro d
  induction d with
  | zero =>
    intro i hi
    refine EvP.succ (fun k => by rw [stillageref09_Ring.l0]) (EvP.no (by omega) ?_)
    exact ring_l2 h hh hl l R hln l.length 0 (by omega)
  | succ d ih =>
    intro i hi
    have hi2 : i < l.length := by omega
    have r1 := R.rng _ (List.getElem_mem hi2)
    refine EvP.succ (fun k => by rw [stillageref09_Ring.l0]) (EvP.yes (by omega) (EvP.yes (by omega) (EvP.yes (by omega) ?_)))
    rw [rd_in hi2]
    refine EvP.no (by omega) ?_
    have e : decide (l[i] ≥ ((toRef h).length : Int)) = false := decide_eq_false (by rw [toRef_length]; omega)
    rw [e]
    refine EvP.succ (fun k => by rw [stillageref09_Ring.j1]) (EvP.no (by simp) ?_)
    exact ring_l1 h l R hln i hi2 _ (ih (i + 1) (by omega)) i 0 (by omega)
theorem refLook_e (h : List S62) (hh : h.length ≤ 40) (hl : ∀ t : Nat, t < h.length → (rd_T62 h (t : Int)).f0.length ≤ 30) : EvP (fun k => stillageref09_Look.f k (toRef h)) (fun r => r = if h.any badH = true then 1 else 0) := by
  refine EvP.eq (G := fun k => stillageref09_Look.l0 k (toRef h) (h.length : Int) 0) (fun k => by rw [stillageref09_Look.f, toRef_length, if_neg (by omega)]) ?_
  exact look_e h hh hl h.length 0 (by omega)
theorem bad_e (h : List S62) (hb : 40 < h.length ∨ (h.length ≤ 40 ∧ h.any badH = true)) : EvP (fun k => zone_Stuck.f k h) (fun r => r = (([] : List Int), (1 : Int))) := by
  refine EvP.eq (G := fun _ => some (([] : List Int), (1 : Int))) (fun k => ?_) (EvP.ret rfl)
  unfold zone_Stuck.f
  rcases hb with hb | hb
  · rw [if_pos hb]
  · rw [if_neg (by omega), if_pos hb.2]
theorem ZoneStuck (l0 : List S62) (hm0 : l0.length ≤ maxLen) (hw0 : ∀ x ∈ l0, (x.f0.length ≤ maxLen ∧ ∀ x_1 ∈ x.f0, (Lit.int .i64 x_1).wf = true) ∧ (Lit.int .i64 x.f1).wf = true) : ∃ k, stillagelaw09_ZoneStuck.f k l0 = some true := by
  suffices h : EvP (fun k => stillagelaw09_ZoneStuck.f k l0) (fun r => r = true) by
    obtain ⟨k, r, h1, h2⟩ := h.get
    exact ⟨k, by rw [h1, h2]⟩
  unfold maxLen at hm0
  refine EvP.eq (fun k => by rw [stillagelaw09_ZoneStuck.f]) (EvP.bind awake_e (fun a ha => EvP.yes ha ?_))
  refine EvP.bind (EvP.eq (G := fun k => stillagelaw09_few.l0 k l0 (l0.length : Int) 0) (fun k => by rw [stillagelaw09_few.f]) (few_e l0 (by omega) l0.length 0 (by omega))) (fun f hf => ?_)
  cases f with
  | false => exact EvP.succ (fun k => by rw [stillagelaw09_ZoneStuck.j0]) (EvP.yes (c := (!false) = true) rfl (EvP.bind awake_e (fun a ha => EvP.ret ha)))
  | true =>
    have hb := hf rfl
    have h61 : l0.length ≤ 61 := by
      rcases Nat.lt_or_ge 61 l0.length with h1 | h1
      · have := (hb 61 (by omega) h1).1; omega
      · exact h1
    have hl : ∀ t : Nat, t < l0.length → (rd_T62 l0 (t : Int)).f0.length ≤ 30 := fun t ht => (hb t (by omega) ht).2
    refine EvP.succ (fun k => by rw [stillagelaw09_ZoneStuck.j0]) (EvP.no (by simp) ?_)
    have href : EvP (fun k => stillagelaw09_ref.f k l0) (fun r => r = toRef l0) := EvP.eq (fun k => by rw [stillagelaw09_ref.f]) (by
      have := ref_e l0 h61 l0.length 0 (by omega)
      simpa [toRef] using this)
    by_cases h40 : l0.length ≤ 40
    · by_cases hbad : l0.any badH = true
      · refine EvP.bind (bad_e l0 (.inr ⟨h40, hbad⟩)) (fun b hb => ?_)
        subst hb
        refine EvP.bind href (fun m hm => ?_)
        subst hm
        refine EvP.bind (refLook_e l0 h40 hl) (fun c hc => ?_)
        rw [if_pos hbad] at hc
        subst hc
        exact EvP.no (by decide) (EvP.yes rfl (EvP.ret rfl))
      · rw [Bool.not_eq_true] at hbad
        refine EvP.bind (Stuck_e l0 h40 hbad) (fun s hs => EvP.bind href (fun m hm => ?_))
        subst hm
        refine EvP.bind (refLook_e l0 h40 hl) (fun c hc => ?_)
        rw [if_neg (by rw [hbad]; simp)] at hc
        subst hc
        refine EvP.yes rfl (EvP.bind (refStuck_e l0 h40 hl) (fun t ht => ?_))
        rcases hs.2 with R | ⟨hn, hr⟩
        · refine EvP.yes (ht.1 _ R) (EvP.yes hs.1 (EvP.bind (ring_e l0 h40 hl _ R) (fun q hq => EvP.ret hq)))
        · refine EvP.no (by rw [ht.2 hr]; simp) (EvP.yes hs.1 (EvP.ret ?_))
          rw [hn]; rfl
    · refine EvP.bind (bad_e l0 (.inl (by omega))) (fun b hb => ?_)
      subst hb
      refine EvP.bind href (fun m hm => ?_)
      subst hm
      refine EvP.bind (Q := fun r => r = 1) (EvP.eq (fun k => by rw [stillageref09_Look.f, toRef_length]) (EvP.yes (by omega) (EvP.ret rfl))) (fun c hc => ?_)
      subst hc
      exact EvP.no (by decide) (EvP.yes rfl (EvP.ret rfl))

end Go.Proofs.Ytkdfohmceokchaa.Pure
