/- stillagelaw09.ZoneSafe is true at every owners and wants: no condition. -/
import Derived.OpenShut
import Derived.Test.YtkdfohmceokchaaEvt
import Derived.Test.YtkdfohmceokchaaPZoneSafex
set_option linter.unusedVariables false
set_option linter.unusedSimpArgs false
set_option maxRecDepth 10000
namespace Go.Proofs.Ytkdfohmceokchaa.Pure
open Go.RowKit Go.Proofs.Ytkdfohmceokchaa.PZoneSafe Go.Proofs.YtkdfohmceokchaaW.PrintWords Go.Proofs.YtkdfohmceokchaaW.PrintLast Go.Proofs.PlainEvt
theorem wsm {n : Int} (h0 : -9223372036854775808 ≤ n) (h1 : n ≤ 9223372036854775807) : wrap64 n = n := by unfold wrap64; omega
theorem wnext (i : Nat) (h : i ≤ 1000000000) : wrap64 ((i : Int) + 1) = ((i + 1 : Nat) : Int) := by rw [wsm] <;> omega
theorem rd_in {l : List Int} {i : Nat} (h : i < l.length) : rd l (i : Int) = l[i] := by simp [rd, List.getElem?_eq_getElem h]
theorem ext_of_sorted {α : Type} (r : α → α → Prop) (hi : ∀ a, ¬ r a a) (ha : ∀ a b, r a b → ¬ r b a) : ∀ l1 l2 : List α, l1.Pairwise r → l2.Pairwise r → (∀ x, x ∈ l1 ↔ x ∈ l2) → l1 = l2
  | [], [], _, _, _ => rfl
  | [], b :: l2, _, _, h => by have := (h b).2 List.mem_cons_self; simp at this
  | a :: l1, [], _, _, h => by have := (h a).1 List.mem_cons_self; simp at this
  | a :: l1, b :: l2, h1, h2, h => by
    rw [List.pairwise_cons] at h1 h2
    have e : a = b := by
      rcases List.mem_cons.mp ((h a).1 List.mem_cons_self) with e | e
      · exact e
      · rcases List.mem_cons.mp ((h b).2 List.mem_cons_self) with e' | e'
        · exact e'.symm
        · exact absurd (h1.1 b e') (ha _ _ (h2.1 a e))
    subst e
    congr 1
    refine ext_of_sorted r hi ha l1 l2 h1.2 h2.2 (fun x => ?_)
    constructor
    · intro hx
      rcases List.mem_cons.mp ((h x).1 (List.mem_cons_of_mem _ hx)) with e | e
      · subst e; exact absurd (h1.1 x hx) (hi x)
      · exact e
    · intro hx
      rcases List.mem_cons.mp ((h x).2 (List.mem_cons_of_mem _ hx)) with e | e
      · subst e; exact absurd (h2.1 x hx) (hi x)
      · exact e
/-- What is told of numbers put in order. -/
structure OrdZ (l R : List Int) : Prop where
  pw : R.Pairwise (fun x y => x < y)
  mem : ∀ x, x ∈ R ↔ x ∈ l
theorem OrdZ.eq {l R Q : List Int} (h : OrdZ l R) (h' : OrdZ l Q) : R = Q :=
  ext_of_sorted _ (fun _ => by omega) (fun _ _ _ => by omega) R Q h.pw h'.pw (fun x => (h.mem x).trans (h'.mem x).symm)
theorem comp_inv (s : Array Int) (hs : ∀ i j, i < j → j < s.size → s[i]! ≤ s[j]!) : ∀ m, m ≤ s.size →
    (Lib.compactUpTo s m).Pairwise (fun x y => x < y) ∧ (∀ x ∈ Lib.compactUpTo s m, ∃ j, j < m ∧ x = s[j]!) ∧ ∀ j, j < m → s[j]! ∈ Lib.compactUpTo s m := by
  intro m
  induction m with
  | zero => intro _; exact ⟨by simp [Lib.compactUpTo], by simp [Lib.compactUpTo], fun j h => by omega⟩
  | succ m ih =>
    intro hm
    obtain ⟨h1, h2, h3⟩ := ih (by omega)
    rw [Lib.compactUpTo_succ]
    cases hk : Lib.keeps s m with
    | false =>
      have hz : m ≠ 0 ∧ s[m]! = s[m - 1]! := by simpa [Lib.keeps] using hk
      simp only [Bool.false_eq_true, if_false, List.append_nil]
      refine ⟨h1, fun x hx => ?_, fun j hj => ?_⟩
      · obtain ⟨j, hj, e⟩ := h2 x hx
        exact ⟨j, by omega, e⟩
      · by_cases e : j = m
        · subst e; rw [hz.2]; exact h3 _ (by omega)
        · exact h3 j (by omega)
    | true =>
      have hz : m = 0 ∨ s[m]! ≠ s[m - 1]! := by simpa [Lib.keeps] using hk
      simp only [if_true]
      refine ⟨?_, fun x hx => ?_, fun j hj => ?_⟩
      · rw [List.pairwise_append]
        refine ⟨h1, by simp, fun x hx y hy => ?_⟩
        obtain rfl : y = s[m]! := by simpa using hy
        obtain ⟨j, hj, rfl⟩ := h2 x hx
        rcases hz with rfl | hz
        · omega
        · have hlast : s[m - 1]! < s[m]! := by
            have := hs (m - 1) m (by omega) (by omega)
            omega
          by_cases e : j = m - 1
          · subst e; exact hlast
          · have := hs j (m - 1) (by omega) (by omega)
            omega
      · rcases List.mem_append.mp hx with hx | hx
        · obtain ⟨j, hj, e⟩ := h2 x hx
          exact ⟨j, by omega, e⟩
        · obtain rfl : x = s[m]! := by simpa using hx
          exact ⟨m, by omega, rfl⟩
      · by_cases e : j = m
        · subst e; simp
        · exact List.mem_append_left _ (h3 j (by omega))
theorem sortZ_sorted (l : List Int) : ∀ i j, i < j → j < (sortZ l).toArray.size → (sortZ l).toArray[i]! ≤ (sortZ l).toArray[j]! := by
  intro i j hij hj
  have hp := List.pairwise_mergeSort (le := fun x y : Int => decide (x ≤ y)) (fun a b c h1 h2 => by simp at *; omega) (fun a b => by simp; omega) l
  rw [List.pairwise_iff_getElem] at hp
  have hj' : j < (l.mergeSort fun x y => decide (x ≤ y)).length := by simpa [sortZ] using hj
  have := hp i j (by omega) hj' hij
  rw [getElem!_pos (sortZ l).toArray i (by omega), getElem!_pos (sortZ l).toArray j hj]
  simpa [sortZ] using this
theorem orderZ_ord (l : List Int) : OrdZ l (orderZ l) := by
  obtain ⟨h1, h2, h3⟩ := comp_inv (sortZ l).toArray (sortZ_sorted l) _ (Nat.le_refl _)
  have hm : ∀ y, y ∈ sortZ l ↔ y ∈ l := fun y => by simp [sortZ, List.mem_mergeSort]
  refine ⟨h1, fun x => ⟨fun hx => ?_, fun hx => ?_⟩⟩
  · obtain ⟨j, hj, e⟩ := h2 x hx
    rw [← hm, e, getElem!_pos (sortZ l).toArray j hj]
    simp
  · rw [← hm] at hx
    obtain ⟨j, hj, e⟩ := List.getElem_of_mem hx
    have hj' : j < (sortZ l).toArray.size := by simpa using hj
    have := h3 j hj'
    rw [getElem!_pos (sortZ l).toArray j hj'] at this
    rw [← e]
    simpa [orderZ] using this
theorem Ints_loop (x y : List Int) (hl : x.length = y.length) (hm : x.length ≤ 100000) (n : Nat) : ∀ i : Nat, i + n = x.length → EvP (fun k => stillageref01_Ints.l0 k x y (x.length : Int) (i : Int)) (fun r => r = true ↔ x.drop i = y.drop i) := by
  induction n with
  | zero =>
    intro i hi
    refine EvP.succ (fun k => stillageref01_Ints.l0.eq_2 _ _ _ _ k) (EvP.no (by omega) (EvP.ret ?_))
    rw [List.drop_eq_nil_of_le (by omega), List.drop_eq_nil_of_le (by omega)]
    simp
  | succ n ih =>
    intro i hi
    have h1 : i < x.length := by omega
    have h2 : i < y.length := by omega
    have e1 : rd x (i : Int) = x[i] := rd_in h1
    have e2 : rd y (i : Int) = y[i] := rd_in h2
    refine EvP.succ (fun k => stillageref01_Ints.l0.eq_2 _ _ _ _ k) (EvP.yes (by omega) (EvP.yes (by omega) (EvP.yes (by omega) (EvP.yes (by omega) (EvP.split (fun c => ?_) (fun c => EvP.ret ?_))))))
    · rw [wnext i (by omega)]
      refine (ih (i + 1) (by omega)).mono (fun r h => ?_)
      rw [h, List.drop_eq_getElem_cons h1, List.drop_eq_getElem_cons h2]
      rw [e1, e2] at c
      simp only [List.cons.injEq, c, true_and]
    · rw [List.drop_eq_getElem_cons h1, List.drop_eq_getElem_cons h2]
      rw [e1, e2] at c
      simp only [List.cons.injEq, c, false_and]
      simp
theorem Ints_e (x y : List Int) (hm : x.length ≤ 100000) : EvP (fun k => stillageref01_Ints.f k x y) (fun r => r = true ↔ x = y) := by
  refine EvP.split (fun c => ?_) (fun c => EvP.ret ?_)
  · exact Ints_loop x y (by omega) hm x.length 0 (by omega)
  · constructor
    · intro h; cases h
    · rintro rfl
      exact absurd rfl c
theorem Ints_eq {x y : List Int} (h : x = y) (hm : x.length ≤ 100000) : EvP (fun k => stillageref01_Ints.f k x y) (fun r => r = true) := (Ints_e x y hm).mono (fun r e => e.2 h)
theorem stuck1 : Evt (fun k => zone_Stuck.f k [⟨[0], 1⟩, ⟨[1], 0⟩]) ([0, 1], 0) := Evt.mono (n := 20) (by decide +kernel) (fun k r h => zone_Stuck.mono _ k r h)
theorem stuck2 : Evt (fun k => zone_Stuck.f k [⟨[0], 1⟩, ⟨[1], -1⟩]) ([], 0) := Evt.mono (n := 20) (by decide +kernel) (fun k r h => zone_Stuck.mono _ k r h)
theorem order1 : zone_Order.f [3, 1, 3] = some ([1, 3], 0) := by
  unfold zone_Order.f
  rw [if_pos (by simp), if_neg (by decide), (orderZ_ord [3, 1, 3]).eq (Q := [1, 3]) ⟨by simp, fun x => by simp; omega⟩]
theorem awake_e : EvP (fun k => stillagelaw09_awake.f k) (fun r => r = true) := by
  refine EvP.ebind stuck1 (EvP.ebind stuck2 (EvP.obind order1 ?_))
  refine EvP.yes rfl (EvP.yes rfl (EvP.yes rfl (EvP.yes rfl (EvP.yes rfl ?_))))
  exact EvP.bind (Ints_eq rfl (by simp)) (fun a ha => EvP.ret ha)
/-! looking for a ring: what is found is one, and where none is found there is a rank that falls -/
theorem nodup_len : ∀ (n : Nat) (l : List Int), l.Nodup → (∀ x ∈ l, 0 ≤ x ∧ x < (n : Int)) → l.length ≤ n
  | 0, l, _, h => by
    cases l with
    | nil => simp
    | cons x l => have := h x List.mem_cons_self; omega
  | n + 1, l, hd, h => by
    by_cases hm : (n : Int) ∈ l
    · have h1 := List.length_erase_of_mem hm
      have h2 := nodup_len n (l.erase (n : Int)) (hd.erase _) (fun x hx => by
        have h3 := (hd.mem_erase_iff).1 hx
        have h4 := h x h3.2
        have : x ≠ (n : Int) := h3.1
        omega)
      omega
    · have := nodup_len n l hd (fun x hx => by
        have h4 := h x hx
        have : x ≠ (n : Int) := by rintro rfl; exact hm hx
        omega)
      omega
structure IsRing (h : List S62) (l : List Int) : Prop where
  ne : 0 < l.length
  rng : ∀ x ∈ l, 0 ≤ x ∧ x < (h.length : Int)
  nd : l.Nodup
  next : ∀ (t : Nat) (ht : t < l.length), wantsZ h l[t] (l[(t + 1) % l.length]'(Nat.mod_lt _ ne)) = true
structure DInv (h : List S62) (seen path F : List Int) : Prop where
  sl : seen.length = 40
  gray : ∀ v : Int, 0 ≤ v → v < h.length → (rd seen v = 1 ↔ v ∈ path)
  black : ∀ v : Int, 0 ≤ v → v < h.length → (rd seen v = 2 ↔ v ∈ F)
  some3 : ∀ v : Int, 0 ≤ v → v < h.length → rd seen v = 0 ∨ rd seen v = 1 ∨ rd seen v = 2
  nd : (F ++ path).Nodup
  rng : ∀ x ∈ F ++ path, 0 ≤ x ∧ x < (h.length : Int)
  chain : ∀ (t : Nat) (ht : t + 1 < path.length), wantsZ h path[t] path[t + 1] = true
  closed : ∀ (t : Nat) (ht : t < F.length) (j : Int), 0 ≤ j → j < h.length → wantsZ h F[t] j = true → ∃ s, ∃ hs : s < t, F[s] = j
theorem rd_set_self {l : List Int} {i : Nat} (h : i < l.length) (x : Int) : rd (l.set i x) (i : Int) = x := by simp [rd, h]
theorem rd_set_other {l : List Int} {i : Nat} {v : Int} (h0 : 0 ≤ v) (h : v ≠ (i : Int)) (x : Int) : rd (l.set i x) v = rd l v := by
  obtain ⟨j, rfl⟩ := Int.eq_ofNat_of_zero_le h0
  have : j ≠ i := by omega
  simp [rd, List.getElem?_set_ne this.symm]
theorem DInv.len {h : List S62} {seen path F : List Int} (D : DInv h seen path F) : F.length + path.length ≤ h.length := by
  have := nodup_len h.length (F ++ path) D.nd D.rng
  simpa using this
/-- i, not yet seen, comes onto the path. -/
theorem DInv.push {h : List S62} (hh : h.length ≤ 40) {seen path F : List Int} (D : DInv h seen path F) {i : Nat} (hi : i < h.length) (hw : rd seen (i : Int) = 0) (hl : ∀ hp : 0 < path.length, wantsZ h (path[path.length - 1]'(by omega)) (i : Int) = true) :
    DInv h (seen.set i 1) (path ++ [(i : Int)]) F := by
  have hs := D.sl
  have hnp : ¬ (i : Int) ∈ path := fun hm => by have := (D.gray i (by omega) (by omega)).2 hm; omega
  have hnf : ¬ (i : Int) ∈ F := fun hm => by have := (D.black i (by omega) (by omega)).2 hm; omega
  refine ⟨by simp [hs], fun v h0 h1 => ?_, fun v h0 h1 => ?_, fun v h0 h1 => ?_, ?_, ?_, ?_, D.closed⟩
  · by_cases e : v = (i : Int)
    · subst e
      rw [rd_set_self (by omega)]
      simp
    · rw [rd_set_other h0 e, D.gray v h0 h1]
      simp [e]
  · by_cases e : v = (i : Int)
    · subst e
      rw [rd_set_self (by omega)]
      simp [hnf]
    · rw [rd_set_other h0 e, D.black v h0 h1]
  · by_cases e : v = (i : Int)
    · subst e
      rw [rd_set_self (by omega)]
      simp
    · rw [rd_set_other h0 e]
      exact D.some3 v h0 h1
  · rw [← List.append_assoc, List.nodup_append]
    refine ⟨D.nd, by simp, fun a ha b hb => ?_⟩
    obtain rfl : b = (i : Int) := by simpa using hb
    rintro rfl
    rcases List.mem_append.mp ha with hx | hx
    · exact hnf hx
    · exact hnp hx
  · intro x hx
    rw [← List.append_assoc] at hx
    rcases List.mem_append.mp hx with hx | hx
    · exact D.rng x hx
    · obtain rfl : x = (i : Int) := by simpa using hx
      omega
  · intro t ht
    rw [List.length_append, List.length_singleton] at ht
    by_cases e : t + 1 < path.length
    · rw [List.getElem_append_left (by omega), List.getElem_append_left e]
      exact D.chain t e
    · have e1 : t = path.length - 1 := by omega
      have e2 : t + 1 = path.length := by omega
      have h3 := hl (by omega)
      rw [List.getElem_append_left (by omega), List.getElem_append_right (by omega)]
      simp only [e1]
      simpa using h3
/-- The path's last one is done with: all that it waits for leads to no ring. -/
theorem DInv.pop {h : List S62} (hh : h.length ≤ 40) {seen path F : List Int} {i : Nat} (D : DInv h seen (path ++ [(i : Int)]) F) (hi : i < h.length) (hd : ∀ j : Int, 0 ≤ j → j < h.length → wantsZ h (i : Int) j = true → j ∈ F) :
    DInv h (seen.set i 2) path (F ++ [(i : Int)]) := by
  have hs := D.sl
  have hnd := D.nd
  rw [List.nodup_append, List.nodup_append] at hnd
  obtain ⟨n1, ⟨n2, n3, n4⟩, n5⟩ := hnd
  have hnp : ¬ (i : Int) ∈ path := fun hm => n4 (i : Int) hm (i : Int) (by simp) rfl
  refine ⟨by simp [hs], fun v h0 h1 => ?_, fun v h0 h1 => ?_, fun v h0 h1 => ?_, ?_, ?_, ?_, ?_⟩
  · by_cases e : v = (i : Int)
    · subst e
      rw [rd_set_self (by omega)]
      simp [hnp]
    · rw [rd_set_other h0 e, D.gray v h0 h1]
      simp [e]
  · by_cases e : v = (i : Int)
    · subst e
      rw [rd_set_self (by omega)]
      simp
    · rw [rd_set_other h0 e, D.black v h0 h1]
      simp [e]
  · by_cases e : v = (i : Int)
    · subst e
      rw [rd_set_self (by omega)]
      simp
    · rw [rd_set_other h0 e]
      exact D.some3 v h0 h1
  · rw [List.nodup_append, List.nodup_append]
    refine ⟨⟨n1, by simp, fun a ha b hb => ?_⟩, n2, fun a ha b hb => ?_⟩
    · exact n5 a ha b (List.mem_append_right _ hb)
    · rcases List.mem_append.mp ha with ha | ha
      · exact n5 a ha b (List.mem_append_left _ hb)
      · exact fun e => n4 b hb a ha e.symm
  · intro x hx
    apply D.rng
    simp only [List.mem_append] at hx ⊢
    rcases hx with (hx | hx) | hx
    · exact .inl hx
    · exact .inr (.inr hx)
    · exact .inr (.inl hx)
  · intro t ht
    have := D.chain t (by simp; omega)
    rw [List.getElem_append_left (by omega), List.getElem_append_left ht] at this
    exact this
  · intro t ht j h0 h1 hw
    rw [List.length_append, List.length_singleton] at ht
    by_cases e : t < F.length
    · rw [List.getElem_append_left e] at hw
      obtain ⟨s, hs, e2⟩ := D.closed t e j h0 h1 hw
      exact ⟨s, hs, by rw [List.getElem_append_left (by omega)]; exact e2⟩
    · have e1 : t = F.length := by omega
      subst e1
      rw [List.getElem_append_right (by omega)] at hw
      simp only [Nat.sub_self, List.getElem_cons_zero] at hw
      obtain ⟨s, hs, e2⟩ := List.getElem_of_mem (hd j h0 h1 hw)
      exact ⟨s, hs, by rw [List.getElem_append_left hs]; exact e2⟩
/-- What is behind a holder that is come to twice is a ring. -/
theorem ring_aux {h : List S62} {q : List Int} {i j : Int} (hq : 0 < q.length) (hm : j ∈ q) (hlast : q[q.length - 1]'(by omega) = i) (hch : ∀ (t : Nat) (ht : t + 1 < q.length), wantsZ h q[t] q[t + 1] = true) (hnd : q.Nodup) (hrng : ∀ x ∈ q, 0 ≤ x ∧ x < (h.length : Int)) (hw : wantsZ h i j = true) : IsRing h (q.drop (q.idxOf j)) := by
  have hx : q.idxOf j < q.length := List.idxOf_lt_length_of_mem hm
  have hget : q[q.idxOf j] = j := List.getElem_idxOf hx
  generalize q.idxOf j = a at hx hget ⊢
  refine ⟨by simp; omega, fun x hx2 => hrng x (List.mem_of_mem_drop hx2), hnd.sublist (List.drop_sublist _ _), fun t ht => ?_⟩
  rw [List.length_drop] at ht
  by_cases e : t + 1 < q.length - a
  · have e2 : (t + 1) % (q.drop a).length = t + 1 := Nat.mod_eq_of_lt (by simpa using e)
    simp only [e2, List.getElem_drop]
    have := hch (a + t) (by omega)
    simpa [Nat.add_assoc] using this
  · have e2 : (t + 1) % (q.drop a).length = 0 := by
      have : t + 1 = (q.drop a).length := by simp; omega
      rw [this, Nat.mod_self]
    simp only [e2, List.getElem_drop, Nat.add_zero]
    rw [hget]
    have e3 : a + t = q.length - 1 := by omega
    simp only [e3, hlast]
    exact hw
theorem DInv.ring {h : List S62} {seen path F : List Int} {i : Nat} (D : DInv h seen (path ++ [(i : Int)]) F) {j : Int} (hm : j ∈ path ++ [(i : Int)]) (hw : wantsZ h (i : Int) j = true) : IsRing h ((path ++ [(i : Int)]).drop ((path ++ [(i : Int)]).idxOf j)) :=
  ring_aux (by simp) hm (by simp) D.chain (List.nodup_append.1 D.nd).2.1 (fun x hx => D.rng x (List.mem_append_right _ hx)) hw
theorem visit_spec (h : List S62) (hh : h.length ≤ 40) (d : Nat) : ∀ (i : Nat) (seen path F : List Int), DInv h seen path F → i < h.length → rd seen (i : Int) = 0 → (∀ hp : 0 < path.length, wantsZ h (path[path.length - 1]'(by omega)) (i : Int) = true) → h.length ≤ d + F.length + path.length →
    EvP (fun k => visitZ h k (i : Int) seen path) (fun r => (r.1 = true ∧ IsRing h r.2.2.2) ∨ (r.1 = false ∧ r.2.2.1 = path ∧ ∃ G, DInv h r.2.1 path (F ++ G) ∧ (i : Int) ∈ F ++ G)) := by
  induction d with
  | zero =>
    intro i seen path F D hi hw hl hd
    have := (D.push hh hi hw hl).len
    simp at this
    omega
  | succ d ih =>
    intro i seen path F D hi hw hl hd
    have D1 := D.push hh hi hw hl
    have hlen := D.len
    have loop : ∀ (n : Nat) (j : Nat) (sn G : List Int), j + n = h.length → DInv h sn (path ++ [(i : Int)]) (F ++ G) → (∀ v : Int, 0 ≤ v → v < j → wantsZ h (i : Int) v = true → v ∈ F ++ G) →
        EvP (fun k => loopZ h k (i : Int) sn (path ++ [(i : Int)]) j) (fun r => (r.1 = true ∧ IsRing h r.2.2.2) ∨ (r.1 = false ∧ r.2.2.1 = path ∧ ∃ G, DInv h r.2.1 path (F ++ G) ∧ (i : Int) ∈ F ++ G)) := by
      intro n
      induction n with
      | zero =>
        intro j sn G hj D2 hall
        refine EvP.succ (fun k => by rw [loopZ]) (EvP.no (by omega) (EvP.no (by simp) (EvP.ret (.inr ⟨rfl, by simp, G ++ [(i : Int)], ?_, by simp⟩))))
        have := D2.pop hh hi (fun v h0 h1 hw => hall v h0 (by omega) hw)
        rw [List.append_assoc] at this
        exact this
      | succ n ihn =>
        intro j sn G hj D2 hall
        have hnext : ∀ (sn' G' : List Int), DInv h sn' (path ++ [(i : Int)]) (F ++ (G ++ G')) → (wantsZ h (i : Int) (j : Int) = true → (j : Int) ∈ F ++ (G ++ G')) → EvP (fun k => loopZ h k (i : Int) sn' (path ++ [(i : Int)]) (j + 1)) (fun r => (r.1 = true ∧ IsRing h r.2.2.2) ∨ (r.1 = false ∧ r.2.2.1 = path ∧ ∃ G, DInv h r.2.1 path (F ++ G) ∧ (i : Int) ∈ F ++ G)) := by
          intro sn' G' D3 hj3
          refine ihn (j + 1) sn' (G ++ G') (by omega) D3 (fun v h0 h1 hw => ?_)
          by_cases e : v = (j : Int)
          · subst e; exact hj3 hw
          · have := hall v h0 (by omega) hw
            rw [← List.append_assoc]
            exact List.mem_append_left _ this
        refine EvP.succ (fun k => by rw [loopZ]) (EvP.yes (by omega) (EvP.split (fun cw => ?_) (fun cw => ?_)))
        · refine EvP.split (fun c1 => ?_) (fun c1 => EvP.split (fun c0 => ?_) (fun c0 => ?_))
          · have hm := (D2.gray j (by omega) (by omega)).1 c1
            refine EvP.yes hm (EvP.ret (.inl ⟨rfl, D2.ring hm cw⟩))
          · have hv := ih j sn (path ++ [(i : Int)]) (F ++ G) D2 (by omega) c0 (fun hp => by simpa using cw) (by simp; omega)
            refine EvP.bind hv (fun r hr => ?_)
            rcases hr with ⟨hb, hring⟩ | ⟨hb, hp, G', D3, hjm⟩
            · exact EvP.yes hb (EvP.ret (.inl ⟨hb, hring⟩))
            · refine EvP.no (by rw [hb]; simp) ?_
              rw [hp]
              rw [List.append_assoc] at D3 hjm
              exact hnext _ G' D3 (fun _ => hjm)
          · have h2 : rd sn (j : Int) = 2 := by
              rcases D2.some3 j (by omega) (by omega) with e | e | e
              · exact absurd e c0
              · exact absurd e c1
              · exact e
            have hm := (D2.black j (by omega) (by omega)).1 h2
            exact hnext sn [] (by rw [List.append_nil]; exact D2) (fun _ => by rw [List.append_nil]; exact hm)
        · exact hnext sn [] (by rw [List.append_nil]; exact D2) (fun hw => absurd hw cw)
    refine EvP.succ (fun k => by rw [visitZ]) (EvP.yes (show 0 ≤ (i : Int) ∧ (i : Int) < h.length ∧ path.length < 1000 from ⟨by omega, by omega, by omega⟩) ?_)
    exact loop h.length 0 (seen.set i 1) [] (by omega) (by rw [List.append_nil]; exact D1) (fun v h0 h1 => by omega)
/-- Where nobody is stuck: a rank that falls from each holder to those that it waits for. -/
def Ranked (h : List S62) : Prop := ∃ rank : Int → Nat, ∀ i j : Int, 0 ≤ i → i < h.length → 0 ≤ j → j < h.length → wantsZ h i j = true → rank j < rank i
theorem stuckL_spec (h : List S62) (hh : h.length ≤ 40) (n : Nat) : ∀ (j : Nat) (seen F : List Int), j + n = h.length → DInv h seen [] F → (∀ v : Int, 0 ≤ v → v < j → v ∈ F) →
    EvP (fun k => stuckL h k seen [] j) (fun r => IsRing h r ∨ (r = [] ∧ Ranked h)) := by
  induction n with
  | zero =>
    intro j seen F hj D hall
    refine EvP.succ (fun k => by rw [stuckL]) (EvP.no (by omega) (EvP.ret (.inr ⟨rfl, fun v => F.idxOf v, fun a b ha0 ha1 hb0 hb1 hw => ?_⟩)))
    have hm := hall a ha0 (by omega)
    have hx : F.idxOf a < F.length := List.idxOf_lt_length_of_mem hm
    have hg : F[F.idxOf a] = a := List.getElem_idxOf hx
    obtain ⟨s, hs, e⟩ := D.closed (F.idxOf a) hx b hb0 hb1 (by rw [hg]; exact hw)
    have hnF := (List.nodup_append.1 D.nd).1
    have : F.idxOf b = s := by
      rw [← e]
      exact hnF.idxOf_getElem s (by omega)
    show F.idxOf b < F.idxOf a
    omega
  | succ n ih =>
    intro j seen F hj D hall
    refine EvP.succ (fun k => by rw [stuckL]) (EvP.yes (by omega) (EvP.split (fun c0 => ?_) (fun c0 => ?_)))
    · refine EvP.bind (visit_spec h hh h.length j seen [] F D (by omega) c0 (fun hp => absurd hp (by simp)) (by simp)) (fun r hr => ?_)
      rcases hr with ⟨hb, hring⟩ | ⟨hb, hp, G, D3, hjm⟩
      · exact EvP.yes hb (EvP.ret (.inl hring))
      · refine EvP.no (by rw [hb]; simp) ?_
        rw [hp]
        refine ih (j + 1) _ (F ++ G) (by omega) D3 (fun v h0 h1 => ?_)
        by_cases e : v = (j : Int)
        · subst e; exact hjm
        · exact List.mem_append_left _ (hall v h0 (by omega))
    · have h2 : rd seen (j : Int) = 2 := by
        rcases D.some3 j (by omega) (by omega) with e | e | e
        · exact absurd e c0
        · have := (D.gray j (by omega) (by omega)).1 e
          simp at this
        · exact e
      refine ih (j + 1) seen F (by omega) D (fun v h0 h1 => ?_)
      by_cases e : v = (j : Int)
      · subst e; exact (D.black j (by omega) (by omega)).1 h2
      · exact hall v h0 (by omega)
theorem Stuck_e (h : List S62) (hh : h.length ≤ 40) (hb : h.any badH = false) : EvP (fun k => zone_Stuck.f k h) (fun r => r.2 = 0 ∧ (IsRing h r.1 ∨ (r.1 = [] ∧ Ranked h))) := by
  refine EvP.eq (G := fun k => (stuckL h k (List.replicate 40 0) [] 0).bind fun r => some (r, 0)) (fun k => by unfold zone_Stuck.f; rw [if_neg (by omega), if_neg (by rw [hb]; simp)]) ?_
  refine EvP.bind (stuckL_spec h hh h.length 0 (List.replicate 40 0) [] (by omega) ?_ (fun v h0 h1 => by omega)) (fun r hr => EvP.ret ⟨rfl, hr⟩)
  have hz : ∀ v : Int, 0 ≤ v → v < h.length → rd (List.replicate 40 0) v = 0 := by
    intro v h0 h1
    obtain ⟨j, rfl⟩ := Int.eq_ofNat_of_zero_le h0
    simp only [rd, Int.toNat_natCast, List.getD_eq_getElem?_getD, List.getElem?_replicate]
    split <;> rfl
  refine ⟨by simp, fun v h0 h1 => ?_, fun v h0 h1 => ?_, fun v h0 h1 => .inl (hz v h0 h1), by simp, by simp, fun t ht => by simp at ht, fun t ht => by simp at ht⟩
  · rw [hz v h0 h1]; simp
  · rw [hz v h0 h1]; simp
/-- A ring has no rank. -/
theorem IsRing.not_ranked {h : List S62} {l : List Int} (R : IsRing h l) : ¬ Ranked h := by
  rintro ⟨rank, hr⟩
  have step : ∀ t (ht : t < l.length), rank (l[(t + 1) % l.length]'(Nat.mod_lt _ R.ne)) < rank l[t] := fun t ht => by
    have h1 := R.rng _ (List.getElem_mem ht)
    have h2 := R.rng _ (List.getElem_mem (Nat.mod_lt (t + 1) R.ne))
    exact hr _ _ h1.1 h1.2 h2.1 h2.2 (R.next t ht)
  have down : ∀ t (ht : t < l.length), rank l[t] + t ≤ rank (l[0]'R.ne) := by
    intro t
    induction t with
    | zero => intro ht; simp
    | succ t ih =>
      intro ht
      have h1 := ih (by omega)
      have h2 := step t (by omega)
      have e : (t + 1) % l.length = t + 1 := Nat.mod_eq_of_lt ht
      simp only [e] at h2
      omega
  have h1 := down (l.length - 1) (by have := R.ne; omega)
  have h2 := step (l.length - 1) (by have := R.ne; omega)
  have e : (l.length - 1 + 1) % l.length = 0 := by
    have := R.ne
    rw [show l.length - 1 + 1 = l.length by omega, Nat.mod_self]
  simp only [e] at h2
  omega
theorem rdT_set {l : List S62} {i : Nat} (h : i < l.length) (x : S62) (t : Nat) : rd_T62 (l.set i x) (t : Int) = if t = i then x else rd_T62 l (t : Int) := by
  by_cases e : t = i
  · subst e
    rw [if_pos rfl]
    simp [rd_T62, h]
  · rw [if_neg e]
    simp [rd_T62, List.getElem?_set_ne (show i ≠ t by omega)]
structure HInv (n m : Nat) (l : List S62) : Prop where
  len : l.length = n
  f : ∀ t : Nat, t < n → (rd_T62 l (t : Int)).f0.length ≤ m ∧ ∀ v ∈ (rd_T62 l (t : Int)).f0, 0 ≤ v ∧ v < 8
def Wok (x : S62) : Prop := x.f1 = -1 ∨ (0 ≤ x.f1 ∧ x.f1 < 8 ∧ ∀ v ∈ x.f0, v < x.f1)
theorem HInv.mono {n m m' : Nat} {l : List S62} (H : HInv n m l) (h : m ≤ m') : HInv n m' l := ⟨H.len, fun t ht => ⟨by have := (H.f t ht).1; omega, (H.f t ht).2⟩⟩
theorem HInv.good {n m : Nat} {l : List S62} (H : HInv n m l) (W : ∀ t : Nat, t < n → Wok (rd_T62 l (t : Int))) : l.any badH = false := by
  rw [List.any_eq_false]
  intro x hx
  obtain ⟨t, ht, rfl⟩ := List.getElem_of_mem hx
  have hg : rd_T62 l (t : Int) = l[t] := by simp [rd_T62, List.getElem?_eq_getElem ht]
  have hn := H.len
  have h1 := (H.f t (by omega)).2
  have h2 := W t (by omega)
  rw [hg] at h1 h2
  generalize l[t] = y at h1 h2
  rw [Bool.not_eq_true]
  unfold badH
  have e1 : y.f0.any badZ = false := by
    rw [List.any_eq_false]
    intro v hv
    have := h1 v hv
    unfold badZ
    simp only [Bool.or_eq_true, decide_eq_true_eq]
    omega
  rw [e1, Bool.false_or]
  rcases h2 with h2 | h2
  · rw [h2]; rfl
  · have : badZ y.f1 = false := by
      unfold badZ
      simp only [Bool.or_eq_false_iff, decide_eq_false_iff_not]
      omega
    rw [this, Bool.and_false]
theorem HInv.ranked {n m : Nat} {l : List S62} (H : HInv n m l) (W : ∀ t : Nat, t < n → Wok (rd_T62 l (t : Int))) : Ranked l := by
  refine ⟨fun v => if 0 ≤ (rd_T62 l v).f1 then (8 - (rd_T62 l v).f1).toNat else 0, fun i j hi0 hi1 hj0 hj1 hw => ?_⟩
  have hn := H.len
  obtain ⟨i, rfl⟩ := Int.eq_ofNat_of_zero_le hi0
  obtain ⟨j, rfl⟩ := Int.eq_ofNat_of_zero_le hj0
  unfold wantsZ at hw
  rw [Bool.and_eq_true, decide_eq_true_eq, List.contains_iff_mem] at hw
  have h1 := W i (by omega)
  have h2 := W j (by omega)
  have h3 := (H.f j (by omega)).2 _ hw.2
  simp only
  rw [if_pos hw.1]
  rcases h2 with h2 | h2
  · rw [if_neg (by omega)]
    omega
  · have h4 := h2.2.2 _ hw.2
    rw [if_pos h2.1]
    omega
theorem safe_end (n : Nat) (l : List S62) (H : HInv n 8 l) (hn : n ≤ 40) (W : ∀ t : Nat, t < n → Wok (rd_T62 l (t : Int))) :
    EvP (fun k => (zone_Stuck.f k l).bind fun b => (if b.2 = 0 then (some ((b.1.length : Int) == 0)) else (some false))) (fun r => r = true) := by
  refine EvP.bind (Stuck_e l (by rw [H.len]; exact hn) (H.good W)) (fun r hr => EvP.yes hr.1 (EvP.ret ?_))
  rcases hr.2 with h | h
  · exact absurd (H.ranked W) h.not_ranked
  · rw [h.1]; rfl
theorem safe_l2 (wants : List Int) (n : Nat) (hwl : wants.length = n) (hn : n ≤ 40) (hww : ∀ x ∈ wants, (Lit.int .i64 x).wf = true) (l : List S62) (H : HInv n 8 l) (i : Nat) (hi : i < n) (P : Bool → Prop)
    (next : ∀ x : S62, x.f0 = (rd_T62 l (i : Int)).f0 → Wok x → ∀ l' : List S62, l' = l.set i x → EvP (fun k => stillagelaw09_ZoneSafe.l1 k wants l' (n : Int) ((i + 1 : Nat) : Int)) P) (d : Nat) :
    ∀ (j : Nat) (a : Int), j + d = (rd_T62 l (i : Int)).f0.length → 0 ≤ a → a ≤ 8 → (∀ t : Nat, t < j → rd (rd_T62 l (i : Int)).f0 (t : Int) < a) →
    EvP (fun k => stillagelaw09_ZoneSafe.l2 k wants l (i : Int) a (n : Int) (i : Int) (rd_T62 l (i : Int)).f0 ((rd_T62 l (i : Int)).f0.length : Int) (j : Int)) P := by
  have hlen := H.len
  have hf := H.f i hi
  induction d with
  | zero =>
    intro j a hj ha0 ha8 hall
    have hlt : ∀ v ∈ (rd_T62 l (i : Int)).f0, v < a := by
      intro v hv
      obtain ⟨t, ht, rfl⟩ := List.getElem_of_mem hv
      have := hall t (by omega)
      rwa [rd_in ht] at this
    refine EvP.succ (fun k => by rw [stillagelaw09_ZoneSafe.l2]) (EvP.no (by omega) (EvP.yes (by omega) (EvP.yes (by omega) (EvP.obind rfl ?_))))
    rw [wnext i (by omega), Int.toNat_natCast]
    refine EvP.split (fun h8 => EvP.yes (by omega) (EvP.split (fun h0 => ?_) (fun h0 => ?_))) (fun h8 => ?_)
    · have e1 : wrap64 (8 - a) = 8 - a := by rw [wsm] <;> omega
      have hi2 : i < l.length := by omega
      rw [e1, rdT_set hi2, if_pos rfl, List.set_set]
      refine EvP.no (by omega) ?_
      rw [Int.tmod_eq_emod_of_nonneg h0]
      have q0 : 0 ≤ rd wants (i : Int) % (8 - a) := Int.emod_nonneg _ (by omega)
      have q1 : rd wants (i : Int) % (8 - a) < 8 - a := Int.emod_lt_of_pos _ (by omega)
      have e2 : wrap64 (a + rd wants (i : Int) % (8 - a)) = a + rd wants (i : Int) % (8 - a) := by rw [wsm] <;> omega
      rw [e2]
      exact next ⟨(rd_T62 l (i : Int)).f0, a + rd wants (i : Int) % (8 - a)⟩ rfl (.inr ⟨by show 0 ≤ a + rd wants (i : Int) % (8 - a); omega, by show a + rd wants (i : Int) % (8 - a) < 8; omega, fun v hv => by have := hlt v hv; show v < a + rd wants (i : Int) % (8 - a); omega⟩) _ rfl
    · exact next ⟨(rd_T62 l (i : Int)).f0, -1⟩ rfl (.inl rfl) _ rfl
    · exact next ⟨(rd_T62 l (i : Int)).f0, -1⟩ rfl (.inl rfl) _ rfl
  | succ d ih =>
    intro j a hj ha0 ha8 hall
    have hj2 : j < (rd_T62 l (i : Int)).f0.length := by omega
    have hv := hf.2 _ (List.getElem_mem hj2)
    refine EvP.succ (fun k => by rw [stillagelaw09_ZoneSafe.l2]) (EvP.yes (by omega) (EvP.yes (by omega) (EvP.yes (by omega) ?_)))
    have e1 : wrap64 (rd (rd_T62 l (i : Int)).f0 (j : Int) + 1) = rd (rd_T62 l (i : Int)).f0 (j : Int) + 1 := by rw [rd_in hj2, wsm] <;> omega
    rw [wnext j (by omega), e1]
    have hm : a ≤ mx a (rd (rd_T62 l (i : Int)).f0 (j : Int) + 1) ∧ rd (rd_T62 l (i : Int)).f0 (j : Int) + 1 ≤ mx a (rd (rd_T62 l (i : Int)).f0 (j : Int) + 1) ∧ mx a (rd (rd_T62 l (i : Int)).f0 (j : Int) + 1) ≤ 8 := by
      rw [rd_in hj2]
      unfold mx
      split <;> omega
    refine ih (j + 1) _ (by omega) (by omega) hm.2.2 (fun t ht => ?_)
    by_cases e : t = j
    · subst e; omega
    · have := hall t (by omega)
      omega
theorem safe_l1 (wants : List Int) (n : Nat) (hwl : wants.length = n) (hn : n ≤ 40) (hww : ∀ x ∈ wants, (Lit.int .i64 x).wf = true) (d : Nat) : ∀ (i : Nat) (l : List S62), i + d = n → HInv n 8 l → (∀ t : Nat, t < i → Wok (rd_T62 l (t : Int))) →
    EvP (fun k => stillagelaw09_ZoneSafe.l1 k wants l (n : Int) (i : Int)) (fun r => r = true) := by
  induction d with
  | zero =>
    intro i l hi H W
    obtain rfl : i = n := by omega
    exact EvP.succ (fun k => by rw [stillagelaw09_ZoneSafe.l1]) (EvP.no (by omega) (safe_end i l H hn W))
  | succ d ih =>
    intro i l hi H W
    have hlen := H.len
    refine EvP.succ (fun k => by rw [stillagelaw09_ZoneSafe.l1]) (EvP.yes (by omega) (EvP.yes (by omega) (EvP.yes (by omega) ?_)))
    refine safe_l2 wants n hwl hn hww l H i (by omega) _ (fun x hx hw l' hl' => ?_) (rd_T62 l (i : Int)).f0.length 0 0 (by omega) (by omega) (by omega) (fun t ht => by omega)
    subst hl'
    have hi2 : i < l.length := by omega
    refine ih (i + 1) _ (by omega) ⟨by rw [List.length_set]; exact hlen, fun t ht => ?_⟩ (fun t ht => ?_)
    · rw [rdT_set hi2]
      by_cases e : t = i
      · subst e; rw [if_pos rfl, hx]; exact H.f t ht
      · rw [if_neg e]; exact H.f t ht
    · rw [rdT_set hi2]
      by_cases e : t = i
      · rw [if_pos e]; exact hw
      · rw [if_neg e]; exact W t (by omega)
theorem safe_l0 (wants : List Int) (n : Nat) (hwl : wants.length = n) (hn : n ≤ 40) (hww : ∀ x ∈ wants, (Lit.int .i64 x).wf = true) (o0 o1 o2 o3 o4 o5 o6 o7 : Int) (d : Nat) : ∀ (z : Nat) (l : List S62), z + d = 8 → HInv n z l →
    EvP (fun k => stillagelaw09_ZoneSafe.l0 k wants l (z : Int) o0 o1 o2 o3 o4 o5 o6 o7) (fun r => r = true) := by
  induction d with
  | zero =>
    intro z l hz H
    obtain rfl : z = 8 := by omega
    refine EvP.succ (fun k => by rw [stillagelaw09_ZoneSafe.l0]) (EvP.no (by omega) ?_)
    rw [H.len]
    exact safe_l1 wants n hwl hn hww n 0 l (by omega) H (fun t ht => by omega)
  | succ d ih =>
    intro z l hz H
    have hlen := H.len
    have go : EvP (fun k => stillagelaw09_ZoneSafe.l0 k wants l (wrap64 ((z : Int) + 1)) o0 o1 o2 o3 o4 o5 o6 o7) (fun r => r = true) := by
      rw [wnext z (by omega)]
      exact ih (z + 1) l (by omega) (H.mono (by omega))
    refine EvP.succ (fun k => by rw [stillagelaw09_ZoneSafe.l0]) (EvP.yes (by omega) (EvP.yes (by omega) (EvP.split (fun h1 => EvP.split (fun h2 => EvP.no (by omega) ?_) (fun _ => go)) (fun _ => go))))
    generalize rd [o0, o1, o2, o3, o4, o5, o6, o7] (z : Int) = q at h2
    rw [Int.tmod_eq_emod_of_nonneg h2]
    have q0 : 0 ≤ q % (l.length : Int) := Int.emod_nonneg _ (by omega)
    have q1 : q % (l.length : Int) < (l.length : Int) := Int.emod_lt_of_pos _ (by omega)
    obtain ⟨t, ht⟩ := Int.eq_ofNat_of_zero_le q0
    rw [ht] at q1 ⊢
    have ht2 : t < l.length := by omega
    have hf := H.f t (by omega)
    refine EvP.yes (by omega) (EvP.yes (by omega) (EvP.yes (by omega) ?_))
    rw [wnext z (by omega), Int.toNat_natCast]
    refine ih (z + 1) _ (by omega) ⟨by rw [List.length_set]; exact hlen, fun s hs => ?_⟩
    rw [rdT_set ht2]
    by_cases e : s = t
    · rw [if_pos e]
      refine ⟨by simp only [List.length_append, List.length_singleton]; omega, fun v hv => ?_⟩
      rcases List.mem_append.mp hv with hv | hv
      · exact hf.2 v hv
      · obtain rfl := List.mem_singleton.mp hv
        omega
    · rw [if_neg e]
      exact ⟨by have := (H.f s hs).1; omega, (H.f s hs).2⟩
theorem ZoneSafe (a0_0 a0_1 a0_2 a0_3 a0_4 a0_5 a0_6 a0_7 : Int) (l1 : List Int) (w0 : ∀ x ∈ [a0_0, a0_1, a0_2, a0_3, a0_4, a0_5, a0_6, a0_7], (Lit.int .i64 x).wf = true) (hm1 : l1.length ≤ maxLen) (hw1 : ∀ x ∈ l1, (Lit.int .i64 x).wf = true) (y1 : l1.length * 8 ≤ 140737488351232) :
    ∃ k, stillagelaw09_ZoneSafe.f k a0_0 a0_1 a0_2 a0_3 a0_4 a0_5 a0_6 a0_7 l1 = some true := by
  suffices h : EvP (fun k => stillagelaw09_ZoneSafe.f k a0_0 a0_1 a0_2 a0_3 a0_4 a0_5 a0_6 a0_7 l1) (fun r => r = true) by
    obtain ⟨k, r, h1, h2⟩ := h.get
    exact ⟨k, by rw [h1, h2]⟩
  refine EvP.eq (fun k => by rw [stillagelaw09_ZoneSafe.f]) (EvP.bind awake_e (fun a ha => EvP.yes ha ?_))
  by_cases h40 : l1.length ≤ 40
  · rw [show decide ((l1.length : Int) > 40) = false from decide_eq_false (by omega)]
    refine EvP.succ (fun k => by rw [stillagelaw09_ZoneSafe.j0]) (EvP.no (by simp) (EvP.yes (by omega) (EvP.yes (by omega) ?_)))
    rw [Int.toNat_natCast]
    refine safe_l0 l1 l1.length rfl h40 hw1 _ _ _ _ _ _ _ _ 8 0 _ (by omega) ⟨by simp, fun t ht => ?_⟩
    have e : rd_T62 (List.replicate l1.length z62) (t : Int) = z62 := by simp [rd_T62, ht]
    rw [e]
    exact ⟨Nat.le_refl _, fun v hv => absurd hv (List.not_mem_nil)⟩
  · rw [show decide ((l1.length : Int) > 40) = true from decide_eq_true (by omega)]
    exact EvP.succ (fun k => by rw [stillagelaw09_ZoneSafe.j0]) (EvP.yes rfl (EvP.bind awake_e (fun a ha => EvP.ret ha)))

end Go.Proofs.Ytkdfohmceokchaa.Pure
