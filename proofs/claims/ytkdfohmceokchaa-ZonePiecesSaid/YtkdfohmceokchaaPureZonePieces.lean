/- stillagelaw09.ZonePieces is true at every layout and path: no condition. -/
import Derived.OpenShut
import Derived.Test.YtkdfohmceokchaaEvt
import Derived.Test.YtkdfohmceokchaaPZonePiecesx
set_option linter.unusedVariables false
set_option linter.unusedSimpArgs false
set_option maxRecDepth 10000
namespace Go.Proofs.Ytkdfohmceokchaa.Pure
open Go.RowKit Go.Proofs.Ytkdfohmceokchaa.PZonePieces Go.Proofs.YtkdfohmceokchaaW.PrintWords Go.Proofs.YtkdfohmceokchaaW.PrintLast Go.Proofs.PlainEvt
theorem wsm {n : Int} (h0 : 0 ≤ n) (h1 : n ≤ 9223372036854775807) : wrap64 n = n := by unfold wrap64; omega
theorem wnext (i : Nat) (h : i ≤ 1000000) : wrap64 ((i : Int) + 1) = ((i + 1 : Nat) : Int) := by rw [wsm] <;> omega
def Pass (nodes : List S46) (a : Int) : Prop := (rd_T46 nodes a).f1 = 1
structure Fit (nodes : List S46) (edges : List S43) : Prop where
  n0 : 1 ≤ nodes.length
  n : nodes.length ≤ 40
  m : edges.length ≤ 120
  kinds : ∀ i : Nat, i < nodes.length → 1 ≤ (rd_T46 nodes i).f1 ∧ (rd_T46 nodes i).f1 ≤ 4 ∧ 0 ≤ (rd_T46 nodes i).f2 ∧ (rd_T46 nodes i).f2 ≤ 7
  ends : ∀ i : Nat, i < edges.length → 0 ≤ (rd_T43 edges i).f0 ∧ (rd_T43 edges i).f0 < (nodes.length : Int) ∧ 0 ≤ (rd_T43 edges i).f1 ∧ (rd_T43 edges i).f1 < (nodes.length : Int)
  ne : ∀ i : Nat, i < edges.length → (rd_T43 edges i).f0 ≠ (rd_T43 edges i).f1
  track : ∀ i : Nat, i < edges.length → Pass nodes (rd_T43 edges i).f0 ∨ Pass nodes (rd_T43 edges i).f1
  once : ∀ i j : Nat, i < edges.length → j < i → ¬ ((rd_T43 edges j).f0 = (rd_T43 edges i).f0 ∧ (rd_T43 edges j).f1 = (rd_T43 edges i).f1)
theorem Name_e (s : ByteArray) : EvP (fun k => stillageref06_Name.f k s) (fun _ => True) := by
  have l0 : ∀ (n i : Nat), i + n = s.size → s.size ≤ 8 → EvP (fun k => stillageref06_Name.l0 k s (i : Int)) (fun _ => True) := by
    intro n
    induction n with
    | zero =>
      intro i hi h8
      exact EvP.succ (fun k => stillageref06_Name.l0.eq_2 _ _ k) (EvP.no (by omega) (EvP.ret trivial))
    | succ n ih =>
      intro i hi h8
      have hg : EvP (fun k => stillageref06_Name.l0 k s (wrap64 ((i : Int) + 1))) (fun _ => True) := by
        rw [wnext i (by omega)]
        exact ih (i + 1) (by omega) h8
      have hf : EvP (fun _ => some false) (fun _ => True) := EvP.ret trivial
      refine EvP.succ (fun k => stillageref06_Name.l0.eq_2 _ _ k) (EvP.yes (by omega) (EvP.yes (by omega) (EvP.split (fun _ => EvP.split (fun _ => EvP.split (fun _ => hg) (fun _ => EvP.split (fun _ => hf) (fun _ => EvP.split (fun _ => hg) (fun _ => hf)))) (fun _ => EvP.split (fun _ => hg) (fun _ => EvP.split (fun _ => hf) (fun _ => hf)))) (fun _ => EvP.split (fun _ => EvP.split (fun _ => hf) (fun _ => EvP.split (fun _ => hg) (fun _ => hf))) (fun _ => EvP.split (fun _ => hf) (fun _ => hf))))))
  refine EvP.split (fun _ => EvP.succ (fun k => stillageref06_Name.j0.eq_2 _ _ k) (EvP.yes rfl (EvP.ret trivial))) (fun _ => ?_)
  by_cases c : (s.size : Int) > 8
  · rw [decide_eq_true c]
    exact EvP.succ (fun k => stillageref06_Name.j0.eq_2 _ _ k) (EvP.yes rfl (EvP.ret trivial))
  · rw [decide_eq_false c]
    exact EvP.succ (fun k => stillageref06_Name.j0.eq_2 _ _ k) (EvP.no (by simp) (l0 s.size 0 (by omega) (by omega)))
theorem Find_e (nodes : List S46) (edges : List S43) (s : ByteArray) (hn : nodes.length ≤ 1000) : EvP (fun k => stillageref06_Find.f k nodes edges s) (fun _ => True) := by
  have l0 : ∀ (n i : Nat), i + n = nodes.length → EvP (fun k => stillageref06_Find.l0 k s (nodes.length : Int) (i : Int) nodes edges) (fun _ => True) := by
    intro n
    induction n with
    | zero =>
      intro i hi
      exact EvP.succ (fun k => stillageref06_Find.l0.eq_2 _ _ _ _ _ k) (EvP.no (by omega) (EvP.ret trivial))
    | succ n ih =>
      intro i hi
      refine EvP.succ (fun k => stillageref06_Find.l0.eq_2 _ _ _ _ _ k) (EvP.yes (by omega) (EvP.yes (by omega) (EvP.yes (by omega) (EvP.split (fun _ => EvP.ret trivial) (fun _ => ?_)))))
      rw [wnext i (by omega)]
      exact ih (i + 1) (by omega)
  exact l0 nodes.length 0 (by omega)
abbrev EdgeOk (nodes : List S46) (edges : List S43) (i : Nat) : Prop :=
  (0 ≤ (rd_T43 edges i).f0 ∧ (rd_T43 edges i).f0 < (nodes.length : Int) ∧ 0 ≤ (rd_T43 edges i).f1 ∧ (rd_T43 edges i).f1 < (nodes.length : Int)) ∧ (rd_T43 edges i).f0 ≠ (rd_T43 edges i).f1 ∧ (Pass nodes (rd_T43 edges i).f0 ∨ Pass nodes (rd_T43 edges i).f1) ∧
    ∀ j : Nat, j < i → ¬ ((rd_T43 edges j).f0 = (rd_T43 edges i).f0 ∧ (rd_T43 edges j).f1 = (rd_T43 edges i).f1)
theorem Good_l2 (nodes : List S46) (edges : List S43) (hm : edges.length ≤ 120) (i : Nat) (hi : i < edges.length) (P : Bool → Prop) (hf : P false)
    (next : (∀ j : Nat, j < i → ¬ ((rd_T43 edges j).f0 = (rd_T43 edges i).f0 ∧ (rd_T43 edges j).f1 = (rd_T43 edges i).f1)) → EvP (fun k => stillageref06_Good.l1 k (edges.length : Int) (wrap64 ((i : Int) + 1)) nodes edges) P) (n : Nat) :
    ∀ j : Nat, j + n = i → (∀ j' : Nat, j' < j → ¬ ((rd_T43 edges j').f0 = (rd_T43 edges i).f0 ∧ (rd_T43 edges j').f1 = (rd_T43 edges i).f1)) → EvP (fun k => stillageref06_Good.l2 k (i : Int) (j : Int) (edges.length : Int) (i : Int) nodes edges) P := by
  induction n with
  | zero =>
    intro j hj hp
    obtain rfl : j = i := by omega
    exact EvP.succ (fun k => stillageref06_Good.l2.eq_2 _ _ _ _ _ _ k) (EvP.no (by omega) (next hp))
  | succ n ih =>
    intro j hj hp
    refine EvP.succ (fun k => stillageref06_Good.l2.eq_2 _ _ _ _ _ _ k) (EvP.yes (by omega) (EvP.yes (by omega) (EvP.yes (by omega) (EvP.yes (by omega) (EvP.yes (by omega) (EvP.split (fun _ => EvP.ret hf) (fun c => ?_)))))))
    rw [wnext j (by omega)]
    refine ih (j + 1) (by omega) (fun j' hj' => ?_)
    by_cases e : j' = j
    · subst e
      intro h
      apply c
      simp [h.1, h.2]
    · exact hp j' (by omega)
theorem Good_l1 (nodes : List S46) (edges : List S43) (hm : edges.length ≤ 120) (n : Nat) : ∀ i : Nat, i + n = edges.length → EvP (fun k => stillageref06_Good.l1 k (edges.length : Int) (i : Int) nodes edges) (fun b => b = true → ∀ j : Nat, i ≤ j → j < edges.length → EdgeOk nodes edges j) := by
  induction n with
  | zero =>
    intro i hi
    exact EvP.succ (fun k => stillageref06_Good.l1.eq_2 _ _ _ _ k) (EvP.no (by omega) (EvP.ret (fun _ j h1 h2 => by omega)))
  | succ n ih =>
    intro i hi
    have hff : (false = true) → ∀ j : Nat, i ≤ j → j < edges.length → EdgeOk nodes edges j := fun h => by cases h
    have bad : ∀ (x6 x7 : Int), EvP (fun k => stillageref06_Good.j3 k (i : Int) x6 x7 (edges.length : Int) (i : Int) true nodes edges) (fun b => b = true → ∀ j : Nat, i ≤ j → j < edges.length → EdgeOk nodes edges j) := fun x6 x7 =>
      EvP.succ (fun k => stillageref06_Good.j3.eq_2 _ _ _ _ _ _ _ _ k) (EvP.yes rfl (EvP.ret hff))
    refine EvP.succ (fun k => stillageref06_Good.l1.eq_2 _ _ _ _ k) (EvP.yes (by omega) (EvP.yes (by omega) (EvP.yes (by omega) (EvP.split (fun _ => bad _ _) (fun c1 => EvP.split (fun _ => bad _ _) (fun c2 => EvP.split (fun _ => bad _ _) (fun c3 => EvP.split (fun _ => bad _ _) (fun c4 => ?_))))))))
    by_cases c5 : (rd_T43 edges (i : Int)).f0 = (rd_T43 edges (i : Int)).f1
    · rw [show ((rd_T43 edges (i : Int)).f0 == (rd_T43 edges (i : Int)).f1) = true from by simpa using c5]
      exact bad _ _
    · rw [show ((rd_T43 edges (i : Int)).f0 == (rd_T43 edges (i : Int)).f1) = false from by simpa using c5]
      have go : (Pass nodes (rd_T43 edges (i : Int)).f0 ∨ Pass nodes (rd_T43 edges (i : Int)).f1) → EvP (fun k => stillageref06_Good.j4 k (i : Int) (edges.length : Int) (i : Int) false nodes edges) (fun b => b = true → ∀ j : Nat, i ≤ j → j < edges.length → EdgeOk nodes edges j) := by
        intro hp
        refine EvP.succ (fun k => stillageref06_Good.j4.eq_2 _ _ _ _ _ _ k) (EvP.no (by simp) (Good_l2 nodes edges hm i (by omega) _ hff (fun hd => ?_) i 0 (by omega) (fun j' hj' => by omega)))
        rw [wnext i (by omega)]
        refine (ih (i + 1) (by omega)).mono (fun b h hb j h1 h2 => ?_)
        by_cases e : j = i
        · subst e
          exact ⟨⟨by omega, by omega, by omega, by omega⟩, c5, hp, hd⟩
        · exact h hb j (by omega) h2
      refine EvP.succ (fun k => stillageref06_Good.j3.eq_2 _ _ _ _ _ _ _ _ k) (EvP.no (by simp) (EvP.yes (by omega) (EvP.yes (by omega) (EvP.split (fun c6 => go (.inl c6)) (fun c6 => EvP.yes (by omega) (EvP.yes (by omega) ?_))))))
      by_cases c7 : (rd_T46 nodes (rd_T43 edges (i : Int)).f1).f1 = 1
      · rw [show ((rd_T46 nodes (rd_T43 edges (i : Int)).f1).f1 != 1) = false from by simpa using c7]
        exact go (.inr c7)
      · rw [show ((rd_T46 nodes (rd_T43 edges (i : Int)).f1).f1 != 1) = true from by simpa using c7]
        exact EvP.succ (fun k => stillageref06_Good.j4.eq_2 _ _ _ _ _ _ k) (EvP.yes rfl (EvP.ret hff))
abbrev NodeOk (nodes : List S46) (i : Nat) : Prop := 1 ≤ (rd_T46 nodes i).f1 ∧ (rd_T46 nodes i).f1 ≤ 4 ∧ 0 ≤ (rd_T46 nodes i).f2 ∧ (rd_T46 nodes i).f2 ≤ 7
theorem Good_l0 (nodes : List S46) (edges : List S43) (hn : nodes.length ≤ 40) (hm : edges.length ≤ 120) (n : Nat) : ∀ i : Nat, i + n = nodes.length → EvP (fun k => stillageref06_Good.l0 k (nodes.length : Int) (i : Int) nodes edges) (fun b => b = true → (∀ j : Nat, i ≤ j → j < nodes.length → NodeOk nodes j) ∧ ∀ j : Nat, j < edges.length → EdgeOk nodes edges j) := by
  induction n with
  | zero =>
    intro i hi
    refine EvP.succ (fun k => stillageref06_Good.l0.eq_2 _ _ _ _ k) (EvP.no (by omega) ((Good_l1 nodes edges hm edges.length 0 (by omega)).mono (fun b h hb => ⟨fun j h1 h2 => by omega, fun j hj => h hb j (by omega) hj⟩)))
  | succ n ih =>
    intro i hi
    have hff : (false = true) → (∀ j : Nat, i ≤ j → j < nodes.length → NodeOk nodes j) ∧ ∀ j : Nat, j < edges.length → EdgeOk nodes edges j := fun h => by cases h
    refine EvP.succ (fun k => stillageref06_Good.l0.eq_2 _ _ _ _ k) (EvP.yes (by omega) (EvP.yes (by omega) (EvP.yes (by omega) (EvP.bind (Name_e _) (fun t _ => EvP.split (fun _ => EvP.split (fun _ => EvP.ret hff) (fun c1 => EvP.split (fun _ => EvP.ret hff) (fun c2 => EvP.split (fun _ => EvP.ret hff) (fun c3 => EvP.split (fun _ => EvP.ret hff) (fun c4 => EvP.bind (Find_e nodes edges _ (by omega)) (fun t _ => EvP.split (fun _ => ?_) (fun _ => EvP.ret hff))))))) (fun _ => EvP.ret hff))))))
    rw [wnext i (by omega)]
    refine (ih (i + 1) (by omega)).mono (fun b h hb => ⟨fun j h1 h2 => ?_, (h hb).2⟩)
    by_cases e : j = i
    · subst e
      exact ⟨by omega, by omega, by omega, by omega⟩
    · exact (h hb).1 j (by omega) h2
theorem Good_e (nodes : List S46) (edges : List S43) : EvP (fun k => stillageref06_Good.f k nodes edges) (fun b => b = true → Fit nodes edges) := by
  have bad : EvP (fun k => stillageref06_Good.j0 k true nodes edges) (fun b => b = true → Fit nodes edges) := EvP.succ (fun k => stillageref06_Good.j0.eq_2 _ _ _ k) (EvP.yes rfl (EvP.ret (fun h => by cases h)))
  refine EvP.split (fun _ => bad) (fun c1 => EvP.split (fun _ => bad) (fun c2 => ?_))
  by_cases c3 : (edges.length : Int) > 120
  · rw [decide_eq_true c3]
    exact bad
  · rw [decide_eq_false c3]
    refine EvP.succ (fun k => stillageref06_Good.j0.eq_2 _ _ _ k) (EvP.no (by simp) ((Good_l0 nodes edges (by omega) (by omega) nodes.length 0 (by omega)).mono (fun b h hb => ?_)))
    obtain ⟨hN, hE⟩ := h hb
    exact ⟨by omega, by omega, by omega, fun i hi => hN i (by omega) hi, fun i hi => (hE i hi).1, fun i hi => (hE i hi).2.1, fun i hi => (hE i hi).2.2.1, fun i j hi hj => (hE i hi).2.2.2 j hj⟩
theorem Same_l1 (nodes : List S46) (edges : List S43) (hm : edges.length ≤ 1000) (n : Nat) : ∀ i : Nat, i + n = edges.length → EvP (fun k => stillageref06_Same.l1 k (edges.length : Int) (i : Int) nodes edges nodes edges) (fun r => r = true) := by
  induction n with
  | zero =>
    intro i hi
    exact EvP.succ (fun k => stillageref06_Same.l1.eq_2 _ _ _ _ _ _ k) (EvP.no (by omega) (EvP.ret rfl))
  | succ n ih =>
    intro i hi
    refine EvP.succ (fun k => stillageref06_Same.l1.eq_2 _ _ _ _ _ _ k) (EvP.yes (by omega) (EvP.yes (by omega) (EvP.yes (by omega) (EvP.yes (by omega) (EvP.no (by simp) ?_)))))
    rw [wnext i (by omega)]
    exact ih (i + 1) (by omega)
theorem Same_l0 (nodes : List S46) (edges : List S43) (hn : nodes.length ≤ 1000) (hm : edges.length ≤ 1000) (n : Nat) : ∀ i : Nat, i + n = nodes.length → EvP (fun k => stillageref06_Same.l0 k (nodes.length : Int) (i : Int) nodes edges nodes edges) (fun r => r = true) := by
  induction n with
  | zero =>
    intro i hi
    exact EvP.succ (fun k => stillageref06_Same.l0.eq_2 _ _ _ _ _ _ k) (EvP.no (by omega) (Same_l1 nodes edges hm edges.length 0 (by omega)))
  | succ n ih =>
    intro i hi
    refine EvP.succ (fun k => stillageref06_Same.l0.eq_2 _ _ _ _ _ _ k) (EvP.yes (by omega) (EvP.yes (by omega) (EvP.yes (by omega) (EvP.yes (by omega) (EvP.no (by simp) ?_)))))
    rw [wnext i (by omega)]
    exact ih (i + 1) (by omega)
theorem Same_e (nodes : List S46) (edges : List S43) (hn : nodes.length ≤ 1000) (hm : edges.length ≤ 1000) : EvP (fun k => stillageref06_Same.f k nodes edges nodes edges) (fun r => r = true) := by
  refine EvP.yes rfl ?_
  rw [show ((edges.length : Int) != (edges.length : Int)) = false by simp]
  exact EvP.succ (fun k => stillageref06_Same.j0.eq_2 _ _ _ _ _ k) (EvP.no (by simp) (Same_l0 nodes edges hn hm nodes.length 0 (by omega)))
theorem own_f (nodes : List S46) (edges : List S43) (hn : nodes.length ≤ 1000) (hm : edges.length ≤ 1000) : stillagelaw06_Own.f nodes edges = some (nodes, edges) := by
  unfold stillagelaw06_Own.f
  rw [Option.bind_some, if_pos (by simp; omega), Option.bind_some, if_pos (by simp; omega)]
  simp
theorem rd_in {l : List Int} {i : Nat} (h : i < l.length) : rd l (i : Int) = l[i] := by simp [rd, List.getElem?_eq_getElem h]
theorem ext_of_sorted {α : Type} (r : α → α → Prop) (hi : ∀ a, ¬ r a a) (ha : ∀ a b, r a b → ¬ r b a) : ∀ l1 l2 : List α, l1.Pairwise r → l2.Pairwise r → (∀ x, x ∈ l1 ↔ x ∈ l2) → l1 = l2
  | [], [], _, _, _ => rfl
  | [], b :: l2, _, _, h => by have := (h b).2 List.mem_cons_self; simp at this
  | a :: l1, [], _, _, h => by have := (h a).1 List.mem_cons_self; simp at this
  | a :: l1, b :: l2, h1, h2, h => by
    rw [List.pairwise_cons] at h1 h2
    have e : a = b := by
      rcases List.mem_cons.mp ((h a).1 List.mem_cons_self) with e | e
      · exact e
      · rcases List.mem_cons.mp ((h b).2 List.mem_cons_self) with e' | e'
        · exact e'.symm
        · exact absurd (h1.1 b e') (ha _ _ (h2.1 a e))
    subst e
    congr 1
    refine ext_of_sorted r hi ha l1 l2 h1.2 h2.2 (fun x => ?_)
    constructor
    · intro hx
      rcases List.mem_cons.mp ((h x).1 (List.mem_cons_of_mem _ hx)) with e | e
      · subst e; exact absurd (h1.1 x hx) (hi x)
      · exact e
    · intro hx
      rcases List.mem_cons.mp ((h x).2 (List.mem_cons_of_mem _ hx)) with e | e
      · subst e; exact absurd (h2.1 x hx) (hi x)
      · exact e
/-- What is told of numbers put in order. -/
structure OrdZ (l R : List Int) : Prop where
  pw : R.Pairwise (fun x y => x < y)
  mem : ∀ x, x ∈ R ↔ x ∈ l
theorem OrdZ.eq {l R Q : List Int} (h : OrdZ l R) (h' : OrdZ l Q) : R = Q :=
  ext_of_sorted _ (fun _ => by omega) (fun _ _ _ => by omega) R Q h.pw h'.pw (fun x => (h.mem x).trans (h'.mem x).symm)
theorem comp_inv (s : Array Int) (hs : ∀ i j, i < j → j < s.size → s[i]! ≤ s[j]!) : ∀ m, m ≤ s.size →
    (Lib.compactUpTo s m).Pairwise (fun x y => x < y) ∧ (∀ x ∈ Lib.compactUpTo s m, ∃ j, j < m ∧ x = s[j]!) ∧ ∀ j, j < m → s[j]! ∈ Lib.compactUpTo s m := by
  intro m
  induction m with
  | zero => intro _; exact ⟨by simp [Lib.compactUpTo], by simp [Lib.compactUpTo], fun j h => by omega⟩
  | succ m ih =>
    intro hm
    obtain ⟨h1, h2, h3⟩ := ih (by omega)
    rw [Lib.compactUpTo_succ]
    cases hk : Lib.keeps s m with
    | false =>
      have hz : m ≠ 0 ∧ s[m]! = s[m - 1]! := by simpa [Lib.keeps] using hk
      simp only [Bool.false_eq_true, if_false, List.append_nil]
      refine ⟨h1, fun x hx => ?_, fun j hj => ?_⟩
      · obtain ⟨j, hj, e⟩ := h2 x hx
        exact ⟨j, by omega, e⟩
      · by_cases e : j = m
        · subst e; rw [hz.2]; exact h3 _ (by omega)
        · exact h3 j (by omega)
    | true =>
      have hz : m = 0 ∨ s[m]! ≠ s[m - 1]! := by simpa [Lib.keeps] using hk
      simp only [if_true]
      refine ⟨?_, fun x hx => ?_, fun j hj => ?_⟩
      · rw [List.pairwise_append]
        refine ⟨h1, by simp, fun x hx y hy => ?_⟩
        obtain rfl : y = s[m]! := by simpa using hy
        obtain ⟨j, hj, rfl⟩ := h2 x hx
        rcases hz with rfl | hz
        · omega
        · have hlast : s[m - 1]! < s[m]! := by
            have := hs (m - 1) m (by omega) (by omega)
            omega
          by_cases e : j = m - 1
          · subst e; exact hlast
          · have := hs j (m - 1) (by omega) (by omega)
            omega
      · rcases List.mem_append.mp hx with hx | hx
        · obtain ⟨j, hj, e⟩ := h2 x hx
          exact ⟨j, by omega, e⟩
        · obtain rfl : x = s[m]! := by simpa using hx
          exact ⟨m, by omega, rfl⟩
      · by_cases e : j = m
        · subst e; simp
        · exact List.mem_append_left _ (h3 j (by omega))
theorem sortZ_sorted (l : List Int) : ∀ i j, i < j → j < (sortZ l).toArray.size → (sortZ l).toArray[i]! ≤ (sortZ l).toArray[j]! := by
  intro i j hij hj
  have hp := List.pairwise_mergeSort (le := fun x y : Int => decide (x ≤ y)) (fun a b c h1 h2 => by simp at *; omega) (fun a b => by simp; omega) l
  rw [List.pairwise_iff_getElem] at hp
  have hj' : j < (l.mergeSort fun x y => decide (x ≤ y)).length := by simpa [sortZ] using hj
  have := hp i j (by omega) hj' hij
  rw [getElem!_pos (sortZ l).toArray i (by omega), getElem!_pos (sortZ l).toArray j hj]
  simpa [sortZ] using this
theorem orderZ_ord (l : List Int) : OrdZ l (orderZ l) := by
  obtain ⟨h1, h2, h3⟩ := comp_inv (sortZ l).toArray (sortZ_sorted l) _ (Nat.le_refl _)
  have hm : ∀ y, y ∈ sortZ l ↔ y ∈ l := fun y => by simp [sortZ, List.mem_mergeSort]
  refine ⟨h1, fun x => ⟨fun hx => ?_, fun hx => ?_⟩⟩
  · obtain ⟨j, hj, e⟩ := h2 x hx
    rw [← hm, e, getElem!_pos (sortZ l).toArray j hj]
    simp
  · rw [← hm] at hx
    obtain ⟨j, hj, e⟩ := List.getElem_of_mem hx
    have hj' : j < (sortZ l).toArray.size := by simpa using hj
    have := h3 j hj'
    rw [getElem!_pos (sortZ l).toArray j hj'] at this
    rw [← e]
    simpa [orderZ] using this
theorem Ints_loop (x y : List Int) (hl : x.length = y.length) (hm : x.length ≤ 100000) (n : Nat) : ∀ i : Nat, i + n = x.length → EvP (fun k => stillageref01_Ints.l0 k x y (x.length : Int) (i : Int)) (fun r => r = true ↔ x.drop i = y.drop i) := by
  induction n with
  | zero =>
    intro i hi
    refine EvP.succ (fun k => stillageref01_Ints.l0.eq_2 _ _ _ _ k) (EvP.no (by omega) (EvP.ret ?_))
    rw [List.drop_eq_nil_of_le (by omega), List.drop_eq_nil_of_le (by omega)]
    simp
  | succ n ih =>
    intro i hi
    have h1 : i < x.length := by omega
    have h2 : i < y.length := by omega
    have e1 : rd x (i : Int) = x[i] := rd_in h1
    have e2 : rd y (i : Int) = y[i] := rd_in h2
    refine EvP.succ (fun k => stillageref01_Ints.l0.eq_2 _ _ _ _ k) (EvP.yes (by omega) (EvP.yes (by omega) (EvP.yes (by omega) (EvP.yes (by omega) (EvP.split (fun c => ?_) (fun c => EvP.ret ?_))))))
    · rw [wnext i (by omega)]
      refine (ih (i + 1) (by omega)).mono (fun r h => ?_)
      rw [h, List.drop_eq_getElem_cons h1, List.drop_eq_getElem_cons h2]
      rw [e1, e2] at c
      simp only [List.cons.injEq, c, true_and]
    · rw [List.drop_eq_getElem_cons h1, List.drop_eq_getElem_cons h2]
      rw [e1, e2] at c
      simp only [List.cons.injEq, c, false_and]
      simp
theorem Ints_e (x y : List Int) (hm : x.length ≤ 100000) : EvP (fun k => stillageref01_Ints.f k x y) (fun r => r = true ↔ x = y) := by
  refine EvP.split (fun c => ?_) (fun c => EvP.ret ?_)
  · exact Ints_loop x y (by omega) hm x.length 0 (by omega)
  · constructor
    · intro h; cases h
    · rintro rfl
      exact absurd rfl c
theorem Ints_eq {x y : List Int} (h : x = y) (hm : x.length ≤ 100000) : EvP (fun k => stillageref01_Ints.f k x y) (fun r => r = true) := (Ints_e x y hm).mono (fun r e => e.2 h)
theorem stuck1 : Evt (fun k => zone_Stuck.f k [⟨[0], 1⟩, ⟨[1], 0⟩]) ([0, 1], 0) := Evt.mono (n := 20) (by decide +kernel) (fun k r h => zone_Stuck.mono _ k r h)
theorem stuck2 : Evt (fun k => zone_Stuck.f k [⟨[0], 1⟩, ⟨[1], -1⟩]) ([], 0) := Evt.mono (n := 20) (by decide +kernel) (fun k r h => zone_Stuck.mono _ k r h)
theorem order1 : zone_Order.f [3, 1, 3] = some ([1, 3], 0) := by
  unfold zone_Order.f
  rw [if_pos (by simp), if_neg (by decide), (orderZ_ord [3, 1, 3]).eq (Q := [1, 3]) ⟨by simp, fun x => by simp; omega⟩]
theorem awake_e : EvP (fun k => stillagelaw09_awake.f k) (fun r => r = true) := by
  refine EvP.ebind stuck1 (EvP.ebind stuck2 (EvP.obind order1 ?_))
  refine EvP.yes rfl (EvP.yes rfl (EvP.yes rfl (EvP.yes rfl (EvP.yes rfl ?_))))
  exact EvP.bind (Ints_eq rfl (by simp)) (fun a ha => EvP.ret ha)
/-! The pieces of a path -/
/-- Pieces by zones: none is empty, within one the zone stays, from one to the next it changes. -/
inductive CZ (zn : Int → Int) : List (List Int) → Prop
  | nil : CZ zn []
  | snoc {init : List (List Int)} {p : List Int} {z : Int} : CZ zn init → p ≠ [] → (∀ x ∈ p, zn x = z) → (∀ q, init.getLast? = some q → ∀ x ∈ q, zn x ≠ z) → CZ zn (init ++ [p])
theorem CZ.inv {zn : Int → Int} {out : List (List Int)} (h : CZ zn out) : ∀ {init : List (List Int)} {p : List Int}, out = init ++ [p] → CZ zn init ∧ p ≠ [] ∧ ∃ z, (∀ x ∈ p, zn x = z) ∧ ∀ q, init.getLast? = some q → ∀ x ∈ q, zn x ≠ z := by
  cases h with
  | nil => intro init p e; simp at e
  | snoc h1 h2 h3 h4 =>
    intro init p e
    obtain ⟨rfl, e2⟩ := List.append_inj' e rfl
    obtain rfl := List.singleton_inj.1 e2
    exact ⟨h1, h2, _, h3, h4⟩
theorem zsnoc_snoc (init : List (List Int)) (p : List Int) (d : Int) : zsnoc (init ++ [p]) d = init ++ [p ++ [d]] := by
  unfold zsnoc
  rw [List.length_append, List.length_singleton, Nat.add_sub_cancel, List.getD_eq_getElem?_getD]
  simp
theorem zcut_cz (zf : Int → Option Int) (zn : Int → Int) (l : List Int) : ∀ (last : Int) (out : List (List Int)), (∀ d ∈ l, zf d = some (zn d) ∧ 0 ≤ zn d) → CZ zn out → (out = [] → last < 0) → (∀ init p, out = init ++ [p] → ∀ x ∈ p, zn x = last) →
    ∃ o, zcut zf l last out = some (some o) ∧ CZ zn o ∧ o.flatten = out.flatten ++ l := by
  induction l with
  | nil => intro last out _ h _ _; exact ⟨out, rfl, h, by simp⟩
  | cons d r ih =>
    intro last out hz h h0 hl
    have hd := hz d List.mem_cons_self
    have hr : ∀ x ∈ r, zf x = some (zn x) ∧ 0 ≤ zn x := fun x hx => hz x (List.mem_cons_of_mem _ hx)
    rw [zcut, hd.1, Option.bind_some, if_neg (by omega)]
    by_cases c : zn d = last
    · rw [if_pos c]
      rcases List.eq_nil_or_concat out with rfl | ⟨init, p, rfl⟩
      · have := h0 rfl; omega
      · rw [List.concat_eq_append] at h hl ⊢
        rw [zsnoc_snoc]
        obtain ⟨h1, h2, z, h3, h4⟩ := h.inv rfl
        have hp := hl init p rfl
        have hzl : z = last := by
          obtain ⟨x, p', rfl⟩ := List.exists_cons_of_ne_nil h2
          rw [← h3 x List.mem_cons_self, hp x List.mem_cons_self]
        have hall : ∀ x ∈ p ++ [d], zn x = z := fun x hx => by
          rcases List.mem_append.1 hx with hx | hx
          · exact h3 x hx
          · obtain rfl := List.mem_singleton.1 hx
            omega
        obtain ⟨o, ho1, ho2, ho3⟩ := ih last (init ++ [p ++ [d]]) hr (.snoc h1 (by simp) hall h4) (fun e => by simp at e) (fun i2 p2 e => by
          obtain ⟨_, e2⟩ := List.append_inj' e rfl
          obtain rfl := List.singleton_inj.1 e2
          intro x hx
          rw [hall x hx, hzl])
        exact ⟨o, ho1, ho2, by rw [ho3]; simp⟩
    · rw [if_neg c, zsnoc_snoc, List.nil_append]
      obtain ⟨o, ho1, ho2, ho3⟩ := ih (zn d) (out ++ [[d]]) hr (.snoc h (by simp) (z := zn d) (fun x hx => by rw [List.mem_singleton.1 hx]) (fun q hq x hx => by
          obtain ⟨i2, e⟩ := List.getLast?_eq_some_iff.1 hq
          rw [hl i2 q e x hx]
          exact fun e => c e.symm)) (fun e => by simp at e) (fun i2 p2 e => by
          obtain ⟨_, e2⟩ := List.append_inj' e rfl
          obtain rfl := List.singleton_inj.1 e2
          intro x hx
          rw [List.mem_singleton.1 hx])
      exact ⟨o, ho1, ho2, by rw [ho3]; simp⟩
/-- Told by the number of the piece. -/
structure CI (zn : Int → Int) (o : List (List Int)) : Prop where
  ne : ∀ (i : Nat) p, o[i]? = some p → p ≠ []
  same : ∀ (i : Nat) p, o[i]? = some p → ∀ x ∈ p, zn x = zn (rd p 0)
  diff : ∀ (i : Nat) p q, o[i]? = some p → o[i + 1]? = some q → zn (rd p 0) ≠ zn (rd q 0)
theorem rd_mem {p : List Int} (h : p ≠ []) : rd p 0 ∈ p := by
  obtain ⟨x, p', rfl⟩ := List.exists_cons_of_ne_nil h
  exact List.mem_cons_self
theorem snoc_get {α : Type} {l : List α} {a b : α} {j : Nat} (h : (l ++ [a])[j]? = some b) : (j < l.length ∧ l[j]? = some b) ∨ (j = l.length ∧ b = a) := by
  rcases Nat.lt_or_ge j l.length with hlt | hge
  · rw [List.getElem?_append_left hlt] at h; exact .inl ⟨hlt, h⟩
  · rw [List.getElem?_append_right hge] at h
    rcases Nat.eq_or_lt_of_le hge with e | e
    · rw [← e, Nat.sub_self] at h; simp at h; exact .inr ⟨e.symm, h.symm⟩
    · rw [List.getElem?_eq_none (by simp; omega)] at h; cases h
theorem CZ.ci {zn : Int → Int} {o : List (List Int)} (h : CZ zn o) : CI zn o := by
  induction h with
  | nil => exact ⟨fun i p h => by simp at h, fun i p h => by simp at h, fun i p q h => by simp at h⟩
  | @snoc init p z h1 h2 h3 h4 ih =>
    refine ⟨fun i q hq => ?_, fun i q hq => ?_, fun i q q2 hq hq2 => ?_⟩
    · rcases snoc_get hq with ⟨_, hq⟩ | ⟨_, rfl⟩
      · exact ih.ne i q hq
      · exact h2
    · rcases snoc_get hq with ⟨_, hq⟩ | ⟨_, rfl⟩
      · exact ih.same i q hq
      · intro x hx
        rw [h3 x hx, h3 _ (rd_mem h2)]
    · rcases snoc_get hq2 with ⟨hl, hq2⟩ | ⟨hl, rfl⟩
      · rcases snoc_get hq with ⟨_, hq⟩ | ⟨hl2, _⟩
        · exact ih.diff i q q2 hq hq2
        · omega
      · rcases snoc_get hq with ⟨_, hq⟩ | ⟨hl2, _⟩
        · have hlast : init.getLast? = some q := by
            rw [List.getLast?_eq_getElem?, ← hq]
            congr 1
            omega
          rw [h3 _ (rd_mem h2)]
          exact h4 q hlast _ (rd_mem (ih.ne i q hq))
        · omega
/-- A device's zone; -1: it is none. -/
def zz (nodes : List S46) (edges : List S43) (d : Int) : Int := if 1 ≤ d ∧ d ≤ (edges.length : Int) then (rd_T46 nodes (rd_T43 edges (d - 1)).f1).f2 else -1
theorem zoneOf_all {nodes : List S46} {edges : List S43} (F : Fit nodes edges) (d : Int) : zone_zoneOf.f nodes edges d = some (zz nodes edges d) := by
  have hm := F.m
  unfold zone_zoneOf.f zz
  by_cases h0 : d < 1
  · rw [if_pos h0, if_neg (by omega)]
  · by_cases h1 : d > (edges.length : Int)
    · rw [if_neg h0, if_pos h1, if_neg (by omega)]
    · obtain ⟨e, rfl⟩ : ∃ e : Nat, d = ((e + 1 : Nat) : Int) := ⟨(d - 1).toNat, by omega⟩
      have he : e < edges.length := by omega
      have hE := F.ends e he
      have hw : wrap64 (((e + 1 : Nat) : Int) - 1) = (e : Int) := by rw [wsm] <;> omega
      have hs : ((e + 1 : Nat) : Int) - 1 = (e : Int) := by omega
      rw [hw, hs, if_neg (by omega), if_neg (by omega), if_pos (by omega), if_pos (by omega), if_pos hE.2.2.1, if_pos hE.2.2.2, if_pos (by omega)]
theorem refZone_all {nodes : List S46} {edges : List S43} (F : Fit nodes edges) (d : Int) : stillageref09_Zone.f nodes edges d = some (zz nodes edges d) := zoneOf_all F d
theorem zcut_in (zf : Int → Option Int) (zn : Int → Int) (hz : ∀ d, zf d = some (zn d)) (l : List Int) : ∀ (last : Int) (out o : List (List Int)), zcut zf l last out = some (some o) → ∀ d ∈ l, 0 ≤ zn d := by
  induction l with
  | nil => intro last out o _ d hd; cases hd
  | cons a r ih =>
    intro last out o h d hd
    rw [zcut, hz a, Option.bind_some] at h
    by_cases c : zn a < 0
    · rw [if_pos c] at h
      simp at h
    · rw [if_neg c] at h
      rcases List.mem_cons.1 hd with rfl | hd
      · omega
      · split at h
        · exact ih _ _ _ h d hd
        · exact ih _ _ _ h d hd
theorem ref_loop {nodes : List S46} {edges : List S43} (F : Fit nodes edges) (path : List Int) (hp : path.length ≤ 1000) (n : Nat) : ∀ (i : Nat) (x6 : List (List Int)) (x7 : List Int) (last : Int) (out : List (List Int)), i + n = path.length → x6.length ≤ i → x7.length ≤ i →
    (i = 0 → x6 = [] ∧ x7 = [] ∧ out = [] ∧ last = -1) → (0 < i → x7 ≠ [] ∧ out = x6 ++ [x7] ∧ last = zz nodes edges (rd path ((i - 1 : Nat) : Int))) →
    EvP (fun k => stillageref09_Pieces.l0 k path x6 x7 (path.length : Int) (i : Int) nodes edges) (fun r => zcut (zone_zoneOf.f nodes edges) (path.drop i) last out = some (if r.2 = true then some r.1 else none) ∧ (r.2 = false → r.1 = [])) := by
  induction n with
  | zero =>
    intro i x6 x7 last out hi h6 h7 hz hp1
    refine EvP.succ (fun k => stillageref09_Pieces.l0.eq_2 _ _ _ _ _ _ _ k) (EvP.no (by omega) ?_)
    rw [List.drop_eq_nil_of_le (by omega), zcut]
    rcases Nat.eq_zero_or_pos i with rfl | hpos
    · obtain ⟨rfl, rfl, rfl, rfl⟩ := hz rfl
      exact EvP.no (by simp) (EvP.ret ⟨rfl, fun h => by cases h⟩)
    · obtain ⟨h1, rfl, rfl⟩ := hp1 hpos
      have := List.length_pos_iff.2 h1
      exact EvP.yes (by omega) (EvP.yes (by omega) (EvP.ret ⟨rfl, fun h => by cases h⟩))
  | succ n ih =>
    intro i x6 x7 last out hi h6 h7 hz hp1
    have hil : i < path.length := by omega
    have hrd : rd path (i : Int) = path[i] := rd_in hil
    refine EvP.succ (fun k => stillageref09_Pieces.l0.eq_2 _ _ _ _ _ _ _ k) (EvP.yes (by omega) (EvP.yes (by omega) (EvP.yes (by omega) (EvP.obind (refZone_all F _) ?_))))
    rw [hrd, List.drop_eq_getElem_cons hil, zcut, zoneOf_all F, Option.bind_some]
    refine EvP.split (fun c => EvP.ret ?_) (fun c => ?_)
    · rw [if_pos c]
      exact ⟨rfl, fun _ => rfl⟩
    · rw [if_neg c]
      have hnext : rd path (((i + 1) - 1 : Nat) : Int) = path[i] := by rw [Nat.add_sub_cancel]; exact hrd
      rcases Nat.eq_zero_or_pos i with rfl | hpos
      · obtain ⟨rfl, rfl, rfl, rfl⟩ := hz rfl
        refine EvP.no (by omega) (EvP.yes (by simp) ?_)
        rw [if_neg (by omega), wnext 0 (by omega)]
        refine ih 1 [] _ _ _ (by omega) (by simp) (by simp) (fun h => by omega) (fun _ => ⟨by simp, ?_, ?_⟩)
        · exact zsnoc_snoc [] [] _
        · rw [hnext]
      · obtain ⟨h1, rfl, rfl⟩ := hp1 hpos
        have hw : wrap64 ((i : Int) - 1) = ((i - 1 : Nat) : Int) := by rw [wsm] <;> omega
        refine EvP.yes (by omega) (EvP.obind (refZone_all F _) ?_)
        rw [hw]
        refine EvP.yes (by omega) (EvP.yes (by omega) (EvP.obind (refZone_all F _) ?_))
        rw [wnext i (by omega)]
        refine EvP.split (fun c2 => EvP.yes (by omega) ?_) (fun c2 => EvP.yes (by omega) (EvP.yes (by simp) ?_))
        · rw [if_pos c2]
          refine ih (i + 1) x6 _ _ _ (by omega) (by omega) (by rw [List.length_append, List.length_singleton]; omega) (fun h => by omega) (fun _ => ⟨by simp, zsnoc_snoc _ _ _, ?_⟩)
          rw [hnext, c2]
        · rw [if_neg c2]
          refine ih (i + 1) _ _ _ _ (by omega) (by rw [List.length_append, List.length_singleton]; omega) (by simp) (fun h => by omega) (fun _ => ⟨by simp, ?_, ?_⟩)
          · rw [zsnoc_snoc]
          · rw [hnext]
theorem rdL_at {o : List (List Int)} {i : Nat} (h : i < o.length) : rd_L1 o (i : Int) = o[i] := by simp [rd_L1, List.getD_eq_getElem?_getD, List.getElem?_eq_getElem h]
theorem Zones_loop {nodes : List S46} {edges : List S43} (F : Fit nodes edges) (o : List (List Int)) (e : Int) (ho : o.length ≤ 100000) (hne : ∀ (i : Nat) p, o[i]? = some p → p ≠ []) (n : Nat) : ∀ (i : Nat) (acc : List Int), i + n = o.length → acc.length = i →
    EvP (fun k => zone_Zones.l0 k e acc o (o.length : Int) (i : Int) nodes edges) (fun r => r = (acc ++ (o.drop i).map (fun p => zz nodes edges (rd p 0)), e)) := by
  induction n with
  | zero =>
    intro i acc hi ha
    refine EvP.succ (fun k => zone_Zones.l0.eq_2 _ _ _ _ _ _ _ k) (EvP.no (by omega) (EvP.ret ?_))
    rw [List.drop_eq_nil_of_le (by omega)]
    simp
  | succ n ih =>
    intro i acc hi ha
    have h1 : i < o.length := by omega
    have hlen := List.length_pos_iff.2 (hne i o[i] (List.getElem?_eq_getElem h1))
    refine EvP.succ (fun k => zone_Zones.l0.eq_2 _ _ _ _ _ _ _ k) (EvP.yes (by omega) (EvP.yes (by omega) (EvP.yes (by omega) ?_)))
    rw [rdL_at h1, wnext i (by omega)]
    refine EvP.yes (by omega) (EvP.obind (zoneOf_all F _) (EvP.yes (by omega) ((ih (i + 1) _ (by omega) (by simp [ha])).mono (fun r hr => ?_))))
    rw [hr, List.drop_eq_getElem_cons h1, List.map_cons, List.append_assoc]
    rfl
theorem SameP_loop (o : List (List Int)) (ho : o.length ≤ 100000) (hp : ∀ p ∈ o, p.length ≤ 100000) (n : Nat) : ∀ i : Nat, i + n = o.length → EvP (fun k => stillageref09_Same.l0 k o o (o.length : Int) (i : Int)) (fun r => r = true) := by
  induction n with
  | zero =>
    intro i hi
    exact EvP.succ (fun k => stillageref09_Same.l0.eq_2 _ _ _ _ k) (EvP.no (by omega) (EvP.ret rfl))
  | succ n ih =>
    intro i hi
    have h1 : i < o.length := by omega
    refine EvP.succ (fun k => stillageref09_Same.l0.eq_2 _ _ _ _ k) (EvP.yes (by omega) (EvP.yes (by omega) (EvP.yes (by omega) (EvP.yes (by omega) ?_))))
    rw [rdL_at h1, wnext i (by omega)]
    exact EvP.bind (Ints_eq rfl (hp _ (List.getElem_mem h1))) (fun t ht => EvP.yes ht (ih (i + 1) (by omega)))
theorem flat_le {o : List (List Int)} : ∀ p ∈ o, p.length ≤ o.flatten.length := by
  induction o with
  | nil => intro p hp; cases hp
  | cons x o ih =>
    intro p hp
    rw [List.flatten_cons, List.length_append]
    rcases List.mem_cons.1 hp with rfl | hp
    · omega
    · have := ih p hp; omega
theorem flat_few {o : List (List Int)} (h : ∀ p ∈ o, p ≠ []) : o.length ≤ o.flatten.length := by
  induction o with
  | nil => simp
  | cons x o ih =>
    have h1 := ih (fun q hq => h q (List.mem_cons_of_mem _ hq))
    have h2 := List.length_pos_iff.2 (h x List.mem_cons_self)
    simp only [List.flatten_cons, List.length_append, List.length_cons]
    omega
theorem evt_all {α : Type} {F : Nat → Option α} {P : α → Prop} (h : EvP F P) : ∃ r, P r ∧ ∃ K, ∀ k, K ≤ k → F k = some r := by
  obtain ⟨r, ⟨K, hK⟩, hp⟩ := h
  exact ⟨r, hp, K, hK⟩
theorem ZonePieces (l0_0 : List S46) (l0_1 : List S43) (l1 : List Int) : ∃ k, ZWay k l0_0 l0_1 l1 := by
  obtain ⟨a, ha, Ka, hKa⟩ := evt_all awake_e
  subst ha
  by_cases h300 : 300 < l1.length
  · exact ⟨Ka, hKa Ka (Nat.le_refl _), .inl h300⟩
  · obtain ⟨b, hb, Kb, hKb⟩ := evt_all (Good_e l0_0 l0_1)
    cases b with
    | false => exact ⟨Ka + Kb, hKa _ (by omega), .inr (.inl ⟨by omega, hKb _ (by omega)⟩)⟩
    | true =>
      have F := hb rfl
      have hn := F.n
      have hm := F.m
      have hown := own_f l0_0 l0_1 (by omega) (by omega)
      obtain ⟨r, ⟨hr1, hr2⟩, Kr, hKr⟩ := evt_all (ref_loop F l1 (by omega) l1.length 0 [] [] (-1) [] (by omega) (by simp) (by simp) (fun _ => ⟨rfl, rfl, rfl, rfl⟩) (fun h => by omega))
      rw [List.drop_zero] at hr1
      have hKr' : ∀ k, Kr ≤ k → stillageref09_Pieces.f k l0_0 l0_1 l1 = some r := hKr
      obtain ⟨ps, ok⟩ := r
      cases ok with
      | false =>
        obtain rfl := hr2 rfl
        have hP : zone_Pieces.f l0_0 l0_1 l1 = some ([], 1) := by
          unfold zone_Pieces.f
          rw [if_pos (by omega), hr1]
          rfl
        obtain ⟨z, hz, Kz, hKz⟩ := evt_all (EvP.obind (C := fun k (bt : List (List Int) × Int) => zone_Zones.l0 k bt.2 ([] : List Int) bt.1 (bt.1.length : Int) 0 l0_0 l0_1) hP (Zones_loop F [] 1 (by simp) (fun i p h => by simp at h) 0 0 [] rfl rfl))
        subst hz
        exact ⟨Ka + Kb + Kr + Kz, hKa _ (by omega), .inr (.inr ⟨by omega, hKb _ (by omega), hown, .inl ⟨hP, hKz _ (by omega), hKr' _ (by omega)⟩⟩)⟩
      | true =>
        have hr1 : zcut (zone_zoneOf.f l0_0 l0_1) l1 (-1) [] = some (some ps) := hr1
        have hin := zcut_in _ (zz l0_0 l0_1) (zoneOf_all F) l1 _ _ _ hr1
        obtain ⟨o, ho1, ho2, ho3⟩ := zcut_cz (zone_zoneOf.f l0_0 l0_1) (zz l0_0 l0_1) l1 (-1) [] (fun d hd => ⟨zoneOf_all F d, hin d hd⟩) .nil (fun _ => by decide) (fun init q e => by simp at e)
        rw [hr1] at ho1
        injection ho1 with ho1
        injection ho1 with ho1
        subst ho1
        rw [List.flatten_nil, List.nil_append] at ho3
        have hCI := ho2.ci
        have hne : ∀ q ∈ ps, q ≠ [] := fun q hq => by
          obtain ⟨i, hi⟩ := List.mem_iff_getElem?.1 hq
          exact hCI.ne i q hi
        have hfew := flat_few hne
        have hle := flat_le (o := ps)
        rw [ho3] at hfew hle
        have hP : zone_Pieces.f l0_0 l0_1 l1 = some (ps, 0) := by
          unfold zone_Pieces.f
          rw [if_pos (by omega), hr1]
          rfl
        obtain ⟨z, hz, Kz, hKz⟩ := evt_all (EvP.obind (C := fun k (bt : List (List Int) × Int) => zone_Zones.l0 k bt.2 ([] : List Int) bt.1 (bt.1.length : Int) 0 l0_0 l0_1) hP (Zones_loop F ps 0 (by omega) hCI.ne ps.length 0 [] (by omega) rfl))
        rw [List.drop_zero, List.nil_append] at hz
        subst hz
        obtain ⟨s, hs, Ks, hKs⟩ := evt_all (EvP.yes (c := (ps.length : Int) = (ps.length : Int)) (G := fun _ => some false) rfl (SameP_loop ps (by omega) (fun p hp => by have := hle p hp; omega) ps.length 0 (by omega)))
        subst hs
        obtain ⟨s, hs, K6, hK6⟩ := evt_all (Same_e l0_0 l0_1 (by omega) (by omega))
        subst hs
        obtain ⟨s, hs, Ki, hKi⟩ := evt_all (Ints_eq (x := l1) (y := l1) rfl (by omega))
        subst hs
        refine ⟨Ka + Kb + Kr + Kz + Ks + K6 + Ki, hKa _ (by omega), .inr (.inr ⟨by omega, hKb _ (by omega), hown, .inr ⟨ps, _, ⟨hP, hKz _ (by omega), hKr' _ (by omega), hKs _ (by omega), by simp, hCI.ne, fun i p hp => ?_, ⟨by omega, fun p hp => by have := hle p hp; omega⟩, hK6 _ (by omega), hKi _ (by omega)⟩⟩⟩)⟩
        rw [refZone_all F]
        have hil : i < ps.length := (List.getElem?_eq_some_iff.1 hp).1
        have hpi : ps[i] = p := by rw [List.getElem?_eq_getElem hil] at hp; exact Option.some.inj hp
        simp [rd, List.getElem?_eq_getElem hil, hpi]

end Go.Proofs.Ytkdfohmceokchaa.Pure
