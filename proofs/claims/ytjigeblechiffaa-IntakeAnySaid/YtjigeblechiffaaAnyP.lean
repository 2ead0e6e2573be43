/- IntakeAny, in plain words: pieces of a window in whatever order. -/
import Derived.Test.YtjigeblechiffaaIn7
namespace Go.Proofs.Ytjigeblechiffaa.PIntake
set_option linter.unusedVariables false
set_option linter.unusedSimpArgs false
theorem at_cut_self {α : Type} {x : Int} : ∀ {l : List (Int × α)}, (l.map (·.1)).Nodup → at_ x (cut x l) = none
  | [], _ => rfl
  | (k, b) :: l, h => by
    rw [List.map_cons, List.nodup_cons] at h
    by_cases hx : x = k
    · subst hx
      simp only [cut, if_true]
      cases ha : at_ x l with
      | none => rfl
      | some v => exact absurd (List.mem_map_of_mem (f := Prod.fst) (at_mem ha)) h.1
    · simp only [cut, hx, if_false, at_]
      exact at_cut_self h.2
theorem nodup_cut {α : Type} {x : Int} {l : List (Int × α)} (h : (l.map (·.1)).Nodup) : ((cut x l).map (·.1)).Nodup := by
  have : ∀ l : List (Int × α), (cut x l).Sublist l := by
    intro l
    induction l with
    | nil => exact List.Sublist.refl _
    | cons p l ih =>
      by_cases hx : x = p.1
      · simp only [cut, hx, if_true]
        exact List.sublist_cons_self p l
      · simp only [cut, hx, if_false]
        exact ih.cons_cons p
  exact h.sublist ((this l).map _)
/-- What has been taken (T): of these the first N are in the queue, the others wait. -/
structure AnyI (f : Int) (T : List Nat) (N : Nat) (s : St) : Prop where
  win : s.window = 64
  nxt : s.next = (f + N) % 65536
  que : s.queue = (List.range N).map (fun j : Nat => [(j : Int)])
  len : s.came.length + N = T.length
  cam : ∀ n : Nat, n < 64 → at_ ((f + n) % 65536) s.came = if n ∈ T ∧ N ≤ n then some [(n : Int)] else none
  low : ∀ j, j < N → j ∈ T
  nod : (s.came.map (·.1)).Nodup
theorem any_start (f : Int) (hf : 0 ≤ f ∧ f < 65536) : AnyI f [] 0 ⟨64, f, [], []⟩ := ⟨rfl, by simp; omega, rfl, rfl, fun n _ => by simp [at_], fun j h => by omega, by simp⟩
theorem any_drain {f : Int} {T : List Nat} (hT : T.length ≤ 40) : ∀ (k N : Nat) (s : St), AnyI f T N s → s.came.length < k → ∃ N', AnyI f T N' (drain k s) ∧ N' ∉ T
  | 0, N, s, _, h => by omega
  | k + 1, N, s, h, hk => by
    have hN : N ≤ 40 := by have := h.len; omega
    have hc := h.cam N (by omega)
    rw [← h.nxt] at hc
    by_cases hm : N ∈ T
    · rw [if_pos ⟨hm, Nat.le_refl _⟩] at hc
      have hql : s.queue.length = N := by rw [h.que]; simp
      rw [drain_some hc (by rw [hql, h.win]; omega)]
      have hcl := cut_len hc
      refine any_drain hT k (N + 1) _ ⟨h.win, ?_, ?_, ?_, fun n hn => ?_, fun j hj => ?_, nodup_cut h.nod⟩ (by simp only; omega)
      · simp only; rw [u16_wrap, h.nxt]; push_cast; omega
      · simp only; rw [h.que, List.range_succ, List.map_append]; rfl
      · simp only; have := h.len; omega
      · simp only
        by_cases e : n = N
        · subst e
          rw [if_neg (by omega), ← h.nxt]
          exact at_cut_self h.nod
        · rw [h.nxt, at_cut_ne (by omega), h.cam n hn]
          by_cases h2 : n ∈ T ∧ N ≤ n
          · rw [if_pos h2, if_pos ⟨h2.1, by omega⟩]
          · rw [if_neg h2, if_neg (fun h3 => h2 ⟨h3.1, by omega⟩)]
      · rcases Nat.lt_succ_iff_lt_or_eq.1 hj with h1 | rfl
        · exact h.low j h1
        · exact hm
    · rw [if_neg (fun h => hm h.1)] at hc
      rw [drain_none hc]
      exact ⟨N, h, hm⟩
theorem any_take {f : Int} {T : List Nat} {N : Nat} {s : St} (hf : 0 ≤ f ∧ f < 65536) (h : AnyI f T N s) (hT : T.length < 40) {k : Nat} (hk : k < 40) (hn : k ∉ T) :
    ∃ s' N', takeF s ((f + k) % 65536) [(k : Int)] = (s', 0) ∧ AnyI f (T ++ [k]) N' s' ∧ N' ∉ T ++ [k] := by
  have hN : N ≤ 40 := by have := h.len; omega
  have hNk : N ≤ k := by
    rcases Nat.lt_or_ge k N with h1 | h1
    · exact absurd (h.low k h1) hn
    · exact h1
  have hc := h.cam k (by omega)
  rw [if_neg (fun h => hn h.1)] at hc
  have hql : s.queue.length = N := by rw [h.que]; simp
  have hI : AnyI f (T ++ [k]) N { s with came := s.came ++ [((f + k) % 65536, [(k : Int)])] } := by
    refine ⟨h.win, h.nxt, h.que, by have := h.len; simp; omega, fun n hn64 => ?_, fun j hj => List.mem_append_left _ (h.low j hj), ?_⟩
    · simp only
      by_cases e : n = k
      · subst e
        rw [at_app_none hc, if_pos rfl, if_pos ⟨by simp, hNk⟩]
      · have hcn := h.cam n hn64
        have hiff : (n ∈ T ++ [k] ∧ N ≤ n) ↔ (n ∈ T ∧ N ≤ n) := by simp [e]
        simp only [hiff]
        by_cases h2 : n ∈ T ∧ N ≤ n
        · rw [if_pos h2] at hcn ⊢
          exact at_app_some hcn
        · rw [if_neg h2] at hcn ⊢
          rw [at_app_none hcn, if_neg (by omega)]
    · simp only [List.map_append, List.map_cons, List.map_nil]
      rw [List.nodup_append]
      refine ⟨h.nod, by simp, fun a ha b hb e => ?_⟩
      simp only [List.mem_singleton] at hb
      obtain ⟨p, hp, rfl⟩ := List.mem_map.1 ha
      exact at_none_mem hc p hp (e.trans hb)
  obtain ⟨N', h1, h2⟩ := any_drain (by simp; omega) (s.came.length + 2) N _ hI (by simp)
  refine ⟨_, N', ?_, h1, h2⟩
  unfold takeF
  rw [if_neg (by simp), if_neg, if_neg]
  · rw [within_iff, h.nxt, h.win, hql]
    have : ((f + k) % 65536 - (f + N) % 65536) % 65536 = (k : Int) - N := by omega
    rw [this]; simp; omega
  · rw [hc, within_iff, u16_wrap, u16_wrap, h.nxt, h.win]
    have : ((f + k) % 65536 - ((f + N) % 65536 - 64 % 65536) % 65536) % 65536 = (k : Int) - N + 64 := by omega
    rw [this]; simp; omega
/-- When all have been taken. -/
theorem any_end {f : Int} {T : List Nat} {N n : Nat} {s : St} (h : AnyI f T N s) (hn : N ∉ T) (hT : T.Perm (List.range n)) : N = n ∧ s.came = [] := by
  have hl : T.length = n := by rw [hT.length_eq, List.length_range]
  have h1 : ¬ N < n := fun h1 => hn (hT.mem_iff.2 (List.mem_range.2 h1))
  have := h.len
  have hN : N = n := by omega
  exact ⟨hN, List.eq_nil_of_length_eq_zero (by omega)⟩
/-- Two places of a list change their values. -/
theorem swap_perm {l : List Nat} {i j : Nat} (hi : i < l.length) (hj : j < l.length) : ((l.set i (l.getD j 0)).set j (l.getD i 0)).Perm l := by
  have h := Array.swap_perm (xs := l.toArray) (i := i) (j := j) (by simpa using hi) (by simpa using hj)
  have e : (l.toArray.swap i j (by simpa using hi) (by simpa using hj)).toList = (l.set i (l.getD j 0)).set j (l.getD i 0) := by
    simp [Array.swap, List.getD_eq_getElem?_getD, List.getElem?_eq_getElem hi, List.getElem?_eq_getElem hj]
  rw [← e]
  exact h.toList
/-- One round of the shuffle. -/
theorem shuffle {l : List Nat} {k j : Nat} (hk : k < l.length) (hj : j ≤ k) (h : (l.take k).Perm (List.range k)) :
    ((((l.set k k).set k ((l.set k k).getD j 0)).set j ((l.set k k).getD k 0)).take (k + 1)).Perm (List.range (k + 1)) := by
  generalize hl1 : l.set k k = m
  have hml : m.length = l.length := by rw [← hl1]; simp
  have hm : (m.take (k + 1)).Perm (List.range (k + 1)) := by
    have : m.take (k + 1) = l.take k ++ [k] := by
      rw [← hl1, List.take_set, List.take_add_one, List.getElem?_eq_getElem hk, List.set_append]
      simp [List.length_take, Nat.min_eq_left (Nat.le_of_lt hk)]
    rw [this, List.range_succ]
    exact h.append_right _
  rw [List.take_set, List.take_set]
  have hg : ∀ i, i ≤ k → m.getD i 0 = (m.take (k + 1)).getD i 0 := fun i hi => by
    simp only [List.getD_eq_getElem?_getD]
    rw [List.getElem?_take_of_lt (by omega)]
  rw [hg j hj, hg k (Nat.le_refl _)]
  refine (swap_perm ?_ ?_).trans hm
  · rw [List.length_take]; omega
  · rw [List.length_take]; omega
end Go.Proofs.Ytjigeblechiffaa.PIntake
