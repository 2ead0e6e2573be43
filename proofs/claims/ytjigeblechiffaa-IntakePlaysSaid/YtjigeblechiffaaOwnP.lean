/- IntakeOwn, in plain words: which blocks the pieces bear, and what is got. -/
import Derived.Test.YtjigeblechiffaaIn7
namespace Go.Proofs.Ytjigeblechiffaa.PIntake
open Go.RowKit Go.Proofs.YtjigeblechiffaaW.PrintWords
set_option linter.unusedVariables false
set_option linter.unusedSimpArgs false
def vals (s : St) : List P := s.came.map (·.2) ++ s.queue
def tags (s : St) : List Nat := (vals s).filterMap (·.2)
theorem cut_perm {x : Int} : ∀ {l : List (Int × P)} {r : P}, at_ x l = some r → (r :: (cut x l).map (·.2)).Perm (l.map (·.2))
  | [], _, h => by cases h
  | (k, v) :: l, r, h => by
    by_cases hx : x = k
    · simp only [at_, hx, if_true, Option.some.injEq] at h
      subst h
      simp [cut, hx]
    · simp only [at_, hx, if_false] at h
      simp only [cut, hx, if_false, List.map_cons]
      exact (List.Perm.swap _ _ _).trans ((cut_perm h).cons v)
theorem drain_vals : ∀ (k : Nat) (s : St), (vals (drain k s)).Perm (vals s)
  | 0, s => List.Perm.refl _
  | k + 1, s => by
    cases ha : at_ s.next s.came with
    | none => rw [drain_none ha]
    | some r =>
      by_cases hf : (s.queue.length : Int) < 2 * s.window
      · rw [drain_some ha hf]
        refine (drain_vals k _).trans ?_
        unfold vals
        simp only
        have h1 := cut_perm ha
        refine List.Perm.trans ?_ (h1.append_right s.queue)
        rw [← List.append_assoc]
        refine List.perm_append_comm.trans ?_
        rw [List.singleton_append, List.cons_append]
      · rw [drain_full ha hf]

structure Own (f : Int) (n k : Nat) (D : Nat → List Int) (s : St) : Prop where
  win : s.window = 64
  nxt : s.next = f
  que : s.queue = []
  len : s.came.length + k = n
  low : ∀ i : Nat, i < k → at_ ((f + i) % 65536) s.came = none
  high : ∀ i : Nat, k ≤ i → i < n → ∃ t, at_ ((f + i) % 65536) s.came = some (D i, t)
def Fin_ (n : Nat) (D : Nat → List Int) (s : St) : Prop := s.came = [] ∧ s.queue.map (·.1) = (List.range n).map D
def OwnAt (f : Int) (n k : Nat) (D : Nat → List Int) (s : St) : Prop := (0 < k ∧ Own f n k D s) ∨ (k = 0 ∧ Fin_ n D s)
theorem own_start (f : Int) (hf : 0 ≤ f ∧ f < 65536) (n : Nat) (D : Nat → List Int) : OwnAt f n n D ⟨64, f, [], []⟩ := by
  rcases Nat.eq_zero_or_pos n with h | h
  · subst h; exact .inr ⟨rfl, rfl, rfl⟩
  · exact .inl ⟨h, rfl, rfl, rfl, by simp, fun _ _ => rfl, fun i h1 h2 => by omega⟩
theorem own_put {f : Int} {n k : Nat} {D : Nat → List Int} {s : St} (hn : n ≤ 60) (hf : 0 ≤ f ∧ f < 65536) (h : Own f n (k + 1) D s) (hd : (D k).length ≤ 200) (t : Option Nat) :
    takeF s ((f + k) % 65536) (D k, t) = (drain (s.came.length + 2) { s with came := s.came ++ [((f + k) % 65536, (D k, t))] }, 0) := by
  have hk : k < 60 := by have := h.len; omega
  unfold takeF
  rw [if_neg (by simp only; omega), if_neg, if_neg]
  · rw [within_iff, h.nxt, h.win, h.que]
    have : ((f + k) % 65536 - f) % 65536 = k := by omega
    rw [this]; simp; omega
  · rw [h.low k (by omega), within_iff, u16_wrap, u16_wrap, h.nxt, h.win]
    have : ((f + k) % 65536 - (f - 64 % 65536) % 65536) % 65536 = (k : Int) + 64 := by omega
    rw [this]; simp; omega
theorem own_all (f : Int) (n : Nat) (hn : n ≤ 60) (D : Nat → List Int) : ∀ (m N k : Nat) (s : St), N + m = n → m < k → s.window = 64 → s.next = (f + N) % 65536 → s.came.length = m → s.queue.map (·.1) = (List.range N).map D →
    (∀ i : Nat, N ≤ i → i < n → ∃ t, at_ ((f + i) % 65536) s.came = some (D i, t)) → Fin_ n D (drain k s)
  | 0, N, k, s, h1, h2, h3, h4, h5, h6, h7 => by
    obtain ⟨k, rfl⟩ : ∃ m, k = m + 1 := ⟨k - 1, by omega⟩
    have hc : s.came = [] := List.eq_nil_of_length_eq_zero h5
    rw [drain_none (by rw [hc]; rfl)]
    have : N = n := by omega
    exact ⟨hc, by rw [h6, this]⟩
  | m + 1, N, k, s, h1, h2, h3, h4, h5, h6, h7 => by
    obtain ⟨k, rfl⟩ : ∃ m, k = m + 1 := ⟨k - 1, by omega⟩
    obtain ⟨t, hN⟩ := h7 N (Nat.le_refl _) (by omega)
    have hq : s.queue.length = N := by
      have := congrArg List.length h6
      simpa using this
    rw [← h4] at hN
    rw [drain_some hN (by rw [hq, h3]; omega)]
    refine own_all f n hn D m (N + 1) k _ (by omega) (by omega) h3 ?_ ?_ ?_ ?_
    · simp only; rw [u16_wrap, h4]; push_cast; omega
    · simp only; have := cut_len hN; omega
    · simp only; rw [List.map_append, h6, List.range_succ, List.map_append]; rfl
    · intro i hi hi2
      simp only
      rw [h4, at_cut_ne (by omega)]
      exact h7 i (by omega) hi2
theorem OwnAt.step {f : Int} {n k : Nat} {D : Nat → List Int} {s : St} (hn : n ≤ 60) (hf : 0 ≤ f ∧ f < 65536) (h : OwnAt f n (k + 1) D s) (hd : (D k).length ≤ 200) (t : Option Nat) :
    ∃ s', takeF s ((f + k) % 65536) (D k, t) = (s', 0) ∧ OwnAt f n k D s' ∧ (vals s').Perm ((D k, t) :: vals s) := by
  rcases h with ⟨_, h⟩ | ⟨h, _⟩
  · have hkn : k < n := by have := h.len; omega
    refine ⟨_, own_put hn hf h hd t, ?_, (drain_vals _ _).trans ?_⟩
    · rcases Nat.eq_zero_or_pos k with hk | hk
      · subst hk
        refine .inr ⟨rfl, own_all f n hn D n 0 _ _ (by omega) (by have := h.len; omega) h.win ?_ ?_ ?_ ?_⟩
        · simp only; rw [h.nxt]; omega
        · have := h.len; simp; omega
        · simp only; rw [h.que]; rfl
        · intro i h0 hi
          simp only
          by_cases e : i = 0
          · subst e
            have h1 := h.low 0 (by omega)
            exact ⟨t, by rw [at_app_none h1, if_pos rfl]⟩
          · obtain ⟨u, hu⟩ := h.high i (by omega) hi
            exact ⟨u, at_app_some hu⟩
      · refine .inl ⟨hk, ?_⟩
        rw [drain_none]
        · refine ⟨h.win, h.nxt, h.que, by have := h.len; simp; omega, fun i hi => ?_, fun i h1 h2 => ?_⟩
          · simp only
            rw [at_app_none (h.low i (by omega)), if_neg (by omega)]
          · simp only
            by_cases e : i = k
            · subst e
              exact ⟨t, by rw [at_app_none (h.low i (by omega)), if_pos rfl]⟩
            · obtain ⟨u, hu⟩ := h.high i (by omega) h2
              exact ⟨u, at_app_some hu⟩
        · simp only
          have h0 := h.low 0 (by omega)
          simp only [Int.natCast_zero, Int.add_zero] at h0
          have he : f % 65536 = f := by omega
          rw [he] at h0
          rw [h.nxt, at_app_none h0, if_neg (by omega)]
    · unfold vals
      simp only [List.map_append, List.map_cons, List.map_nil, List.append_assoc]
      refine (List.perm_append_comm_assoc _ _ _).trans ?_
      rw [List.singleton_append]
  · omega
theorem tags_perm {s s' : St} {d : List Int} {t : Option Nat} (h : (vals s').Perm ((d, t) :: vals s)) : (tags s').Perm (t.toList ++ tags s) := by
  unfold tags
  refine (h.filterMap _).trans ?_
  cases t with
  | none => simp
  | some k => simp
theorem tags_new {s s' : St} {d : List Int} {t : Option Nat} (h : (vals s').Perm ((d, t) :: vals s)) (hs : (tags s).Nodup) (ht : ∀ k, t = some k → k ∉ tags s) : (tags s').Nodup := by
  rw [(tags_perm h).nodup_iff]
  cases t with
  | none => simpa using hs
  | some k => simpa using ⟨ht k rfl, hs⟩
theorem tags_sub {s s' : St} {d : List Int} {t : Option Nat} (h : (vals s').Perm ((d, t) :: vals s)) {G : Nat} (hG : G ∉ tags s) (ht : ∀ k, t = some k → k ≠ G) : G ∉ tags s' := by
  rw [(tags_perm h).mem_iff]
  cases t with
  | none => simpa using hG
  | some k => simpa using ⟨fun e => ht k rfl e.symm, hG⟩

variable {w0 w w1 : World} {B : Nat} {s : St}
theorem rel_tags {R : Value → P → Prop} {Q : Nat → Prop} (hR : ∀ v p k, R v p → p.2 = some k → Q k) : ∀ {vs : List (Int × Value)} {cs : List (Int × P)}, Rel2 (fun p q => p.1 = q.1 ∧ R p.2 q.2) vs cs → ∀ p ∈ cs, ∀ k, p.2.2 = some k → Q k
  | [], [], _, p, hp, _, _ => by cases hp
  | [], _ :: _, h, _, _, _, _ => h.elim
  | _ :: _, [], h, _, _, _, _ => h.elim
  | a :: vs, b :: cs, ⟨⟨_, h2⟩, h3⟩, p, hp, k, hk => by
    rcases List.mem_cons.1 hp with rfl | hp
    · exact hR _ _ k h2 hk
    · exact rel_tags hR h3 p hp k hk
theorem rel_tagsq {R : Value → P → Prop} {Q : Nat → Prop} (hR : ∀ v p k, R v p → p.2 = some k → Q k) : ∀ {vs : List Value} {cs : List P}, Rel2 R vs cs → ∀ p ∈ cs, ∀ k, p.2 = some k → Q k
  | [], [], _, p, hp, _, _ => by cases hp
  | [], _ :: _, h, _, _, _, _ => h.elim
  | _ :: _, [], h, _, _, _, _ => h.elim
  | a :: vs, b :: cs, ⟨h2, h3⟩, p, hp, k, hk => by
    rcases List.mem_cons.1 hp with rfl | hp
    · exact hR _ _ k h2 hk
    · exact rel_tagsq hR h3 p hp k hk
/-- The pieces' blocks lie behind the intake's own, and are there. -/
theorem IV.tag (h : IV w0 B w s) : ∀ g ∈ tags s, B + 3 ≤ g ∧ g < w.heap.size := by
  intro g hg
  obtain ⟨p, hp, hk⟩ := List.mem_filterMap.1 hg
  rcases List.mem_append.1 hp with hp | hp
  · obtain ⟨q, hq, rfl⟩ := List.mem_map.1 hp
    obtain ⟨es, cl, vs, a, b, c⟩ := h.mp
    exact rel_tags (R := RV B w) (Q := fun g => B + 3 ≤ g ∧ g < w.heap.size) (fun v p k hr hk => RV.base hr hk) c q hq g hk
  · obtain ⟨bf, sn, rc, e, f⟩ := h.ch
    exact rel_tagsq (R := RV B w) (Q := fun g => B + 3 ≤ g ∧ g < w.heap.size) (fun v p k hr hk => RV.base hr hk) f p hp g hk
theorem Rel2.mem_mono {α β : Type} {R S : α → β → Prop} : ∀ {l : List α} {m : List β}, Rel2 R l m → (∀ a, ∀ b ∈ m, R a b → S a b) → Rel2 S l m
  | [], [], _, _ => trivial
  | _ :: _, b :: _, ⟨p, q⟩, h => ⟨h _ b List.mem_cons_self p, Rel2.mem_mono q (fun a c hc => h a c (List.mem_cons_of_mem _ hc))⟩
  | [], _ :: _, x, _ => x.elim
  | _ :: _, [], x, _ => x.elim
/-- What is written elsewhere leaves the intake as it is. -/
theorem IV.setTag {G : Nat} (h : IV w0 B w s) (hG : B + 2 < G) (hn : G ∉ tags s) (i : Nat) (v : Value) : IV w0 B (w.setCell ⟨G, i, none⟩ v) s := by
  have hk : KeepBut w (w.setCell ⟨G, i, none⟩ v) G none := (KeepBut.refl w G none).set_ i v
  have hf : ∀ {k : Nat} {o : Obj}, w.heap[k]? = some o → k ≠ G → (w.setCell ⟨G, i, none⟩ v).heap[k]? = some o := fun ho hne => hk.blk ho hne (by simp)
  have hne : ∀ p ∈ vals s, p.2 ≠ some G := fun p hp e => hn (List.mem_filterMap.2 ⟨p, hp, e⟩)
  refine ⟨h.lo, below_set h.below (by have := h.lo; omega), h.win, h.nxt, hf h.str (by omega), h.stm_same (fun o ho => hf ho (by omega)), ?_, ?_, h.full⟩
  · obtain ⟨es, cl, vs, a, b, c⟩ := h.mp
    exact ⟨es, cl, vs, hf a (by omega), b, c.mem_mono fun _ q hq ⟨p1, p2⟩ => ⟨p1, p2.keepFar hk (hne _ (List.mem_append_left _ (List.mem_map_of_mem hq)))⟩⟩
  · obtain ⟨bf, sn, rc, e, f⟩ := h.ch
    exact ⟨bf, sn, rc, hf e (by omega), f.mem_mono fun _ q hq p2 => p2.keepFar hk (hne _ (List.mem_append_right _ hq))⟩
end Go.Proofs.Ytjigeblechiffaa.PIntake
