/- IntakePlays, in plain words: the intake's Take is the reference's. -/
import Derived.Test.YtjigeblechiffaaRfP
import Derived.Test.YtjigeblechiffaaIn7
namespace Go.Proofs.Ytjigeblechiffaa.PPlays
open Go.RowKit Go.Proofs.YtjigeblechiffaaW.PrintWords
open PIntake PRef
open POrder (In16)
set_option linter.unusedVariables false
set_option linter.unusedSimpArgs false
def e70 (q : Int × P) : S70 := ⟨q.1, strOfNums q.2.1⟩
def enc (s : St) : List S70 := s.came.map e70
def encQ (s : St) : List ByteArray := s.queue.map fun p => strOfNums p.1
structure PInv (W : Int) (s : St) : Prop where
  win : s.window = W
  ww : 1 ≤ W ∧ W ≤ 64
  nn : In16 s.next
  keys : ∀ q ∈ s.came, In16 q.1 ∧ (q.1 - s.next) % 65536 < W
  nd : (s.came.map (·.1)).Nodup
  tot : (s.queue.length : Int) + s.came.length ≤ 2 * W
theorem nodup_few : ∀ (n : Nat) (l : List Nat), l.Nodup → (∀ x ∈ l, x < n) → l.length ≤ n
  | 0, l, _, h => by
    cases l with
    | nil => simp
    | cons a l => exact absurd (h a List.mem_cons_self) (Nat.not_lt_zero _)
  | n + 1, l, hn, h => by
    by_cases hm : n ∈ l
    · have := nodup_few n (l.erase n) (hn.erase n) (fun x hx => by
        have h1 := hn.mem_erase_iff.1 hx
        have := h x h1.2
        omega)
      rw [List.length_erase_of_mem hm] at this
      omega
    · have := nodup_few n l hn (fun x hx => by
        have h1 := h x hx
        have : x ≠ n := fun e => hm (e ▸ hx)
        omega)
      omega
theorem came_few {W n : Int} {l : List (Int × P)} (hW : 1 ≤ W ∧ W ≤ 64) (hk : ∀ q ∈ l, In16 q.1 ∧ (q.1 - n) % 65536 < W) (hn : In16 n) (nd : (l.map (·.1)).Nodup) : (l.length : Int) ≤ W := by
  have h1 := nodup_few W.toNat (l.map fun q => ((q.1 - n) % 65536).toNat) ?_ ?_
  · rw [List.length_map] at h1; omega
  · rw [List.Nodup, List.pairwise_map] at nd ⊢
    refine nd.imp_of_mem fun {a b} ha hb hne e => hne ?_
    have h2 := (hk a ha).1
    have h3 := (hk b hb).1
    unfold In16 at h2 h3 hn
    omega
  · intro x hx
    obtain ⟨q, hq, rfl⟩ := List.mem_map.1 hx
    have := (hk q hq).2
    omega
theorem fi_none {n : Int} : ∀ {l : List (Int × P)}, at_ n l = none → fi (l.map e70) n = none
  | [], _ => rfl
  | (k, v) :: l, h => by
    by_cases hx : n = k
    · simp [at_, hx] at h
    · simp only [at_, hx, if_false] at h
      have h1 := fi_none h
      have h2 : ¬ k = n := fun e => hx e.symm
      unfold fi at h1 ⊢
      rw [List.map_cons, List.findIdx?_cons]
      simp [e70, h2] at h1 ⊢
      exact h1
theorem fi_some {n : Int} : ∀ {l : List (Int × P)} {r : P}, at_ n l = some r → ∃ j : Nat, fi (l.map e70) n = some j ∧ (rd_T70 (l.map e70) (j : Int)).f1 = strOfNums r.1 ∧ (l.map e70).take j ++ (l.map e70).drop (j + 1) = (cut n l).map e70
  | [], _, h => by cases h
  | (k, v) :: l, r, h => by
    by_cases hx : n = k
    · subst hx
      simp only [at_, if_true, Option.some.injEq] at h
      subst h
      refine ⟨0, ?_, ?_, ?_⟩
      · unfold fi; rw [List.map_cons, List.findIdx?_cons]; simp [e70]
      · simp [rd_T70, e70]
      · simp [cut]
    · simp only [at_, hx, if_false] at h
      obtain ⟨j, h1, h2, h3⟩ := fi_some h
      have h4 : ¬ k = n := fun e => hx e.symm
      refine ⟨j + 1, ?_, ?_, ?_⟩
      · unfold fi at h1 ⊢
        rw [List.map_cons, List.findIdx?_cons, h1]
        simp [e70, h4]
      · have : ((j + 1 : Nat) : Int).toNat = j + 1 := by omega
        rw [← h2]
        unfold rd_T70
        rw [this]
        simp
      · simp only [List.map_cons, List.take_succ_cons, List.drop_succ_cons, List.cons_append, cut, hx, if_false, h3]
theorem cut_nodup {n : Int} : ∀ {l : List (Int × P)}, (l.map (·.1)).Nodup → ((cut n l).map (·.1)).Nodup ∧ ∀ q ∈ cut n l, q.1 ≠ n
  | [], h => ⟨h, fun q hq => by cases hq⟩
  | (k, v) :: l, h => by
    rw [List.map_cons, List.nodup_cons] at h
    by_cases hx : n = k
    · subst hx
      simp only [cut, if_true]
      exact ⟨h.2, fun q hq e => h.1 (List.mem_map.2 ⟨q, hq, e⟩)⟩
    · simp only [cut, hx, if_false]
      obtain ⟨h1, h2⟩ := cut_nodup h.2
      refine ⟨?_, fun q hq => ?_⟩
      · rw [List.map_cons, List.nodup_cons]
        refine ⟨fun hm => h.1 ?_, h1⟩
        obtain ⟨q, hq, e⟩ := List.mem_map.1 hm
        rw [← e]
        exact List.mem_map_of_mem (mem_cut hq)
      · rcases List.mem_cons.1 hq with rfl | hq
        · exact fun e => hx e.symm
        · exact h2 q hq
theorem PInv.pop {W : Int} {s : St} {r : P} (h : PInv W s) (ha : at_ s.next s.came = some r) :
    (s.queue.length : Int) < 2 * s.window ∧ PInv W { s with came := cut s.next s.came, queue := s.queue ++ [r], next := IntKind.u16.wrap (s.next + 1) } := by
  have hl := cut_len ha
  have ht := h.tot
  obtain ⟨h1, h2⟩ := cut_nodup (n := s.next) h.nd
  have hn := h.nn
  unfold In16 at hn
  refine ⟨by rw [h.win]; omega, h.win, h.ww, ?_, fun q hq => ?_, h1, ?_⟩
  · simp only; rw [u16_wrap]; unfold In16; omega
  · simp only at hq ⊢
    obtain ⟨h3, h4⟩ := h.keys q (mem_cut hq)
    have h5 := h2 q hq
    refine ⟨h3, ?_⟩
    unfold In16 at h3
    rw [u16_wrap]
    omega
  · simp only; rw [List.length_append]; simp; omega
theorem plays_drain {W : Int} : ∀ (k : Nat) (s : St), PInv W s → rDrain k s.next (enc s) (encQ s) = ((PIntake.drain k s).next, enc (PIntake.drain k s), encQ (PIntake.drain k s)) ∧ PInv W (PIntake.drain k s)
  | 0, s, h => ⟨rfl, h⟩
  | k + 1, s, h => by
    cases ha : at_ s.next s.came with
    | none =>
      rw [drain_none ha]
      refine ⟨?_, h⟩
      rw [rDrain, show fi (enc s) s.next = none from fi_none ha]
    | some r =>
      obtain ⟨hf, hP⟩ := h.pop ha
      rw [drain_some ha hf]
      obtain ⟨j, h1, h2, h3⟩ := fi_some ha
      obtain ⟨h4, h5⟩ := plays_drain k _ hP
      refine ⟨?_, h5⟩
      rw [← h4, rDrain, show fi (enc s) s.next = some j from h1]
      show rDrain k (IntKind.u16.wrap (s.next + 1)) ((enc s).take j ++ (enc s).drop (j + 1)) (encQ s ++ [(rd_T70 (enc s) (j : Int)).f1]) = _
      rw [show (rd_T70 (enc s) (j : Int)).f1 = strOfNums r.1 from h2, show (enc s).take j ++ (enc s).drop (j + 1) = (cut s.next s.came).map e70 from h3]
      unfold enc encQ
      simp
theorem plays_take {W x : Int} {s : St} (h : PInv W s) (hx : In16 x) (d : List Int) (t : Option Nat) (hd : (strOfNums d).size = d.length) :
    rTake W s.next (enc s) (encQ s) x (strOfNums d) = (((takeF s x (d, t)).1.next, enc (takeF s x (d, t)).1, encQ (takeF s x (d, t)).1), (takeF s x (d, t)).2) ∧ PInv W (takeF s x (d, t)).1 := by
  have hn := h.nn
  have hW := h.ww
  have hx' := hx
  unfold In16 at hn hx'
  have hq : (encQ s).length = s.queue.length := by simp [encQ]
  unfold rTake takeF
  by_cases h0 : 256 < d.length
  · rw [if_pos (by rw [hd]; exact h0), if_pos h0]
    exact ⟨rfl, h⟩
  rw [if_neg (by rw [hd]; exact h0), if_neg h0]
  have hdist : dist s.next x = if (x - s.next) % 65536 < 32768 then (x - s.next) % 65536 else (x - s.next) % 65536 - 65536 := rfl
  have hbeh : PIntake.within x (IntKind.u16.wrap (s.next - IntKind.u16.wrap s.window)) s.window = decide (65536 - W ≤ (x - s.next) % 65536) := by
    rw [PIntake.within_iff, u16_wrap, u16_wrap, h.win]
    by_cases hc : 65536 - W ≤ (x - s.next) % 65536
    · rw [decide_eq_true hc]; exact decide_eq_true (by omega)
    · rw [decide_eq_false hc]; exact decide_eq_false (by omega)
  have hwin : PIntake.within x s.next s.window = decide ((x - s.next) % 65536 < W) := by rw [PIntake.within_iff, h.win]
  have hwait : (at_ x s.came).isSome = true → (x - s.next) % 65536 < W := fun hs => by
    obtain ⟨r, hr⟩ := Option.isSome_iff_exists.1 hs
    exact (h.keys _ (at_mem hr)).2
  by_cases h1 : (x - s.next) % 65536 < W
  · -- in the window
    rw [if_neg (by rw [hdist]; split <;> omega)]
    cases ha : at_ x s.came with
    | some r =>
      obtain ⟨j, h2, _, _⟩ := fi_some ha
      rw [if_pos (.inr (by unfold atv; rw [show fi (enc s) x = some j from h2]; exact Int.natCast_nonneg j)), if_pos (by simp)]
      exact ⟨rfl, h⟩
    | none =>
      have hbf : ¬ (65536 - W ≤ (x - s.next) % 65536) := by omega
      have hav : atv (enc s) x = -1 := by unfold atv; rw [show fi (enc s) x = none from fi_none ha]
      have hbw : ¬ ((none : Option P).isSome || PIntake.within x (IntKind.u16.wrap (s.next - IntKind.u16.wrap s.window)) s.window) = true := by rw [hbeh, decide_eq_false hbf]; simp
      rw [if_neg (by rw [hdist, hav]; split <;> omega)]
      by_cases h2 : W ≤ (s.queue.length : Int)
      · rw [if_pos (by rw [hq]; exact h2), if_neg hbw, if_pos (by rw [h.win, decide_eq_true h2]; simp)]
        exact ⟨rfl, h⟩
      · rw [if_neg (by rw [hq]; exact h2), if_neg hbw, if_neg (by rw [hwin, h.win, decide_eq_false h2, decide_eq_true h1]; simp)]
        have hk : ∀ q ∈ s.came ++ [(x, (d, t))], In16 q.1 ∧ (q.1 - s.next) % 65536 < W := fun q hq => by
          rcases List.mem_append.1 hq with hq | hq
          · exact h.keys q hq
          · obtain rfl : q = (x, (d, t)) := by simpa using hq
            exact ⟨hx, h1⟩
        have hnd : ((s.came ++ [(x, (d, t))]).map (·.1)).Nodup := by
          rw [List.map_append, List.nodup_append]
          refine ⟨h.nd, by simp, fun a ha' b hb => ?_⟩
          obtain rfl : b = x := by simpa using hb
          obtain ⟨q, hq, rfl⟩ := List.mem_map.1 ha'
          exact at_none_mem ha q hq
        have hfew := came_few hW hk h.nn hnd
        have hP : PInv W { s with came := s.came ++ [(x, (d, t))] } := ⟨h.win, hW, h.nn, hk, hnd, by simp only; omega⟩
        obtain ⟨h3, h4⟩ := plays_drain (s.came.length + 2) _ hP
        refine ⟨?_, h4⟩
        rw [← h3]
        simp [enc, encQ, e70]
  · have hw0 : (at_ x s.came).isSome = false := by
      cases hh : (at_ x s.came).isSome with
      | false => rfl
      | true => exact absurd (hwait hh) h1
    by_cases h2 : 65536 - W ≤ (x - s.next) % 65536
    · rw [if_neg (by rw [hdist]; split <;> omega), if_pos (.inl (by rw [hdist]; split <;> omega)), if_pos (by rw [hbeh, decide_eq_true h2]; simp)]
      exact ⟨rfl, h⟩
    · rw [if_pos (by rw [hdist]; split <;> omega), if_neg (by rw [hbeh, decide_eq_false h2, hw0]; simp), if_pos (by rw [hwin, decide_eq_false h1]; simp)]
      exact ⟨rfl, h⟩
theorem PInv.get {W : Int} {s : St} {r : P} {q : List P} (h : PInv W s) (hq : s.queue = r :: q) : PInv W { s with queue := q } :=
  ⟨h.win, h.ww, h.nn, h.keys, h.nd, by have := h.tot; rw [hq, List.length_cons] at this; simp only; omega⟩
theorem PInv.few {W : Int} {s : St} (h : PInv W s) : s.came.length ≤ 1000 ∧ s.queue.length ≤ 1000 := by
  have := h.tot; have := h.ww; omega
end Go.Proofs.Ytjigeblechiffaa.PPlays
