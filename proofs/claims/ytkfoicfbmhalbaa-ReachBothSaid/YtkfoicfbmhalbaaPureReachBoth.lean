/- stillagelaw07.ReachBoth is true at every layout and mask: no condition. -/
import Derived.OpenShut
import Derived.Test.YtkfoicfbmhalbaaEvt
import Derived.Test.YtkfoicfbmhalbaaBfs
import Derived.Test.YtkfoicfbmhalbaaPReachBothx
set_option linter.unusedVariables false
set_option linter.unusedSimpArgs false
set_option maxRecDepth 10000
namespace Go.Proofs.Ytkfoicfbmhalbaa.Pure
open Go.RowKit Go.Proofs.Ytkfoicfbmhalbaa.PReachBoth Go.Proofs.YtkfoicfbmhalbaaW.PrintWords Go.Proofs.YtkfoicfbmhalbaaW.PrintLast Go.Proofs.PlainEvt Go.Proofs.PlainBfs
theorem wsm {n : Int} (h0 : 0 ≤ n) (h1 : n ≤ 9223372036854775807) : wrap64 n = n := by unfold wrap64; omega
theorem wnext (i : Nat) (h : i ≤ 1000000) : wrap64 ((i : Int) + 1) = ((i + 1 : Nat) : Int) := by rw [wsm] <;> omega
theorem rd_g (r : List Int) (v : Int) : rd r v = g r v := rfl
def Pass (nodes : List S43) (a : Int) : Prop := (rd_T43 nodes a).f1 = 1
/-- Open edges from a to b: their devices are not named. -/
def EdgeM (edges : List S27) (mask : List Int) (a b : Int) : Prop := ∃ i : Nat, i < edges.length ∧ ¬ ((i : Int) + 1) ∈ mask ∧ (rd_T27 edges i).f0 = a ∧ (rd_T27 edges i).f1 = b
structure Fit (nodes : List S43) (edges : List S27) : Prop where
  n0 : 1 ≤ nodes.length
  n : nodes.length ≤ 40
  m : edges.length ≤ 120
  kinds : ∀ i : Nat, i < nodes.length → 1 ≤ (rd_T43 nodes i).f1 ∧ (rd_T43 nodes i).f1 ≤ 4 ∧ 0 ≤ (rd_T43 nodes i).f2 ∧ (rd_T43 nodes i).f2 ≤ 7
  ends : ∀ i : Nat, i < edges.length → 0 ≤ (rd_T27 edges i).f0 ∧ (rd_T27 edges i).f0 < (nodes.length : Int) ∧ 0 ≤ (rd_T27 edges i).f1 ∧ (rd_T27 edges i).f1 < (nodes.length : Int)
  ne : ∀ i : Nat, i < edges.length → (rd_T27 edges i).f0 ≠ (rd_T27 edges i).f1
  track : ∀ i : Nat, i < edges.length → Pass nodes (rd_T27 edges i).f0 ∨ Pass nodes (rd_T27 edges i).f1
  once : ∀ i j : Nat, i < edges.length → j < i → ¬ ((rd_T27 edges j).f0 = (rd_T27 edges i).f0 ∧ (rd_T27 edges j).f1 = (rd_T27 edges i).f1)
theorem EdgeM.ends {nodes : List S43} {edges : List S27} (F : Fit nodes edges) {mask : List Int} {a b : Int} (h : EdgeM edges mask a b) : 0 ≤ a ∧ a < (nodes.length : Int) ∧ 0 ≤ b ∧ b < (nodes.length : Int) := by
  obtain ⟨i, hi, _, rfl, rfl⟩ := h
  exact F.ends i hi
/-- The lengths of ways from s, told. -/
structure Lens (nodes : List S43) (edges : List S27) (mask : List Int) (s : Int) (r : List Int) : Prop where
  len : r.length = nodes.length
  ok : LensOk nodes.length s (fun a b => EdgeM edges mask a b ∧ (a = s ∨ Pass nodes a)) (g r)
  hi : ∀ v : Int, 0 ≤ v → v < nodes.length → g r v ≤ nodes.length
/-- The lengths of ways to s, told. -/
structure LensTo (nodes : List S43) (edges : List S27) (mask : List Int) (s : Int) (r : List Int) : Prop where
  len : r.length = nodes.length
  ok : LensOk nodes.length s (fun a b => EdgeM edges mask b a ∧ (a = s ∨ Pass nodes a)) (g r)
  hi : ∀ v : Int, 0 ≤ v → v < nodes.length → g r v ≤ nodes.length
theorem eq_of_g {r q : List Int} (hl : r.length = q.length) (h : ∀ v : Int, 0 ≤ v → v < r.length → g r v = g q v) : r = q := by
  apply List.ext_getElem hl
  intro i h1 h2
  have := h (i : Int) (by omega) (by omega)
  unfold g at this
  simpa [List.getD_eq_getElem?_getD, h1, h2] using this
theorem Lens.eq {nodes : List S43} {edges : List S27} {mask : List Int} {s : Int} {r q : List Int} (h : Lens nodes edges mask s r) (h' : Lens nodes edges mask s q) : r = q :=
  eq_of_g (h.1.trans h'.1.symm) (fun v h0 h1 => h.2.eq h'.2 v h0 (by rw [h.1] at h1; exact h1))
theorem LensTo.eq {nodes : List S43} {edges : List S27} {mask : List Int} {s : Int} {r q : List Int} (h : LensTo nodes edges mask s r) (h' : LensTo nodes edges mask s q) : r = q :=
  eq_of_g (h.1.trans h'.1.symm) (fun v h0 h1 => h.2.eq h'.2 v h0 (by rw [h.1] at h1; exact h1))
theorem Lens.to {nodes : List S43} {edges : List S27} {mask : List Int} {s t : Int} {r q : List Int} (h : Lens nodes edges mask s r) (h' : LensTo nodes edges mask t q) (hs0 : 0 ≤ s) (hs1 : s < nodes.length) (ht0 : 0 ≤ t) (ht1 : t < nodes.length) : g r t = g q s :=
  both hs0 hs1 ht0 ht1 h.2 h'.2
theorem Lens.congr {nodes : List S43} {edges : List S27} {mask mask' : List Int} {s : Int} {r : List Int} (h : Lens nodes edges mask s r) (he : ∀ i : Nat, i < edges.length → (((i : Int) + 1) ∈ mask ↔ ((i : Int) + 1) ∈ mask')) : Lens nodes edges mask' s r := by
  refine ⟨h.1, h.2.congr (fun a b => ?_), h.3⟩
  have : EdgeM edges mask a b ↔ EdgeM edges mask' a b := by
    constructor
    · rintro ⟨i, h1, h2, h3⟩
      exact ⟨i, h1, fun c => h2 ((he i h1).2 c), h3⟩
    · rintro ⟨i, h1, h2, h3⟩
      exact ⟨i, h1, fun c => h2 ((he i h1).1 c), h3⟩
  rw [this]
theorem LensTo.congr {nodes : List S43} {edges : List S27} {mask mask' : List Int} {s : Int} {r : List Int} (h : LensTo nodes edges mask s r) (he : ∀ i : Nat, i < edges.length → (((i : Int) + 1) ∈ mask ↔ ((i : Int) + 1) ∈ mask')) : LensTo nodes edges mask' s r := by
  refine ⟨h.1, h.2.congr (fun a b => ?_), h.3⟩
  have : EdgeM edges mask b a ↔ EdgeM edges mask' b a := by
    constructor
    · rintro ⟨i, h1, h2, h3⟩
      exact ⟨i, h1, fun c => h2 ((he i h1).2 c), h3⟩
    · rintro ⟨i, h1, h2, h3⟩
      exact ⟨i, h1, fun c => h2 ((he i h1).1 c), h3⟩
  rw [this]
/-- What is shut, told of the mask. -/
def Shut (edges : List S27) (mask : List Int) (sh : List Bool) : Prop := sh.length = edges.length + 1 ∧ ∀ j : Nat, 1 ≤ j → j ≤ edges.length → (sh.getD j false = true ↔ (j : Int) ∈ mask)
theorem shut_loop (mask : List Int) (hl : mask.length ≤ 10000) (n : Nat) : ∀ (i : Nat) (sh : List Bool), i + n = mask.length → EvP (fun k => reach_shut.l0 k sh mask (mask.length : Int) (i : Int)) (fun r => r.length = sh.length ∧
    ∀ j : Nat, 1 ≤ j → j < sh.length → r.getD j false = (sh.getD j false || decide ((j : Int) ∈ mask.drop i))) := by
  induction n with
  | zero =>
    intro i sh hi
    refine EvP.succ (fun k => reach_shut.l0.eq_2 _ _ _ _ k) (EvP.no (by omega) (EvP.ret ⟨rfl, fun j _ _ => ?_⟩))
    rw [List.drop_eq_nil_of_le (by omega)]
    simp
  | succ n ih =>
    intro i sh hi
    have hil : i < mask.length := by omega
    have hd : mask.drop i = mask[i] :: mask.drop (i + 1) := List.drop_eq_getElem_cons hil
    have hrd : rd mask (i : Int) = mask[i] := by simp [rd, List.getElem?_eq_getElem hil]
    have hw := wnext i (by omega)
    refine EvP.succ (fun k => reach_shut.l0.eq_2 _ _ _ _ k) (EvP.yes (by omega) (EvP.yes (by omega) (EvP.yes (by omega) ?_)))
    have skip : ¬ (rd mask (i : Int) ≥ 1 ∧ rd mask (i : Int) < (sh.length : Int)) → EvP (fun k => reach_shut.l0 k sh mask (mask.length : Int) (wrap64 ((i : Int) + 1))) (fun r => r.length = sh.length ∧ ∀ j : Nat, 1 ≤ j → j < sh.length → r.getD j false = (sh.getD j false || decide ((j : Int) ∈ mask.drop i))) := by
      intro c
      rw [hw]
      refine (ih (i + 1) sh (by omega)).mono (fun r ⟨h1, h2⟩ => ⟨h1, fun j hj1 hj2 => ?_⟩)
      rw [h2 j hj1 hj2, hd]
      have : ¬ (j : Int) = mask[i] := by omega
      simp only [List.mem_cons, this, false_or]
    refine EvP.split (fun c1 => EvP.split (fun c2 => EvP.yes (by omega) ?_) (fun c2 => skip (fun c => c2 c.2))) (fun c1 => skip (fun c => c1 c.1))
    rw [hw]
    refine (ih (i + 1) (sh.set (rd mask (i : Int)).toNat true) (by omega)).mono (fun r ⟨h1, h2⟩ => ⟨by rw [h1, List.length_set], fun j hj1 hj2 => ?_⟩)
    rw [h2 j hj1 (by rw [List.length_set]; exact hj2), hd]
    simp only [List.mem_cons]
    by_cases cj : (rd mask (i : Int)).toNat = j
    · have : (j : Int) = mask[i] := by omega
      simp [List.getD_eq_getElem?_getD, cj, hj2, this]
    · have : ¬ (j : Int) = mask[i] := by omega
      simp [List.getD_eq_getElem?_getD, cj, this]
theorem shut_e (nodes : List S43) (edges : List S27) (mask : List Int) (hl : mask.length ≤ 10000) (hm : edges.length ≤ 1000) : EvP (fun k => reach_shut.f k nodes edges mask) (Shut edges mask) := by
  have hw : wrap64 ((edges.length : Int) + 1) = ((edges.length + 1 : Nat) : Int) := by rw [wsm] <;> omega
  refine EvP.yes (by rw [hw]; omega) (EvP.yes (by rw [hw]; omega) ?_)
  rw [hw]
  refine (shut_loop mask hl mask.length 0 _ (by omega)).mono (fun r ⟨h1, h2⟩ => ⟨by rw [h1, List.length_replicate]; omega, fun j hj1 hj2 => ?_⟩)
  rw [h2 j hj1 (by rw [List.length_replicate]; omega)]
  have : (List.replicate (((edges.length + 1 : Nat) : Int)).toNat false).getD j false = false := by
    rw [List.getD_eq_getElem?_getD, List.getElem?_replicate]
    split <;> rfl
  rw [this]
  simp
def Ed0 (nodes : List S43) (edges : List S27) (sh : List Bool) (s : Int) (a b : Int) : Prop := (∃ i : Nat, i < edges.length ∧ sh.getD (i + 1) false = false ∧ (rd_T27 edges i).f0 = a ∧ (rd_T27 edges i).f1 = b) ∧ (a = s ∨ Pass nodes a)
theorem Ed0.ends {nodes : List S43} {edges : List S27} (F : Fit nodes edges) {sh : List Bool} {s a b : Int} (h : Ed0 nodes edges sh s a b) : 0 ≤ a ∧ a < (nodes.length : Int) ∧ 0 ≤ b ∧ b < (nodes.length : Int) := by
  obtain ⟨⟨i, hi, _, rfl, rfl⟩, _⟩ := h
  have := F.ends i hi
  exact this
abbrev Res0 (nodes : List S43) (edges : List S27) (sh : List Bool) (s : Int) (res : List Int) : Prop := LensOk nodes.length s (Ed0 nodes edges sh s) (g res) ∧ res.length = nodes.length ∧ ∀ v : Int, 0 ≤ v → v < nodes.length → g res v ≤ nodes.length
theorem inner0 (nodes : List S43) (edges : List S27) (F : Fit nodes edges) (sh : List Bool) (hsh : sh.length = edges.length + 1) (s u : Int) (hK : u = s ∨ Pass nodes u) (M : Nat) (hM : M ≤ 1000)
    (next : ∀ r q : List Int, q.length + cnt r ≤ M → Inv nodes.length s (Ed0 nodes edges sh s) r q → EvP (fun k => reach_lengths_0.l0 k sh s r q nodes edges) (Res0 nodes edges sh s)) (n : Nat) :
    ∀ (i : Nat) (r rest : List Int), i + n = edges.length → rest.length + cnt r ≤ M → Inv nodes.length s (Ed0 nodes edges sh s) r (u :: rest) →
      (∀ j : Nat, j < i → sh.getD (j + 1) false = false → (rd_T27 edges j).f0 = u → 0 ≤ g r (rd_T27 edges j).f1 ∧ g r (rd_T27 edges j).f1 ≤ g r u + 1) →
      EvP (fun k => reach_lengths_0.l1 k sh s r (u :: rest) u edges (edges.length : Int) (i : Int) nodes edges) (Res0 nodes edges sh s) := by
  induction n with
  | zero =>
    intro i r rest hi hc hI hJ
    refine EvP.succ (fun k => reach_lengths_0.l1.eq_2 _ _ _ _ _ _ _ _ _ _ k) (EvP.no (by omega) (EvP.yes (by simp; omega) (next r rest hc (hI.pop (fun b hb => ?_)))))
    obtain ⟨⟨j, hj, h1, h2, h3⟩, _⟩ := hb
    have := hJ j (by omega) h1 h2
    rw [h3] at this
    exact this
  | succ n ih =>
    intro i r rest hi hc hI hJ
    have hm := F.m
    have hn := F.n
    have hw : wrap64 ((i : Int) + 1) = ((i + 1 : Nat) : Int) := by rw [wsm] <;> omega
    have hu := hI.qin u (by simp)
    have E := F.ends i (by omega)
    have hlen := hI.len
    have hgo : ∀ r' rest', rest'.length + cnt r' ≤ M → Inv nodes.length s (Ed0 nodes edges sh s) r' (u :: rest') → (∀ j : Nat, j < i + 1 → sh.getD (j + 1) false = false → (rd_T27 edges j).f0 = u → 0 ≤ g r' (rd_T27 edges j).f1 ∧ g r' (rd_T27 edges j).f1 ≤ g r' u + 1) →
      EvP (fun k => reach_lengths_0.l1 k sh s r' (u :: rest') u edges (edges.length : Int) (wrap64 ((i : Int) + 1)) nodes edges) (Res0 nodes edges sh s) := by
      intro r' rest' h1 h2 h3
      rw [hw]
      exact ih (i + 1) r' rest' (by omega) h1 h2 h3
    have hsd : rdOf false sh (wrap64 ((i : Int) + 1)) = sh.getD (i + 1) false := by rw [hw]; rfl
    refine EvP.succ (fun k => reach_lengths_0.l1.eq_2 _ _ _ _ _ _ _ _ _ _ k) (EvP.yes (by omega) (EvP.yes (by omega) (EvP.yes (by omega) (EvP.yes (by omega) (EvP.yes (by omega) (EvP.split (fun c1 => ?_) (fun c1' => EvP.split (fun c2 => EvP.yes (by omega) (EvP.yes (by omega) (EvP.split (fun c3 => EvP.yes (by omega) (EvP.yes (by omega) (EvP.yes (by simp; omega) ?_))) (fun c3 => ?_)))) (fun c2 => ?_))))))))
    · rw [hsd] at c1
      refine hgo r rest hc hI (fun j hj h1 h2 => ?_)
      by_cases hji : j = i
      · subst hji; rw [c1] at h1; cases h1
      · exact hJ j (by omega) h1 h2
    · have c1 : ¬ sh.getD (i + 1) false = true := by rw [hsd] at c1'; exact c1'
      have hEd : Ed0 nodes edges sh s u (rd_T27 edges (i : Int)).f1 := ⟨⟨i, by omega, by simpa using c1, c2, rfl⟩, hK⟩
      have hub := hI.hi u hu.1 hu.2.1
      have hA := hI.assign (b := (rd_T27 edges (i : Int)).f1) E.2.2.1 E.2.2.2 c3 hEd (fun a b h => Ed0.ends F h)
      have hwr : wrap64 (rd r u + 1) = g r u + 1 := by rw [rd_g, wsm] <;> omega
      have hcs := cnt_set (r := r) (x := g r u + 1) E.2.2.1 (by omega) c3 (by omega)
      have G : ∀ v : Int, 0 ≤ v → g (r.set ((rd_T27 edges (i : Int)).f1).toNat (g r u + 1)) v = if v = (rd_T27 edges (i : Int)).f1 then g r u + 1 else g r v := fun v hv => g_set E.2.2.1 (by omega) hv
      have hub' : ¬ u = (rd_T27 edges (i : Int)).f1 := by intro e; rw [rd_g, ← e] at c3; omega
      rw [hwr]
      refine hgo _ (rest ++ [(rd_T27 edges (i : Int)).f1]) (by rw [List.length_append]; simp; omega) hA (fun j hj h1 h2 => ?_)
      have Ej := F.ends j (by omega)
      rw [G _ Ej.2.2.1, G u hu.1, if_neg hub']
      by_cases hji : j = i
      · subst hji; rw [if_pos rfl]; omega
      · have := hJ j (by omega) h1 h2
        split
        · omega
        · exact this
    · refine hgo r rest hc hI (fun j hj h1 h2 => ?_)
      by_cases hji : j = i
      · subst hji
        have := hI.top u rest rfl _ E.2.2.1 E.2.2.2
        rw [rd_g] at c3
        omega
      · exact hJ j (by omega) h1 h2
    · refine hgo r rest hc hI (fun j hj h1 h2 => ?_)
      by_cases hji : j = i
      · subst hji; exact absurd h2 c2
      · exact hJ j (by omega) h1 h2
theorem outer0 (nodes : List S43) (edges : List S27) (F : Fit nodes edges) (sh : List Bool) (hsh : sh.length = edges.length + 1) (s : Int) (M : Nat) :
    M ≤ 1000 → ∀ r q : List Int, q.length + cnt r ≤ M → Inv nodes.length s (Ed0 nodes edges sh s) r q → EvP (fun k => reach_lengths_0.l0 k sh s r q nodes edges) (Res0 nodes edges sh s) := by
  induction M with
  | zero =>
    intro _ r q hc hI
    obtain rfl : q = [] := List.length_eq_zero_iff.1 (by omega)
    exact EvP.succ (fun k => reach_lengths_0.l0.eq_2 _ _ _ _ _ _ k) (EvP.no (by simp) (EvP.ret ⟨hI.good (fun a b h => Ed0.ends F h), hI.len, fun v h0 h1 => by have := hI.hi v h0 h1; omega⟩))
  | succ M ih =>
    intro hM r q hc hI
    cases q with
    | nil => exact EvP.succ (fun k => reach_lengths_0.l0.eq_2 _ _ _ _ _ _ k) (EvP.no (by simp) (EvP.ret ⟨hI.good (fun a b h => Ed0.ends F h), hI.len, fun v h0 h1 => by have := hI.hi v h0 h1; omega⟩))
    | cons u rest =>
      have hu := hI.qin u (by simp)
      have h0 : rd (u :: rest) 0 = u := rfl
      have hlen : rest.length + cnt r ≤ M := by simp at hc; omega
      have next := ih (by omega)
      refine EvP.succ (fun k => reach_lengths_0.l0.eq_2 _ _ _ _ _ _ k) (EvP.yes (by simp) (EvP.yes (by simp) ?_))
      rw [h0]
      by_cases hK : u = s ∨ Pass nodes u
      · have ej : EvP (fun k => reach_lengths_0.j1 k sh s r (u :: rest) u false nodes edges) (Res0 nodes edges sh s) := EvP.succ (fun k => reach_lengths_0.j1.eq_2 _ _ _ _ _ _ _ _ k) (EvP.no (by simp) (inner0 nodes edges F sh hsh s u hK M (by omega) next edges.length 0 r rest (by omega) hlen hI (fun j hj => by omega)))
        refine EvP.split (fun _ => ej) (fun c => EvP.yes hu.1 (EvP.yes hu.2.1 ?_))
        have : ((rd_T43 nodes u).f1 != 1) = false := by simpa [Pass] using hK.resolve_left c
        rw [this]
        exact ej
      · have e := next r rest hlen (hI.pop (fun b hb => absurd hb.2 hK))
        refine EvP.no (fun c => hK (.inl c)) (EvP.yes hu.1 (EvP.yes hu.2.1 ?_))
        have : ((rd_T43 nodes u).f1 != 1) = true := by
          simp only [bne_iff_ne, ne_eq]
          exact fun c => hK (.inr c)
        rw [this]
        exact EvP.succ (fun k => reach_lengths_0.j1.eq_2 _ _ _ _ _ _ _ _ k) (EvP.yes rfl (EvP.yes (by simp; omega) e))
theorem lens0_sh (nodes : List S43) (edges : List S27) (F : Fit nodes edges) (sh : List Bool) (hsh : sh.length = edges.length + 1) (s : Int) (h0 : 0 ≤ s) (h1 : s < (nodes.length : Int)) :
    EvP (fun k => reach_lengths_0.f k nodes edges sh s 0) (Res0 nodes edges sh s) := by
  have hn := F.n
  have hn0 := F.n0
  refine EvP.obind (a := List.replicate nodes.length (-1)) ?_ (EvP.yes h0 (EvP.yes (by simp; omega) ?_))
  · unfold slices_Repeat_int_int.f
    rw [if_pos ⟨rfl, by omega, by omega⟩]
    simp [rd]
  · refine outer0 nodes edges F sh hsh s 1000 (by omega) _ [s] ?_ (Inv.init h0 h1)
    have : cnt ((List.replicate nodes.length (-1 : Int)).set s.toNat 0) ≤ nodes.length := by
      have := List.countP_le_length (p := fun x : Int => decide (x < 0)) (l := (List.replicate nodes.length (-1 : Int)).set s.toNat 0)
      simpa [cnt] using this
    simp; omega
theorem lens0_e (nodes : List S43) (edges : List S27) (F : Fit nodes edges) (mask : List Int) (sh : List Bool) (hs : Shut edges mask sh) (s : Int) (h0 : 0 ≤ s) (h1 : s < (nodes.length : Int)) :
    EvP (fun k => reach_lengths_0.f k nodes edges sh s 0) (Lens nodes edges mask s) := by
  refine (lens0_sh nodes edges F sh hs.1 s h0 h1).mono (fun r ⟨h, hl, hh⟩ => ⟨hl, h.congr (fun a b => ?_), hh⟩)
  have : (∃ i : Nat, i < edges.length ∧ sh.getD (i + 1) false = false ∧ (rd_T27 edges i).f0 = a ∧ (rd_T27 edges i).f1 = b) ↔ EdgeM edges mask a b := by
    constructor
    · rintro ⟨i, h1, h2, h3, h4⟩
      refine ⟨i, h1, fun c => ?_, h3, h4⟩
      have := (hs.2 (i + 1) (by omega) (by omega)).2 (by simpa using c)
      rw [h2] at this
      cases this
    · rintro ⟨i, h1, h2, h3, h4⟩
      refine ⟨i, h1, ?_, h3, h4⟩
      rw [Bool.eq_false_iff]
      intro c
      exact h2 (by simpa using (hs.2 (i + 1) (by omega) (by omega)).1 c)
  show _ ∧ _ ↔ _
  rw [this]
def Ed1 (nodes : List S43) (edges : List S27) (sh : List Bool) (s : Int) (a b : Int) : Prop := (∃ i : Nat, i < edges.length ∧ sh.getD (i + 1) false = false ∧ (rd_T27 edges i).f1 = a ∧ (rd_T27 edges i).f0 = b) ∧ (a = s ∨ Pass nodes a)
theorem Ed1.ends {nodes : List S43} {edges : List S27} (F : Fit nodes edges) {sh : List Bool} {s a b : Int} (h : Ed1 nodes edges sh s a b) : 0 ≤ a ∧ a < (nodes.length : Int) ∧ 0 ≤ b ∧ b < (nodes.length : Int) := by
  obtain ⟨⟨i, hi, _, rfl, rfl⟩, _⟩ := h
  have := F.ends i hi
  exact ⟨this.2.2.1, this.2.2.2, this.1, this.2.1⟩
abbrev Res1 (nodes : List S43) (edges : List S27) (sh : List Bool) (s : Int) (res : List Int) : Prop := LensOk nodes.length s (Ed1 nodes edges sh s) (g res) ∧ res.length = nodes.length ∧ ∀ v : Int, 0 ≤ v → v < nodes.length → g res v ≤ nodes.length
theorem inner1 (nodes : List S43) (edges : List S27) (F : Fit nodes edges) (sh : List Bool) (hsh : sh.length = edges.length + 1) (s u : Int) (hK : u = s ∨ Pass nodes u) (M : Nat) (hM : M ≤ 1000)
    (next : ∀ r q : List Int, q.length + cnt r ≤ M → Inv nodes.length s (Ed1 nodes edges sh s) r q → EvP (fun k => reach_lengths_1.l0 k sh s r q nodes edges) (Res1 nodes edges sh s)) (n : Nat) :
    ∀ (i : Nat) (r rest : List Int), i + n = edges.length → rest.length + cnt r ≤ M → Inv nodes.length s (Ed1 nodes edges sh s) r (u :: rest) →
      (∀ j : Nat, j < i → sh.getD (j + 1) false = false → (rd_T27 edges j).f1 = u → 0 ≤ g r (rd_T27 edges j).f0 ∧ g r (rd_T27 edges j).f0 ≤ g r u + 1) →
      EvP (fun k => reach_lengths_1.l1 k sh s r (u :: rest) u edges (edges.length : Int) (i : Int) nodes edges) (Res1 nodes edges sh s) := by
  induction n with
  | zero =>
    intro i r rest hi hc hI hJ
    refine EvP.succ (fun k => reach_lengths_1.l1.eq_2 _ _ _ _ _ _ _ _ _ _ k) (EvP.no (by omega) (EvP.yes (by simp; omega) (next r rest hc (hI.pop (fun b hb => ?_)))))
    obtain ⟨⟨j, hj, h1, h2, h3⟩, _⟩ := hb
    have := hJ j (by omega) h1 h2
    rw [h3] at this
    exact this
  | succ n ih =>
    intro i r rest hi hc hI hJ
    have hm := F.m
    have hn := F.n
    have hw : wrap64 ((i : Int) + 1) = ((i + 1 : Nat) : Int) := by rw [wsm] <;> omega
    have hu := hI.qin u (by simp)
    have E := F.ends i (by omega)
    have hlen := hI.len
    have hgo : ∀ r' rest', rest'.length + cnt r' ≤ M → Inv nodes.length s (Ed1 nodes edges sh s) r' (u :: rest') → (∀ j : Nat, j < i + 1 → sh.getD (j + 1) false = false → (rd_T27 edges j).f1 = u → 0 ≤ g r' (rd_T27 edges j).f0 ∧ g r' (rd_T27 edges j).f0 ≤ g r' u + 1) →
      EvP (fun k => reach_lengths_1.l1 k sh s r' (u :: rest') u edges (edges.length : Int) (wrap64 ((i : Int) + 1)) nodes edges) (Res1 nodes edges sh s) := by
      intro r' rest' h1 h2 h3
      rw [hw]
      exact ih (i + 1) r' rest' (by omega) h1 h2 h3
    have hsd : rdOf false sh (wrap64 ((i : Int) + 1)) = sh.getD (i + 1) false := by rw [hw]; rfl
    refine EvP.succ (fun k => reach_lengths_1.l1.eq_2 _ _ _ _ _ _ _ _ _ _ k) (EvP.yes (by omega) (EvP.yes (by omega) (EvP.yes (by omega) (EvP.yes (by omega) (EvP.yes (by omega) (EvP.split (fun c1 => ?_) (fun c1' => EvP.split (fun c2 => EvP.yes (by omega) (EvP.yes (by omega) (EvP.split (fun c3 => EvP.yes (by omega) (EvP.yes (by omega) (EvP.yes (by simp; omega) ?_))) (fun c3 => ?_)))) (fun c2 => ?_))))))))
    · rw [hsd] at c1
      refine hgo r rest hc hI (fun j hj h1 h2 => ?_)
      by_cases hji : j = i
      · subst hji; rw [c1] at h1; cases h1
      · exact hJ j (by omega) h1 h2
    · have c1 : ¬ sh.getD (i + 1) false = true := by rw [hsd] at c1'; exact c1'
      have hEd : Ed1 nodes edges sh s u (rd_T27 edges (i : Int)).f0 := ⟨⟨i, by omega, by simpa using c1, c2, rfl⟩, hK⟩
      have hub := hI.hi u hu.1 hu.2.1
      have hA := hI.assign (b := (rd_T27 edges (i : Int)).f0) E.1 E.2.1 c3 hEd (fun a b h => Ed1.ends F h)
      have hwr : wrap64 (rd r u + 1) = g r u + 1 := by rw [rd_g, wsm] <;> omega
      have hcs := cnt_set (r := r) (x := g r u + 1) E.1 (by omega) c3 (by omega)
      have G : ∀ v : Int, 0 ≤ v → g (r.set ((rd_T27 edges (i : Int)).f0).toNat (g r u + 1)) v = if v = (rd_T27 edges (i : Int)).f0 then g r u + 1 else g r v := fun v hv => g_set E.1 (by omega) hv
      have hub' : ¬ u = (rd_T27 edges (i : Int)).f0 := by intro e; rw [rd_g, ← e] at c3; omega
      rw [hwr]
      refine hgo _ (rest ++ [(rd_T27 edges (i : Int)).f0]) (by rw [List.length_append]; simp; omega) hA (fun j hj h1 h2 => ?_)
      have Ej := F.ends j (by omega)
      rw [G _ Ej.1, G u hu.1, if_neg hub']
      by_cases hji : j = i
      · subst hji; rw [if_pos rfl]; omega
      · have := hJ j (by omega) h1 h2
        split
        · omega
        · exact this
    · refine hgo r rest hc hI (fun j hj h1 h2 => ?_)
      by_cases hji : j = i
      · subst hji
        have := hI.top u rest rfl _ E.1 E.2.1
        rw [rd_g] at c3
        omega
      · exact hJ j (by omega) h1 h2
    · refine hgo r rest hc hI (fun j hj h1 h2 => ?_)
      by_cases hji : j = i
      · subst hji; exact absurd h2 c2
      · exact hJ j (by omega) h1 h2
theorem outer1 (nodes : List S43) (edges : List S27) (F : Fit nodes edges) (sh : List Bool) (hsh : sh.length = edges.length + 1) (s : Int) (M : Nat) :
    M ≤ 1000 → ∀ r q : List Int, q.length + cnt r ≤ M → Inv nodes.length s (Ed1 nodes edges sh s) r q → EvP (fun k => reach_lengths_1.l0 k sh s r q nodes edges) (Res1 nodes edges sh s) := by
  induction M with
  | zero =>
    intro _ r q hc hI
    obtain rfl : q = [] := List.length_eq_zero_iff.1 (by omega)
    exact EvP.succ (fun k => reach_lengths_1.l0.eq_2 _ _ _ _ _ _ k) (EvP.no (by simp) (EvP.ret ⟨hI.good (fun a b h => Ed1.ends F h), hI.len, fun v h0 h1 => by have := hI.hi v h0 h1; omega⟩))
  | succ M ih =>
    intro hM r q hc hI
    cases q with
    | nil => exact EvP.succ (fun k => reach_lengths_1.l0.eq_2 _ _ _ _ _ _ k) (EvP.no (by simp) (EvP.ret ⟨hI.good (fun a b h => Ed1.ends F h), hI.len, fun v h0 h1 => by have := hI.hi v h0 h1; omega⟩))
    | cons u rest =>
      have hu := hI.qin u (by simp)
      have h0 : rd (u :: rest) 0 = u := rfl
      have hlen : rest.length + cnt r ≤ M := by simp at hc; omega
      have next := ih (by omega)
      refine EvP.succ (fun k => reach_lengths_1.l0.eq_2 _ _ _ _ _ _ k) (EvP.yes (by simp) (EvP.yes (by simp) ?_))
      rw [h0]
      by_cases hK : u = s ∨ Pass nodes u
      · have ej : EvP (fun k => reach_lengths_1.j1 k sh s r (u :: rest) u false nodes edges) (Res1 nodes edges sh s) := EvP.succ (fun k => reach_lengths_1.j1.eq_2 _ _ _ _ _ _ _ _ k) (EvP.no (by simp) (inner1 nodes edges F sh hsh s u hK M (by omega) next edges.length 0 r rest (by omega) hlen hI (fun j hj => by omega)))
        refine EvP.split (fun _ => ej) (fun c => EvP.yes hu.1 (EvP.yes hu.2.1 ?_))
        have : ((rd_T43 nodes u).f1 != 1) = false := by simpa [Pass] using hK.resolve_left c
        rw [this]
        exact ej
      · have e := next r rest hlen (hI.pop (fun b hb => absurd hb.2 hK))
        refine EvP.no (fun c => hK (.inl c)) (EvP.yes hu.1 (EvP.yes hu.2.1 ?_))
        have : ((rd_T43 nodes u).f1 != 1) = true := by
          simp only [bne_iff_ne, ne_eq]
          exact fun c => hK (.inr c)
        rw [this]
        exact EvP.succ (fun k => reach_lengths_1.j1.eq_2 _ _ _ _ _ _ _ _ k) (EvP.yes rfl (EvP.yes (by simp; omega) e))
theorem lens1_sh (nodes : List S43) (edges : List S27) (F : Fit nodes edges) (sh : List Bool) (hsh : sh.length = edges.length + 1) (s : Int) (h0 : 0 ≤ s) (h1 : s < (nodes.length : Int)) :
    EvP (fun k => reach_lengths_1.f k nodes edges sh s 1) (Res1 nodes edges sh s) := by
  have hn := F.n
  have hn0 := F.n0
  refine EvP.obind (a := List.replicate nodes.length (-1)) ?_ (EvP.yes h0 (EvP.yes (by simp; omega) ?_))
  · unfold slices_Repeat_int_int.f
    rw [if_pos ⟨rfl, by omega, by omega⟩]
    simp [rd]
  · refine outer1 nodes edges F sh hsh s 1000 (by omega) _ [s] ?_ (Inv.init h0 h1)
    have : cnt ((List.replicate nodes.length (-1 : Int)).set s.toNat 0) ≤ nodes.length := by
      have := List.countP_le_length (p := fun x : Int => decide (x < 0)) (l := (List.replicate nodes.length (-1 : Int)).set s.toNat 0)
      simpa [cnt] using this
    simp; omega
theorem lens1_e (nodes : List S43) (edges : List S27) (F : Fit nodes edges) (mask : List Int) (sh : List Bool) (hs : Shut edges mask sh) (s : Int) (h0 : 0 ≤ s) (h1 : s < (nodes.length : Int)) :
    EvP (fun k => reach_lengths_1.f k nodes edges sh s 1) (LensTo nodes edges mask s) := by
  refine (lens1_sh nodes edges F sh hs.1 s h0 h1).mono (fun r ⟨h, hl, hh⟩ => ⟨hl, h.congr (fun a b => ?_), hh⟩)
  have : (∃ i : Nat, i < edges.length ∧ sh.getD (i + 1) false = false ∧ (rd_T27 edges i).f1 = a ∧ (rd_T27 edges i).f0 = b) ↔ EdgeM edges mask b a := by
    constructor
    · rintro ⟨i, h1, h2, h3, h4⟩
      refine ⟨i, h1, fun c => ?_, h4, h3⟩
      have := (hs.2 (i + 1) (by omega) (by omega)).2 (by simpa using c)
      rw [h2] at this
      cases this
    · rintro ⟨i, h1, h2, h4, h3⟩
      refine ⟨i, h1, ?_, h3, h4⟩
      rw [Bool.eq_false_iff]
      intro c
      exact h2 (by simpa using (hs.2 (i + 1) (by omega) (by omega)).1 c)
  show _ ∧ _ ↔ _
  rw [this]
theorem From_e (nodes : List S43) (edges : List S27) (F : Fit nodes edges) (mask : List Int) (hl : mask.length ≤ 10000) (s : Int) (h0 : 0 ≤ s) (h1 : s < (nodes.length : Int)) :
    EvP (fun k => reach_From.f k nodes edges mask s) (fun r => Lens nodes edges mask s r.1 ∧ r.2 = 0) := by
  have hm := F.m
  refine EvP.no (by omega) ?_
  rw [decide_eq_false (by omega)]
  refine EvP.succ (fun k => reach_From.j0.eq_2 _ _ _ _ _ k) (EvP.no (by simp) (EvP.bind (shut_e nodes edges mask hl (by omega)) (fun sh hs => EvP.bind (lens0_e nodes edges F mask sh hs s h0 h1) (fun r hr => EvP.ret ⟨hr, rfl⟩))))
theorem From_out (nodes : List S43) (edges : List S27) (mask : List Int) (s : Int) (h : s < 0 ∨ (nodes.length : Int) ≤ s) : EvP (fun k => reach_From.f k nodes edges mask s) (fun r => r.1 = [] ∧ r.2 = 1) := by
  have e : EvP (fun k => reach_From.j0 k mask s true nodes edges) (fun r => r.1 = [] ∧ r.2 = 1) := EvP.succ (fun k => reach_From.j0.eq_2 _ _ _ _ _ k) (EvP.yes rfl (EvP.ret ⟨rfl, rfl⟩))
  refine EvP.split (fun _ => e) (fun c => ?_)
  rw [decide_eq_true (by omega)]
  exact e
theorem To_e (nodes : List S43) (edges : List S27) (F : Fit nodes edges) (mask : List Int) (hl : mask.length ≤ 10000) (s : Int) (h0 : 0 ≤ s) (h1 : s < (nodes.length : Int)) :
    EvP (fun k => reach_To.f k nodes edges mask s) (fun r => LensTo nodes edges mask s r.1 ∧ r.2 = 0) := by
  have hm := F.m
  refine EvP.no (by omega) ?_
  rw [decide_eq_false (by omega)]
  refine EvP.succ (fun k => reach_To.j0.eq_2 _ _ _ _ _ k) (EvP.no (by simp) (EvP.bind (shut_e nodes edges mask hl (by omega)) (fun sh hs => EvP.bind (lens1_e nodes edges F mask sh hs s h0 h1) (fun r hr => EvP.ret ⟨hr, rfl⟩))))
theorem To_out (nodes : List S43) (edges : List S27) (mask : List Int) (s : Int) (h : s < 0 ∨ (nodes.length : Int) ≤ s) : EvP (fun k => reach_To.f k nodes edges mask s) (fun r => r.1 = [] ∧ r.2 = 1) := by
  have e : EvP (fun k => reach_To.j0 k mask s true nodes edges) (fun r => r.1 = [] ∧ r.2 = 1) := EvP.succ (fun k => reach_To.j0.eq_2 _ _ _ _ _ k) (EvP.yes rfl (EvP.ret ⟨rfl, rfl⟩))
  refine EvP.split (fun _ => e) (fun c => ?_)
  rw [decide_eq_true (by omega)]
  exact e
theorem Name_e (s : ByteArray) : EvP (fun k => stillageref06_Name.f k s) (fun _ => True) := by
  have l0 : ∀ (n i : Nat), i + n = s.size → s.size ≤ 8 → EvP (fun k => stillageref06_Name.l0 k s (i : Int)) (fun _ => True) := by
    intro n
    induction n with
    | zero =>
      intro i hi h8
      exact EvP.succ (fun k => stillageref06_Name.l0.eq_2 _ _ k) (EvP.no (by omega) (EvP.ret trivial))
    | succ n ih =>
      intro i hi h8
      have hg : EvP (fun k => stillageref06_Name.l0 k s (wrap64 ((i : Int) + 1))) (fun _ => True) := by
        rw [wnext i (by omega)]
        exact ih (i + 1) (by omega) h8
      have hf : EvP (fun _ => some false) (fun _ => True) := EvP.ret trivial
      refine EvP.succ (fun k => stillageref06_Name.l0.eq_2 _ _ k) (EvP.yes (by omega) (EvP.yes (by omega) (EvP.split (fun _ => EvP.split (fun _ => EvP.split (fun _ => hg) (fun _ => EvP.split (fun _ => hf) (fun _ => EvP.split (fun _ => hg) (fun _ => hf)))) (fun _ => EvP.split (fun _ => hg) (fun _ => EvP.split (fun _ => hf) (fun _ => hf)))) (fun _ => EvP.split (fun _ => EvP.split (fun _ => hf) (fun _ => EvP.split (fun _ => hg) (fun _ => hf))) (fun _ => EvP.split (fun _ => hf) (fun _ => hf))))))
  refine EvP.split (fun _ => EvP.succ (fun k => stillageref06_Name.j0.eq_2 _ _ k) (EvP.yes rfl (EvP.ret trivial))) (fun _ => ?_)
  by_cases c : (s.size : Int) > 8
  · rw [decide_eq_true c]
    exact EvP.succ (fun k => stillageref06_Name.j0.eq_2 _ _ k) (EvP.yes rfl (EvP.ret trivial))
  · rw [decide_eq_false c]
    exact EvP.succ (fun k => stillageref06_Name.j0.eq_2 _ _ k) (EvP.no (by simp) (l0 s.size 0 (by omega) (by omega)))
theorem Find_e (nodes : List S43) (edges : List S27) (s : ByteArray) (hn : nodes.length ≤ 1000) : EvP (fun k => stillageref06_Find.f k nodes edges s) (fun _ => True) := by
  have l0 : ∀ (n i : Nat), i + n = nodes.length → EvP (fun k => stillageref06_Find.l0 k s (nodes.length : Int) (i : Int) nodes edges) (fun _ => True) := by
    intro n
    induction n with
    | zero =>
      intro i hi
      exact EvP.succ (fun k => stillageref06_Find.l0.eq_2 _ _ _ _ _ k) (EvP.no (by omega) (EvP.ret trivial))
    | succ n ih =>
      intro i hi
      refine EvP.succ (fun k => stillageref06_Find.l0.eq_2 _ _ _ _ _ k) (EvP.yes (by omega) (EvP.yes (by omega) (EvP.yes (by omega) (EvP.split (fun _ => EvP.ret trivial) (fun _ => ?_)))))
      rw [wnext i (by omega)]
      exact ih (i + 1) (by omega)
  exact l0 nodes.length 0 (by omega)
abbrev EdgeOk (nodes : List S43) (edges : List S27) (i : Nat) : Prop :=
  (0 ≤ (rd_T27 edges i).f0 ∧ (rd_T27 edges i).f0 < (nodes.length : Int) ∧ 0 ≤ (rd_T27 edges i).f1 ∧ (rd_T27 edges i).f1 < (nodes.length : Int)) ∧ (rd_T27 edges i).f0 ≠ (rd_T27 edges i).f1 ∧ (Pass nodes (rd_T27 edges i).f0 ∨ Pass nodes (rd_T27 edges i).f1) ∧
    ∀ j : Nat, j < i → ¬ ((rd_T27 edges j).f0 = (rd_T27 edges i).f0 ∧ (rd_T27 edges j).f1 = (rd_T27 edges i).f1)
theorem Good_l2 (nodes : List S43) (edges : List S27) (hm : edges.length ≤ 120) (i : Nat) (hi : i < edges.length) (P : Bool → Prop) (hf : P false)
    (next : (∀ j : Nat, j < i → ¬ ((rd_T27 edges j).f0 = (rd_T27 edges i).f0 ∧ (rd_T27 edges j).f1 = (rd_T27 edges i).f1)) → EvP (fun k => stillageref06_Good.l1 k (edges.length : Int) (wrap64 ((i : Int) + 1)) nodes edges) P) (n : Nat) :
    ∀ j : Nat, j + n = i → (∀ j' : Nat, j' < j → ¬ ((rd_T27 edges j').f0 = (rd_T27 edges i).f0 ∧ (rd_T27 edges j').f1 = (rd_T27 edges i).f1)) → EvP (fun k => stillageref06_Good.l2 k (i : Int) (j : Int) (edges.length : Int) (i : Int) nodes edges) P := by
  induction n with
  | zero =>
    intro j hj hp
    obtain rfl : j = i := by omega
    exact EvP.succ (fun k => stillageref06_Good.l2.eq_2 _ _ _ _ _ _ k) (EvP.no (by omega) (next hp))
  | succ n ih =>
    intro j hj hp
    refine EvP.succ (fun k => stillageref06_Good.l2.eq_2 _ _ _ _ _ _ k) (EvP.yes (by omega) (EvP.yes (by omega) (EvP.yes (by omega) (EvP.yes (by omega) (EvP.yes (by omega) (EvP.split (fun _ => EvP.ret hf) (fun c => ?_)))))))
    rw [wnext j (by omega)]
    refine ih (j + 1) (by omega) (fun j' hj' => ?_)
    by_cases e : j' = j
    · subst e
      intro h
      apply c
      simp [h.1, h.2]
    · exact hp j' (by omega)
theorem Good_l1 (nodes : List S43) (edges : List S27) (hm : edges.length ≤ 120) (n : Nat) : ∀ i : Nat, i + n = edges.length → EvP (fun k => stillageref06_Good.l1 k (edges.length : Int) (i : Int) nodes edges) (fun b => b = true → ∀ j : Nat, i ≤ j → j < edges.length → EdgeOk nodes edges j) := by
  induction n with
  | zero =>
    intro i hi
    exact EvP.succ (fun k => stillageref06_Good.l1.eq_2 _ _ _ _ k) (EvP.no (by omega) (EvP.ret (fun _ j h1 h2 => by omega)))
  | succ n ih =>
    intro i hi
    have hff : (false = true) → ∀ j : Nat, i ≤ j → j < edges.length → EdgeOk nodes edges j := fun h => by cases h
    have bad : ∀ (x6 x7 : Int), EvP (fun k => stillageref06_Good.j3 k (i : Int) x6 x7 (edges.length : Int) (i : Int) true nodes edges) (fun b => b = true → ∀ j : Nat, i ≤ j → j < edges.length → EdgeOk nodes edges j) := fun x6 x7 =>
      EvP.succ (fun k => stillageref06_Good.j3.eq_2 _ _ _ _ _ _ _ _ k) (EvP.yes rfl (EvP.ret hff))
    refine EvP.succ (fun k => stillageref06_Good.l1.eq_2 _ _ _ _ k) (EvP.yes (by omega) (EvP.yes (by omega) (EvP.yes (by omega) (EvP.split (fun _ => bad _ _) (fun c1 => EvP.split (fun _ => bad _ _) (fun c2 => EvP.split (fun _ => bad _ _) (fun c3 => EvP.split (fun _ => bad _ _) (fun c4 => ?_))))))))
    by_cases c5 : (rd_T27 edges (i : Int)).f0 = (rd_T27 edges (i : Int)).f1
    · rw [show ((rd_T27 edges (i : Int)).f0 == (rd_T27 edges (i : Int)).f1) = true from by simpa using c5]
      exact bad _ _
    · rw [show ((rd_T27 edges (i : Int)).f0 == (rd_T27 edges (i : Int)).f1) = false from by simpa using c5]
      have go : (Pass nodes (rd_T27 edges (i : Int)).f0 ∨ Pass nodes (rd_T27 edges (i : Int)).f1) → EvP (fun k => stillageref06_Good.j4 k (i : Int) (edges.length : Int) (i : Int) false nodes edges) (fun b => b = true → ∀ j : Nat, i ≤ j → j < edges.length → EdgeOk nodes edges j) := by
        intro hp
        refine EvP.succ (fun k => stillageref06_Good.j4.eq_2 _ _ _ _ _ _ k) (EvP.no (by simp) (Good_l2 nodes edges hm i (by omega) _ hff (fun hd => ?_) i 0 (by omega) (fun j' hj' => by omega)))
        rw [wnext i (by omega)]
        refine (ih (i + 1) (by omega)).mono (fun b h hb j h1 h2 => ?_)
        by_cases e : j = i
        · subst e
          exact ⟨⟨by omega, by omega, by omega, by omega⟩, c5, hp, hd⟩
        · exact h hb j (by omega) h2
      refine EvP.succ (fun k => stillageref06_Good.j3.eq_2 _ _ _ _ _ _ _ _ k) (EvP.no (by simp) (EvP.yes (by omega) (EvP.yes (by omega) (EvP.split (fun c6 => go (.inl c6)) (fun c6 => EvP.yes (by omega) (EvP.yes (by omega) ?_))))))
      by_cases c7 : (rd_T43 nodes (rd_T27 edges (i : Int)).f1).f1 = 1
      · rw [show ((rd_T43 nodes (rd_T27 edges (i : Int)).f1).f1 != 1) = false from by simpa using c7]
        exact go (.inr c7)
      · rw [show ((rd_T43 nodes (rd_T27 edges (i : Int)).f1).f1 != 1) = true from by simpa using c7]
        exact EvP.succ (fun k => stillageref06_Good.j4.eq_2 _ _ _ _ _ _ k) (EvP.yes rfl (EvP.ret hff))
abbrev NodeOk (nodes : List S43) (i : Nat) : Prop := 1 ≤ (rd_T43 nodes i).f1 ∧ (rd_T43 nodes i).f1 ≤ 4 ∧ 0 ≤ (rd_T43 nodes i).f2 ∧ (rd_T43 nodes i).f2 ≤ 7
theorem Good_l0 (nodes : List S43) (edges : List S27) (hn : nodes.length ≤ 40) (hm : edges.length ≤ 120) (n : Nat) : ∀ i : Nat, i + n = nodes.length → EvP (fun k => stillageref06_Good.l0 k (nodes.length : Int) (i : Int) nodes edges) (fun b => b = true → (∀ j : Nat, i ≤ j → j < nodes.length → NodeOk nodes j) ∧ ∀ j : Nat, j < edges.length → EdgeOk nodes edges j) := by
  induction n with
  | zero =>
    intro i hi
    refine EvP.succ (fun k => stillageref06_Good.l0.eq_2 _ _ _ _ k) (EvP.no (by omega) ((Good_l1 nodes edges hm edges.length 0 (by omega)).mono (fun b h hb => ⟨fun j h1 h2 => by omega, fun j hj => h hb j (by omega) hj⟩)))
  | succ n ih =>
    intro i hi
    have hff : (false = true) → (∀ j : Nat, i ≤ j → j < nodes.length → NodeOk nodes j) ∧ ∀ j : Nat, j < edges.length → EdgeOk nodes edges j := fun h => by cases h
    refine EvP.succ (fun k => stillageref06_Good.l0.eq_2 _ _ _ _ k) (EvP.yes (by omega) (EvP.yes (by omega) (EvP.yes (by omega) (EvP.bind (Name_e _) (fun t _ => EvP.split (fun _ => EvP.split (fun _ => EvP.ret hff) (fun c1 => EvP.split (fun _ => EvP.ret hff) (fun c2 => EvP.split (fun _ => EvP.ret hff) (fun c3 => EvP.split (fun _ => EvP.ret hff) (fun c4 => EvP.bind (Find_e nodes edges _ (by omega)) (fun t _ => EvP.split (fun _ => ?_) (fun _ => EvP.ret hff))))))) (fun _ => EvP.ret hff))))))
    rw [wnext i (by omega)]
    refine (ih (i + 1) (by omega)).mono (fun b h hb => ⟨fun j h1 h2 => ?_, (h hb).2⟩)
    by_cases e : j = i
    · subst e
      exact ⟨by omega, by omega, by omega, by omega⟩
    · exact (h hb).1 j (by omega) h2
theorem Good_e (nodes : List S43) (edges : List S27) : EvP (fun k => stillageref06_Good.f k nodes edges) (fun b => b = true → Fit nodes edges) := by
  have bad : EvP (fun k => stillageref06_Good.j0 k true nodes edges) (fun b => b = true → Fit nodes edges) := EvP.succ (fun k => stillageref06_Good.j0.eq_2 _ _ _ k) (EvP.yes rfl (EvP.ret (fun h => by cases h)))
  refine EvP.split (fun _ => bad) (fun c1 => EvP.split (fun _ => bad) (fun c2 => ?_))
  by_cases c3 : (edges.length : Int) > 120
  · rw [decide_eq_true c3]
    exact bad
  · rw [decide_eq_false c3]
    refine EvP.succ (fun k => stillageref06_Good.j0.eq_2 _ _ _ k) (EvP.no (by simp) ((Good_l0 nodes edges (by omega) (by omega) nodes.length 0 (by omega)).mono (fun b h hb => ?_)))
    obtain ⟨hN, hE⟩ := h hb
    exact ⟨by omega, by omega, by omega, fun i hi => hN i (by omega) hi, fun i hi => (hE i hi).1, fun i hi => (hE i hi).2.1, fun i hi => (hE i hi).2.2.1, fun i j hi hj => (hE i hi).2.2.2 j hj⟩
theorem Fits_e (nodes : List S43) (edges : List S27) (mask : List Int) : EvP (fun k => stillagelaw07_Fits.f k nodes edges mask) (fun b => b = true → Fit nodes edges ∧ mask.length ≤ 200) := by
  refine EvP.split (fun c => EvP.bind (Good_e nodes edges) (fun t ht => EvP.ret (fun h => ⟨ht h, by omega⟩))) (fun _ => EvP.ret (fun h => by cases h))
theorem awake_e : Evt (fun k => stillagelaw07_awake.f k) true := Evt.mono (n := 60) (by decide +kernel) (fun k r h => stillagelaw07_awake.mono k r h)
theorem place (a : Int) (n : Nat) (h0 : 1 ≤ n) (h1 : n ≤ 1000) : ∃ p : Nat, p < n ∧ wrap64 (Int.tmod (IntKind.u64.wrap a) (IntKind.u64.wrap (n : Int))) = (p : Int) := by
  have wu : ∀ n : Int, IntKind.u64.wrap n = n % 18446744073709551616 := fun n => by simp [IntKind.wrap, IntKind.bits, IntKind.signed]
  have hn : IntKind.u64.wrap (n : Int) = (n : Int) := by rw [wu]; omega
  have h2 : 0 ≤ IntKind.u64.wrap a := by rw [wu]; omega
  have h3 : Int.tmod (IntKind.u64.wrap a) (n : Int) = (IntKind.u64.wrap a) % (n : Int) := Int.tmod_eq_emod_of_nonneg h2
  have h4 := Int.emod_nonneg (IntKind.u64.wrap a) (show (n : Int) ≠ 0 by omega)
  have h5 := Int.emod_lt_of_pos (IntKind.u64.wrap a) (show (0 : Int) < (n : Int) by omega)
  rw [hn, h3, wsm h4 (by omega)]
  exact ⟨((IntKind.u64.wrap a) % (n : Int)).toNat, by omega, by omega⟩
theorem Open_loop (mask : List Int) (d : Int) (hm : mask.length ≤ 100000) (n : Nat) : ∀ i : Nat, i + n = mask.length → EvP (fun k => stillageref07_Open.l0 k mask d (mask.length : Int) (i : Int)) (fun r => r = true ↔ ¬ d ∈ mask.drop i) := by
  induction n with
  | zero =>
    intro i hi
    refine EvP.succ (fun k => stillageref07_Open.l0.eq_2 _ _ _ _ k) (EvP.no (by omega) (EvP.ret ?_))
    rw [List.drop_eq_nil_of_le (by omega)]
    simp
  | succ n ih =>
    intro i hi
    have h1 : i < mask.length := by omega
    have e1 : rd mask (i : Int) = mask[i] := by simp [rd, List.getElem?_eq_getElem h1]
    refine EvP.succ (fun k => stillageref07_Open.l0.eq_2 _ _ _ _ k) (EvP.yes (by omega) (EvP.yes (by omega) (EvP.yes (by omega) (EvP.split (fun c => EvP.ret ?_) (fun c => ?_)))))
    · rw [List.drop_eq_getElem_cons h1, ← c, e1]
      constructor
      · intro h; cases h
      · intro h; exact absurd List.mem_cons_self h
    · rw [wnext i (by omega)]
      refine (ih (i + 1) (by omega)).mono (fun r h => ?_)
      rw [h, List.drop_eq_getElem_cons h1, List.mem_cons]
      rw [e1] at c
      have : ¬ d = mask[i] := fun e => c e.symm
      simp only [this, false_or]
theorem Open_e (mask : List Int) (d : Int) (hm : mask.length ≤ 100000) : EvP (fun k => stillageref07_Open.f k mask d) (fun r => r = true ↔ ¬ d ∈ mask) := Open_loop mask d hm mask.length 0 (by omega)

theorem both_l2 (nodes : List S43) (edges : List S27) (mask : List Int) (F : Fit nodes edges) (hl : mask.length ≤ 200) (a : Nat) (ha : a < nodes.length) (x : List Int) (L : Lens nodes edges mask a x) (P : Bool → Prop)
    (next : EvP (fun k => stillagelaw07_ReachBoth.l0 k mask (nodes.length : Int) ((a + 1 : Nat) : Int) nodes edges) P) (m : Nat) : ∀ i : Nat, i + m = edges.length →
    EvP (fun k => stillagelaw07_ReachBoth.l2 k mask (nodes.length : Int) (a : Int) x edges (edges.length : Int) (i : Int) nodes edges) P := by
  have hn := F.n
  have hm := F.m
  have hx := L.len
  induction m with
  | zero =>
    intro i hi
    refine EvP.succ (fun k => stillagelaw07_ReachBoth.l2.eq_2 _ _ _ _ _ _ _ _ _ k) (EvP.no (by omega) ?_)
    rw [wnext a (by omega)]
    exact next
  | succ m ih =>
    intro i hi
    have E := F.ends i (by omega)
    have go : EvP (fun k => stillagelaw07_ReachBoth.l2 k mask (nodes.length : Int) (a : Int) x edges (edges.length : Int) (wrap64 ((i : Int) + 1)) nodes edges) P := by
      rw [wnext i (by omega)]
      exact ih (i + 1) (by omega)
    refine EvP.succ (fun k => stillagelaw07_ReachBoth.l2.eq_2 _ _ _ _ _ _ _ _ _ k) (EvP.yes (by omega) (EvP.yes (by omega) (EvP.yes (by omega) (EvP.bind (Open_e mask _ (by omega)) (fun t ht => EvP.split (fun c => EvP.yes E.1 (EvP.yes (by omega) (EvP.split (fun c1 => ?_) (fun _ => go)))) (fun _ => go))))))
    rw [c, wnext i (by omega)] at ht
    have hop : ¬ ((i : Int) + 1) ∈ mask := by
      have := ht.1 rfl
      rwa [show ((i + 1 : Nat) : Int) = (i : Int) + 1 by omega] at this
    have fin : ((rd_T27 edges (i : Int)).f0 = (a : Int) ∨ Pass nodes (rd_T27 edges (i : Int)).f0) → 0 ≤ rd x (rd_T27 edges (i : Int)).f1 ∧ rd x (rd_T27 edges (i : Int)).f1 ≤ wrap64 (rd x (rd_T27 edges (i : Int)).f0 + 1) := by
      intro hp
      rw [rd_g] at c1
      have st := L.ok.step _ _ ⟨⟨i, by omega, hop, rfl, rfl⟩, hp⟩ c1
      have hh := L.hi _ E.1 E.2.1
      rw [rd_g, rd_g, wsm (by omega) (by omega)]
      exact st
    refine EvP.split (fun c2 => ?_) (fun c2 => EvP.yes (by omega) (EvP.split (fun c3 => ?_) (fun _ => go)))
    · have f := fin (.inl c2)
      exact EvP.yes E.2.2.1 (EvP.yes (by omega) (EvP.no (by omega) (EvP.no (by omega) go)))
    · have f := fin (.inr c3)
      exact EvP.yes E.2.2.1 (EvP.yes (by omega) (EvP.no (by omega) (EvP.no (by omega) go)))
theorem both_l1 (nodes : List S43) (edges : List S27) (mask : List Int) (F : Fit nodes edges) (hl : mask.length ≤ 200) (a : Nat) (ha : a < nodes.length) (x : List Int) (L : Lens nodes edges mask a x) (P : Bool → Prop)
    (next : EvP (fun k => stillagelaw07_ReachBoth.l0 k mask (nodes.length : Int) ((a + 1 : Nat) : Int) nodes edges) P) (m : Nat) : ∀ b : Nat, b + m = nodes.length →
    EvP (fun k => stillagelaw07_ReachBoth.l1 k mask (nodes.length : Int) (a : Int) x (b : Int) nodes edges) P := by
  have hn := F.n
  have hx := L.len
  induction m with
  | zero =>
    intro b hb
    exact EvP.succ (fun k => stillagelaw07_ReachBoth.l1.eq_2 _ _ _ _ _ _ _ k) (EvP.no (by omega) (both_l2 nodes edges mask F hl a ha x L P next edges.length 0 (by omega)))
  | succ m ih =>
    intro b hb
    refine EvP.succ (fun k => stillagelaw07_ReachBoth.l1.eq_2 _ _ _ _ _ _ _ k) (EvP.yes (by omega) (EvP.bind (To_e nodes edges F mask (by omega) b (by omega) (by omega)) (fun y hy => ?_)))
    have hyl := hy.1.len
    refine EvP.yes hy.2 (EvP.yes (by omega) (EvP.yes (by omega) (EvP.yes (by omega) (EvP.yes (by omega) (EvP.yes (by omega) (EvP.yes ?_ ?_))))))
    · rw [rd_g, rd_g]
      exact (L.to hy.1 (by omega) (by omega) (by omega) (by omega)).symm
    · rw [wnext b (by omega)]
      exact ih (b + 1) (by omega)
theorem both_l0 (nodes : List S43) (edges : List S27) (mask : List Int) (F : Fit nodes edges) (hl : mask.length ≤ 200) (m : Nat) : ∀ a : Nat, a + m = nodes.length →
    EvP (fun k => stillagelaw07_ReachBoth.l0 k mask (nodes.length : Int) (a : Int) nodes edges) (fun r => r = true) := by
  have hn := F.n
  induction m with
  | zero =>
    intro a ha
    exact EvP.succ (fun k => stillagelaw07_ReachBoth.l0.eq_2 _ _ _ _ _ k) (EvP.no (by omega) (EvP.ret rfl))
  | succ m ih =>
    intro a ha
    refine EvP.succ (fun k => stillagelaw07_ReachBoth.l0.eq_2 _ _ _ _ _ k) (EvP.yes (by omega) (EvP.bind (From_e nodes edges F mask (by omega) a (by omega) (by omega)) (fun x hx => ?_)))
    have hxl := hx.1.len
    have hst := hx.1.ok.start
    refine EvP.yes hx.2 (EvP.yes (by omega) (EvP.yes (by omega) (EvP.yes (by omega) ?_)))
    have e : (rd x.1 (a : Int) != 0) = false := by rw [rd_g, hst]; rfl
    rw [e]
    exact EvP.succ (fun k => stillagelaw07_ReachBoth.j2.eq_2 _ _ _ _ _ _ _ k) (EvP.no (by simp) (both_l1 nodes edges mask F hl a (by omega) x.1 hx.1 _ (ih (a + 1) (by omega)) nodes.length 0 (by omega)))
theorem ReachBoth (l0_0 : List S43) (l0_1 : List S27) (l1 : List Int) (hm0_0 : l0_0.length ≤ maxLen) (hw0_0 : ∀ x ∈ l0_0, x.f0.size ≤ maxLen ∧ (Lit.int .i64 x.f1).wf = true ∧ (Lit.int .i64 x.f2).wf = true) (hm0_1 : l0_1.length ≤ maxLen) (hw0_1 : ∀ x ∈ l0_1, (Lit.int .i64 x.f0).wf = true ∧ (Lit.int .i64 x.f1).wf = true)
    (hm1 : l1.length ≤ maxLen) (hw1 : ∀ x ∈ l1, (Lit.int .i64 x).wf = true) (y1 : l1.length * 8 ≤ 140737488351232) :
    ∃ k, stillagelaw07_ReachBoth.f k l0_0 l0_1 l1 = some true := by
  suffices h : EvP (fun k => stillagelaw07_ReachBoth.f k l0_0 l0_1 l1) (fun r => r = true) by
    obtain ⟨k, r, h1, h2⟩ := h.get
    exact ⟨k, by rw [h1, h2]⟩
  have yes : EvP (fun k => stillagelaw07_ReachBoth.j0 k l1 true l0_0 l0_1) (fun r => r = true) := EvP.succ (fun k => stillagelaw07_ReachBoth.j0.eq_2 _ _ _ _ k) (EvP.yes rfl (EvP.ret rfl))
  refine EvP.ebind awake_e (EvP.yes rfl (EvP.bind (Fits_e l0_0 l0_1 l1) (fun t ht => EvP.split (fun c => ?_) (fun _ => yes))))
  obtain ⟨F, hml⟩ := ht c
  by_cases c2 : (l0_0.length : Int) > 25
  · rw [decide_eq_true c2]
    exact yes
  · rw [decide_eq_false c2]
    exact EvP.succ (fun k => stillagelaw07_ReachBoth.j0.eq_2 _ _ _ _ k) (EvP.no (by simp) (both_l0 l0_0 l0_1 l1 F hml l0_0.length 0 (by omega)))

end Go.Proofs.Ytkfoicfbmhalbaa.Pure
