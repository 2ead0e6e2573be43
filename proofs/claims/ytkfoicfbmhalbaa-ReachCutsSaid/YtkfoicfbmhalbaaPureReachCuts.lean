/- stillagelaw07.ReachCuts is true at every layout, mask and two numbers: no condition. -/
import Derived.OpenShut
import Derived.Test.YtkfoicfbmhalbaaEvt
import Derived.Test.YtkfoicfbmhalbaaBfs
import Derived.Test.YtkfoicfbmhalbaaPReachCutsx
set_option linter.unusedVariables false
set_option linter.unusedSimpArgs false
set_option maxRecDepth 10000
namespace Go.Proofs.Ytkfoicfbmhalbaa.Pure
open Go.RowKit Go.Proofs.Ytkfoicfbmhalbaa.PReachCuts Go.Proofs.YtkfoicfbmhalbaaW.PrintWords Go.Proofs.YtkfoicfbmhalbaaW.PrintLast Go.Proofs.PlainEvt Go.Proofs.PlainBfs
theorem wsm {n : Int} (h0 : 0 ≤ n) (h1 : n ≤ 9223372036854775807) : wrap64 n = n := by unfold wrap64; omega
theorem wnext (i : Nat) (h : i ≤ 1000000) : wrap64 ((i : Int) + 1) = ((i + 1 : Nat) : Int) := by rw [wsm] <;> omega
theorem rd_g (r : List Int) (v : Int) : rd r v = g r v := rfl
def Pass (nodes : List S43) (a : Int) : Prop := (rd_T43 nodes a).f1 = 1
/-- Open edges from a to b: their devices are not named. -/
def EdgeM (edges : List S27) (mask : List Int) (a b : Int) : Prop := ∃ i : Nat, i < edges.length ∧ ¬ ((i : Int) + 1) ∈ mask ∧ (rd_T27 edges i).f0 = a ∧ (rd_T27 edges i).f1 = b
structure Fit (nodes : List S43) (edges : List S27) : Prop where
  n0 : 1 ≤ nodes.length
  n : nodes.length ≤ 40
  m : edges.length ≤ 120
  kinds : ∀ i : Nat, i < nodes.length → 1 ≤ (rd_T43 nodes i).f1 ∧ (rd_T43 nodes i).f1 ≤ 4 ∧ 0 ≤ (rd_T43 nodes i).f2 ∧ (rd_T43 nodes i).f2 ≤ 7
  ends : ∀ i : Nat, i < edges.length → 0 ≤ (rd_T27 edges i).f0 ∧ (rd_T27 edges i).f0 < (nodes.length : Int) ∧ 0 ≤ (rd_T27 edges i).f1 ∧ (rd_T27 edges i).f1 < (nodes.length : Int)
  ne : ∀ i : Nat, i < edges.length → (rd_T27 edges i).f0 ≠ (rd_T27 edges i).f1
  track : ∀ i : Nat, i < edges.length → Pass nodes (rd_T27 edges i).f0 ∨ Pass nodes (rd_T27 edges i).f1
  once : ∀ i j : Nat, i < edges.length → j < i → ¬ ((rd_T27 edges j).f0 = (rd_T27 edges i).f0 ∧ (rd_T27 edges j).f1 = (rd_T27 edges i).f1)
theorem EdgeM.ends {nodes : List S43} {edges : List S27} (F : Fit nodes edges) {mask : List Int} {a b : Int} (h : EdgeM edges mask a b) : 0 ≤ a ∧ a < (nodes.length : Int) ∧ 0 ≤ b ∧ b < (nodes.length : Int) := by
  obtain ⟨i, hi, _, rfl, rfl⟩ := h
  exact F.ends i hi
/-- The lengths of ways from s, told. -/
structure Lens (nodes : List S43) (edges : List S27) (mask : List Int) (s : Int) (r : List Int) : Prop where
  len : r.length = nodes.length
  ok : LensOk nodes.length s (fun a b => EdgeM edges mask a b ∧ (a = s ∨ Pass nodes a)) (g r)
  hi : ∀ v : Int, 0 ≤ v → v < nodes.length → g r v ≤ nodes.length
/-- The lengths of ways to s, told. -/
structure LensTo (nodes : List S43) (edges : List S27) (mask : List Int) (s : Int) (r : List Int) : Prop where
  len : r.length = nodes.length
  ok : LensOk nodes.length s (fun a b => EdgeM edges mask b a ∧ (a = s ∨ Pass nodes a)) (g r)
  hi : ∀ v : Int, 0 ≤ v → v < nodes.length → g r v ≤ nodes.length
theorem eq_of_g {r q : List Int} (hl : r.length = q.length) (h : ∀ v : Int, 0 ≤ v → v < r.length → g r v = g q v) : r = q := by
  apply List.ext_getElem hl
  intro i h1 h2
  have := h (i : Int) (by omega) (by omega)
  unfold g at this
  simpa [List.getD_eq_getElem?_getD, h1, h2] using this
theorem Lens.eq {nodes : List S43} {edges : List S27} {mask : List Int} {s : Int} {r q : List Int} (h : Lens nodes edges mask s r) (h' : Lens nodes edges mask s q) : r = q :=
  eq_of_g (h.1.trans h'.1.symm) (fun v h0 h1 => h.2.eq h'.2 v h0 (by rw [h.1] at h1; exact h1))
theorem LensTo.eq {nodes : List S43} {edges : List S27} {mask : List Int} {s : Int} {r q : List Int} (h : LensTo nodes edges mask s r) (h' : LensTo nodes edges mask s q) : r = q :=
  eq_of_g (h.1.trans h'.1.symm) (fun v h0 h1 => h.2.eq h'.2 v h0 (by rw [h.1] at h1; exact h1))
theorem Lens.to {nodes : List S43} {edges : List S27} {mask : List Int} {s t : Int} {r q : List Int} (h : Lens nodes edges mask s r) (h' : LensTo nodes edges mask t q) (hs0 : 0 ≤ s) (hs1 : s < nodes.length) (ht0 : 0 ≤ t) (ht1 : t < nodes.length) : g r t = g q s :=
  both hs0 hs1 ht0 ht1 h.2 h'.2
theorem Lens.congr {nodes : List S43} {edges : List S27} {mask mask' : List Int} {s : Int} {r : List Int} (h : Lens nodes edges mask s r) (he : ∀ i : Nat, i < edges.length → (((i : Int) + 1) ∈ mask ↔ ((i : Int) + 1) ∈ mask')) : Lens nodes edges mask' s r := by
  refine ⟨h.1, h.2.congr (fun a b => ?_), h.3⟩
  have : EdgeM edges mask a b ↔ EdgeM edges mask' a b := by
    constructor
    · rintro ⟨i, h1, h2, h3⟩
      exact ⟨i, h1, fun c => h2 ((he i h1).2 c), h3⟩
    · rintro ⟨i, h1, h2, h3⟩
      exact ⟨i, h1, fun c => h2 ((he i h1).1 c), h3⟩
  rw [this]
theorem LensTo.congr {nodes : List S43} {edges : List S27} {mask mask' : List Int} {s : Int} {r : List Int} (h : LensTo nodes edges mask s r) (he : ∀ i : Nat, i < edges.length → (((i : Int) + 1) ∈ mask ↔ ((i : Int) + 1) ∈ mask')) : LensTo nodes edges mask' s r := by
  refine ⟨h.1, h.2.congr (fun a b => ?_), h.3⟩
  have : EdgeM edges mask b a ↔ EdgeM edges mask' b a := by
    constructor
    · rintro ⟨i, h1, h2, h3⟩
      exact ⟨i, h1, fun c => h2 ((he i h1).2 c), h3⟩
    · rintro ⟨i, h1, h2, h3⟩
      exact ⟨i, h1, fun c => h2 ((he i h1).1 c), h3⟩
  rw [this]
/-- What is shut, told of the mask. -/
def Shut (edges : List S27) (mask : List Int) (sh : List Bool) : Prop := sh.length = edges.length + 1 ∧ ∀ j : Nat, 1 ≤ j → j ≤ edges.length → (sh.getD j false = true ↔ (j : Int) ∈ mask)
theorem shut_loop (mask : List Int) (hl : mask.length ≤ 10000) (n : Nat) : ∀ (i : Nat) (sh : List Bool), i + n = mask.length → EvP (fun k => reach_shut.l0 k sh mask (mask.length : Int) (i : Int)) (fun r => r.length = sh.length ∧
    ∀ j : Nat, 1 ≤ j → j < sh.length → r.getD j false = (sh.getD j false || decide ((j : Int) ∈ mask.drop i))) := by
  induction n with
  | zero =>
    intro i sh hi
    refine EvP.succ (fun k => reach_shut.l0.eq_2 _ _ _ _ k) (EvP.no (by omega) (EvP.ret ⟨rfl, fun j _ _ => ?_⟩))
    rw [List.drop_eq_nil_of_le (by omega)]
    simp
  | succ n ih =>
    intro i sh hi
    have hil : i < mask.length := by omega
    have hd : mask.drop i = mask[i] :: mask.drop (i + 1) := List.drop_eq_getElem_cons hil
    have hrd : rd mask (i : Int) = mask[i] := by simp [rd, List.getElem?_eq_getElem hil]
    have hw := wnext i (by omega)
    refine EvP.succ (fun k => reach_shut.l0.eq_2 _ _ _ _ k) (EvP.yes (by omega) (EvP.yes (by omega) (EvP.yes (by omega) ?_)))
    have skip : ¬ (rd mask (i : Int) ≥ 1 ∧ rd mask (i : Int) < (sh.length : Int)) → EvP (fun k => reach_shut.l0 k sh mask (mask.length : Int) (wrap64 ((i : Int) + 1))) (fun r => r.length = sh.length ∧ ∀ j : Nat, 1 ≤ j → j < sh.length → r.getD j false = (sh.getD j false || decide ((j : Int) ∈ mask.drop i))) := by
      intro c
      rw [hw]
      refine (ih (i + 1) sh (by omega)).mono (fun r ⟨h1, h2⟩ => ⟨h1, fun j hj1 hj2 => ?_⟩)
      rw [h2 j hj1 hj2, hd]
      have : ¬ (j : Int) = mask[i] := by omega
      simp only [List.mem_cons, this, false_or]
    refine EvP.split (fun c1 => EvP.split (fun c2 => EvP.yes (by omega) ?_) (fun c2 => skip (fun c => c2 c.2))) (fun c1 => skip (fun c => c1 c.1))
    rw [hw]
    refine (ih (i + 1) (sh.set (rd mask (i : Int)).toNat true) (by omega)).mono (fun r ⟨h1, h2⟩ => ⟨by rw [h1, List.length_set], fun j hj1 hj2 => ?_⟩)
    rw [h2 j hj1 (by rw [List.length_set]; exact hj2), hd]
    simp only [List.mem_cons]
    by_cases cj : (rd mask (i : Int)).toNat = j
    · have : (j : Int) = mask[i] := by omega
      simp [List.getD_eq_getElem?_getD, cj, hj2, this]
    · have : ¬ (j : Int) = mask[i] := by omega
      simp [List.getD_eq_getElem?_getD, cj, this]
theorem shut_e (nodes : List S43) (edges : List S27) (mask : List Int) (hl : mask.length ≤ 10000) (hm : edges.length ≤ 1000) : EvP (fun k => reach_shut.f k nodes edges mask) (Shut edges mask) := by
  have hw : wrap64 ((edges.length : Int) + 1) = ((edges.length + 1 : Nat) : Int) := by rw [wsm] <;> omega
  refine EvP.yes (by rw [hw]; omega) (EvP.yes (by rw [hw]; omega) ?_)
  rw [hw]
  refine (shut_loop mask hl mask.length 0 _ (by omega)).mono (fun r ⟨h1, h2⟩ => ⟨by rw [h1, List.length_replicate]; omega, fun j hj1 hj2 => ?_⟩)
  rw [h2 j hj1 (by rw [List.length_replicate]; omega)]
  have : (List.replicate (((edges.length + 1 : Nat) : Int)).toNat false).getD j false = false := by
    rw [List.getD_eq_getElem?_getD, List.getElem?_replicate]
    split <;> rfl
  rw [this]
  simp
def Ed0 (nodes : List S43) (edges : List S27) (sh : List Bool) (s : Int) (a b : Int) : Prop := (∃ i : Nat, i < edges.length ∧ sh.getD (i + 1) false = false ∧ (rd_T27 edges i).f0 = a ∧ (rd_T27 edges i).f1 = b) ∧ (a = s ∨ Pass nodes a)
theorem Ed0.ends {nodes : List S43} {edges : List S27} (F : Fit nodes edges) {sh : List Bool} {s a b : Int} (h : Ed0 nodes edges sh s a b) : 0 ≤ a ∧ a < (nodes.length : Int) ∧ 0 ≤ b ∧ b < (nodes.length : Int) := by
  obtain ⟨⟨i, hi, _, rfl, rfl⟩, _⟩ := h
  have := F.ends i hi
  exact this
abbrev Res0 (nodes : List S43) (edges : List S27) (sh : List Bool) (s : Int) (res : List Int) : Prop := LensOk nodes.length s (Ed0 nodes edges sh s) (g res) ∧ res.length = nodes.length ∧ ∀ v : Int, 0 ≤ v → v < nodes.length → g res v ≤ nodes.length
theorem inner0 (nodes : List S43) (edges : List S27) (F : Fit nodes edges) (sh : List Bool) (hsh : sh.length = edges.length + 1) (s u : Int) (hK : u = s ∨ Pass nodes u) (M : Nat) (hM : M ≤ 1000)
    (next : ∀ r q : List Int, q.length + cnt r ≤ M → Inv nodes.length s (Ed0 nodes edges sh s) r q → EvP (fun k => reach_lengths_0.l0 k sh s r q nodes edges) (Res0 nodes edges sh s)) (n : Nat) :
    ∀ (i : Nat) (r rest : List Int), i + n = edges.length → rest.length + cnt r ≤ M → Inv nodes.length s (Ed0 nodes edges sh s) r (u :: rest) →
      (∀ j : Nat, j < i → sh.getD (j + 1) false = false → (rd_T27 edges j).f0 = u → 0 ≤ g r (rd_T27 edges j).f1 ∧ g r (rd_T27 edges j).f1 ≤ g r u + 1) →
      EvP (fun k => reach_lengths_0.l1 k sh s r (u :: rest) u edges (edges.length : Int) (i : Int) nodes edges) (Res0 nodes edges sh s) := by
  induction n with
  | zero =>
    intro i r rest hi hc hI hJ
    refine EvP.succ (fun k => reach_lengths_0.l1.eq_2 _ _ _ _ _ _ _ _ _ _ k) (EvP.no (by omega) (EvP.yes (by simp; omega) (next r rest hc (hI.pop (fun b hb => ?_)))))
    obtain ⟨⟨j, hj, h1, h2, h3⟩, _⟩ := hb
    have := hJ j (by omega) h1 h2
    rw [h3] at this
    exact this
  | succ n ih =>
    intro i r rest hi hc hI hJ
    have hm := F.m
    have hn := F.n
    have hw : wrap64 ((i : Int) + 1) = ((i + 1 : Nat) : Int) := by rw [wsm] <;> omega
    have hu := hI.qin u (by simp)
    have E := F.ends i (by omega)
    have hlen := hI.len
    have hgo : ∀ r' rest', rest'.length + cnt r' ≤ M → Inv nodes.length s (Ed0 nodes edges sh s) r' (u :: rest') → (∀ j : Nat, j < i + 1 → sh.getD (j + 1) false = false → (rd_T27 edges j).f0 = u → 0 ≤ g r' (rd_T27 edges j).f1 ∧ g r' (rd_T27 edges j).f1 ≤ g r' u + 1) →
      EvP (fun k => reach_lengths_0.l1 k sh s r' (u :: rest') u edges (edges.length : Int) (wrap64 ((i : Int) + 1)) nodes edges) (Res0 nodes edges sh s) := by
      intro r' rest' h1 h2 h3
      rw [hw]
      exact ih (i + 1) r' rest' (by omega) h1 h2 h3
    have hsd : rdOf false sh (wrap64 ((i : Int) + 1)) = sh.getD (i + 1) false := by rw [hw]; rfl
    refine EvP.succ (fun k => reach_lengths_0.l1.eq_2 _ _ _ _ _ _ _ _ _ _ k) (EvP.yes (by omega) (EvP.yes (by omega) (EvP.yes (by omega) (EvP.yes (by omega) (EvP.yes (by omega) (EvP.split (fun c1 => ?_) (fun c1' => EvP.split (fun c2 => EvP.yes (by omega) (EvP.yes (by omega) (EvP.split (fun c3 => EvP.yes (by omega) (EvP.yes (by omega) (EvP.yes (by simp; omega) ?_))) (fun c3 => ?_)))) (fun c2 => ?_))))))))
    · rw [hsd] at c1
      refine hgo r rest hc hI (fun j hj h1 h2 => ?_)
      by_cases hji : j = i
      · subst hji; rw [c1] at h1; cases h1
      · exact hJ j (by omega) h1 h2
    · have c1 : ¬ sh.getD (i + 1) false = true := by rw [hsd] at c1'; exact c1'
      have hEd : Ed0 nodes edges sh s u (rd_T27 edges (i : Int)).f1 := ⟨⟨i, by omega, by simpa using c1, c2, rfl⟩, hK⟩
      have hub := hI.hi u hu.1 hu.2.1
      have hA := hI.assign (b := (rd_T27 edges (i : Int)).f1) E.2.2.1 E.2.2.2 c3 hEd (fun a b h => Ed0.ends F h)
      have hwr : wrap64 (rd r u + 1) = g r u + 1 := by rw [rd_g, wsm] <;> omega
      have hcs := cnt_set (r := r) (x := g r u + 1) E.2.2.1 (by omega) c3 (by omega)
      have G : ∀ v : Int, 0 ≤ v → g (r.set ((rd_T27 edges (i : Int)).f1).toNat (g r u + 1)) v = if v = (rd_T27 edges (i : Int)).f1 then g r u + 1 else g r v := fun v hv => g_set E.2.2.1 (by omega) hv
      have hub' : ¬ u = (rd_T27 edges (i : Int)).f1 := by intro e; rw [rd_g, ← e] at c3; omega
      rw [hwr]
      refine hgo _ (rest ++ [(rd_T27 edges (i : Int)).f1]) (by rw [List.length_append]; simp; omega) hA (fun j hj h1 h2 => ?_)
      have Ej := F.ends j (by omega)
      rw [G _ Ej.2.2.1, G u hu.1, if_neg hub']
      by_cases hji : j = i
      · subst hji; rw [if_pos rfl]; omega
      · have := hJ j (by omega) h1 h2
        split
        · omega
        · exact this
    · refine hgo r rest hc hI (fun j hj h1 h2 => ?_)
      by_cases hji : j = i
      · subst hji
        have := hI.top u rest rfl _ E.2.2.1 E.2.2.2
        rw [rd_g] at c3
        omega
      · exact hJ j (by omega) h1 h2
    · refine hgo r rest hc hI (fun j hj h1 h2 => ?_)
      by_cases hji : j = i
      · subst hji; exact absurd h2 c2
      · exact hJ j (by omega) h1 h2
theorem outer0 (nodes : List S43) (edges : List S27) (F : Fit nodes edges) (sh : List Bool) (hsh : sh.length = edges.length + 1) (s : Int) (M : Nat) :
    M ≤ 1000 → ∀ r q : List Int, q.length + cnt r ≤ M → Inv nodes.length s (Ed0 nodes edges sh s) r q → EvP (fun k => reach_lengths_0.l0 k sh s r q nodes edges) (Res0 nodes edges sh s) := by
  induction M with
  | zero =>
    intro _ r q hc hI
    obtain rfl : q = [] := List.length_eq_zero_iff.1 (by omega)
    exact EvP.succ (fun k => reach_lengths_0.l0.eq_2 _ _ _ _ _ _ k) (EvP.no (by simp) (EvP.ret ⟨hI.good (fun a b h => Ed0.ends F h), hI.len, fun v h0 h1 => by have := hI.hi v h0 h1; omega⟩))
  | succ M ih =>
    intro hM r q hc hI
    cases q with
    | nil => exact EvP.succ (fun k => reach_lengths_0.l0.eq_2 _ _ _ _ _ _ k) (EvP.no (by simp) (EvP.ret ⟨hI.good (fun a b h => Ed0.ends F h), hI.len, fun v h0 h1 => by have := hI.hi v h0 h1; omega⟩))
    | cons u rest =>
      have hu := hI.qin u (by simp)
      have h0 : rd (u :: rest) 0 = u := rfl
      have hlen : rest.length + cnt r ≤ M := by simp at hc; omega
      have next := ih (by omega)
      refine EvP.succ (fun k => reach_lengths_0.l0.eq_2 _ _ _ _ _ _ k) (EvP.yes (by simp) (EvP.yes (by simp) ?_))
      rw [h0]
      by_cases hK : u = s ∨ Pass nodes u
      · have ej : EvP (fun k => reach_lengths_0.j1 k sh s r (u :: rest) u false nodes edges) (Res0 nodes edges sh s) := EvP.succ (fun k => reach_lengths_0.j1.eq_2 _ _ _ _ _ _ _ _ k) (EvP.no (by simp) (inner0 nodes edges F sh hsh s u hK M (by omega) next edges.length 0 r rest (by omega) hlen hI (fun j hj => by omega)))
        refine EvP.split (fun _ => ej) (fun c => EvP.yes hu.1 (EvP.yes hu.2.1 ?_))
        have : ((rd_T43 nodes u).f1 != 1) = false := by simpa [Pass] using hK.resolve_left c
        rw [this]
        exact ej
      · have e := next r rest hlen (hI.pop (fun b hb => absurd hb.2 hK))
        refine EvP.no (fun c => hK (.inl c)) (EvP.yes hu.1 (EvP.yes hu.2.1 ?_))
        have : ((rd_T43 nodes u).f1 != 1) = true := by
          simp only [bne_iff_ne, ne_eq]
          exact fun c => hK (.inr c)
        rw [this]
        exact EvP.succ (fun k => reach_lengths_0.j1.eq_2 _ _ _ _ _ _ _ _ k) (EvP.yes rfl (EvP.yes (by simp; omega) e))
theorem lens0_sh (nodes : List S43) (edges : List S27) (F : Fit nodes edges) (sh : List Bool) (hsh : sh.length = edges.length + 1) (s : Int) (h0 : 0 ≤ s) (h1 : s < (nodes.length : Int)) :
    EvP (fun k => reach_lengths_0.f k nodes edges sh s 0) (Res0 nodes edges sh s) := by
  have hn := F.n
  have hn0 := F.n0
  refine EvP.obind (a := List.replicate nodes.length (-1)) ?_ (EvP.yes h0 (EvP.yes (by simp; omega) ?_))
  · unfold slices_Repeat_int_int.f
    rw [if_pos ⟨rfl, by omega, by omega⟩]
    simp [rd]
  · refine outer0 nodes edges F sh hsh s 1000 (by omega) _ [s] ?_ (Inv.init h0 h1)
    have : cnt ((List.replicate nodes.length (-1 : Int)).set s.toNat 0) ≤ nodes.length := by
      have := List.countP_le_length (p := fun x : Int => decide (x < 0)) (l := (List.replicate nodes.length (-1 : Int)).set s.toNat 0)
      simpa [cnt] using this
    simp; omega
theorem lens0_e (nodes : List S43) (edges : List S27) (F : Fit nodes edges) (mask : List Int) (sh : List Bool) (hs : Shut edges mask sh) (s : Int) (h0 : 0 ≤ s) (h1 : s < (nodes.length : Int)) :
    EvP (fun k => reach_lengths_0.f k nodes edges sh s 0) (Lens nodes edges mask s) := by
  refine (lens0_sh nodes edges F sh hs.1 s h0 h1).mono (fun r ⟨h, hl, hh⟩ => ⟨hl, h.congr (fun a b => ?_), hh⟩)
  have : (∃ i : Nat, i < edges.length ∧ sh.getD (i + 1) false = false ∧ (rd_T27 edges i).f0 = a ∧ (rd_T27 edges i).f1 = b) ↔ EdgeM edges mask a b := by
    constructor
    · rintro ⟨i, h1, h2, h3, h4⟩
      refine ⟨i, h1, fun c => ?_, h3, h4⟩
      have := (hs.2 (i + 1) (by omega) (by omega)).2 (by simpa using c)
      rw [h2] at this
      cases this
    · rintro ⟨i, h1, h2, h3, h4⟩
      refine ⟨i, h1, ?_, h3, h4⟩
      rw [Bool.eq_false_iff]
      intro c
      exact h2 (by simpa using (hs.2 (i + 1) (by omega) (by omega)).1 c)
  show _ ∧ _ ↔ _
  rw [this]
theorem From_e (nodes : List S43) (edges : List S27) (F : Fit nodes edges) (mask : List Int) (hl : mask.length ≤ 10000) (s : Int) (h0 : 0 ≤ s) (h1 : s < (nodes.length : Int)) :
    EvP (fun k => reach_From.f k nodes edges mask s) (fun r => Lens nodes edges mask s r.1 ∧ r.2 = 0) := by
  have hm := F.m
  refine EvP.no (by omega) ?_
  rw [decide_eq_false (by omega)]
  refine EvP.succ (fun k => reach_From.j0.eq_2 _ _ _ _ _ k) (EvP.no (by simp) (EvP.bind (shut_e nodes edges mask hl (by omega)) (fun sh hs => EvP.bind (lens0_e nodes edges F mask sh hs s h0 h1) (fun r hr => EvP.ret ⟨hr, rfl⟩))))
theorem From_out (nodes : List S43) (edges : List S27) (mask : List Int) (s : Int) (h : s < 0 ∨ (nodes.length : Int) ≤ s) : EvP (fun k => reach_From.f k nodes edges mask s) (fun r => r.1 = [] ∧ r.2 = 1) := by
  have e : EvP (fun k => reach_From.j0 k mask s true nodes edges) (fun r => r.1 = [] ∧ r.2 = 1) := EvP.succ (fun k => reach_From.j0.eq_2 _ _ _ _ _ k) (EvP.yes rfl (EvP.ret ⟨rfl, rfl⟩))
  refine EvP.split (fun _ => e) (fun c => ?_)
  rw [decide_eq_true (by omega)]
  exact e
theorem Name_e (s : ByteArray) : EvP (fun k => stillageref06_Name.f k s) (fun _ => True) := by
  have l0 : ∀ (n i : Nat), i + n = s.size → s.size ≤ 8 → EvP (fun k => stillageref06_Name.l0 k s (i : Int)) (fun _ => True) := by
    intro n
    induction n with
    | zero =>
      intro i hi h8
      exact EvP.succ (fun k => stillageref06_Name.l0.eq_2 _ _ k) (EvP.no (by omega) (EvP.ret trivial))
    | succ n ih =>
      intro i hi h8
      have hg : EvP (fun k => stillageref06_Name.l0 k s (wrap64 ((i : Int) + 1))) (fun _ => True) := by
        rw [wnext i (by omega)]
        exact ih (i + 1) (by omega) h8
      have hf : EvP (fun _ => some false) (fun _ => True) := EvP.ret trivial
      refine EvP.succ (fun k => stillageref06_Name.l0.eq_2 _ _ k) (EvP.yes (by omega) (EvP.yes (by omega) (EvP.split (fun _ => EvP.split (fun _ => EvP.split (fun _ => hg) (fun _ => EvP.split (fun _ => hf) (fun _ => EvP.split (fun _ => hg) (fun _ => hf)))) (fun _ => EvP.split (fun _ => hg) (fun _ => EvP.split (fun _ => hf) (fun _ => hf)))) (fun _ => EvP.split (fun _ => EvP.split (fun _ => hf) (fun _ => EvP.split (fun _ => hg) (fun _ => hf))) (fun _ => EvP.split (fun _ => hf) (fun _ => hf))))))
  refine EvP.split (fun _ => EvP.succ (fun k => stillageref06_Name.j0.eq_2 _ _ k) (EvP.yes rfl (EvP.ret trivial))) (fun _ => ?_)
  by_cases c : (s.size : Int) > 8
  · rw [decide_eq_true c]
    exact EvP.succ (fun k => stillageref06_Name.j0.eq_2 _ _ k) (EvP.yes rfl (EvP.ret trivial))
  · rw [decide_eq_false c]
    exact EvP.succ (fun k => stillageref06_Name.j0.eq_2 _ _ k) (EvP.no (by simp) (l0 s.size 0 (by omega) (by omega)))
theorem Find_e (nodes : List S43) (edges : List S27) (s : ByteArray) (hn : nodes.length ≤ 1000) : EvP (fun k => stillageref06_Find.f k nodes edges s) (fun _ => True) := by
  have l0 : ∀ (n i : Nat), i + n = nodes.length → EvP (fun k => stillageref06_Find.l0 k s (nodes.length : Int) (i : Int) nodes edges) (fun _ => True) := by
    intro n
    induction n with
    | zero =>
      intro i hi
      exact EvP.succ (fun k => stillageref06_Find.l0.eq_2 _ _ _ _ _ k) (EvP.no (by omega) (EvP.ret trivial))
    | succ n ih =>
      intro i hi
      refine EvP.succ (fun k => stillageref06_Find.l0.eq_2 _ _ _ _ _ k) (EvP.yes (by omega) (EvP.yes (by omega) (EvP.yes (by omega) (EvP.split (fun _ => EvP.ret trivial) (fun _ => ?_)))))
      rw [wnext i (by omega)]
      exact ih (i + 1) (by omega)
  exact l0 nodes.length 0 (by omega)
abbrev EdgeOk (nodes : List S43) (edges : List S27) (i : Nat) : Prop :=
  (0 ≤ (rd_T27 edges i).f0 ∧ (rd_T27 edges i).f0 < (nodes.length : Int) ∧ 0 ≤ (rd_T27 edges i).f1 ∧ (rd_T27 edges i).f1 < (nodes.length : Int)) ∧ (rd_T27 edges i).f0 ≠ (rd_T27 edges i).f1 ∧ (Pass nodes (rd_T27 edges i).f0 ∨ Pass nodes (rd_T27 edges i).f1) ∧
    ∀ j : Nat, j < i → ¬ ((rd_T27 edges j).f0 = (rd_T27 edges i).f0 ∧ (rd_T27 edges j).f1 = (rd_T27 edges i).f1)
theorem Good_l2 (nodes : List S43) (edges : List S27) (hm : edges.length ≤ 120) (i : Nat) (hi : i < edges.length) (P : Bool → Prop) (hf : P false)
    (next : (∀ j : Nat, j < i → ¬ ((rd_T27 edges j).f0 = (rd_T27 edges i).f0 ∧ (rd_T27 edges j).f1 = (rd_T27 edges i).f1)) → EvP (fun k => stillageref06_Good.l1 k (edges.length : Int) (wrap64 ((i : Int) + 1)) nodes edges) P) (n : Nat) :
    ∀ j : Nat, j + n = i → (∀ j' : Nat, j' < j → ¬ ((rd_T27 edges j').f0 = (rd_T27 edges i).f0 ∧ (rd_T27 edges j').f1 = (rd_T27 edges i).f1)) → EvP (fun k => stillageref06_Good.l2 k (i : Int) (j : Int) (edges.length : Int) (i : Int) nodes edges) P := by
  induction n with
  | zero =>
    intro j hj hp
    obtain rfl : j = i := by omega
    exact EvP.succ (fun k => stillageref06_Good.l2.eq_2 _ _ _ _ _ _ k) (EvP.no (by omega) (next hp))
  | succ n ih =>
    intro j hj hp
    refine EvP.succ (fun k => stillageref06_Good.l2.eq_2 _ _ _ _ _ _ k) (EvP.yes (by omega) (EvP.yes (by omega) (EvP.yes (by omega) (EvP.yes (by omega) (EvP.yes (by omega) (EvP.split (fun _ => EvP.ret hf) (fun c => ?_)))))))
    rw [wnext j (by omega)]
    refine ih (j + 1) (by omega) (fun j' hj' => ?_)
    by_cases e : j' = j
    · subst e
      intro h
      apply c
      simp [h.1, h.2]
    · exact hp j' (by omega)
theorem Good_l1 (nodes : List S43) (edges : List S27) (hm : edges.length ≤ 120) (n : Nat) : ∀ i : Nat, i + n = edges.length → EvP (fun k => stillageref06_Good.l1 k (edges.length : Int) (i : Int) nodes edges) (fun b => b = true → ∀ j : Nat, i ≤ j → j < edges.length → EdgeOk nodes edges j) := by
  induction n with
  | zero =>
    intro i hi
    exact EvP.succ (fun k => stillageref06_Good.l1.eq_2 _ _ _ _ k) (EvP.no (by omega) (EvP.ret (fun _ j h1 h2 => by omega)))
  | succ n ih =>
    intro i hi
    have hff : (false = true) → ∀ j : Nat, i ≤ j → j < edges.length → EdgeOk nodes edges j := fun h => by cases h
    have bad : ∀ (x6 x7 : Int), EvP (fun k => stillageref06_Good.j3 k (i : Int) x6 x7 (edges.length : Int) (i : Int) true nodes edges) (fun b => b = true → ∀ j : Nat, i ≤ j → j < edges.length → EdgeOk nodes edges j) := fun x6 x7 =>
      EvP.succ (fun k => stillageref06_Good.j3.eq_2 _ _ _ _ _ _ _ _ k) (EvP.yes rfl (EvP.ret hff))
    refine EvP.succ (fun k => stillageref06_Good.l1.eq_2 _ _ _ _ k) (EvP.yes (by omega) (EvP.yes (by omega) (EvP.yes (by omega) (EvP.split (fun _ => bad _ _) (fun c1 => EvP.split (fun _ => bad _ _) (fun c2 => EvP.split (fun _ => bad _ _) (fun c3 => EvP.split (fun _ => bad _ _) (fun c4 => ?_))))))))
    by_cases c5 : (rd_T27 edges (i : Int)).f0 = (rd_T27 edges (i : Int)).f1
    · rw [show ((rd_T27 edges (i : Int)).f0 == (rd_T27 edges (i : Int)).f1) = true from by simpa using c5]
      exact bad _ _
    · rw [show ((rd_T27 edges (i : Int)).f0 == (rd_T27 edges (i : Int)).f1) = false from by simpa using c5]
      have go : (Pass nodes (rd_T27 edges (i : Int)).f0 ∨ Pass nodes (rd_T27 edges (i : Int)).f1) → EvP (fun k => stillageref06_Good.j4 k (i : Int) (edges.length : Int) (i : Int) false nodes edges) (fun b => b = true → ∀ j : Nat, i ≤ j → j < edges.length → EdgeOk nodes edges j) := by
        intro hp
        refine EvP.succ (fun k => stillageref06_Good.j4.eq_2 _ _ _ _ _ _ k) (EvP.no (by simp) (Good_l2 nodes edges hm i (by omega) _ hff (fun hd => ?_) i 0 (by omega) (fun j' hj' => by omega)))
        rw [wnext i (by omega)]
        refine (ih (i + 1) (by omega)).mono (fun b h hb j h1 h2 => ?_)
        by_cases e : j = i
        · subst e
          exact ⟨⟨by omega, by omega, by omega, by omega⟩, c5, hp, hd⟩
        · exact h hb j (by omega) h2
      refine EvP.succ (fun k => stillageref06_Good.j3.eq_2 _ _ _ _ _ _ _ _ k) (EvP.no (by simp) (EvP.yes (by omega) (EvP.yes (by omega) (EvP.split (fun c6 => go (.inl c6)) (fun c6 => EvP.yes (by omega) (EvP.yes (by omega) ?_))))))
      by_cases c7 : (rd_T43 nodes (rd_T27 edges (i : Int)).f1).f1 = 1
      · rw [show ((rd_T43 nodes (rd_T27 edges (i : Int)).f1).f1 != 1) = false from by simpa using c7]
        exact go (.inr c7)
      · rw [show ((rd_T43 nodes (rd_T27 edges (i : Int)).f1).f1 != 1) = true from by simpa using c7]
        exact EvP.succ (fun k => stillageref06_Good.j4.eq_2 _ _ _ _ _ _ k) (EvP.yes rfl (EvP.ret hff))
abbrev NodeOk (nodes : List S43) (i : Nat) : Prop := 1 ≤ (rd_T43 nodes i).f1 ∧ (rd_T43 nodes i).f1 ≤ 4 ∧ 0 ≤ (rd_T43 nodes i).f2 ∧ (rd_T43 nodes i).f2 ≤ 7
theorem Good_l0 (nodes : List S43) (edges : List S27) (hn : nodes.length ≤ 40) (hm : edges.length ≤ 120) (n : Nat) : ∀ i : Nat, i + n = nodes.length → EvP (fun k => stillageref06_Good.l0 k (nodes.length : Int) (i : Int) nodes edges) (fun b => b = true → (∀ j : Nat, i ≤ j → j < nodes.length → NodeOk nodes j) ∧ ∀ j : Nat, j < edges.length → EdgeOk nodes edges j) := by
  induction n with
  | zero =>
    intro i hi
    refine EvP.succ (fun k => stillageref06_Good.l0.eq_2 _ _ _ _ k) (EvP.no (by omega) ((Good_l1 nodes edges hm edges.length 0 (by omega)).mono (fun b h hb => ⟨fun j h1 h2 => by omega, fun j hj => h hb j (by omega) hj⟩)))
  | succ n ih =>
    intro i hi
    have hff : (false = true) → (∀ j : Nat, i ≤ j → j < nodes.length → NodeOk nodes j) ∧ ∀ j : Nat, j < edges.length → EdgeOk nodes edges j := fun h => by cases h
    refine EvP.succ (fun k => stillageref06_Good.l0.eq_2 _ _ _ _ k) (EvP.yes (by omega) (EvP.yes (by omega) (EvP.yes (by omega) (EvP.bind (Name_e _) (fun t _ => EvP.split (fun _ => EvP.split (fun _ => EvP.ret hff) (fun c1 => EvP.split (fun _ => EvP.ret hff) (fun c2 => EvP.split (fun _ => EvP.ret hff) (fun c3 => EvP.split (fun _ => EvP.ret hff) (fun c4 => EvP.bind (Find_e nodes edges _ (by omega)) (fun t _ => EvP.split (fun _ => ?_) (fun _ => EvP.ret hff))))))) (fun _ => EvP.ret hff))))))
    rw [wnext i (by omega)]
    refine (ih (i + 1) (by omega)).mono (fun b h hb => ⟨fun j h1 h2 => ?_, (h hb).2⟩)
    by_cases e : j = i
    · subst e
      exact ⟨by omega, by omega, by omega, by omega⟩
    · exact (h hb).1 j (by omega) h2
theorem Good_e (nodes : List S43) (edges : List S27) : EvP (fun k => stillageref06_Good.f k nodes edges) (fun b => b = true → Fit nodes edges) := by
  have bad : EvP (fun k => stillageref06_Good.j0 k true nodes edges) (fun b => b = true → Fit nodes edges) := EvP.succ (fun k => stillageref06_Good.j0.eq_2 _ _ _ k) (EvP.yes rfl (EvP.ret (fun h => by cases h)))
  refine EvP.split (fun _ => bad) (fun c1 => EvP.split (fun _ => bad) (fun c2 => ?_))
  by_cases c3 : (edges.length : Int) > 120
  · rw [decide_eq_true c3]
    exact bad
  · rw [decide_eq_false c3]
    refine EvP.succ (fun k => stillageref06_Good.j0.eq_2 _ _ _ k) (EvP.no (by simp) ((Good_l0 nodes edges (by omega) (by omega) nodes.length 0 (by omega)).mono (fun b h hb => ?_)))
    obtain ⟨hN, hE⟩ := h hb
    exact ⟨by omega, by omega, by omega, fun i hi => hN i (by omega) hi, fun i hi => (hE i hi).1, fun i hi => (hE i hi).2.1, fun i hi => (hE i hi).2.2.1, fun i j hi hj => (hE i hi).2.2.2 j hj⟩
theorem Fits_e (nodes : List S43) (edges : List S27) (mask : List Int) : EvP (fun k => stillagelaw07_Fits.f k nodes edges mask) (fun b => b = true → Fit nodes edges ∧ mask.length ≤ 200) := by
  refine EvP.split (fun c => EvP.bind (Good_e nodes edges) (fun t ht => EvP.ret (fun h => ⟨ht h, by omega⟩))) (fun _ => EvP.ret (fun h => by cases h))
theorem exists_lens {nodes : List S43} {edges : List S27} (F : Fit nodes edges) (mask : List Int) (hl : mask.length ≤ 10000) {s : Int} (h0 : 0 ≤ s) (h1 : s < (nodes.length : Int)) : ∃ r, Lens nodes edges mask s r := by
  obtain ⟨_, r, _, h⟩ := (From_e nodes edges F mask hl s h0 h1).get
  exact ⟨_, h.1⟩
/-- There is no way from a to b. -/
def NoWay (nodes : List S43) (edges : List S27) (mask : List Int) (a b : Int) : Prop := ∃ r, Lens nodes edges mask a r ∧ g r b < 0
theorem NoWay.iff {nodes : List S43} {edges : List S27} {mask : List Int} {a b : Int} {r : List Int} (h : Lens nodes edges mask a r) : NoWay nodes edges mask a b ↔ g r b < 0 := by
  constructor
  · rintro ⟨q, h1, h2⟩
    rw [h.eq h1]
    exact h2
  · intro c
    exact ⟨r, h, c⟩
def cutP (nodes : List S43) (edges : List S27) (mask : List Int) (a b : Int) (d : Nat) : Prop := ¬ (d : Int) ∈ mask ∧ NoWay nodes edges ((d : Int) :: mask) a b
open Classical in
noncomputable def cuts (nodes : List S43) (edges : List S27) (mask : List Int) (a b : Int) (d n : Nat) : List Int := ((List.range' d n).filter (fun d : Nat => decide (cutP nodes edges mask a b d))).map (fun d : Nat => (d : Int))
theorem cuts_length (nodes : List S43) (edges : List S27) (mask : List Int) (a b : Int) (d n : Nat) : (cuts nodes edges mask a b d n).length ≤ n := by
  unfold cuts
  rw [List.length_map]
  refine Nat.le_trans (List.length_filter_le _ _) ?_
  rw [List.length_range']
  exact Nat.le_refl _
theorem cuts_yes {nodes : List S43} {edges : List S27} {mask : List Int} {a b : Int} {d n : Nat} (h : cutP nodes edges mask a b d) : cuts nodes edges mask a b d (n + 1) = (d : Int) :: cuts nodes edges mask a b (d + 1) n := by
  unfold cuts
  rw [List.range'_succ, List.filter_cons_of_pos (by simpa using h), List.map_cons]
theorem cuts_no {nodes : List S43} {edges : List S27} {mask : List Int} {a b : Int} {d n : Nat} (h : ¬ cutP nodes edges mask a b d) : cuts nodes edges mask a b d (n + 1) = cuts nodes edges mask a b (d + 1) n := by
  unfold cuts
  rw [List.range'_succ, List.filter_cons_of_neg (by simpa using h)]
theorem mem_cuts {nodes : List S43} {edges : List S27} {mask : List Int} {a b : Int} {d n : Nat} {x : Int} : x ∈ cuts nodes edges mask a b d n ↔ ∃ e : Nat, x = (e : Int) ∧ d ≤ e ∧ e < d + n ∧ cutP nodes edges mask a b e := by
  unfold cuts
  simp only [List.mem_map, List.mem_filter, List.mem_range'_1, decide_eq_true_eq]
  constructor
  · rintro ⟨e, ⟨⟨h1, h2⟩, h3⟩, rfl⟩
    exact ⟨e, rfl, h1, h2, h3⟩
  · rintro ⟨e, rfl, h1, h2, h3⟩
    exact ⟨e, ⟨⟨h1, h2⟩, h3⟩, rfl⟩
theorem Shut.set {edges : List S27} {mask : List Int} {sh : List Bool} (h : Shut edges mask sh) (d : Nat) (hd : d ≤ edges.length) : Shut edges ((d : Int) :: mask) (sh.set d true) := by
  refine ⟨by rw [List.length_set]; exact h.1, fun j h1 h2 => ?_⟩
  have hl := h.1
  rw [List.mem_cons]
  by_cases c : d = j
  · subst c
    simp [List.getD_eq_getElem?_getD, show d < sh.length by omega]
  · rw [List.getD_eq_getElem?_getD, List.getElem?_set_ne c, ← List.getD_eq_getElem?_getD, h.2 j h1 h2]
    have : ¬ (j : Int) = (d : Int) := by omega
    simp [this]
theorem set_back {sh : List Bool} {d : Nat} (hd : d < sh.length) (h : sh.getD d false = false) : (sh.set d true).set d false = sh := by
  rw [List.set_set]
  apply List.ext_getElem (by simp)
  intro i h1 h2
  rw [List.getElem_set]
  split
  · rename_i e
    subst e
    simpa [List.getD_eq_getElem?_getD, hd] using h.symm
  · rfl
theorem Cut_loop (nodes : List S43) (edges : List S27) (F : Fit nodes edges) (mask : List Int) (a b : Int) (ha0 : 0 ≤ a) (ha1 : a < (nodes.length : Int)) (hb0 : 0 ≤ b) (hb1 : b < (nodes.length : Int)) (sh : List Bool) (hs : Shut edges mask sh) (n : Nat) :
    ∀ (d : Nat) (acc : List Int), 1 ≤ d → d + n = edges.length + 1 → acc.length ≤ d → EvP (fun k => reach_Cut.l0 k a b sh acc (d : Int) nodes edges) (fun r => r.1 = acc ++ cuts nodes edges mask a b d n ∧ r.2 = 0) := by
  induction n with
  | zero =>
    intro d acc h1 hd ha
    have hl := hs.1
    exact EvP.succ (fun k => reach_Cut.l0.eq_2 _ _ _ _ _ _ _ k) (EvP.no (by omega) (EvP.ret ⟨by simp [cuts], rfl⟩))
  | succ n ih =>
    intro d acc h1 hd ha
    have hl := hs.1
    have hm := F.m
    have hw := wnext d (by omega)
    have hrd : rdOf false sh (d : Int) = sh.getD d false := rfl
    refine EvP.succ (fun k => reach_Cut.l0.eq_2 _ _ _ _ _ _ _ k) (EvP.yes (by omega) (EvP.yes (by omega) ?_))
    rw [hw]
    refine EvP.split (fun c => ?_) (fun c => ?_)
    · rw [hrd] at c
      have : ¬ cutP nodes edges mask a b d := fun h => h.1 ((hs.2 d h1 (by omega)).1 c)
      rw [cuts_no this]
      exact ih (d + 1) acc (by omega) (by omega) (by omega)
    · rw [hrd] at c
      have cf : sh.getD d false = false := by simpa using c
      have hn : ¬ (d : Int) ∈ mask := fun h => c ((hs.2 d h1 (by omega)).2 h)
      refine EvP.ebind (Evt.pure _) (EvP.bind (lens0_e nodes edges F ((d : Int) :: mask) (sh.set d true) (hs.set d (by omega)) a ha0 ha1) (fun r hr => EvP.yes hb0 (EvP.yes (by rw [hr.1]; exact hb1) ?_)))
      rw [show ((d : Int)).toNat = d by omega, set_back (by omega) cf]
      have hg : rd r b < 0 ↔ cutP nodes edges mask a b d := by
        rw [rd_g, ← NoWay.iff hr]
        exact ⟨fun h => ⟨hn, h⟩, fun h => h.2⟩
      refine EvP.split (fun c2 => EvP.yes (by omega) ?_) (fun c2 => ?_)
      · rw [cuts_yes (hg.1 c2)]
        refine (ih (d + 1) (acc ++ [(d : Int)]) (by omega) (by omega) (by rw [List.length_append]; simp; omega)).mono (fun r h => ⟨by rw [h.1, List.append_assoc]; rfl, h.2⟩)
      · rw [cuts_no (fun h => c2 (hg.2 h))]
        exact ih (d + 1) acc (by omega) (by omega) (by omega)
open Classical in
noncomputable def cutList (nodes : List S43) (edges : List S27) (mask : List Int) (a b : Int) : List Int := if NoWay nodes edges mask a b then [] else cuts nodes edges mask a b 1 edges.length
theorem Cut_e (nodes : List S43) (edges : List S27) (F : Fit nodes edges) (mask : List Int) (hl : mask.length ≤ 10000) (a b : Int) (ha0 : 0 ≤ a) (ha1 : a < (nodes.length : Int)) (hb0 : 0 ≤ b) (hb1 : b < (nodes.length : Int)) :
    EvP (fun k => reach_Cut.f k nodes edges mask a b) (fun r => r.1 = cutList nodes edges mask a b ∧ r.2 = 0) := by
  have hm := F.m
  refine EvP.no (by omega) (EvP.no (by omega) (EvP.no (by omega) ?_))
  rw [decide_eq_false (by omega)]
  refine EvP.succ (fun k => reach_Cut.j0.eq_2 _ _ _ _ _ _ k) (EvP.no (by simp) (EvP.bind (shut_e nodes edges mask hl (by omega)) (fun sh hs => EvP.bind (lens0_e nodes edges F mask sh hs a ha0 ha1) (fun r hr => EvP.yes hb0 (EvP.yes (by rw [hr.1]; exact hb1) (EvP.split (fun c => EvP.ret ?_) (fun c => ?_)))))))
  · unfold cutList
    rw [if_pos ((NoWay.iff hr).2 c)]
    exact ⟨rfl, rfl⟩
  · have : cutList nodes edges mask a b = cuts nodes edges mask a b 1 edges.length := by
      unfold cutList
      rw [if_neg (fun h => c ((NoWay.iff hr).1 h))]
    rw [this]
    exact Cut_loop nodes edges F mask a b ha0 ha1 hb0 hb1 sh hs edges.length 1 [] (by omega) (by omega) (by simp)
theorem Cut_out (nodes : List S43) (edges : List S27) (mask : List Int) (a b : Int) (h : a < 0 ∨ (nodes.length : Int) ≤ a ∨ b < 0 ∨ (nodes.length : Int) ≤ b) : EvP (fun k => reach_Cut.f k nodes edges mask a b) (fun r => r.1 = [] ∧ r.2 = 1) := by
  have e : EvP (fun k => reach_Cut.j0 k mask a b true nodes edges) (fun r => r.1 = [] ∧ r.2 = 1) := EvP.succ (fun k => reach_Cut.j0.eq_2 _ _ _ _ _ _ k) (EvP.yes rfl (EvP.ret ⟨rfl, rfl⟩))
  refine EvP.split (fun _ => e) (fun c1 => EvP.split (fun _ => e) (fun c2 => EvP.split (fun _ => e) (fun c3 => ?_)))
  rw [decide_eq_true (by omega)]
  exact e
theorem awake_e : Evt (fun k => stillagelaw07_awake.f k) true := Evt.mono (n := 60) (by decide +kernel) (fun k r h => stillagelaw07_awake.mono k r h)
theorem place (a : Int) (n : Nat) (h0 : 1 ≤ n) (h1 : n ≤ 1000) : ∃ p : Nat, p < n ∧ wrap64 (Int.tmod (IntKind.u64.wrap a) (IntKind.u64.wrap (n : Int))) = (p : Int) := by
  have wu : ∀ n : Int, IntKind.u64.wrap n = n % 18446744073709551616 := fun n => by simp [IntKind.wrap, IntKind.bits, IntKind.signed]
  have hn : IntKind.u64.wrap (n : Int) = (n : Int) := by rw [wu]; omega
  have h2 : 0 ≤ IntKind.u64.wrap a := by rw [wu]; omega
  have h3 : Int.tmod (IntKind.u64.wrap a) (n : Int) = (IntKind.u64.wrap a) % (n : Int) := Int.tmod_eq_emod_of_nonneg h2
  have h4 := Int.emod_nonneg (IntKind.u64.wrap a) (show (n : Int) ≠ 0 by omega)
  have h5 := Int.emod_lt_of_pos (IntKind.u64.wrap a) (show (0 : Int) < (n : Int) by omega)
  rw [hn, h3, wsm h4 (by omega)]
  exact ⟨((IntKind.u64.wrap a) % (n : Int)).toNat, by omega, by omega⟩
theorem Ints_loop (x y : List Int) (hl : x.length = y.length) (hm : x.length ≤ 100000) (n : Nat) : ∀ i : Nat, i + n = x.length → EvP (fun k => stillageref01_Ints.l0 k x y (x.length : Int) (i : Int)) (fun r => r = true ↔ x.drop i = y.drop i) := by
  induction n with
  | zero =>
    intro i hi
    refine EvP.succ (fun k => stillageref01_Ints.l0.eq_2 _ _ _ _ k) (EvP.no (by omega) (EvP.ret ?_))
    rw [List.drop_eq_nil_of_le (by omega), List.drop_eq_nil_of_le (by omega)]
    simp
  | succ n ih =>
    intro i hi
    have h1 : i < x.length := by omega
    have h2 : i < y.length := by omega
    have e1 : rd x (i : Int) = x[i] := by simp [rd, List.getElem?_eq_getElem h1]
    have e2 : rd y (i : Int) = y[i] := by simp [rd, List.getElem?_eq_getElem h2]
    refine EvP.succ (fun k => stillageref01_Ints.l0.eq_2 _ _ _ _ k) (EvP.yes (by omega) (EvP.yes (by omega) (EvP.yes (by omega) (EvP.yes (by omega) (EvP.split (fun c => ?_) (fun c => EvP.ret ?_))))))
    · rw [wnext i (by omega)]
      refine (ih (i + 1) (by omega)).mono (fun r h => ?_)
      rw [h, List.drop_eq_getElem_cons h1, List.drop_eq_getElem_cons h2]
      rw [e1, e2] at c
      simp only [List.cons.injEq, c, true_and]
    · rw [List.drop_eq_getElem_cons h1, List.drop_eq_getElem_cons h2]
      rw [e1, e2] at c
      simp only [List.cons.injEq, c, false_and]
      simp
theorem Ints_e (x y : List Int) (hm : x.length ≤ 100000) : EvP (fun k => stillageref01_Ints.f k x y) (fun r => r = true ↔ x = y) := by
  refine EvP.split (fun c => ?_) (fun c => EvP.ret ?_)
  · exact Ints_loop x y (by omega) hm x.length 0 (by omega)
  · constructor
    · intro h; cases h
    · rintro rfl
      exact absurd rfl c
theorem Ints_eq {x y : List Int} (h : x = y) (hm : x.length ≤ 100000) : EvP (fun k => stillageref01_Ints.f k x y) (fun r => r = true) := (Ints_e x y hm).mono (fun r e => e.2 h)
theorem Open_loop (mask : List Int) (d : Int) (hm : mask.length ≤ 100000) (n : Nat) : ∀ i : Nat, i + n = mask.length → EvP (fun k => stillageref07_Open.l0 k mask d (mask.length : Int) (i : Int)) (fun r => r = true ↔ ¬ d ∈ mask.drop i) := by
  induction n with
  | zero =>
    intro i hi
    refine EvP.succ (fun k => stillageref07_Open.l0.eq_2 _ _ _ _ k) (EvP.no (by omega) (EvP.ret ?_))
    rw [List.drop_eq_nil_of_le (by omega)]
    simp
  | succ n ih =>
    intro i hi
    have h1 : i < mask.length := by omega
    have e1 : rd mask (i : Int) = mask[i] := by simp [rd, List.getElem?_eq_getElem h1]
    refine EvP.succ (fun k => stillageref07_Open.l0.eq_2 _ _ _ _ k) (EvP.yes (by omega) (EvP.yes (by omega) (EvP.yes (by omega) (EvP.split (fun c => EvP.ret ?_) (fun c => ?_)))))
    · rw [List.drop_eq_getElem_cons h1, ← c, e1]
      constructor
      · intro h; cases h
      · intro h; exact absurd List.mem_cons_self h
    · rw [wnext i (by omega)]
      refine (ih (i + 1) (by omega)).mono (fun r h => ?_)
      rw [h, List.drop_eq_getElem_cons h1, List.mem_cons]
      rw [e1] at c
      have : ¬ d = mask[i] := fun e => c e.symm
      simp only [this, false_or]
theorem Open_e (mask : List Int) (d : Int) (hm : mask.length ≤ 100000) : EvP (fun k => stillageref07_Open.f k mask d) (fun r => r = true ↔ ¬ d ∈ mask) := Open_loop mask d hm mask.length 0 (by omega)
abbrev EdM (nodes : List S43) (edges : List S27) (mask : List Int) (s : Int) (a b : Int) : Prop := EdgeM edges mask a b ∧ (a = s ∨ Pass nodes a)
theorem btw_l2 (nodes : List S43) (edges : List S27) (F : Fit nodes edges) (mask : List Int) (hl : mask.length ≤ 10000) (s : Int) (M : Nat)
    (next : ∀ r : List Int, meas r < M → Inr nodes.length s (EdM nodes edges mask s) r → EvP (fun k => stillageref07_Between.l1 k mask s r true nodes edges) (Lens nodes edges mask s)) (n : Nat) :
    ∀ (i : Nat) (r : List Int) (ch : Bool), i + n = edges.length → Inr nodes.length s (EdM nodes edges mask s) r → meas r < M + 1 → (ch = true → meas r < M) →
      (ch = false → ∀ j : Nat, j < i → ¬ ((j : Int) + 1) ∈ mask → ((rd_T27 edges j).f0 = s ∨ Pass nodes (rd_T27 edges j).f0) → 0 ≤ g r (rd_T27 edges j).f0 → 0 ≤ g r (rd_T27 edges j).f1 ∧ g r (rd_T27 edges j).f1 ≤ g r (rd_T27 edges j).f0 + 1) →
      EvP (fun k => stillageref07_Between.l2 k mask s r ch (edges.length : Int) (i : Int) nodes edges) (Lens nodes edges mask s) := by
  have hm := F.m
  have hn := F.n
  induction n with
  | zero =>
    intro i r ch hi hI h1 h2 h3
    refine EvP.succ (fun k => stillageref07_Between.l2.eq_2 _ _ _ _ _ _ _ _ k) (EvP.no (by omega) ?_)
    cases ch with
    | true => exact next r (h2 rfl) hI
    | false =>
      refine EvP.succ (fun k => stillageref07_Between.l1.eq_2 _ _ _ _ _ _ k) (EvP.no (by simp) (EvP.ret ⟨hI.len, hI.good (fun a b e ha => ?_), fun v h0 h1 => by have := hI.hi v h0 h1; omega⟩))
      obtain ⟨⟨j, j1, j2, rfl, rfl⟩, j3⟩ := e
      exact h3 rfl j (by omega) j2 j3 ha
  | succ n ih =>
    intro i r ch hi hI h1 h2 h3
    have E := F.ends i (by omega)
    have hlen := hI.len
    have hw := wnext i (by omega)
    have q0 : (0 : Int) ≤ (i : Int) := Int.natCast_nonneg i
    have q1 : (i : Int) < (edges.length : Int) := by clear h1 h2 h3; omega
    have q2 : (rd_T27 edges (i : Int)).f0 < (r.length : Int) := by clear h1 h2 h3; omega
    have q3 : (rd_T27 edges (i : Int)).f1 < (r.length : Int) := by clear h1 h2 h3; omega
    have skip : (ch = false → ¬ ((i : Int) + 1) ∈ mask → ((rd_T27 edges i).f0 = s ∨ Pass nodes (rd_T27 edges i).f0) → 0 ≤ g r (rd_T27 edges i).f0 → 0 ≤ g r (rd_T27 edges i).f1 ∧ g r (rd_T27 edges i).f1 ≤ g r (rd_T27 edges i).f0 + 1) →
        EvP (fun k => stillageref07_Between.l2 k mask s r ch (edges.length : Int) (wrap64 ((i : Int) + 1)) nodes edges) (Lens nodes edges mask s) := by
      intro hs
      rw [hw]
      refine ih (i + 1) r ch (by omega) hI h1 h2 (fun hc j hj => ?_)
      by_cases e : j = i
      · subst e
        exact hs hc
      · exact h3 hc j (Nat.lt_of_le_of_ne (Nat.le_of_lt_succ hj) e)
    have bad : (¬ (¬ ((i : Int) + 1) ∈ mask ∧ ((rd_T27 edges i).f0 = s ∨ Pass nodes (rd_T27 edges i).f0) ∧ 0 ≤ g r (rd_T27 edges i).f0)) → EvP (fun k => stillageref07_Between.j3 k mask s r ch (rd_T27 edges (i : Int)).f0 (rd_T27 edges (i : Int)).f1 (edges.length : Int) (i : Int) true nodes edges) (Lens nodes edges mask s) := by
      intro hb
      exact EvP.succ (fun k => stillageref07_Between.j3.eq_2 _ _ _ _ _ _ _ _ _ _ _ k) (EvP.yes rfl (skip (fun _ a b c => absurd ⟨a, b, c⟩ hb)))
    have good : ¬ ((i : Int) + 1) ∈ mask → ((rd_T27 edges i).f0 = s ∨ Pass nodes (rd_T27 edges i).f0) → 0 ≤ g r (rd_T27 edges i).f0 → EvP (fun k => stillageref07_Between.j3 k mask s r ch (rd_T27 edges (i : Int)).f0 (rd_T27 edges (i : Int)).f1 (edges.length : Int) (i : Int) false nodes edges) (Lens nodes edges mask s) := by
      intro g1 g2 g3
      have hEd : EdM nodes edges mask s (rd_T27 edges i).f0 (rd_T27 edges i).f1 := ⟨⟨i, by omega, g1, rfl, rfl⟩, g2⟩
      have hub := hI.hi (rd_T27 edges i).f0 E.1 E.2.1
      have hwr : wrap64 (rd r (rd_T27 edges (i : Int)).f0 + 1) = g r (rd_T27 edges i).f0 + 1 := by rw [rd_g, wsm] <;> omega
      have put : (g r (rd_T27 edges i).f1 < 0 ∨ g r (rd_T27 edges i).f0 + 1 < g r (rd_T27 edges i).f1) → EvP (fun k => stillageref07_Between.l2 k mask s (r.set ((rd_T27 edges (i : Int)).f1).toNat (g r (rd_T27 edges i).f0 + 1)) true (edges.length : Int) (wrap64 ((i : Int) + 1)) nodes edges) (Lens nodes edges mask s) := by
        intro hb
        obtain ⟨s1, s2⟩ := hI.set hEd E.1 E.2.1 E.2.2.1 E.2.2.2 g3 hb (by omega)
        rw [hw]
        exact ih (i + 1) _ true (by omega) s1 (by omega) (fun _ => by omega) (fun h => by cases h)
      refine EvP.succ (fun k => stillageref07_Between.j3.eq_2 _ _ _ _ _ _ _ _ _ _ _ k) (EvP.no (by simp) (EvP.yes E.2.2.1 (EvP.yes q3 ?_)))
      rw [hwr]
      exact EvP.split (fun c => EvP.yes E.1 (EvP.yes q2 (put (.inl c)))) (fun c => EvP.yes E.1 (EvP.yes q2 (EvP.split (fun c2 => put (.inr c2)) (fun c2 => skip (fun _ _ _ _ => by rw [rd_g] at c c2; omega)))))
    have op : ((rd_T27 edges i).f0 = s ∨ Pass nodes (rd_T27 edges i).f0) → 0 ≤ g r (rd_T27 edges i).f0 → ∀ t : Bool, (t = true ↔ ¬ ((i : Int) + 1) ∈ mask) → EvP (fun k => stillageref07_Between.j3 k mask s r ch (rd_T27 edges (i : Int)).f0 (rd_T27 edges (i : Int)).f1 (edges.length : Int) (i : Int) (!t) nodes edges) (Lens nodes edges mask s) := by
      intro g2 g3 t ht
      cases t with
      | true => exact good (ht.1 rfl) g2 g3
      | false =>
        refine bad (fun h => ?_)
        have := ht.2 h.1
        cases this
    have hop : EvP (fun k => stillageref07_Open.f k mask (wrap64 ((i : Int) + 1))) (fun t => t = true ↔ ¬ ((i : Int) + 1) ∈ mask) := by
      rw [show wrap64 ((i : Int) + 1) = (i : Int) + 1 by rw [hw]; omega]
      exact Open_e mask _ (by omega)
    refine EvP.succ (fun k => stillageref07_Between.l2.eq_2 _ _ _ _ _ _ _ _ k) (EvP.yes q1 (EvP.yes q0 (EvP.yes q1 (EvP.yes E.1 (EvP.yes q2 (EvP.split (fun c => bad (fun h => ?_)) (fun c => EvP.split (fun c1 => EvP.bind hop (fun t ht => op (.inl c1) (by rw [rd_g] at c; omega) t ht)) (fun c1 => EvP.yes E.2.1 (EvP.split (fun c2 => EvP.bind hop (fun t ht => op (.inr c2) (by rw [rd_g] at c; omega) t ht)) (fun c2 => bad (fun h => ?_)))))))))))
    · rw [rd_g] at c
      omega
    · exact h.2.1.elim c1 c2
theorem btw_l1 (nodes : List S43) (edges : List S27) (F : Fit nodes edges) (mask : List Int) (hl : mask.length ≤ 10000) (s : Int) (M : Nat) : ∀ r : List Int, meas r < M → Inr nodes.length s (EdM nodes edges mask s) r →
    EvP (fun k => stillageref07_Between.l1 k mask s r true nodes edges) (Lens nodes edges mask s) := by
  induction M with
  | zero => intro r h; omega
  | succ M ih =>
    intro r h hI
    exact EvP.succ (fun k => stillageref07_Between.l1.eq_2 _ _ _ _ _ _ k) (EvP.yes rfl (btw_l2 nodes edges F mask hl s M ih edges.length 0 r false (by omega) hI (by omega) (fun h => by cases h) (fun _ j hj => by omega)))
theorem btw_l0 (nodes : List S43) (edges : List S27) (F : Fit nodes edges) (mask : List Int) (hl : mask.length ≤ 10000) (s : Int) (h0 : 0 ≤ s) (h1 : s < (nodes.length : Int)) (n : Nat) : ∀ i : Nat, i + n = nodes.length →
    EvP (fun k => stillageref07_Between.l0 k mask s (List.replicate i (-1) ++ List.replicate n 0) (nodes.length : Int) (i : Int) nodes edges) (Lens nodes edges mask s) := by
  have hn := F.n
  induction n with
  | zero =>
    intro i hi
    obtain rfl : i = nodes.length := by omega
    refine EvP.succ (fun k => stillageref07_Between.l0.eq_2 _ _ _ _ _ _ _ k) (EvP.no (by omega) (EvP.yes h0 (EvP.yes (by simp; omega) ?_)))
    rw [List.replicate_zero, List.append_nil]
    exact btw_l1 nodes edges F mask hl s (meas ((List.replicate nodes.length (-1 : Int)).set s.toNat 0) + 1) _ (Nat.lt_succ_self _) (Inr.init h0 h1)
  | succ n ih =>
    intro i hi
    refine EvP.succ (fun k => stillageref07_Between.l0.eq_2 _ _ _ _ _ _ _ k) (EvP.yes (by omega) (EvP.yes (by omega) (EvP.yes (by simp; omega) ?_)))
    rw [wnext i (by omega)]
    have e : (List.replicate i (-1 : Int) ++ List.replicate (n + 1) 0).set ((i : Int)).toNat (-1) = List.replicate (i + 1) (-1) ++ List.replicate n 0 := by
      rw [show ((i : Int)).toNat = i by omega, List.set_append_right _ _ (by simp), List.length_replicate, Nat.sub_self, List.replicate_succ (n := n), List.set_cons_zero, List.replicate_succ' (n := i), List.append_assoc]
      rfl
    rw [e]
    exact ih (i + 1) (by omega)
theorem Between_e (nodes : List S43) (edges : List S27) (F : Fit nodes edges) (mask : List Int) (hl : mask.length ≤ 10000) (s : Int) (h0 : 0 ≤ s) (h1 : s < (nodes.length : Int)) : EvP (fun k => stillageref07_Between.f k nodes edges mask s) (Lens nodes edges mask s) := by
  have hn := F.n
  refine EvP.yes (by omega) (EvP.yes (by omega) (EvP.ebind (Evt.pure _) ?_))
  rw [show (((nodes.length : Int)) : Int).toNat = nodes.length by omega, List.length_replicate]
  exact btw_l0 nodes edges F mask hl s h0 h1 nodes.length 0 (by omega)
theorem own_f (nodes : List S43) (edges : List S27) (hn : nodes.length ≤ 1000) (hm : edges.length ≤ 1000) : stillagelaw06_Own.f nodes edges = some (nodes, edges) := by
  unfold stillagelaw06_Own.f
  rw [Option.bind_some, if_pos (by simp; omega), Option.bind_some, if_pos (by simp; omega)]
  simp

theorem NoWay.same {nodes : List S43} {edges : List S27} {mask mask' : List Int} {a b : Int} (he : ∀ i : Nat, i < edges.length → (((i : Int) + 1) ∈ mask ↔ ((i : Int) + 1) ∈ mask')) (h : NoWay nodes edges mask a b) : NoWay nodes edges mask' a b := by
  obtain ⟨r, h1, h2⟩ := h
  exact ⟨r, h1.congr he, h2⟩
theorem RCut_loop (nodes : List S43) (edges : List S27) (F : Fit nodes edges) (mask : List Int) (hl : mask.length ≤ 9000) (a b : Int) (ha0 : 0 ≤ a) (ha1 : a < (nodes.length : Int)) (hb0 : 0 ≤ b) (hb1 : b < (nodes.length : Int)) (n : Nat) : ∀ (d : Nat) (acc : List Int), d + n = edges.length + 1 → acc.length ≤ d →
    EvP (fun k => stillageref07_Cut.l0 k mask a b acc (d : Int) nodes edges) (fun r => r = acc ++ cuts nodes edges mask a b d n) := by
  have hm := F.m
  induction n with
  | zero =>
    intro d acc hd ha
    refine EvP.succ (fun k => stillageref07_Cut.l0.eq_2 _ _ _ _ _ _ _ k) (EvP.no (by omega) (EvP.ret ?_))
    unfold cuts
    simp
  | succ n ih =>
    intro d acc hd ha
    have skip : ¬ cutP nodes edges mask a b d → EvP (fun k => stillageref07_Cut.l0 k mask a b acc (wrap64 ((d : Int) + 1)) nodes edges) (fun r => r = acc ++ cuts nodes edges mask a b d (n + 1)) := by
      intro h
      rw [wnext d (by omega), cuts_no h]
      exact ih (d + 1) acc (by omega) (by omega)
    refine EvP.succ (fun k => stillageref07_Cut.l0.eq_2 _ _ _ _ _ _ _ k) (EvP.yes (by omega) (EvP.bind (Open_e mask (d : Int) (by omega)) (fun t ht => EvP.split (fun c => EvP.ebind (Evt.pure _) (EvP.yes (by simp; omega) (EvP.ebind (Evt.pure _) (EvP.ebind (Evt.pure _) (EvP.yes (by simp; omega) ?_))))) (fun c => skip (fun h => c (ht.2 h.1))))))
    refine EvP.bind (Between_e nodes edges F ([] ++ mask ++ [(d : Int)]) (by simp; omega) a ha0 ha1) (fun r hr => EvP.yes hb0 (EvP.yes (by rw [hr.1]; exact hb1) ?_))
    have hway : NoWay nodes edges ((d : Int) :: mask) a b ↔ rd r b < 0 := by
      rw [rd_g, ← NoWay.iff hr]
      constructor
      · exact NoWay.same (fun i _ => by simp [or_comm])
      · exact NoWay.same (fun i _ => by simp [or_comm])
    refine EvP.split (fun c2 => EvP.ebind (Evt.pure _) (EvP.yes (by simp; omega) ?_)) (fun c2 => skip (fun h => c2 (hway.1 h.2)))
    have hP : cutP nodes edges mask a b d := ⟨ht.1 c, hway.2 c2⟩
    rw [wnext d (by omega), cuts_yes hP]
    refine (ih (d + 1) (acc ++ [(d : Int)]) (by omega) (by simp; omega)).mono (fun r hr => ?_)
    rw [hr, List.append_assoc]
    rfl
theorem RCut_e (nodes : List S43) (edges : List S27) (F : Fit nodes edges) (mask : List Int) (hl : mask.length ≤ 9000) (a b : Int) (ha0 : 0 ≤ a) (ha1 : a < (nodes.length : Int)) (hb0 : 0 ≤ b) (hb1 : b < (nodes.length : Int)) :
    EvP (fun k => stillageref07_Cut.f k nodes edges mask a b) (fun r => r = cutList nodes edges mask a b) := by
  refine EvP.bind (Between_e nodes edges F mask (by omega) a ha0 ha1) (fun r hr => EvP.yes hb0 (EvP.yes (by rw [hr.1]; exact hb1) (EvP.split (fun c => EvP.ret ?_) (fun c => ?_))))
  · unfold cutList
    rw [if_pos ((NoWay.iff hr).2 c)]
  · have : cutList nodes edges mask a b = cuts nodes edges mask a b 1 edges.length := by
      unfold cutList
      rw [if_neg (fun h => c ((NoWay.iff hr).1 h))]
    rw [this]
    refine (RCut_loop nodes edges F mask hl a b ha0 ha1 hb0 hb1 edges.length 1 [] (by omega) (by simp)).mono (fun r hr => ?_)
    rw [hr]
    rfl
theorem ReachCuts (l0_0 : List S43) (l0_1 : List S27) (l1 : List Int) (a2_0 a2_1 : Int) (hm0_0 : l0_0.length ≤ maxLen) (hw0_0 : ∀ x ∈ l0_0, x.f0.size ≤ maxLen ∧ (Lit.int .i64 x.f1).wf = true ∧ (Lit.int .i64 x.f2).wf = true) (hm0_1 : l0_1.length ≤ maxLen) (hw0_1 : ∀ x ∈ l0_1, (Lit.int .i64 x.f0).wf = true ∧ (Lit.int .i64 x.f1).wf = true)
    (hm1 : l1.length ≤ maxLen) (hw1 : ∀ x ∈ l1, (Lit.int .i64 x).wf = true) (y1 : l1.length * 8 ≤ 140737488351232) (w2_0 : (Lit.int .i64 a2_0).wf = true) (w2_1 : (Lit.int .i64 a2_1).wf = true) :
    ∃ k, stillagelaw07_ReachCuts.f k l0_0 l0_1 l1 a2_0 a2_1 = some true := by
  suffices h : EvP (fun k => stillagelaw07_ReachCuts.f k l0_0 l0_1 l1 a2_0 a2_1) (fun r => r = true) by
    obtain ⟨k, r, h1, h2⟩ := h.get
    exact ⟨k, by rw [h1, h2]⟩
  refine EvP.ebind awake_e (EvP.yes rfl (EvP.bind (Fits_e l0_0 l0_1 l1) (fun t ht => EvP.split (fun c => ?_) (fun _ => EvP.ret rfl))))
  obtain ⟨F, hml⟩ := ht c
  have hn := F.n
  have hm := F.m
  refine EvP.obind (own_f l0_0 l0_1 (by omega) (by omega)) (EvP.ebind (Evt.pure _) (EvP.yes (by simp; omega) ?_))
  rw [List.nil_append]
  by_cases ho : a2_0 < 0 ∨ (l0_0.length : Int) ≤ a2_0 ∨ a2_1 < 0 ∨ (l0_0.length : Int) ≤ a2_1
  · refine EvP.bind (Cut_out l0_0 l0_1 l1 a2_0 a2_1 ho) (fun x hx => ?_)
    have e : EvP (fun k => stillagelaw07_ReachCuts.j0 k l1 a2_0 a2_1 x.1 x.2 true l0_0 l0_1) (fun r => r = true) := by
      refine EvP.succ (fun k => stillagelaw07_ReachCuts.j0.eq_2 _ _ _ _ _ _ _ _ k) (EvP.yes rfl (EvP.yes hx.2 (EvP.ret ?_)))
      rw [hx.1]
      rfl
    refine EvP.split (fun _ => e) (fun c1 => EvP.split (fun _ => e) (fun c2 => EvP.split (fun _ => e) (fun c3 => ?_)))
    rw [decide_eq_true (by omega)]
    exact e
  · refine EvP.bind (Cut_e l0_0 l0_1 F l1 (by omega) a2_0 a2_1 (by omega) (by omega) (by omega) (by omega)) (fun x hx => EvP.no (by omega) (EvP.no (by omega) (EvP.no (by omega) ?_)))
    rw [decide_eq_false (by omega)]
    have hlen : x.1.length ≤ 100000 := by
      rw [hx.1]
      unfold cutList
      split
      · simp
      · have := cuts_length l0_0 l0_1 l1 a2_0 a2_1 1 l0_1.length
        omega
    refine EvP.succ (fun k => stillagelaw07_ReachCuts.j0.eq_2 _ _ _ _ _ _ _ _ k) (EvP.no (by simp) (EvP.yes hx.2 (EvP.bind (RCut_e l0_0 l0_1 F l1 (by omega) a2_0 a2_1 (by omega) (by omega) (by omega) (by omega)) (fun y hy => EvP.bind (Ints_eq (show x.1 = y by rw [hx.1, hy]) hlen) (fun t ht => EvP.ret ht)))))

end Go.Proofs.Ytkfoicfbmhalbaa.Pure
