/- stillagelaw09.ZoneJoined is true at every layout, mask and two numbers: no condition. -/
import Derived.OpenShut
import Derived.Test.YtkdfohmceokchaaEvt
import Derived.Test.YtkdfohmceokchaaBfs
import Derived.Test.YtkdfohmceokchaaPZoneJoinedx
set_option linter.unusedVariables false
set_option linter.unusedSimpArgs false
set_option maxRecDepth 10000
namespace Go.Proofs.Ytkdfohmceokchaa.Pure
open Go.RowKit Go.Proofs.Ytkdfohmceokchaa.PZoneJoined Go.Proofs.YtkdfohmceokchaaW.PrintWords Go.Proofs.YtkdfohmceokchaaW.PrintLast Go.Proofs.PlainEvt Go.Proofs.PlainBfs
theorem wsm {n : Int} (h0 : 0 ≤ n) (h1 : n ≤ 9223372036854775807) : wrap64 n = n := by unfold wrap64; omega
theorem wnext (i : Nat) (h : i ≤ 1000000) : wrap64 ((i : Int) + 1) = ((i + 1 : Nat) : Int) := by rw [wsm] <;> omega
theorem rd_g (r : List Int) (v : Int) : rd r v = g r v := rfl
def Pass (nodes : List S46) (a : Int) : Prop := (rd_T46 nodes a).f1 = 1
/-- Open edges from a to b: their devices are not named. -/
def EdgeM (edges : List S43) (mask : List Int) (a b : Int) : Prop := ∃ i : Nat, i < edges.length ∧ ¬ ((i : Int) + 1) ∈ mask ∧ (rd_T43 edges i).f0 = a ∧ (rd_T43 edges i).f1 = b
structure Fit (nodes : List S46) (edges : List S43) : Prop where
  n0 : 1 ≤ nodes.length
  n : nodes.length ≤ 40
  m : edges.length ≤ 120
  kinds : ∀ i : Nat, i < nodes.length → 1 ≤ (rd_T46 nodes i).f1 ∧ (rd_T46 nodes i).f1 ≤ 4 ∧ 0 ≤ (rd_T46 nodes i).f2 ∧ (rd_T46 nodes i).f2 ≤ 7
  ends : ∀ i : Nat, i < edges.length → 0 ≤ (rd_T43 edges i).f0 ∧ (rd_T43 edges i).f0 < (nodes.length : Int) ∧ 0 ≤ (rd_T43 edges i).f1 ∧ (rd_T43 edges i).f1 < (nodes.length : Int)
  ne : ∀ i : Nat, i < edges.length → (rd_T43 edges i).f0 ≠ (rd_T43 edges i).f1
  track : ∀ i : Nat, i < edges.length → Pass nodes (rd_T43 edges i).f0 ∨ Pass nodes (rd_T43 edges i).f1
  once : ∀ i j : Nat, i < edges.length → j < i → ¬ ((rd_T43 edges j).f0 = (rd_T43 edges i).f0 ∧ (rd_T43 edges j).f1 = (rd_T43 edges i).f1)
theorem EdgeM.ends {nodes : List S46} {edges : List S43} (F : Fit nodes edges) {mask : List Int} {a b : Int} (h : EdgeM edges mask a b) : 0 ≤ a ∧ a < (nodes.length : Int) ∧ 0 ≤ b ∧ b < (nodes.length : Int) := by
  obtain ⟨i, hi, _, rfl, rfl⟩ := h
  exact F.ends i hi
/-- The lengths of ways from s, told. -/
structure Lens (nodes : List S46) (edges : List S43) (mask : List Int) (s : Int) (r : List Int) : Prop where
  len : r.length = nodes.length
  ok : LensOk nodes.length s (fun a b => EdgeM edges mask a b ∧ (a = s ∨ Pass nodes a)) (g r)
  hi : ∀ v : Int, 0 ≤ v → v < nodes.length → g r v ≤ nodes.length
/-- The lengths of ways to s, told. -/
structure LensTo (nodes : List S46) (edges : List S43) (mask : List Int) (s : Int) (r : List Int) : Prop where
  len : r.length = nodes.length
  ok : LensOk nodes.length s (fun a b => EdgeM edges mask b a ∧ (a = s ∨ Pass nodes a)) (g r)
  hi : ∀ v : Int, 0 ≤ v → v < nodes.length → g r v ≤ nodes.length
theorem eq_of_g {r q : List Int} (hl : r.length = q.length) (h : ∀ v : Int, 0 ≤ v → v < r.length → g r v = g q v) : r = q := by
  apply List.ext_getElem hl
  intro i h1 h2
  have := h (i : Int) (by omega) (by omega)
  unfold g at this
  simpa [List.getD_eq_getElem?_getD, h1, h2] using this
theorem Lens.eq {nodes : List S46} {edges : List S43} {mask : List Int} {s : Int} {r q : List Int} (h : Lens nodes edges mask s r) (h' : Lens nodes edges mask s q) : r = q :=
  eq_of_g (h.1.trans h'.1.symm) (fun v h0 h1 => h.2.eq h'.2 v h0 (by rw [h.1] at h1; exact h1))
theorem LensTo.eq {nodes : List S46} {edges : List S43} {mask : List Int} {s : Int} {r q : List Int} (h : LensTo nodes edges mask s r) (h' : LensTo nodes edges mask s q) : r = q :=
  eq_of_g (h.1.trans h'.1.symm) (fun v h0 h1 => h.2.eq h'.2 v h0 (by rw [h.1] at h1; exact h1))
theorem Lens.to {nodes : List S46} {edges : List S43} {mask : List Int} {s t : Int} {r q : List Int} (h : Lens nodes edges mask s r) (h' : LensTo nodes edges mask t q) (hs0 : 0 ≤ s) (hs1 : s < nodes.length) (ht0 : 0 ≤ t) (ht1 : t < nodes.length) : g r t = g q s :=
  both hs0 hs1 ht0 ht1 h.2 h'.2
theorem Lens.congr {nodes : List S46} {edges : List S43} {mask mask' : List Int} {s : Int} {r : List Int} (h : Lens nodes edges mask s r) (he : ∀ i : Nat, i < edges.length → (((i : Int) + 1) ∈ mask ↔ ((i : Int) + 1) ∈ mask')) : Lens nodes edges mask' s r := by
  refine ⟨h.1, h.2.congr (fun a b => ?_), h.3⟩
  have : EdgeM edges mask a b ↔ EdgeM edges mask' a b := by
    constructor
    · rintro ⟨i, h1, h2, h3⟩
      exact ⟨i, h1, fun c => h2 ((he i h1).2 c), h3⟩
    · rintro ⟨i, h1, h2, h3⟩
      exact ⟨i, h1, fun c => h2 ((he i h1).1 c), h3⟩
  rw [this]
theorem LensTo.congr {nodes : List S46} {edges : List S43} {mask mask' : List Int} {s : Int} {r : List Int} (h : LensTo nodes edges mask s r) (he : ∀ i : Nat, i < edges.length → (((i : Int) + 1) ∈ mask ↔ ((i : Int) + 1) ∈ mask')) : LensTo nodes edges mask' s r := by
  refine ⟨h.1, h.2.congr (fun a b => ?_), h.3⟩
  have : EdgeM edges mask b a ↔ EdgeM edges mask' b a := by
    constructor
    · rintro ⟨i, h1, h2, h3⟩
      exact ⟨i, h1, fun c => h2 ((he i h1).2 c), h3⟩
    · rintro ⟨i, h1, h2, h3⟩
      exact ⟨i, h1, fun c => h2 ((he i h1).1 c), h3⟩
  rw [this]
/-- What is shut, told of the mask. -/
def Shut (edges : List S43) (mask : List Int) (sh : List Bool) : Prop := sh.length = edges.length + 1 ∧ ∀ j : Nat, 1 ≤ j → j ≤ edges.length → (sh.getD j false = true ↔ (j : Int) ∈ mask)
theorem shut_loop (mask : List Int) (hl : mask.length ≤ 10000) (n : Nat) : ∀ (i : Nat) (sh : List Bool), i + n = mask.length → EvP (fun k => reach_shut.l0 k sh mask (mask.length : Int) (i : Int)) (fun r => r.length = sh.length ∧
    ∀ j : Nat, 1 ≤ j → j < sh.length → r.getD j false = (sh.getD j false || decide ((j : Int) ∈ mask.drop i))) := by
  induction n with
  | zero =>
    intro i sh hi
    refine EvP.succ (fun k => reach_shut.l0.eq_2 _ _ _ _ k) (EvP.no (by omega) (EvP.ret ⟨rfl, fun j _ _ => ?_⟩))
    rw [List.drop_eq_nil_of_le (by omega)]
    simp
  | succ n ih =>
    intro i sh hi
    have hil : i < mask.length := by omega
    have hd : mask.drop i = mask[i] :: mask.drop (i + 1) := List.drop_eq_getElem_cons hil
    have hrd : rd mask (i : Int) = mask[i] := by simp [rd, List.getElem?_eq_getElem hil]
    have hw := wnext i (by omega)
    refine EvP.succ (fun k => reach_shut.l0.eq_2 _ _ _ _ k) (EvP.yes (by omega) (EvP.yes (by omega) (EvP.yes (by omega) ?_)))
    have skip : ¬ (rd mask (i : Int) ≥ 1 ∧ rd mask (i : Int) < (sh.length : Int)) → EvP (fun k => reach_shut.l0 k sh mask (mask.length : Int) (wrap64 ((i : Int) + 1))) (fun r => r.length = sh.length ∧ ∀ j : Nat, 1 ≤ j → j < sh.length → r.getD j false = (sh.getD j false || decide ((j : Int) ∈ mask.drop i))) := by
      intro c
      rw [hw]
      refine (ih (i + 1) sh (by omega)).mono (fun r ⟨h1, h2⟩ => ⟨h1, fun j hj1 hj2 => ?_⟩)
      rw [h2 j hj1 hj2, hd]
      have : ¬ (j : Int) = mask[i] := by omega
      simp only [List.mem_cons, this, false_or]
    refine EvP.split (fun c1 => EvP.split (fun c2 => EvP.yes (by omega) ?_) (fun c2 => skip (fun c => c2 c.2))) (fun c1 => skip (fun c => c1 c.1))
    rw [hw]
    refine (ih (i + 1) (sh.set (rd mask (i : Int)).toNat true) (by omega)).mono (fun r ⟨h1, h2⟩ => ⟨by rw [h1, List.length_set], fun j hj1 hj2 => ?_⟩)
    rw [h2 j hj1 (by rw [List.length_set]; exact hj2), hd]
    simp only [List.mem_cons]
    by_cases cj : (rd mask (i : Int)).toNat = j
    · have : (j : Int) = mask[i] := by omega
      simp [List.getD_eq_getElem?_getD, cj, hj2, this]
    · have : ¬ (j : Int) = mask[i] := by omega
      simp [List.getD_eq_getElem?_getD, cj, this]
theorem shut_e (nodes : List S46) (edges : List S43) (mask : List Int) (hl : mask.length ≤ 10000) (hm : edges.length ≤ 1000) : EvP (fun k => reach_shut.f k nodes edges mask) (Shut edges mask) := by
  have hw : wrap64 ((edges.length : Int) + 1) = ((edges.length + 1 : Nat) : Int) := by rw [wsm] <;> omega
  refine EvP.yes (by rw [hw]; omega) (EvP.yes (by rw [hw]; omega) ?_)
  rw [hw]
  refine (shut_loop mask hl mask.length 0 _ (by omega)).mono (fun r ⟨h1, h2⟩ => ⟨by rw [h1, List.length_replicate]; omega, fun j hj1 hj2 => ?_⟩)
  rw [h2 j hj1 (by rw [List.length_replicate]; omega)]
  have : (List.replicate (((edges.length + 1 : Nat) : Int)).toNat false).getD j false = false := by
    rw [List.getD_eq_getElem?_getD, List.getElem?_replicate]
    split <;> rfl
  rw [this]
  simp
def Ed1 (nodes : List S46) (edges : List S43) (sh : List Bool) (s : Int) (a b : Int) : Prop := (∃ i : Nat, i < edges.length ∧ sh.getD (i + 1) false = false ∧ (rd_T43 edges i).f1 = a ∧ (rd_T43 edges i).f0 = b) ∧ (a = s ∨ Pass nodes a)
theorem Ed1.ends {nodes : List S46} {edges : List S43} (F : Fit nodes edges) {sh : List Bool} {s a b : Int} (h : Ed1 nodes edges sh s a b) : 0 ≤ a ∧ a < (nodes.length : Int) ∧ 0 ≤ b ∧ b < (nodes.length : Int) := by
  obtain ⟨⟨i, hi, _, rfl, rfl⟩, _⟩ := h
  have := F.ends i hi
  exact ⟨this.2.2.1, this.2.2.2, this.1, this.2.1⟩
abbrev Res1 (nodes : List S46) (edges : List S43) (sh : List Bool) (s : Int) (res : List Int) : Prop := LensOk nodes.length s (Ed1 nodes edges sh s) (g res) ∧ res.length = nodes.length ∧ ∀ v : Int, 0 ≤ v → v < nodes.length → g res v ≤ nodes.length
theorem inner1 (nodes : List S46) (edges : List S43) (F : Fit nodes edges) (sh : List Bool) (hsh : sh.length = edges.length + 1) (s u : Int) (hK : u = s ∨ Pass nodes u) (M : Nat) (hM : M ≤ 1000)
    (next : ∀ r q : List Int, q.length + cnt r ≤ M → Inv nodes.length s (Ed1 nodes edges sh s) r q → EvP (fun k => reach_lengths_1.l0 k sh s r q nodes edges) (Res1 nodes edges sh s)) (n : Nat) :
    ∀ (i : Nat) (r rest : List Int), i + n = edges.length → rest.length + cnt r ≤ M → Inv nodes.length s (Ed1 nodes edges sh s) r (u :: rest) →
      (∀ j : Nat, j < i → sh.getD (j + 1) false = false → (rd_T43 edges j).f1 = u → 0 ≤ g r (rd_T43 edges j).f0 ∧ g r (rd_T43 edges j).f0 ≤ g r u + 1) →
      EvP (fun k => reach_lengths_1.l1 k sh s r (u :: rest) u edges (edges.length : Int) (i : Int) nodes edges) (Res1 nodes edges sh s) := by
  induction n with
  | zero =>
    intro i r rest hi hc hI hJ
    refine EvP.succ (fun k => reach_lengths_1.l1.eq_2 _ _ _ _ _ _ _ _ _ _ k) (EvP.no (by omega) (EvP.yes (by simp; omega) (next r rest hc (hI.pop (fun b hb => ?_)))))
    obtain ⟨⟨j, hj, h1, h2, h3⟩, _⟩ := hb
    have := hJ j (by omega) h1 h2
    rw [h3] at this
    exact this
  | succ n ih =>
    intro i r rest hi hc hI hJ
    have hm := F.m
    have hn := F.n
    have hw : wrap64 ((i : Int) + 1) = ((i + 1 : Nat) : Int) := by rw [wsm] <;> omega
    have hu := hI.qin u (by simp)
    have E := F.ends i (by omega)
    have hlen := hI.len
    have hgo : ∀ r' rest', rest'.length + cnt r' ≤ M → Inv nodes.length s (Ed1 nodes edges sh s) r' (u :: rest') → (∀ j : Nat, j < i + 1 → sh.getD (j + 1) false = false → (rd_T43 edges j).f1 = u → 0 ≤ g r' (rd_T43 edges j).f0 ∧ g r' (rd_T43 edges j).f0 ≤ g r' u + 1) →
      EvP (fun k => reach_lengths_1.l1 k sh s r' (u :: rest') u edges (edges.length : Int) (wrap64 ((i : Int) + 1)) nodes edges) (Res1 nodes edges sh s) := by
      intro r' rest' h1 h2 h3
      rw [hw]
      exact ih (i + 1) r' rest' (by omega) h1 h2 h3
    have hsd : rdOf false sh (wrap64 ((i : Int) + 1)) = sh.getD (i + 1) false := by rw [hw]; rfl
    refine EvP.succ (fun k => reach_lengths_1.l1.eq_2 _ _ _ _ _ _ _ _ _ _ k) (EvP.yes (by omega) (EvP.yes (by omega) (EvP.yes (by omega) (EvP.yes (by omega) (EvP.yes (by omega) (EvP.split (fun c1 => ?_) (fun c1' => EvP.split (fun c2 => EvP.yes (by omega) (EvP.yes (by omega) (EvP.split (fun c3 => EvP.yes (by omega) (EvP.yes (by omega) (EvP.yes (by simp; omega) ?_))) (fun c3 => ?_)))) (fun c2 => ?_))))))))
    · rw [hsd] at c1
      refine hgo r rest hc hI (fun j hj h1 h2 => ?_)
      by_cases hji : j = i
      · subst hji; rw [c1] at h1; cases h1
      · exact hJ j (by omega) h1 h2
    · have c1 : ¬ sh.getD (i + 1) false = true := by rw [hsd] at c1'; exact c1'
      have hEd : Ed1 nodes edges sh s u (rd_T43 edges (i : Int)).f0 := ⟨⟨i, by omega, by simpa using c1, c2, rfl⟩, hK⟩
      have hub := hI.hi u hu.1 hu.2.1
      have hA := hI.assign (b := (rd_T43 edges (i : Int)).f0) E.1 E.2.1 c3 hEd (fun a b h => Ed1.ends F h)
      have hwr : wrap64 (rd r u + 1) = g r u + 1 := by rw [rd_g, wsm] <;> omega
      have hcs := cnt_set (r := r) (x := g r u + 1) E.1 (by omega) c3 (by omega)
      have G : ∀ v : Int, 0 ≤ v → g (r.set ((rd_T43 edges (i : Int)).f0).toNat (g r u + 1)) v = if v = (rd_T43 edges (i : Int)).f0 then g r u + 1 else g r v := fun v hv => g_set E.1 (by omega) hv
      have hub' : ¬ u = (rd_T43 edges (i : Int)).f0 := by intro e; rw [rd_g, ← e] at c3; omega
      rw [hwr]
      refine hgo _ (rest ++ [(rd_T43 edges (i : Int)).f0]) (by rw [List.length_append]; simp; omega) hA (fun j hj h1 h2 => ?_)
      have Ej := F.ends j (by omega)
      rw [G _ Ej.1, G u hu.1, if_neg hub']
      by_cases hji : j = i
      · subst hji; rw [if_pos rfl]; omega
      · have := hJ j (by omega) h1 h2
        split
        · omega
        · exact this
    · refine hgo r rest hc hI (fun j hj h1 h2 => ?_)
      by_cases hji : j = i
      · subst hji
        have := hI.top u rest rfl _ E.1 E.2.1
        rw [rd_g] at c3
        omega
      · exact hJ j (by omega) h1 h2
    · refine hgo r rest hc hI (fun j hj h1 h2 => ?_)
      by_cases hji : j = i
      · subst hji; exact absurd h2 c2
      · exact hJ j (by omega) h1 h2
theorem outer1 (nodes : List S46) (edges : List S43) (F : Fit nodes edges) (sh : List Bool) (hsh : sh.length = edges.length + 1) (s : Int) (M : Nat) :
    M ≤ 1000 → ∀ r q : List Int, q.length + cnt r ≤ M → Inv nodes.length s (Ed1 nodes edges sh s) r q → EvP (fun k => reach_lengths_1.l0 k sh s r q nodes edges) (Res1 nodes edges sh s) := by
  induction M with
  | zero =>
    intro _ r q hc hI
    obtain rfl : q = [] := List.length_eq_zero_iff.1 (by omega)
    exact EvP.succ (fun k => reach_lengths_1.l0.eq_2 _ _ _ _ _ _ k) (EvP.no (by simp) (EvP.ret ⟨hI.good (fun a b h => Ed1.ends F h), hI.len, fun v h0 h1 => by have := hI.hi v h0 h1; omega⟩))
  | succ M ih =>
    intro hM r q hc hI
    cases q with
    | nil => exact EvP.succ (fun k => reach_lengths_1.l0.eq_2 _ _ _ _ _ _ k) (EvP.no (by simp) (EvP.ret ⟨hI.good (fun a b h => Ed1.ends F h), hI.len, fun v h0 h1 => by have := hI.hi v h0 h1; omega⟩))
    | cons u rest =>
      have hu := hI.qin u (by simp)
      have h0 : rd (u :: rest) 0 = u := rfl
      have hlen : rest.length + cnt r ≤ M := by simp at hc; omega
      have next := ih (by omega)
      refine EvP.succ (fun k => reach_lengths_1.l0.eq_2 _ _ _ _ _ _ k) (EvP.yes (by simp) (EvP.yes (by simp) ?_))
      rw [h0]
      by_cases hK : u = s ∨ Pass nodes u
      · have ej : EvP (fun k => reach_lengths_1.j1 k sh s r (u :: rest) u false nodes edges) (Res1 nodes edges sh s) := EvP.succ (fun k => reach_lengths_1.j1.eq_2 _ _ _ _ _ _ _ _ k) (EvP.no (by simp) (inner1 nodes edges F sh hsh s u hK M (by omega) next edges.length 0 r rest (by omega) hlen hI (fun j hj => by omega)))
        refine EvP.split (fun _ => ej) (fun c => EvP.yes hu.1 (EvP.yes hu.2.1 ?_))
        have : ((rd_T46 nodes u).f1 != 1) = false := by simpa [Pass] using hK.resolve_left c
        rw [this]
        exact ej
      · have e := next r rest hlen (hI.pop (fun b hb => absurd hb.2 hK))
        refine EvP.no (fun c => hK (.inl c)) (EvP.yes hu.1 (EvP.yes hu.2.1 ?_))
        have : ((rd_T46 nodes u).f1 != 1) = true := by
          simp only [bne_iff_ne, ne_eq]
          exact fun c => hK (.inr c)
        rw [this]
        exact EvP.succ (fun k => reach_lengths_1.j1.eq_2 _ _ _ _ _ _ _ _ k) (EvP.yes rfl (EvP.yes (by simp; omega) e))
theorem lens1_sh (nodes : List S46) (edges : List S43) (F : Fit nodes edges) (sh : List Bool) (hsh : sh.length = edges.length + 1) (s : Int) (h0 : 0 ≤ s) (h1 : s < (nodes.length : Int)) :
    EvP (fun k => reach_lengths_1.f k nodes edges sh s 1) (Res1 nodes edges sh s) := by
  have hn := F.n
  have hn0 := F.n0
  refine EvP.obind (a := List.replicate nodes.length (-1)) ?_ (EvP.yes h0 (EvP.yes (by simp; omega) ?_))
  · unfold slices_Repeat_int_int.f
    rw [if_pos ⟨rfl, by omega, by omega⟩]
    simp [rd]
  · refine outer1 nodes edges F sh hsh s 1000 (by omega) _ [s] ?_ (Inv.init h0 h1)
    have : cnt ((List.replicate nodes.length (-1 : Int)).set s.toNat 0) ≤ nodes.length := by
      have := List.countP_le_length (p := fun x : Int => decide (x < 0)) (l := (List.replicate nodes.length (-1 : Int)).set s.toNat 0)
      simpa [cnt] using this
    simp; omega
theorem lens1_e (nodes : List S46) (edges : List S43) (F : Fit nodes edges) (mask : List Int) (sh : List Bool) (hs : Shut edges mask sh) (s : Int) (h0 : 0 ≤ s) (h1 : s < (nodes.length : Int)) :
    EvP (fun k => reach_lengths_1.f k nodes edges sh s 1) (LensTo nodes edges mask s) := by
  refine (lens1_sh nodes edges F sh hs.1 s h0 h1).mono (fun r ⟨h, hl, hh⟩ => ⟨hl, h.congr (fun a b => ?_), hh⟩)
  have : (∃ i : Nat, i < edges.length ∧ sh.getD (i + 1) false = false ∧ (rd_T43 edges i).f1 = a ∧ (rd_T43 edges i).f0 = b) ↔ EdgeM edges mask b a := by
    constructor
    · rintro ⟨i, h1, h2, h3, h4⟩
      refine ⟨i, h1, fun c => ?_, h4, h3⟩
      have := (hs.2 (i + 1) (by omega) (by omega)).2 (by simpa using c)
      rw [h2] at this
      cases this
    · rintro ⟨i, h1, h2, h4, h3⟩
      refine ⟨i, h1, ?_, h3, h4⟩
      rw [Bool.eq_false_iff]
      intro c
      exact h2 (by simpa using (hs.2 (i + 1) (by omega) (by omega)).1 c)
  show _ ∧ _ ↔ _
  rw [this]
theorem To_e (nodes : List S46) (edges : List S43) (F : Fit nodes edges) (mask : List Int) (hl : mask.length ≤ 10000) (s : Int) (h0 : 0 ≤ s) (h1 : s < (nodes.length : Int)) :
    EvP (fun k => reach_To.f k nodes edges mask s) (fun r => LensTo nodes edges mask s r.1 ∧ r.2 = 0) := by
  have hm := F.m
  refine EvP.no (by omega) ?_
  rw [decide_eq_false (by omega)]
  refine EvP.succ (fun k => reach_To.j0.eq_2 _ _ _ _ _ k) (EvP.no (by simp) (EvP.bind (shut_e nodes edges mask hl (by omega)) (fun sh hs => EvP.bind (lens1_e nodes edges F mask sh hs s h0 h1) (fun r hr => EvP.ret ⟨hr, rfl⟩))))
theorem To_out (nodes : List S46) (edges : List S43) (mask : List Int) (s : Int) (h : s < 0 ∨ (nodes.length : Int) ≤ s) : EvP (fun k => reach_To.f k nodes edges mask s) (fun r => r.1 = [] ∧ r.2 = 1) := by
  have e : EvP (fun k => reach_To.j0 k mask s true nodes edges) (fun r => r.1 = [] ∧ r.2 = 1) := EvP.succ (fun k => reach_To.j0.eq_2 _ _ _ _ _ k) (EvP.yes rfl (EvP.ret ⟨rfl, rfl⟩))
  refine EvP.split (fun _ => e) (fun c => ?_)
  rw [decide_eq_true (by omega)]
  exact e
theorem Name_e (s : ByteArray) : EvP (fun k => stillageref06_Name.f k s) (fun _ => True) := by
  have l0 : ∀ (n i : Nat), i + n = s.size → s.size ≤ 8 → EvP (fun k => stillageref06_Name.l0 k s (i : Int)) (fun _ => True) := by
    intro n
    induction n with
    | zero =>
      intro i hi h8
      exact EvP.succ (fun k => stillageref06_Name.l0.eq_2 _ _ k) (EvP.no (by omega) (EvP.ret trivial))
    | succ n ih =>
      intro i hi h8
      have hg : EvP (fun k => stillageref06_Name.l0 k s (wrap64 ((i : Int) + 1))) (fun _ => True) := by
        rw [wnext i (by omega)]
        exact ih (i + 1) (by omega) h8
      have hf : EvP (fun _ => some false) (fun _ => True) := EvP.ret trivial
      refine EvP.succ (fun k => stillageref06_Name.l0.eq_2 _ _ k) (EvP.yes (by omega) (EvP.yes (by omega) (EvP.split (fun _ => EvP.split (fun _ => EvP.split (fun _ => hg) (fun _ => EvP.split (fun _ => hf) (fun _ => EvP.split (fun _ => hg) (fun _ => hf)))) (fun _ => EvP.split (fun _ => hg) (fun _ => EvP.split (fun _ => hf) (fun _ => hf)))) (fun _ => EvP.split (fun _ => EvP.split (fun _ => hf) (fun _ => EvP.split (fun _ => hg) (fun _ => hf))) (fun _ => EvP.split (fun _ => hf) (fun _ => hf))))))
  refine EvP.split (fun _ => EvP.succ (fun k => stillageref06_Name.j0.eq_2 _ _ k) (EvP.yes rfl (EvP.ret trivial))) (fun _ => ?_)
  by_cases c : (s.size : Int) > 8
  · rw [decide_eq_true c]
    exact EvP.succ (fun k => stillageref06_Name.j0.eq_2 _ _ k) (EvP.yes rfl (EvP.ret trivial))
  · rw [decide_eq_false c]
    exact EvP.succ (fun k => stillageref06_Name.j0.eq_2 _ _ k) (EvP.no (by simp) (l0 s.size 0 (by omega) (by omega)))
theorem Find_e (nodes : List S46) (edges : List S43) (s : ByteArray) (hn : nodes.length ≤ 1000) : EvP (fun k => stillageref06_Find.f k nodes edges s) (fun _ => True) := by
  have l0 : ∀ (n i : Nat), i + n = nodes.length → EvP (fun k => stillageref06_Find.l0 k s (nodes.length : Int) (i : Int) nodes edges) (fun _ => True) := by
    intro n
    induction n with
    | zero =>
      intro i hi
      exact EvP.succ (fun k => stillageref06_Find.l0.eq_2 _ _ _ _ _ k) (EvP.no (by omega) (EvP.ret trivial))
    | succ n ih =>
      intro i hi
      refine EvP.succ (fun k => stillageref06_Find.l0.eq_2 _ _ _ _ _ k) (EvP.yes (by omega) (EvP.yes (by omega) (EvP.yes (by omega) (EvP.split (fun _ => EvP.ret trivial) (fun _ => ?_)))))
      rw [wnext i (by omega)]
      exact ih (i + 1) (by omega)
  exact l0 nodes.length 0 (by omega)
abbrev EdgeOk (nodes : List S46) (edges : List S43) (i : Nat) : Prop :=
  (0 ≤ (rd_T43 edges i).f0 ∧ (rd_T43 edges i).f0 < (nodes.length : Int) ∧ 0 ≤ (rd_T43 edges i).f1 ∧ (rd_T43 edges i).f1 < (nodes.length : Int)) ∧ (rd_T43 edges i).f0 ≠ (rd_T43 edges i).f1 ∧ (Pass nodes (rd_T43 edges i).f0 ∨ Pass nodes (rd_T43 edges i).f1) ∧
    ∀ j : Nat, j < i → ¬ ((rd_T43 edges j).f0 = (rd_T43 edges i).f0 ∧ (rd_T43 edges j).f1 = (rd_T43 edges i).f1)
theorem Good_l2 (nodes : List S46) (edges : List S43) (hm : edges.length ≤ 120) (i : Nat) (hi : i < edges.length) (P : Bool → Prop) (hf : P false)
    (next : (∀ j : Nat, j < i → ¬ ((rd_T43 edges j).f0 = (rd_T43 edges i).f0 ∧ (rd_T43 edges j).f1 = (rd_T43 edges i).f1)) → EvP (fun k => stillageref06_Good.l1 k (edges.length : Int) (wrap64 ((i : Int) + 1)) nodes edges) P) (n : Nat) :
    ∀ j : Nat, j + n = i → (∀ j' : Nat, j' < j → ¬ ((rd_T43 edges j').f0 = (rd_T43 edges i).f0 ∧ (rd_T43 edges j').f1 = (rd_T43 edges i).f1)) → EvP (fun k => stillageref06_Good.l2 k (i : Int) (j : Int) (edges.length : Int) (i : Int) nodes edges) P := by
  induction n with
  | zero =>
    intro j hj hp
    obtain rfl : j = i := by omega
    exact EvP.succ (fun k => stillageref06_Good.l2.eq_2 _ _ _ _ _ _ k) (EvP.no (by omega) (next hp))
  | succ n ih =>
    intro j hj hp
    refine EvP.succ (fun k => stillageref06_Good.l2.eq_2 _ _ _ _ _ _ k) (EvP.yes (by omega) (EvP.yes (by omega) (EvP.yes (by omega) (EvP.yes (by omega) (EvP.yes (by omega) (EvP.split (fun _ => EvP.ret hf) (fun c => ?_)))))))
    rw [wnext j (by omega)]
    refine ih (j + 1) (by omega) (fun j' hj' => ?_)
    by_cases e : j' = j
    · subst e
      intro h
      apply c
      simp [h.1, h.2]
    · exact hp j' (by omega)
theorem Good_l1 (nodes : List S46) (edges : List S43) (hm : edges.length ≤ 120) (n : Nat) : ∀ i : Nat, i + n = edges.length → EvP (fun k => stillageref06_Good.l1 k (edges.length : Int) (i : Int) nodes edges) (fun b => b = true → ∀ j : Nat, i ≤ j → j < edges.length → EdgeOk nodes edges j) := by
  induction n with
  | zero =>
    intro i hi
    exact EvP.succ (fun k => stillageref06_Good.l1.eq_2 _ _ _ _ k) (EvP.no (by omega) (EvP.ret (fun _ j h1 h2 => by omega)))
  | succ n ih =>
    intro i hi
    have hff : (false = true) → ∀ j : Nat, i ≤ j → j < edges.length → EdgeOk nodes edges j := fun h => by cases h
    have bad : ∀ (x6 x7 : Int), EvP (fun k => stillageref06_Good.j3 k (i : Int) x6 x7 (edges.length : Int) (i : Int) true nodes edges) (fun b => b = true → ∀ j : Nat, i ≤ j → j < edges.length → EdgeOk nodes edges j) := fun x6 x7 =>
      EvP.succ (fun k => stillageref06_Good.j3.eq_2 _ _ _ _ _ _ _ _ k) (EvP.yes rfl (EvP.ret hff))
    refine EvP.succ (fun k => stillageref06_Good.l1.eq_2 _ _ _ _ k) (EvP.yes (by omega) (EvP.yes (by omega) (EvP.yes (by omega) (EvP.split (fun _ => bad _ _) (fun c1 => EvP.split (fun _ => bad _ _) (fun c2 => EvP.split (fun _ => bad _ _) (fun c3 => EvP.split (fun _ => bad _ _) (fun c4 => ?_))))))))
    by_cases c5 : (rd_T43 edges (i : Int)).f0 = (rd_T43 edges (i : Int)).f1
    · rw [show ((rd_T43 edges (i : Int)).f0 == (rd_T43 edges (i : Int)).f1) = true from by simpa using c5]
      exact bad _ _
    · rw [show ((rd_T43 edges (i : Int)).f0 == (rd_T43 edges (i : Int)).f1) = false from by simpa using c5]
      have go : (Pass nodes (rd_T43 edges (i : Int)).f0 ∨ Pass nodes (rd_T43 edges (i : Int)).f1) → EvP (fun k => stillageref06_Good.j4 k (i : Int) (edges.length : Int) (i : Int) false nodes edges) (fun b => b = true → ∀ j : Nat, i ≤ j → j < edges.length → EdgeOk nodes edges j) := by
        intro hp
        refine EvP.succ (fun k => stillageref06_Good.j4.eq_2 _ _ _ _ _ _ k) (EvP.no (by simp) (Good_l2 nodes edges hm i (by omega) _ hff (fun hd => ?_) i 0 (by omega) (fun j' hj' => by omega)))
        rw [wnext i (by omega)]
        refine (ih (i + 1) (by omega)).mono (fun b h hb j h1 h2 => ?_)
        by_cases e : j = i
        · subst e
          exact ⟨⟨by omega, by omega, by omega, by omega⟩, c5, hp, hd⟩
        · exact h hb j (by omega) h2
      refine EvP.succ (fun k => stillageref06_Good.j3.eq_2 _ _ _ _ _ _ _ _ k) (EvP.no (by simp) (EvP.yes (by omega) (EvP.yes (by omega) (EvP.split (fun c6 => go (.inl c6)) (fun c6 => EvP.yes (by omega) (EvP.yes (by omega) ?_))))))
      by_cases c7 : (rd_T46 nodes (rd_T43 edges (i : Int)).f1).f1 = 1
      · rw [show ((rd_T46 nodes (rd_T43 edges (i : Int)).f1).f1 != 1) = false from by simpa using c7]
        exact go (.inr c7)
      · rw [show ((rd_T46 nodes (rd_T43 edges (i : Int)).f1).f1 != 1) = true from by simpa using c7]
        exact EvP.succ (fun k => stillageref06_Good.j4.eq_2 _ _ _ _ _ _ k) (EvP.yes rfl (EvP.ret hff))
abbrev NodeOk (nodes : List S46) (i : Nat) : Prop := 1 ≤ (rd_T46 nodes i).f1 ∧ (rd_T46 nodes i).f1 ≤ 4 ∧ 0 ≤ (rd_T46 nodes i).f2 ∧ (rd_T46 nodes i).f2 ≤ 7
theorem Good_l0 (nodes : List S46) (edges : List S43) (hn : nodes.length ≤ 40) (hm : edges.length ≤ 120) (n : Nat) : ∀ i : Nat, i + n = nodes.length → EvP (fun k => stillageref06_Good.l0 k (nodes.length : Int) (i : Int) nodes edges) (fun b => b = true → (∀ j : Nat, i ≤ j → j < nodes.length → NodeOk nodes j) ∧ ∀ j : Nat, j < edges.length → EdgeOk nodes edges j) := by
  induction n with
  | zero =>
    intro i hi
    refine EvP.succ (fun k => stillageref06_Good.l0.eq_2 _ _ _ _ k) (EvP.no (by omega) ((Good_l1 nodes edges hm edges.length 0 (by omega)).mono (fun b h hb => ⟨fun j h1 h2 => by omega, fun j hj => h hb j (by omega) hj⟩)))
  | succ n ih =>
    intro i hi
    have hff : (false = true) → (∀ j : Nat, i ≤ j → j < nodes.length → NodeOk nodes j) ∧ ∀ j : Nat, j < edges.length → EdgeOk nodes edges j := fun h => by cases h
    refine EvP.succ (fun k => stillageref06_Good.l0.eq_2 _ _ _ _ k) (EvP.yes (by omega) (EvP.yes (by omega) (EvP.yes (by omega) (EvP.bind (Name_e _) (fun t _ => EvP.split (fun _ => EvP.split (fun _ => EvP.ret hff) (fun c1 => EvP.split (fun _ => EvP.ret hff) (fun c2 => EvP.split (fun _ => EvP.ret hff) (fun c3 => EvP.split (fun _ => EvP.ret hff) (fun c4 => EvP.bind (Find_e nodes edges _ (by omega)) (fun t _ => EvP.split (fun _ => ?_) (fun _ => EvP.ret hff))))))) (fun _ => EvP.ret hff))))))
    rw [wnext i (by omega)]
    refine (ih (i + 1) (by omega)).mono (fun b h hb => ⟨fun j h1 h2 => ?_, (h hb).2⟩)
    by_cases e : j = i
    · subst e
      exact ⟨by omega, by omega, by omega, by omega⟩
    · exact (h hb).1 j (by omega) h2
theorem Good_e (nodes : List S46) (edges : List S43) : EvP (fun k => stillageref06_Good.f k nodes edges) (fun b => b = true → Fit nodes edges) := by
  have bad : EvP (fun k => stillageref06_Good.j0 k true nodes edges) (fun b => b = true → Fit nodes edges) := EvP.succ (fun k => stillageref06_Good.j0.eq_2 _ _ _ k) (EvP.yes rfl (EvP.ret (fun h => by cases h)))
  refine EvP.split (fun _ => bad) (fun c1 => EvP.split (fun _ => bad) (fun c2 => ?_))
  by_cases c3 : (edges.length : Int) > 120
  · rw [decide_eq_true c3]
    exact bad
  · rw [decide_eq_false c3]
    refine EvP.succ (fun k => stillageref06_Good.j0.eq_2 _ _ _ k) (EvP.no (by simp) ((Good_l0 nodes edges (by omega) (by omega) nodes.length 0 (by omega)).mono (fun b h hb => ?_)))
    obtain ⟨hN, hE⟩ := h hb
    exact ⟨by omega, by omega, by omega, fun i hi => hN i (by omega) hi, fun i hi => (hE i hi).1, fun i hi => (hE i hi).2.1, fun i hi => (hE i hi).2.2.1, fun i j hi hj => (hE i hi).2.2.2 j hj⟩
theorem Fits_e (nodes : List S46) (edges : List S43) (mask : List Int) : EvP (fun k => stillagelaw07_Fits.f k nodes edges mask) (fun b => b = true → Fit nodes edges ∧ mask.length ≤ 200) := by
  refine EvP.split (fun c => EvP.bind (Good_e nodes edges) (fun t ht => EvP.ret (fun h => ⟨ht h, by omega⟩))) (fun _ => EvP.ret (fun h => by cases h))
theorem Index_loop (l : List Int) (a : Int) (hl : l.length ≤ 100000) (n : Nat) : ∀ i : Nat, i + n = l.length → EvP (fun k => slices_Index_int_int.l0 k l a (l.length : Int) (i : Int)) (fun r => 0 ≤ r ↔ a ∈ l.drop i) := by
  induction n with
  | zero =>
    intro i hi
    refine EvP.succ (fun k => slices_Index_int_int.l0.eq_2 _ _ _ _ k) (EvP.no (by omega) (EvP.ret ?_))
    rw [List.drop_eq_nil_of_le (by omega)]
    simp
  | succ n ih =>
    intro i hi
    have hil : i < l.length := by omega
    have hrd : rd l (i : Int) = l[i] := by simp [rd, List.getElem?_eq_getElem hil]
    rw [List.drop_eq_getElem_cons hil]
    refine EvP.succ (fun k => slices_Index_int_int.l0.eq_2 _ _ _ _ k) (EvP.yes (by omega) (EvP.yes (by omega) (EvP.yes (by omega) ?_)))
    rw [hrd, wnext i (by omega)]
    refine EvP.split (fun c => EvP.ret ?_) (fun c => (ih (i + 1) (by omega)).mono (fun r h => ?_))
    · rw [c]
      exact ⟨fun _ => List.mem_cons_self, fun _ => by omega⟩
    · rw [h, List.mem_cons]
      exact ⟨.inr, fun h => h.elim (fun e => absurd e c) id⟩
theorem Contains_e (l : List Int) (a : Int) (hl : l.length ≤ 100000) : EvP (fun k => slices_Contains_int_int.f k l a) (fun t => t = true ↔ a ∈ l) :=
  EvP.bind (Index_loop l a hl l.length 0 (by omega)) (fun r h => EvP.ret (by rw [List.drop_zero] at h; rw [decide_eq_true_iff, ← h]))
/-- A device (by its number less one) that goes off from a. -/
def OffP (edges : List S43) (a : Int) (d : Int) : Prop := ∃ e : Nat, e < edges.length ∧ d = ((e + 1 : Nat) : Int) ∧ (rd_T43 edges (e : Int)).f0 = a
theorem Out_loop (nodes : List S46) (edges : List S43) (hm : edges.length ≤ 1000) (a : Int) (h0 : 0 ≤ a) (h1 : a < (nodes.length : Int)) (n : Nat) : ∀ (i : Nat) (acc : List Int), i + n = edges.length → acc.length ≤ i → (∀ x ∈ acc, OffP edges a x) → (∀ e : Nat, e < i → (rd_T43 edges (e : Int)).f0 = a → ((e + 1 : Nat) : Int) ∈ acc) →
    EvP (fun k => layout_Out.l0 k a acc edges (edges.length : Int) (i : Int) nodes edges) (fun r => r.length ≤ edges.length ∧ ∀ x, x ∈ r ↔ OffP edges a x) := by
  induction n with
  | zero =>
    intro i acc hi hl ha hc
    refine EvP.succ (fun k => layout_Out.l0.eq_2 _ _ _ _ _ _ _ k) (EvP.no (by omega) (EvP.ret ⟨by omega, fun x => ⟨ha x, ?_⟩⟩))
    rintro ⟨e, he, rfl, hf⟩
    exact hc e (by omega) hf
  | succ n ih =>
    intro i acc hi hl ha hc
    have hn : ¬ (rd_T43 edges (i : Int)).f0 = a → EvP (fun k => layout_Out.l0 k a acc edges (edges.length : Int) (wrap64 ((i : Int) + 1)) nodes edges) (fun r => r.length ≤ edges.length ∧ ∀ x, x ∈ r ↔ OffP edges a x) := by
      intro hne
      rw [wnext i (by omega)]
      refine ih (i + 1) acc (by omega) (by omega) ha (fun e he hf => ?_)
      by_cases h : e = i
      · subst h; exact absurd hf hne
      · exact hc e (by omega) hf
    refine EvP.succ (fun k => layout_Out.l0.eq_2 _ _ _ _ _ _ _ k) (EvP.yes (by omega) (EvP.yes (by omega) (EvP.yes (by omega) (EvP.split (fun c => EvP.yes h1 (EvP.yes (by omega) (EvP.yes (by omega) ?_))) hn))))
    rw [wnext i (by omega)]
    refine ih (i + 1) _ (by omega) (by simp; omega) (fun x hx => ?_) (fun e he hf => ?_)
    · rcases List.mem_append.1 hx with hx | hx
      · exact ha x hx
      · exact ⟨i, by omega, by simpa using hx, c⟩
    · by_cases h : e = i
      · subst h; simp
      · exact List.mem_append.2 (.inl (hc e (by omega) hf))
theorem Out_e (nodes : List S46) (edges : List S43) (hm : edges.length ≤ 1000) (a : Int) (h0 : 0 ≤ a) (h1 : a < (nodes.length : Int)) : EvP (fun k => layout_Out.f k nodes edges a) (fun r => r.length ≤ edges.length ∧ ∀ x, x ∈ r ↔ OffP edges a x) :=
  Out_loop nodes edges hm a h0 h1 edges.length 0 [] (by omega) (by simp) (fun x hx => by simp at hx) (fun e he => by omega)
theorem Out_sorted (nodes : List S46) (edges : List S43) (hm : edges.length ≤ 1000) (a : Int) (h0 : 0 ≤ a) (h1 : a < (nodes.length : Int)) (n : Nat) : ∀ (i : Nat) (acc : List Int), i + n = edges.length → acc.length ≤ i → acc.Pairwise (· < ·) → (∀ x ∈ acc, x ≤ (i : Int)) →
    EvP (fun k => layout_Out.l0 k a acc edges (edges.length : Int) (i : Int) nodes edges) (fun r => r.Pairwise (· < ·)) := by
  induction n with
  | zero =>
    intro i acc hi hl hp hb
    exact EvP.succ (fun k => layout_Out.l0.eq_2 _ _ _ _ _ _ _ k) (EvP.no (by omega) (EvP.ret hp))
  | succ n ih =>
    intro i acc hi hl hp hb
    have hn : EvP (fun k => layout_Out.l0 k a acc edges (edges.length : Int) (wrap64 ((i : Int) + 1)) nodes edges) (fun r => r.Pairwise (· < ·)) := by
      rw [wnext i (by omega)]
      exact ih (i + 1) acc (by omega) (by omega) hp (fun x hx => by have := hb x hx; omega)
    refine EvP.succ (fun k => layout_Out.l0.eq_2 _ _ _ _ _ _ _ k) (EvP.yes (by omega) (EvP.yes (by omega) (EvP.yes (by omega) (EvP.split (fun c => EvP.yes h1 (EvP.yes (by omega) (EvP.yes (by omega) ?_))) (fun _ => hn)))))
    rw [wnext i (by omega)]
    refine ih (i + 1) _ (by omega) (by simp; omega) ?_ (fun x hx => ?_)
    · rw [List.pairwise_append]
      refine ⟨hp, by simp, fun x hx y hy => ?_⟩
      have := hb x hx
      obtain rfl := List.mem_singleton.1 hy
      omega
    · rcases List.mem_append.1 hx with hx | hx
      · have := hb x hx; omega
      · obtain rfl := List.mem_singleton.1 hx
        omega
theorem EvP_and {α : Type} {F : Nat → Option α} {P Q : α → Prop} (h1 : EvP F P) (h2 : EvP F Q) : EvP F (fun r => P r ∧ Q r) := by
  obtain ⟨r1, ⟨K1, e1⟩, p1⟩ := h1
  obtain ⟨r2, ⟨K2, e2⟩, p2⟩ := h2
  have e := (e1 (K1 + K2) (by omega)).symm.trans (e2 (K1 + K2) (by omega))
  obtain rfl := Option.some.inj e
  exact ⟨r1, ⟨K1, e1⟩, p1, p2⟩
/-- A device that comes nearer: q holds the lengths to the target. -/
structure Near (nodes : List S46) (edges : List S43) (mask q : List Int) (a : Int) (d : Int) : Prop where
  off : ∃ e : Nat, e < edges.length ∧ d = ((e + 1 : Nat) : Int) ∧ (rd_T43 edges (e : Int)).f0 = a ∧ 0 ≤ g q (rd_T43 edges (e : Int)).f1 ∧ g q (rd_T43 edges (e : Int)).f1 = g q a - 1 ∧ (0 < g q (rd_T43 edges (e : Int)).f1 → Pass nodes (rd_T43 edges (e : Int)).f1)
  op : ¬ d ∈ mask
theorem next_loop (nodes : List S46) (edges : List S43) (F : Fit nodes edges) (mask q : List Int) (hl : mask.length ≤ 100000) (hq : q.length = nodes.length) (a : Int) (h0 : 0 ≤ a) (h1 : a < (nodes.length : Int)) (hqa : g q a ≤ 1000) (hqb : -1000 ≤ g q a) (ds : List Int) (hds : ds.length ≤ 1000) (ho : ∀ x ∈ ds, OffP edges a x) (hp : ds.Pairwise (· < ·)) (n : Nat) : ∀ i : Nat, i + n = ds.length →
    EvP (fun k => route_next.l0 k mask q a ds (ds.length : Int) (i : Int) nodes edges) (fun d => (d = 0 ∧ ∀ x ∈ ds.drop i, ¬ Near nodes edges mask q a x) ∨ (Near nodes edges mask q a d ∧ ∀ x ∈ ds.drop i, Near nodes edges mask q a x → d ≤ x)) := by
  have hm := F.m
  induction n with
  | zero =>
    intro i hi
    exact EvP.succ (fun k => route_next.l0.eq_2 _ _ _ _ _ _ _ _ k) (EvP.no (by omega) (EvP.ret (.inl ⟨rfl, by rw [List.drop_eq_nil_of_le (by omega)]; simp⟩)))
  | succ n ih =>
    intro i hi
    have hil : i < ds.length := by omega
    have hrd : rd ds (i : Int) = ds[i] := by simp [rd, List.getElem?_eq_getElem hil]
    have hn : ¬ Near nodes edges mask q a ds[i] → EvP (fun k => route_next.l0 k mask q a ds (ds.length : Int) (wrap64 ((i : Int) + 1)) nodes edges) (fun d => (d = 0 ∧ ∀ x ∈ ds.drop i, ¬ Near nodes edges mask q a x) ∨ (Near nodes edges mask q a d ∧ ∀ x ∈ ds.drop i, Near nodes edges mask q a x → d ≤ x)) := by
      intro hno
      rw [wnext i (by omega), List.drop_eq_getElem_cons hil]
      refine (ih (i + 1) (by omega)).mono (fun d h => h.imp (fun h => ⟨h.1, fun x hx => ?_⟩) (fun h => ⟨h.1, fun x hx hN => ?_⟩))
      · rcases List.mem_cons.1 hx with rfl | hx
        · exact hno
        · exact h.2 x hx
      · rcases List.mem_cons.1 hx with rfl | hx
        · exact absurd hN hno
        · exact h.2 x hx hN
    have hle : ∀ x ∈ ds.drop i, Near nodes edges mask q a x → ds[i] ≤ x := by
      intro x hx _
      have h2 : (ds.drop i).Pairwise (· < ·) := hp.sublist (List.drop_sublist i ds)
      rw [List.drop_eq_getElem_cons hil] at hx h2
      rcases List.mem_cons.1 hx with rfl | hx
      · exact Int.le_refl _
      · exact Int.le_of_lt ((List.pairwise_cons.1 h2).1 x hx)
    obtain ⟨e, he, hd, hf⟩ := ho ds[i] (List.getElem_mem hil)
    have hE := F.ends e he
    rw [hd] at hrd
    rw [hd] at hle
    have key : Near nodes edges mask q a ds[i] → ¬ ((e + 1 : Nat) : Int) ∈ mask ∧ 0 ≤ g q (rd_T43 edges (e : Int)).f1 ∧ g q (rd_T43 edges (e : Int)).f1 = g q a - 1 ∧ (0 < g q (rd_T43 edges (e : Int)).f1 → Pass nodes (rd_T43 edges (e : Int)).f1) := by
      intro h
      obtain ⟨e', h1, h2, h3, h4, h5, h6⟩ := h.off
      rw [hd] at h2
      obtain rfl : e = e' := by omega
      exact ⟨by rw [← hd]; exact h.op, h4, h5, h6⟩
    refine EvP.succ (fun k => route_next.l0.eq_2 _ _ _ _ _ _ _ _ k) (EvP.yes (by omega) (EvP.yes (by omega) (EvP.yes (by omega) ?_)))
    rw [hrd, show wrap64 (((e + 1 : Nat) : Int) - 1) = (e : Int) by rw [wsm] <;> omega, show wrap64 (rd q a - 1) = g q a - 1 by rw [rd_g]; unfold wrap64; omega]
    refine EvP.yes (by omega) (EvP.yes (by omega) (EvP.bind (Contains_e mask _ hl) (fun t ht => EvP.split (fun c => hn (fun h => (key h).1 (ht.1 c))) (fun c => EvP.yes hE.2.2.1 (EvP.yes (by omega) (EvP.split (fun c => hn (fun h => by have := (key h).2.1; rw [rd_g] at c; omega)) (fun c1 => EvP.yes h0 (EvP.yes (by omega) (EvP.split (fun c2 => ?_) (fun c => hn (fun h => c (by rw [rd_g]; exact (key h).2.2.1))))))))))))
    have hop : ¬ ((e + 1 : Nat) : Int) ∈ mask := fun h => c (ht.2 h)
    rw [rd_g] at c1
    rw [rd_g] at c2
    refine EvP.split (fun c3 => EvP.yes (by omega) (EvP.split (fun c4 => EvP.ret (.inr ⟨⟨⟨e, he, rfl, hf, by omega, c2, fun _ => c4⟩, hop⟩, hle⟩)) (fun c4 => hn (fun h => c4 ((key h).2.2.2 (by rw [rd_g] at c3; exact c3)))))) (fun c3 => EvP.ret (.inr ⟨⟨⟨e, he, rfl, hf, by omega, c2, fun h => ?_⟩, hop⟩, hle⟩))
    exact absurd h c3
theorem next_e (nodes : List S46) (edges : List S43) (F : Fit nodes edges) (mask q : List Int) (hl : mask.length ≤ 100000) (hq : q.length = nodes.length) (a : Int) (h0 : 0 ≤ a) (h1 : a < (nodes.length : Int)) (hqa : g q a ≤ 1000) (hqb : -1000 ≤ g q a) :
    EvP (fun k => route_next.f k nodes edges mask q a) (fun d => (d = 0 ∧ ∀ x, ¬ Near nodes edges mask q a x) ∨ (Near nodes edges mask q a d ∧ ∀ x, Near nodes edges mask q a x → d ≤ x)) := by
  have hm := F.m
  refine EvP.bind (EvP_and (Out_e nodes edges (by omega) a h0 h1) (Out_sorted nodes edges (by omega) a h0 h1 edges.length 0 [] (by omega) (by simp) (by simp) (by simp))) (fun ds hh => ?_)
  obtain ⟨h, hp⟩ := hh
  have hmem : ∀ x, Near nodes edges mask q a x → x ∈ ds.drop 0 := fun x hx => by
    obtain ⟨e, h1, h2, h3, _⟩ := hx.off
    rw [List.drop_zero]
    exact (h.2 x).2 ⟨e, h1, h2, h3⟩
  exact (next_loop nodes edges F mask q hl hq a h0 h1 hqa hqb ds (by omega) (fun x hx => (h.2 x).1 hx) hp ds.length 0 (by omega)).mono (fun d hd => hd.imp (fun hd => ⟨hd.1, fun x hx => hd.2 x (hmem x hx) hx⟩) (fun hd => ⟨hd.1, fun x hx => hd.2 x (hmem x hx) hx⟩))
/-- The table: each place's device, or 0. -/
structure Tab (nodes : List S46) (edges : List S43) (mask q t : List Int) : Prop where
  len : t.length = nodes.length
  ok : ∀ v : Int, 0 ≤ v → v < (nodes.length : Int) → (g t v = 0 ∧ ∀ x, ¬ Near nodes edges mask q v x) ∨ (Near nodes edges mask q v (g t v) ∧ ∀ x, Near nodes edges mask q v x → g t v ≤ x)
theorem g_snoc {l : List Int} {x v : Int} (h0 : 0 ≤ v) (h1 : v < (l.length : Int)) : g (l ++ [x]) v = g l v := by
  unfold g
  rw [List.getD_eq_getElem?_getD, List.getD_eq_getElem?_getD, List.getElem?_append_left (by omega)]
theorem g_last {l : List Int} {x : Int} : g (l ++ [x]) (l.length : Int) = x := by
  unfold g
  simp
theorem table_loop (nodes : List S46) (edges : List S43) (F : Fit nodes edges) (mask q : List Int) (hl : mask.length ≤ 100000) (hq : q.length = nodes.length) (hb : ∀ v : Int, 0 ≤ v → v < (nodes.length : Int) → -1000 ≤ g q v ∧ g q v ≤ 1000) (n : Nat) : ∀ (i : Nat) (acc : List Int), i + n = nodes.length → acc.length = i → (∀ v : Int, 0 ≤ v → v < (i : Int) → (g acc v = 0 ∧ ∀ x, ¬ Near nodes edges mask q v x) ∨ (Near nodes edges mask q v (g acc v) ∧ ∀ x, Near nodes edges mask q v x → g acc v ≤ x)) →
    EvP (fun k => route_Table.l0 k mask q acc (nodes.length : Int) (i : Int) nodes edges) (fun r => Tab nodes edges mask q r.1 ∧ r.2 = 0) := by
  have hn := F.n
  induction n with
  | zero =>
    intro i acc hi ha hk
    refine EvP.succ (fun k => route_Table.l0.eq_2 _ _ _ _ _ _ _ k) (EvP.no (by omega) (EvP.ret ⟨⟨by show acc.length = _; omega, fun v h0 h1 => hk v h0 (by omega)⟩, rfl⟩))
  | succ n ih =>
    intro i acc hi ha hk
    have hB := hb (i : Int) (by omega) (by omega)
    refine EvP.succ (fun k => route_Table.l0.eq_2 _ _ _ _ _ _ _ k) (EvP.yes (by omega) (EvP.bind (next_e nodes edges F mask q hl hq (i : Int) (by omega) (by omega) hB.2 hB.1) (fun d hd => EvP.yes (by omega) ?_)))
    rw [wnext i (by omega)]
    refine ih (i + 1) _ (by omega) (by simp [ha]) (fun v h0 h1 => ?_)
    by_cases e : v < (i : Int)
    · rw [g_snoc h0 (by omega)]
      exact hk v h0 e
    · obtain rfl : v = (acc.length : Int) := by omega
      rw [g_last, ha]
      exact hd
theorem Table_e (nodes : List S46) (edges : List S43) (F : Fit nodes edges) (mask : List Int) (hl : mask.length ≤ 10000) (b : Int) (h0 : 0 ≤ b) (h1 : b < (nodes.length : Int)) :
    ∃ q, LensTo nodes edges mask b q ∧ EvP (fun k => route_Table.f k nodes edges mask b) (fun r => Tab nodes edges mask q r.1 ∧ r.2 = 0) := by
  have hn := F.n
  obtain ⟨x, hx, hX⟩ := To_e nodes edges F mask hl b h0 h1
  refine ⟨x.1, hX.1, EvP.ebind hx (EvP.yes hX.2 (table_loop nodes edges F mask x.1 (by omega) hX.1.len (fun v h0 h1 => ?_) nodes.length 0 [] (by omega) rfl (fun v h0 h1 => by omega)))⟩
  have h2 := hX.1.hi v h0 h1
  have h3 := hX.1.ok.low v h0 h1
  omega
/-- The way from a to b by a table: to follow it. -/
inductive Way (edges : List S43) (t : List Int) (b : Int) : Int → List Int → Prop
  | here : Way edges t b b []
  | step {a : Int} {p : List Int} : a ≠ b → g t a ≠ 0 → Way edges t b (rd_T43 edges (g t a - 1)).f1 p → Way edges t b a (g t a :: p)
theorem Way.eq {edges : List S43} {t : List Int} {b a : Int} {p p' : List Int} (h : Way edges t b a p) : Way edges t b a p' → p = p' := by
  induction h generalizing p' with
  | here => intro h'; cases h' with
    | here => rfl
    | step h1 _ _ => exact absurd rfl h1
  | step h1 h2 h3 ih => intro h'; cases h' with
    | here => exact absurd rfl h1
    | step g1 g2 g3 => rw [ih g3]
theorem Tab.dev {nodes : List S46} {edges : List S43} {mask q t : List Int} (T : Tab nodes edges mask q t) {v : Int} (h0 : 0 ≤ v) (h1 : v < (nodes.length : Int)) (hz : g t v ≠ 0) :
    ∃ e : Nat, e < edges.length ∧ g t v = ((e + 1 : Nat) : Int) ∧ (rd_T43 edges (e : Int)).f0 = v ∧ 0 ≤ g q (rd_T43 edges (e : Int)).f1 ∧ g q (rd_T43 edges (e : Int)).f1 = g q v - 1 := by
  rcases T.ok v h0 h1 with h | h
  · exact absurd h.1 hz
  · obtain ⟨e, h1, h2, h3, h4, h5, _⟩ := h.1.off
    exact ⟨e, h1, h2, h3, h4, h5⟩
theorem Path_loop (nodes : List S46) (edges : List S43) (F : Fit nodes edges) (mask q t : List Int) (T : Tab nodes edges mask q t) (b : Int) (n : Nat) : ∀ (a : Int) (acc : List Int), 0 ≤ a → a < (nodes.length : Int) → g q a ≤ (n : Int) → acc.length + n ≤ 100000 →
    EvP (fun k => route_Path.l0 k b t acc a nodes edges) (fun r => (∃ p, Way edges t b a p ∧ r = (acc ++ p, 0)) ∨ ((∀ p, ¬ Way edges t b a p) ∧ r = ([], 80))) := by
  have hm := F.m
  have htl := T.len
  have fin : ∀ (a : Int) (acc : List Int), a ≠ b → g t a = 0 → 0 ≤ a → a < (nodes.length : Int) → EvP (fun k => route_Path.l0 k b t acc a nodes edges) (fun r => (∃ p, Way edges t b a p ∧ r = (acc ++ p, 0)) ∨ ((∀ p, ¬ Way edges t b a p) ∧ r = ([], 80))) := by
    intro a acc hab hz h0 h1
    refine EvP.succ (fun k => route_Path.l0.eq_2 _ _ _ _ _ _ k) (EvP.no hab (EvP.yes h0 (EvP.yes (by omega) (EvP.yes hz (EvP.ret (.inr ⟨fun p h => ?_, rfl⟩))))))
    cases h with
    | here => exact hab rfl
    | step _ h _ => exact h hz
  induction n with
  | zero =>
    intro a acc h0 h1 hq hl
    by_cases hab : a = b
    · subst hab
      exact EvP.succ (fun k => route_Path.l0.eq_2 _ _ _ _ _ _ k) (EvP.yes rfl (EvP.ret (.inl ⟨[], .here, by simp⟩)))
    · refine fin a acc hab (Classical.byContradiction fun hz => ?_) h0 h1
      obtain ⟨e, _, _, _, h4, h5⟩ := T.dev h0 h1 hz
      omega
  | succ n ih =>
    intro a acc h0 h1 hq hl
    by_cases hab : a = b
    · subst hab
      exact EvP.succ (fun k => route_Path.l0.eq_2 _ _ _ _ _ _ k) (EvP.yes rfl (EvP.ret (.inl ⟨[], .here, by simp⟩)))
    · by_cases hz : g t a = 0
      · exact fin a acc hab hz h0 h1
      · obtain ⟨e, he, hd, hf, h4, h5⟩ := T.dev h0 h1 hz
        have hE := F.ends e he
        refine EvP.succ (fun k => route_Path.l0.eq_2 _ _ _ _ _ _ k) (EvP.no hab (EvP.yes h0 (EvP.yes (by omega) (EvP.no (by rw [rd_g]; exact hz) (EvP.yes (by omega) ?_)))))
        have hw : wrap64 (rd t a - 1) = g t a - 1 := by rw [rd_g, hd]; unfold wrap64; omega
        have hs : g t a - 1 = (e : Int) := by rw [hd]; omega
        rw [hw, rd_g]
        refine EvP.yes (by omega) (EvP.yes (by omega) ((ih _ (acc ++ [g t a]) (by rw [hs]; exact hE.2.2.1) (by rw [hs]; exact hE.2.2.2) (by rw [hs]; omega) (by simp; omega)).mono (fun r hr => ?_)))
        rcases hr with ⟨p, hp, hr⟩ | ⟨hp, hr⟩
        · exact .inl ⟨g t a :: p, .step hab hz hp, by rw [hr, List.append_assoc]; rfl⟩
        · refine .inr ⟨fun p h => ?_, hr⟩
          cases h with
          | here => exact hab rfl
          | step _ _ h => exact hp _ h
theorem Out2_e (nodes : List S46) (edges : List S43) (a b : Int) : route_out.f nodes edges [a, b] = some (decide (a < 0) || decide (a ≥ (nodes.length : Int)) || (decide (b < 0) || decide (b ≥ (nodes.length : Int)))) := by
  unfold route_out.f
  simp
theorem Path_out (nodes : List S46) (edges : List S43) (mask : List Int) (a b : Int) (h : a < 0 ∨ (nodes.length : Int) ≤ a ∨ b < 0 ∨ (nodes.length : Int) ≤ b) : EvP (fun k => route_Path.f k nodes edges mask a b) (fun r => r = ([], 1)) := by
  refine EvP.obind (Out2_e nodes edges a b) ?_
  rw [show (decide (a < 0) || decide (a ≥ (nodes.length : Int)) || (decide (b < 0) || decide (b ≥ (nodes.length : Int)))) = true by simp; omega]
  exact EvP.yes rfl (EvP.ret rfl)
/-- The paths to b: one table serves them all. -/
theorem Path_e (nodes : List S46) (edges : List S43) (F : Fit nodes edges) (mask : List Int) (hl : mask.length ≤ 10000) (b : Int) (h0 : 0 ≤ b) (h1 : b < (nodes.length : Int)) :
    ∃ q t, LensTo nodes edges mask b q ∧ Tab nodes edges mask q t ∧ Evt (fun k => route_Table.f k nodes edges mask b) (t, 0) ∧ ∀ a : Int, 0 ≤ a → a < (nodes.length : Int) → EvP (fun k => route_Path.f k nodes edges mask a b) (fun r => (∃ p, Way edges t b a p ∧ r = (p, 0)) ∨ ((∀ p, ¬ Way edges t b a p) ∧ r = ([], 80))) := by
  have hn := F.n
  obtain ⟨q, hq, x, hx, hX⟩ := Table_e nodes edges F mask hl b h0 h1
  refine ⟨q, x.1, hq, hX.1, by rw [show (x.1, (0 : Int)) = x from by rw [← hX.2]]; exact hx, fun a ha0 ha1 => EvP.obind (Out2_e nodes edges a b) ?_⟩
  rw [show (decide (a < 0) || decide (a ≥ (nodes.length : Int)) || (decide (b < 0) || decide (b ≥ (nodes.length : Int)))) = false by simp; omega]
  have hhi := hq.hi a ha0 ha1
  refine EvP.no (by simp) (EvP.ebind hx ((Path_loop nodes edges F mask q x.1 hX.1 b nodes.length a [] ha0 ha1 hhi (by simp; omega)).mono (fun r hr => ?_)))
  simpa using hr
theorem Way.short {nodes : List S46} {edges : List S43} (F : Fit nodes edges) {mask q t : List Int} (T : Tab nodes edges mask q t) {b a : Int} {p : List Int} (h : Way edges t b a p) : 0 ≤ a → a < (nodes.length : Int) → g q b = 0 → (p.length : Int) = g q a := by
  induction h with
  | here => intro _ _ h; simp [h]
  | step h1 h2 h3 ih =>
    intro ha0 ha1 hb
    obtain ⟨e, he, hd, hf, h4, h5⟩ := T.dev ha0 ha1 h2
    have hE := F.ends e he
    have hs : ∀ z : Int, z = ((e + 1 : Nat) : Int) → z - 1 = (e : Int) := fun z h => by omega
    rw [hs _ hd] at ih
    have := ih hE.2.2.1 hE.2.2.2 hb
    simp only [List.length_cons]
    omega
theorem rd_in {l : List Int} {i : Nat} (h : i < l.length) : rd l (i : Int) = l[i] := by simp [rd, List.getElem?_eq_getElem h]
theorem ext_of_sorted {α : Type} (r : α → α → Prop) (hi : ∀ a, ¬ r a a) (ha : ∀ a b, r a b → ¬ r b a) : ∀ l1 l2 : List α, l1.Pairwise r → l2.Pairwise r → (∀ x, x ∈ l1 ↔ x ∈ l2) → l1 = l2
  | [], [], _, _, _ => rfl
  | [], b :: l2, _, _, h => by have := (h b).2 List.mem_cons_self; simp at this
  | a :: l1, [], _, _, h => by have := (h a).1 List.mem_cons_self; simp at this
  | a :: l1, b :: l2, h1, h2, h => by
    rw [List.pairwise_cons] at h1 h2
    have e : a = b := by
      rcases List.mem_cons.mp ((h a).1 List.mem_cons_self) with e | e
      · exact e
      · rcases List.mem_cons.mp ((h b).2 List.mem_cons_self) with e' | e'
        · exact e'.symm
        · exact absurd (h1.1 b e') (ha _ _ (h2.1 a e))
    subst e
    congr 1
    refine ext_of_sorted r hi ha l1 l2 h1.2 h2.2 (fun x => ?_)
    constructor
    · intro hx
      rcases List.mem_cons.mp ((h x).1 (List.mem_cons_of_mem _ hx)) with e | e
      · subst e; exact absurd (h1.1 x hx) (hi x)
      · exact e
    · intro hx
      rcases List.mem_cons.mp ((h x).2 (List.mem_cons_of_mem _ hx)) with e | e
      · subst e; exact absurd (h2.1 x hx) (hi x)
      · exact e
/-- What is told of numbers put in order. -/
structure OrdZ (l R : List Int) : Prop where
  pw : R.Pairwise (fun x y => x < y)
  mem : ∀ x, x ∈ R ↔ x ∈ l
theorem OrdZ.eq {l R Q : List Int} (h : OrdZ l R) (h' : OrdZ l Q) : R = Q :=
  ext_of_sorted _ (fun _ => by omega) (fun _ _ _ => by omega) R Q h.pw h'.pw (fun x => (h.mem x).trans (h'.mem x).symm)
theorem comp_inv (s : Array Int) (hs : ∀ i j, i < j → j < s.size → s[i]! ≤ s[j]!) : ∀ m, m ≤ s.size →
    (Lib.compactUpTo s m).Pairwise (fun x y => x < y) ∧ (∀ x ∈ Lib.compactUpTo s m, ∃ j, j < m ∧ x = s[j]!) ∧ ∀ j, j < m → s[j]! ∈ Lib.compactUpTo s m := by
  intro m
  induction m with
  | zero => intro _; exact ⟨by simp [Lib.compactUpTo], by simp [Lib.compactUpTo], fun j h => by omega⟩
  | succ m ih =>
    intro hm
    obtain ⟨h1, h2, h3⟩ := ih (by omega)
    rw [Lib.compactUpTo_succ]
    cases hk : Lib.keeps s m with
    | false =>
      have hz : m ≠ 0 ∧ s[m]! = s[m - 1]! := by simpa [Lib.keeps] using hk
      simp only [Bool.false_eq_true, if_false, List.append_nil]
      refine ⟨h1, fun x hx => ?_, fun j hj => ?_⟩
      · obtain ⟨j, hj, e⟩ := h2 x hx
        exact ⟨j, by omega, e⟩
      · by_cases e : j = m
        · subst e; rw [hz.2]; exact h3 _ (by omega)
        · exact h3 j (by omega)
    | true =>
      have hz : m = 0 ∨ s[m]! ≠ s[m - 1]! := by simpa [Lib.keeps] using hk
      simp only [if_true]
      refine ⟨?_, fun x hx => ?_, fun j hj => ?_⟩
      · rw [List.pairwise_append]
        refine ⟨h1, by simp, fun x hx y hy => ?_⟩
        obtain rfl : y = s[m]! := by simpa using hy
        obtain ⟨j, hj, rfl⟩ := h2 x hx
        rcases hz with rfl | hz
        · omega
        · have hlast : s[m - 1]! < s[m]! := by
            have := hs (m - 1) m (by omega) (by omega)
            omega
          by_cases e : j = m - 1
          · subst e; exact hlast
          · have := hs j (m - 1) (by omega) (by omega)
            omega
      · rcases List.mem_append.mp hx with hx | hx
        · obtain ⟨j, hj, e⟩ := h2 x hx
          exact ⟨j, by omega, e⟩
        · obtain rfl : x = s[m]! := by simpa using hx
          exact ⟨m, by omega, rfl⟩
      · by_cases e : j = m
        · subst e; simp
        · exact List.mem_append_left _ (h3 j (by omega))
theorem sortZ_sorted (l : List Int) : ∀ i j, i < j → j < (sortZ l).toArray.size → (sortZ l).toArray[i]! ≤ (sortZ l).toArray[j]! := by
  intro i j hij hj
  have hp := List.pairwise_mergeSort (le := fun x y : Int => decide (x ≤ y)) (fun a b c h1 h2 => by simp at *; omega) (fun a b => by simp; omega) l
  rw [List.pairwise_iff_getElem] at hp
  have hj' : j < (l.mergeSort fun x y => decide (x ≤ y)).length := by simpa [sortZ] using hj
  have := hp i j (by omega) hj' hij
  rw [getElem!_pos (sortZ l).toArray i (by omega), getElem!_pos (sortZ l).toArray j hj]
  simpa [sortZ] using this
theorem orderZ_ord (l : List Int) : OrdZ l (orderZ l) := by
  obtain ⟨h1, h2, h3⟩ := comp_inv (sortZ l).toArray (sortZ_sorted l) _ (Nat.le_refl _)
  have hm : ∀ y, y ∈ sortZ l ↔ y ∈ l := fun y => by simp [sortZ, List.mem_mergeSort]
  refine ⟨h1, fun x => ⟨fun hx => ?_, fun hx => ?_⟩⟩
  · obtain ⟨j, hj, e⟩ := h2 x hx
    rw [← hm, e, getElem!_pos (sortZ l).toArray j hj]
    simp
  · rw [← hm] at hx
    obtain ⟨j, hj, e⟩ := List.getElem_of_mem hx
    have hj' : j < (sortZ l).toArray.size := by simpa using hj
    have := h3 j hj'
    rw [getElem!_pos (sortZ l).toArray j hj'] at this
    rw [← e]
    simpa [orderZ] using this
theorem Ints_loop (x y : List Int) (hl : x.length = y.length) (hm : x.length ≤ 100000) (n : Nat) : ∀ i : Nat, i + n = x.length → EvP (fun k => stillageref01_Ints.l0 k x y (x.length : Int) (i : Int)) (fun r => r = true ↔ x.drop i = y.drop i) := by
  induction n with
  | zero =>
    intro i hi
    refine EvP.succ (fun k => stillageref01_Ints.l0.eq_2 _ _ _ _ k) (EvP.no (by omega) (EvP.ret ?_))
    rw [List.drop_eq_nil_of_le (by omega), List.drop_eq_nil_of_le (by omega)]
    simp
  | succ n ih =>
    intro i hi
    have h1 : i < x.length := by omega
    have h2 : i < y.length := by omega
    have e1 : rd x (i : Int) = x[i] := rd_in h1
    have e2 : rd y (i : Int) = y[i] := rd_in h2
    refine EvP.succ (fun k => stillageref01_Ints.l0.eq_2 _ _ _ _ k) (EvP.yes (by omega) (EvP.yes (by omega) (EvP.yes (by omega) (EvP.yes (by omega) (EvP.split (fun c => ?_) (fun c => EvP.ret ?_))))))
    · rw [wnext i (by omega)]
      refine (ih (i + 1) (by omega)).mono (fun r h => ?_)
      rw [h, List.drop_eq_getElem_cons h1, List.drop_eq_getElem_cons h2]
      rw [e1, e2] at c
      simp only [List.cons.injEq, c, true_and]
    · rw [List.drop_eq_getElem_cons h1, List.drop_eq_getElem_cons h2]
      rw [e1, e2] at c
      simp only [List.cons.injEq, c, false_and]
      simp
theorem Ints_e (x y : List Int) (hm : x.length ≤ 100000) : EvP (fun k => stillageref01_Ints.f k x y) (fun r => r = true ↔ x = y) := by
  refine EvP.split (fun c => ?_) (fun c => EvP.ret ?_)
  · exact Ints_loop x y (by omega) hm x.length 0 (by omega)
  · constructor
    · intro h; cases h
    · rintro rfl
      exact absurd rfl c
theorem Ints_eq {x y : List Int} (h : x = y) (hm : x.length ≤ 100000) : EvP (fun k => stillageref01_Ints.f k x y) (fun r => r = true) := (Ints_e x y hm).mono (fun r e => e.2 h)
theorem stuck1 : Evt (fun k => zone_Stuck.f k [⟨[0], 1⟩, ⟨[1], 0⟩]) ([0, 1], 0) := Evt.mono (n := 20) (by decide +kernel) (fun k r h => zone_Stuck.mono _ k r h)
theorem stuck2 : Evt (fun k => zone_Stuck.f k [⟨[0], 1⟩, ⟨[1], -1⟩]) ([], 0) := Evt.mono (n := 20) (by decide +kernel) (fun k r h => zone_Stuck.mono _ k r h)
theorem order1 : zone_Order.f [3, 1, 3] = some ([1, 3], 0) := by
  unfold zone_Order.f
  rw [if_pos (by simp), if_neg (by decide), (orderZ_ord [3, 1, 3]).eq (Q := [1, 3]) ⟨by simp, fun x => by simp; omega⟩]
theorem awake_e : EvP (fun k => stillagelaw09_awake.f k) (fun r => r = true) := by
  refine EvP.ebind stuck1 (EvP.ebind stuck2 (EvP.obind order1 ?_))
  refine EvP.yes rfl (EvP.yes rfl (EvP.yes rfl (EvP.yes rfl (EvP.yes rfl ?_))))
  exact EvP.bind (Ints_eq rfl (by simp)) (fun a ha => EvP.ret ha)
/-! The pieces of a path -/
/-- Pieces by zones: none is empty, within one the zone stays, from one to the next it changes. -/
inductive CZ (zn : Int → Int) : List (List Int) → Prop
  | nil : CZ zn []
  | snoc {init : List (List Int)} {p : List Int} {z : Int} : CZ zn init → p ≠ [] → (∀ x ∈ p, zn x = z) → (∀ q, init.getLast? = some q → ∀ x ∈ q, zn x ≠ z) → CZ zn (init ++ [p])
theorem CZ.inv {zn : Int → Int} {out : List (List Int)} (h : CZ zn out) : ∀ {init : List (List Int)} {p : List Int}, out = init ++ [p] → CZ zn init ∧ p ≠ [] ∧ ∃ z, (∀ x ∈ p, zn x = z) ∧ ∀ q, init.getLast? = some q → ∀ x ∈ q, zn x ≠ z := by
  cases h with
  | nil => intro init p e; simp at e
  | snoc h1 h2 h3 h4 =>
    intro init p e
    obtain ⟨rfl, e2⟩ := List.append_inj' e rfl
    obtain rfl := List.singleton_inj.1 e2
    exact ⟨h1, h2, _, h3, h4⟩
theorem zsnoc_snoc (init : List (List Int)) (p : List Int) (d : Int) : zsnoc (init ++ [p]) d = init ++ [p ++ [d]] := by
  unfold zsnoc
  rw [List.length_append, List.length_singleton, Nat.add_sub_cancel, List.getD_eq_getElem?_getD]
  simp
theorem zcut_cz (zf : Int → Option Int) (zn : Int → Int) (l : List Int) : ∀ (last : Int) (out : List (List Int)), (∀ d ∈ l, zf d = some (zn d) ∧ 0 ≤ zn d) → CZ zn out → (out = [] → last < 0) → (∀ init p, out = init ++ [p] → ∀ x ∈ p, zn x = last) →
    ∃ o, zcut zf l last out = some (some o) ∧ CZ zn o ∧ o.flatten = out.flatten ++ l := by
  induction l with
  | nil => intro last out _ h _ _; exact ⟨out, rfl, h, by simp⟩
  | cons d r ih =>
    intro last out hz h h0 hl
    have hd := hz d List.mem_cons_self
    have hr : ∀ x ∈ r, zf x = some (zn x) ∧ 0 ≤ zn x := fun x hx => hz x (List.mem_cons_of_mem _ hx)
    rw [zcut, hd.1, Option.bind_some, if_neg (by omega)]
    by_cases c : zn d = last
    · rw [if_pos c]
      rcases List.eq_nil_or_concat out with rfl | ⟨init, p, rfl⟩
      · have := h0 rfl; omega
      · rw [List.concat_eq_append] at h hl ⊢
        rw [zsnoc_snoc]
        obtain ⟨h1, h2, z, h3, h4⟩ := h.inv rfl
        have hp := hl init p rfl
        have hzl : z = last := by
          obtain ⟨x, p', rfl⟩ := List.exists_cons_of_ne_nil h2
          rw [← h3 x List.mem_cons_self, hp x List.mem_cons_self]
        have hall : ∀ x ∈ p ++ [d], zn x = z := fun x hx => by
          rcases List.mem_append.1 hx with hx | hx
          · exact h3 x hx
          · obtain rfl := List.mem_singleton.1 hx
            omega
        obtain ⟨o, ho1, ho2, ho3⟩ := ih last (init ++ [p ++ [d]]) hr (.snoc h1 (by simp) hall h4) (fun e => by simp at e) (fun i2 p2 e => by
          obtain ⟨_, e2⟩ := List.append_inj' e rfl
          obtain rfl := List.singleton_inj.1 e2
          intro x hx
          rw [hall x hx, hzl])
        exact ⟨o, ho1, ho2, by rw [ho3]; simp⟩
    · rw [if_neg c, zsnoc_snoc, List.nil_append]
      obtain ⟨o, ho1, ho2, ho3⟩ := ih (zn d) (out ++ [[d]]) hr (.snoc h (by simp) (z := zn d) (fun x hx => by rw [List.mem_singleton.1 hx]) (fun q hq x hx => by
          obtain ⟨i2, e⟩ := List.getLast?_eq_some_iff.1 hq
          rw [hl i2 q e x hx]
          exact fun e => c e.symm)) (fun e => by simp at e) (fun i2 p2 e => by
          obtain ⟨_, e2⟩ := List.append_inj' e rfl
          obtain rfl := List.singleton_inj.1 e2
          intro x hx
          rw [List.mem_singleton.1 hx])
      exact ⟨o, ho1, ho2, by rw [ho3]; simp⟩
/-- Told by the number of the piece. -/
structure CI (zn : Int → Int) (o : List (List Int)) : Prop where
  ne : ∀ (i : Nat) p, o[i]? = some p → p ≠ []
  same : ∀ (i : Nat) p, o[i]? = some p → ∀ x ∈ p, zn x = zn (rd p 0)
  diff : ∀ (i : Nat) p q, o[i]? = some p → o[i + 1]? = some q → zn (rd p 0) ≠ zn (rd q 0)
theorem rd_mem {p : List Int} (h : p ≠ []) : rd p 0 ∈ p := by
  obtain ⟨x, p', rfl⟩ := List.exists_cons_of_ne_nil h
  exact List.mem_cons_self
theorem snoc_get {α : Type} {l : List α} {a b : α} {j : Nat} (h : (l ++ [a])[j]? = some b) : (j < l.length ∧ l[j]? = some b) ∨ (j = l.length ∧ b = a) := by
  rcases Nat.lt_or_ge j l.length with hlt | hge
  · rw [List.getElem?_append_left hlt] at h; exact .inl ⟨hlt, h⟩
  · rw [List.getElem?_append_right hge] at h
    rcases Nat.eq_or_lt_of_le hge with e | e
    · rw [← e, Nat.sub_self] at h; simp at h; exact .inr ⟨e.symm, h.symm⟩
    · rw [List.getElem?_eq_none (by simp; omega)] at h; cases h
theorem CZ.ci {zn : Int → Int} {o : List (List Int)} (h : CZ zn o) : CI zn o := by
  induction h with
  | nil => exact ⟨fun i p h => by simp at h, fun i p h => by simp at h, fun i p q h => by simp at h⟩
  | @snoc init p z h1 h2 h3 h4 ih =>
    refine ⟨fun i q hq => ?_, fun i q hq => ?_, fun i q q2 hq hq2 => ?_⟩
    · rcases snoc_get hq with ⟨_, hq⟩ | ⟨_, rfl⟩
      · exact ih.ne i q hq
      · exact h2
    · rcases snoc_get hq with ⟨_, hq⟩ | ⟨_, rfl⟩
      · exact ih.same i q hq
      · intro x hx
        rw [h3 x hx, h3 _ (rd_mem h2)]
    · rcases snoc_get hq2 with ⟨hl, hq2⟩ | ⟨hl, rfl⟩
      · rcases snoc_get hq with ⟨_, hq⟩ | ⟨hl2, _⟩
        · exact ih.diff i q q2 hq hq2
        · omega
      · rcases snoc_get hq with ⟨_, hq⟩ | ⟨hl2, _⟩
        · have hlast : init.getLast? = some q := by
            rw [List.getLast?_eq_getElem?, ← hq]
            congr 1
            omega
          rw [h3 _ (rd_mem h2)]
          exact h4 q hlast _ (rd_mem (ih.ne i q hq))
        · omega
/-- A device's zone. -/
def znOf (nodes : List S46) (edges : List S43) (d : Int) : Int := (rd_T46 nodes (rd_T43 edges (d - 1)).f1).f2
theorem zoneOf_e {nodes : List S46} {edges : List S43} (F : Fit nodes edges) {d : Int} (h0 : 1 ≤ d) (h1 : d ≤ (edges.length : Int)) : zone_zoneOf.f nodes edges d = some (znOf nodes edges d) ∧ 0 ≤ znOf nodes edges d := by
  have hm := F.m
  obtain ⟨e, rfl⟩ : ∃ e : Nat, d = ((e + 1 : Nat) : Int) := ⟨(d - 1).toNat, by omega⟩
  have he : e < edges.length := by omega
  have hE := F.ends e he
  have hw : wrap64 (((e + 1 : Nat) : Int) - 1) = (e : Int) := by rw [wsm] <;> omega
  have hs : ((e + 1 : Nat) : Int) - 1 = (e : Int) := by omega
  unfold zone_zoneOf.f znOf
  rw [hw, hs, if_neg (by omega), if_neg (by omega), if_pos (by omega), if_pos (by omega), if_pos hE.2.2.1, if_pos hE.2.2.2]
  refine ⟨rfl, ?_⟩
  obtain ⟨v, hv⟩ : ∃ v : Nat, (rd_T43 edges (e : Int)).f1 = (v : Int) := ⟨_, (Int.toNat_of_nonneg hE.2.2.1).symm⟩
  rw [hv]
  exact (F.kinds v (by omega)).2.2.1
theorem Way.devs {nodes : List S46} {edges : List S43} (F : Fit nodes edges) {mask q t : List Int} (T : Tab nodes edges mask q t) {b a : Int} {p : List Int} (h : Way edges t b a p) : 0 ≤ a → a < (nodes.length : Int) → ∀ d ∈ p, 1 ≤ d ∧ d ≤ (edges.length : Int) := by
  induction h with
  | here => intro _ _ d hd; cases hd
  | step h1 h2 h3 ih =>
    intro ha0 ha1 d hd
    obtain ⟨e, he, hd2, hf, _⟩ := T.dev ha0 ha1 h2
    have hE := F.ends e he
    have hs : ∀ z : Int, z = ((e + 1 : Nat) : Int) → z - 1 = (e : Int) := fun z h => by omega
    rw [hs _ hd2] at ih
    rcases List.mem_cons.1 hd with rfl | hd
    · omega
    · exact ih hE.2.2.1 hE.2.2.2 d hd
theorem rdL_at {o : List (List Int)} {i : Nat} (h : i < o.length) : rd_L1 o (i : Int) = o[i] := by simp [rd_L1, List.getD_eq_getElem?_getD, List.getElem?_eq_getElem h]
theorem Zones_loop (nodes : List S46) (edges : List S43) (F : Fit nodes edges) (o : List (List Int)) (e : Int) (ho : o.length ≤ 100000) (hne : ∀ (i : Nat) p, o[i]? = some p → p ≠ []) (hd : ∀ p ∈ o, ∀ x ∈ p, 1 ≤ x ∧ x ≤ (edges.length : Int)) (n : Nat) : ∀ (i : Nat) (acc : List Int), i + n = o.length → acc.length = i →
    EvP (fun k => zone_Zones.l0 k e acc o (o.length : Int) (i : Int) nodes edges) (fun r => r = (acc ++ (o.drop i).map (fun p => znOf nodes edges (rd p 0)), e)) := by
  induction n with
  | zero =>
    intro i acc hi ha
    refine EvP.succ (fun k => zone_Zones.l0.eq_2 _ _ _ _ _ _ _ k) (EvP.no (by omega) (EvP.ret ?_))
    rw [List.drop_eq_nil_of_le (by omega)]
    simp
  | succ n ih =>
    intro i acc hi ha
    have h1 : i < o.length := by omega
    have hp := hne i o[i] (List.getElem?_eq_getElem h1)
    have hlen := List.length_pos_iff.2 hp
    have hin := hd o[i] (List.getElem_mem h1) _ (rd_mem hp)
    have hz := zoneOf_e F hin.1 hin.2
    refine EvP.succ (fun k => zone_Zones.l0.eq_2 _ _ _ _ _ _ _ k) (EvP.yes (by omega) (EvP.yes (by omega) (EvP.yes (by omega) ?_)))
    rw [rdL_at h1, wnext i (by omega)]
    refine EvP.yes (by omega) (EvP.obind hz.1 (EvP.yes (by omega) ((ih (i + 1) _ (by omega) (by simp [ha])).mono (fun r hr => ?_))))
    rw [hr, List.drop_eq_getElem_cons h1, List.map_cons, List.append_assoc]
    rfl
/-- The law's rounds. -/
theorem Law_loop (nodes : List S46) (edges : List S43) (F : Fit nodes edges) (path : List Int) (o : List (List Int)) (z : List Int) (hpl : path.length ≤ 100000) (hfl : o.flatten = path) (ho : o.length ≤ 100000) (H : CI (znOf nodes edges) o) (hd : ∀ p ∈ o, ∀ x ∈ p, 1 ≤ x ∧ x ≤ (edges.length : Int)) (hz : z = o.map (fun p => znOf nodes edges (rd p 0))) (n : Nat) : ∀ (i : Nat) (acc : List Int), i + n = o.length → acc ++ (o.drop i).flatten = path →
    EvP (fun k => stillagelaw09_ZoneJoined.l0 k path o z acc (o.length : Int) (i : Int) nodes edges) (fun r => r = true) := by
  have hm := F.m
  induction n with
  | zero =>
    intro i acc hi ha
    rw [List.drop_eq_nil_of_le (by omega), List.flatten_nil, List.append_nil] at ha
    exact EvP.succ (fun k => stillagelaw09_ZoneJoined.l0.eq_2 _ _ _ _ _ _ _ _ k) (EvP.no (by omega) (EvP.bind (Ints_eq ha (by rw [ha]; exact hpl)) (fun t ht => EvP.ret ht)))
  | succ n ih =>
    intro i acc hi ha
    have h1 : i < o.length := by omega
    have hzl : z.length = o.length := by rw [hz]; simp
    have hrz : ∀ (j : Nat) (hj : j < o.length), rd z (j : Int) = znOf nodes edges (rd o[j] 0) := fun j hj => by
      rw [hz]
      simp [rd, List.getElem?_eq_getElem hj]
    have hgi : o[i]? = some o[i] := List.getElem?_eq_getElem h1
    have hsum : acc.length + o[i].length ≤ path.length := by
      rw [← ha, List.drop_eq_getElem_cons h1]
      simp only [List.flatten_cons, List.length_append]
      omega
    refine EvP.succ (fun k => stillagelaw09_ZoneJoined.l0.eq_2 _ _ _ _ _ _ _ _ k) (EvP.yes (by omega) (EvP.yes (by omega) (EvP.yes (by omega) ?_)))
    rw [rdL_at h1]
    obtain ⟨p, hp⟩ : ∃ p, p = o[i] := ⟨_, rfl⟩
    rw [← hp] at hsum hgi ⊢
    suffices hs : ∀ (m j : Nat), j + m = p.length → EvP (fun k => stillagelaw09_ZoneJoined.l1 k path o z acc (i : Int) (o.length : Int) (i : Int) p (p.length : Int) (j : Int) nodes edges) (fun r => r = true) from hs p.length 0 (by omega)
    intro m
    induction m with
    | zero =>
      intro j hj
      have go : EvP (fun k => stillagelaw09_ZoneJoined.l0 k path o z (acc ++ p) (o.length : Int) (wrap64 ((i : Int) + 1)) nodes edges) (fun r => r = true) := by
        rw [wnext i (by omega)]
        refine ih (i + 1) (acc ++ p) (by omega) ?_
        rw [← ha, List.drop_eq_getElem_cons h1, ← hp]
        simp
      refine EvP.succ (fun k => stillagelaw09_ZoneJoined.l1.eq_2 _ _ _ _ _ _ _ _ _ _ _ _ k) (EvP.no (by omega) ?_)
      by_cases c : 0 < i
      · obtain ⟨i0, rfl⟩ : ∃ i0 : Nat, i = i0 + 1 := ⟨i - 1, by omega⟩
        have hw : wrap64 (((i0 + 1 : Nat) : Int) - 1) = (i0 : Int) := by rw [wsm] <;> omega
        rw [hw]
        have hne : ¬ rd z ((i0 + 1 : Nat) : Int) = rd z (i0 : Int) := by
          rw [hrz (i0 + 1) h1, hrz i0 (by omega), ← hp]
          exact fun e => H.diff i0 _ _ (List.getElem?_eq_getElem (by omega)) hgi e.symm
        refine EvP.yes (by omega) (EvP.yes (by omega) (EvP.yes (by omega) (EvP.yes (by omega) (EvP.yes (by omega) (EvP.no hne (EvP.yes (by omega) ?_))))))
        rw [rdL_at h1, ← hp]
        exact EvP.yes (by omega) go
      · refine EvP.no (by omega) (EvP.yes (by omega) (EvP.yes (by omega) ?_))
        rw [rdL_at h1, ← hp]
        exact EvP.yes (by omega) go
    | succ m ihm =>
      intro j hj
      have hjl : j < p.length := by omega
      have hrp : rd p (j : Int) = p[j] := by simp [rd, List.getElem?_eq_getElem hjl]
      have hx := hd p (by rw [hp]; exact List.getElem_mem h1) p[j] (List.getElem_mem hjl)
      have hsame := H.same i p hgi p[j] (List.getElem_mem hjl)
      have hrzi := hrz i h1
      rw [← hp] at hrzi
      have hpl2 : p.length ≤ 100000 := by omega
      refine EvP.succ (fun k => stillagelaw09_ZoneJoined.l1.eq_2 _ _ _ _ _ _ _ _ _ _ _ _ k) (EvP.yes (by omega) (EvP.yes (by omega) (EvP.yes (by omega) ?_)))
      rw [hrp, wnext j (by omega), hrzi]
      generalize p[j] = x at hx hsame ⊢
      obtain ⟨e, rfl⟩ : ∃ e : Nat, x = ((e + 1 : Nat) : Int) := ⟨(x - 1).toNat, by omega⟩
      have he : e < edges.length := by omega
      have hE := F.ends e he
      have hw : wrap64 (((e + 1 : Nat) : Int) - 1) = (e : Int) := by rw [wsm] <;> omega
      have hs : ((e + 1 : Nat) : Int) - 1 = (e : Int) := by omega
      rw [hw]
      have hzz : (rd_T46 nodes (rd_T43 edges (e : Int)).f1).f2 = znOf nodes edges (rd p 0) := by
        rw [← hsame]
        unfold znOf
        rw [hs]
      exact EvP.no (by omega) (EvP.no (by omega) (EvP.yes (by omega) (EvP.yes (by omega) (EvP.yes hE.2.2.1 (EvP.yes hE.2.2.2 (EvP.yes (by omega) (EvP.yes (by omega) (EvP.yes hzz (ihm (j + 1) (by omega))))))))))
theorem ZoneJoined (l0_0 : List S46) (l0_1 : List S43) (l1 : List Int) (a2_0 a2_1 : Int) (hm0_0 : l0_0.length ≤ maxLen) (hw0_0 : ∀ x ∈ l0_0, x.f0.size ≤ maxLen ∧ (Lit.int .i64 x.f1).wf = true ∧ (Lit.int .i64 x.f2).wf = true) (hm0_1 : l0_1.length ≤ maxLen) (hw0_1 : ∀ x ∈ l0_1, (Lit.int .i64 x.f0).wf = true ∧ (Lit.int .i64 x.f1).wf = true)
    (hm1 : l1.length ≤ maxLen) (hw1 : ∀ x ∈ l1, (Lit.int .i64 x).wf = true) (y1 : l1.length * 8 ≤ 140737488351232) (w2_0 : (Lit.int .i64 a2_0).wf = true) (w2_1 : (Lit.int .i64 a2_1).wf = true) :
    ∃ k, stillagelaw09_ZoneJoined.f k l0_0 l0_1 l1 a2_0 a2_1 = some true := by
  suffices h : EvP (fun k => stillagelaw09_ZoneJoined.f k l0_0 l0_1 l1 a2_0 a2_1) (fun r => r = true) by
    obtain ⟨k, r, h1, h2⟩ := h.get
    exact ⟨k, by rw [h1, h2]⟩
  refine EvP.bind awake_e (fun a ha => EvP.yes ha (EvP.bind (Fits_e l0_0 l0_1 l1) (fun t ht => EvP.split (fun c => ?_) (fun _ => EvP.ret rfl))))
  obtain ⟨F, hml⟩ := ht c
  have hn := F.n
  have hm := F.m
  by_cases hO : a2_0 < 0 ∨ (l0_0.length : Int) ≤ a2_0 ∨ a2_1 < 0 ∨ (l0_0.length : Int) ≤ a2_1
  · refine EvP.bind (Path_out l0_0 l0_1 l1 a2_0 a2_1 hO) (fun p hp => ?_)
    subst hp
    exact EvP.no (by decide) (EvP.ret rfl)
  · obtain ⟨q, t, hq, T, _, hP⟩ := Path_e l0_0 l0_1 F l1 (by omega) a2_1 (by omega) (by omega)
    refine EvP.bind (hP a2_0 (by omega) (by omega)) (fun r hr => ?_)
    rcases hr with ⟨p, hW, rfl⟩ | ⟨_, rfl⟩
    · have hlen := hW.short F T (by omega) (by omega) hq.ok.start
      have hhi := hq.hi a2_0 (by omega) (by omega)
      have hdv := hW.devs F T (by omega) (by omega)
      obtain ⟨o, ho1, ho2, ho3⟩ := zcut_cz (zone_zoneOf.f l0_0 l0_1) (znOf l0_0 l0_1) p (-1) [] (fun d hd => zoneOf_e F (hdv d hd).1 (hdv d hd).2) .nil (fun _ => by decide) (fun init q e => by simp at e)
      rw [List.flatten_nil, List.nil_append] at ho3
      have hCI := ho2.ci
      have hPs : zone_Pieces.f l0_0 l0_1 p = some (o, 0) := by
        unfold zone_Pieces.f
        rw [if_pos (by omega), ho1]
        rfl
      have hol : o.length ≤ p.length := by
        rw [← ho3]
        have hne : ∀ q ∈ o, q ≠ [] := fun q hq => by
          obtain ⟨i, hi⟩ := List.mem_iff_getElem?.1 hq
          exact hCI.ne i q hi
        clear ho1 ho2 ho3 hCI hPs
        induction o with
        | nil => simp
        | cons x o iho =>
          have h1 := iho (fun q hq => hne q (List.mem_cons_of_mem _ hq))
          have h2 := List.length_pos_iff.2 (hne x List.mem_cons_self)
          simp only [List.flatten_cons, List.length_append, List.length_cons]
          omega
      have hdo : ∀ q ∈ o, ∀ x ∈ q, 1 ≤ x ∧ x ≤ (l0_1.length : Int) := fun q hq x hx => hdv x (by rw [← ho3]; exact List.mem_flatten.2 ⟨q, hq, hx⟩)
      refine EvP.yes rfl (EvP.obind hPs (EvP.bind (EvP.obind hPs (Zones_loop l0_0 l0_1 F o 0 (by omega) hCI.ne hdo o.length 0 [] (by omega) rfl)) (fun r hr => ?_)))
      rw [List.drop_zero, List.nil_append] at hr
      subst hr
      refine EvP.yes rfl (EvP.yes rfl ?_)
      rw [show ((((o.map (fun p => znOf l0_0 l0_1 (rd p 0))).length : Nat) : Int) != (o.length : Int)) = false by simp]
      exact EvP.succ (fun k => stillagelaw09_ZoneJoined.j0.eq_2 _ _ _ _ _ _ k) (EvP.no (by simp) (Law_loop l0_0 l0_1 F p o _ (by omega) ho3 (by omega) hCI hdo rfl o.length 0 [] (by omega) (by simpa using ho3)))
    · exact EvP.no (by decide) (EvP.ret rfl)

end Go.Proofs.Ytkdfohmceokchaa.Pure
