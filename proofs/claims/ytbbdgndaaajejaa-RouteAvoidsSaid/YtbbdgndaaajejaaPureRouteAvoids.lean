/- stillagelaw08.RouteAvoids is true at every layout, mask and list of numbers: no condition. -/
import Derived.OpenShut
import Derived.Test.YtbbdgndaaajejaaEvt
import Derived.Test.YtbbdgndaaajejaaBfs
import Derived.Test.YtbbdgndaaajejaaPRouteAvoidsx
set_option linter.unusedVariables false
set_option linter.unusedSimpArgs false
set_option maxRecDepth 10000
namespace Go.Proofs.Ytbbdgndaaajejaa.Pure
open Go.RowKit Go.Proofs.Ytbbdgndaaajejaa.PRouteAvoids Go.Proofs.YtbbdgndaaajejaaW.PrintWords Go.Proofs.YtbbdgndaaajejaaW.PrintLast Go.Proofs.PlainEvt Go.Proofs.PlainBfs
theorem wsm {n : Int} (h0 : 0 ≤ n) (h1 : n ≤ 9223372036854775807) : wrap64 n = n := by unfold wrap64; omega
theorem wnext (i : Nat) (h : i ≤ 1000000) : wrap64 ((i : Int) + 1) = ((i + 1 : Nat) : Int) := by rw [wsm] <;> omega
theorem rd_g (r : List Int) (v : Int) : rd r v = g r v := rfl
def Pass (nodes : List S47) (a : Int) : Prop := (rd_T47 nodes a).f1 = 1
/-- Open edges from a to b: their devices are not named. -/
def EdgeM (edges : List S38) (mask : List Int) (a b : Int) : Prop := ∃ i : Nat, i < edges.length ∧ ¬ ((i : Int) + 1) ∈ mask ∧ (rd_T38 edges i).f0 = a ∧ (rd_T38 edges i).f1 = b
structure Fit (nodes : List S47) (edges : List S38) : Prop where
  n0 : 1 ≤ nodes.length
  n : nodes.length ≤ 40
  m : edges.length ≤ 120
  kinds : ∀ i : Nat, i < nodes.length → 1 ≤ (rd_T47 nodes i).f1 ∧ (rd_T47 nodes i).f1 ≤ 4 ∧ 0 ≤ (rd_T47 nodes i).f2 ∧ (rd_T47 nodes i).f2 ≤ 7
  ends : ∀ i : Nat, i < edges.length → 0 ≤ (rd_T38 edges i).f0 ∧ (rd_T38 edges i).f0 < (nodes.length : Int) ∧ 0 ≤ (rd_T38 edges i).f1 ∧ (rd_T38 edges i).f1 < (nodes.length : Int)
  ne : ∀ i : Nat, i < edges.length → (rd_T38 edges i).f0 ≠ (rd_T38 edges i).f1
  track : ∀ i : Nat, i < edges.length → Pass nodes (rd_T38 edges i).f0 ∨ Pass nodes (rd_T38 edges i).f1
  once : ∀ i j : Nat, i < edges.length → j < i → ¬ ((rd_T38 edges j).f0 = (rd_T38 edges i).f0 ∧ (rd_T38 edges j).f1 = (rd_T38 edges i).f1)
theorem EdgeM.ends {nodes : List S47} {edges : List S38} (F : Fit nodes edges) {mask : List Int} {a b : Int} (h : EdgeM edges mask a b) : 0 ≤ a ∧ a < (nodes.length : Int) ∧ 0 ≤ b ∧ b < (nodes.length : Int) := by
  obtain ⟨i, hi, _, rfl, rfl⟩ := h
  exact F.ends i hi
/-- The lengths of ways from s, told. -/
structure Lens (nodes : List S47) (edges : List S38) (mask : List Int) (s : Int) (r : List Int) : Prop where
  len : r.length = nodes.length
  ok : LensOk nodes.length s (fun a b => EdgeM edges mask a b ∧ (a = s ∨ Pass nodes a)) (g r)
  hi : ∀ v : Int, 0 ≤ v → v < nodes.length → g r v ≤ nodes.length
/-- The lengths of ways to s, told. -/
structure LensTo (nodes : List S47) (edges : List S38) (mask : List Int) (s : Int) (r : List Int) : Prop where
  len : r.length = nodes.length
  ok : LensOk nodes.length s (fun a b => EdgeM edges mask b a ∧ (a = s ∨ Pass nodes a)) (g r)
  hi : ∀ v : Int, 0 ≤ v → v < nodes.length → g r v ≤ nodes.length
theorem eq_of_g {r q : List Int} (hl : r.length = q.length) (h : ∀ v : Int, 0 ≤ v → v < r.length → g r v = g q v) : r = q := by
  apply List.ext_getElem hl
  intro i h1 h2
  have := h (i : Int) (by omega) (by omega)
  unfold g at this
  simpa [List.getD_eq_getElem?_getD, h1, h2] using this
theorem Lens.eq {nodes : List S47} {edges : List S38} {mask : List Int} {s : Int} {r q : List Int} (h : Lens nodes edges mask s r) (h' : Lens nodes edges mask s q) : r = q :=
  eq_of_g (h.1.trans h'.1.symm) (fun v h0 h1 => h.2.eq h'.2 v h0 (by rw [h.1] at h1; exact h1))
theorem LensTo.eq {nodes : List S47} {edges : List S38} {mask : List Int} {s : Int} {r q : List Int} (h : LensTo nodes edges mask s r) (h' : LensTo nodes edges mask s q) : r = q :=
  eq_of_g (h.1.trans h'.1.symm) (fun v h0 h1 => h.2.eq h'.2 v h0 (by rw [h.1] at h1; exact h1))
theorem Lens.to {nodes : List S47} {edges : List S38} {mask : List Int} {s t : Int} {r q : List Int} (h : Lens nodes edges mask s r) (h' : LensTo nodes edges mask t q) (hs0 : 0 ≤ s) (hs1 : s < nodes.length) (ht0 : 0 ≤ t) (ht1 : t < nodes.length) : g r t = g q s :=
  both hs0 hs1 ht0 ht1 h.2 h'.2
theorem Lens.congr {nodes : List S47} {edges : List S38} {mask mask' : List Int} {s : Int} {r : List Int} (h : Lens nodes edges mask s r) (he : ∀ i : Nat, i < edges.length → (((i : Int) + 1) ∈ mask ↔ ((i : Int) + 1) ∈ mask')) : Lens nodes edges mask' s r := by
  refine ⟨h.1, h.2.congr (fun a b => ?_), h.3⟩
  have : EdgeM edges mask a b ↔ EdgeM edges mask' a b := by
    constructor
    · rintro ⟨i, h1, h2, h3⟩
      exact ⟨i, h1, fun c => h2 ((he i h1).2 c), h3⟩
    · rintro ⟨i, h1, h2, h3⟩
      exact ⟨i, h1, fun c => h2 ((he i h1).1 c), h3⟩
  rw [this]
theorem LensTo.congr {nodes : List S47} {edges : List S38} {mask mask' : List Int} {s : Int} {r : List Int} (h : LensTo nodes edges mask s r) (he : ∀ i : Nat, i < edges.length → (((i : Int) + 1) ∈ mask ↔ ((i : Int) + 1) ∈ mask')) : LensTo nodes edges mask' s r := by
  refine ⟨h.1, h.2.congr (fun a b => ?_), h.3⟩
  have : EdgeM edges mask b a ↔ EdgeM edges mask' b a := by
    constructor
    · rintro ⟨i, h1, h2, h3⟩
      exact ⟨i, h1, fun c => h2 ((he i h1).2 c), h3⟩
    · rintro ⟨i, h1, h2, h3⟩
      exact ⟨i, h1, fun c => h2 ((he i h1).1 c), h3⟩
  rw [this]
/-- What is shut, told of the mask. -/
def Shut (edges : List S38) (mask : List Int) (sh : List Bool) : Prop := sh.length = edges.length + 1 ∧ ∀ j : Nat, 1 ≤ j → j ≤ edges.length → (sh.getD j false = true ↔ (j : Int) ∈ mask)
theorem shut_loop (mask : List Int) (hl : mask.length ≤ 10000) (n : Nat) : ∀ (i : Nat) (sh : List Bool), i + n = mask.length → EvP (fun k => reach_shut.l0 k sh mask (mask.length : Int) (i : Int)) (fun r => r.length = sh.length ∧
    ∀ j : Nat, 1 ≤ j → j < sh.length → r.getD j false = (sh.getD j false || decide ((j : Int) ∈ mask.drop i))) := by
  induction n with
  | zero =>
    intro i sh hi
    refine EvP.succ (fun k => reach_shut.l0.eq_2 _ _ _ _ k) (EvP.no (by omega) (EvP.ret ⟨rfl, fun j _ _ => ?_⟩))
    rw [List.drop_eq_nil_of_le (by omega)]
    simp
  | succ n ih =>
    intro i sh hi
    have hil : i < mask.length := by omega
    have hd : mask.drop i = mask[i] :: mask.drop (i + 1) := List.drop_eq_getElem_cons hil
    have hrd : rd mask (i : Int) = mask[i] := by simp [rd, List.getElem?_eq_getElem hil]
    have hw := wnext i (by omega)
    refine EvP.succ (fun k => reach_shut.l0.eq_2 _ _ _ _ k) (EvP.yes (by omega) (EvP.yes (by omega) (EvP.yes (by omega) ?_)))
    have skip : ¬ (rd mask (i : Int) ≥ 1 ∧ rd mask (i : Int) < (sh.length : Int)) → EvP (fun k => reach_shut.l0 k sh mask (mask.length : Int) (wrap64 ((i : Int) + 1))) (fun r => r.length = sh.length ∧ ∀ j : Nat, 1 ≤ j → j < sh.length → r.getD j false = (sh.getD j false || decide ((j : Int) ∈ mask.drop i))) := by
      intro c
      rw [hw]
      refine (ih (i + 1) sh (by omega)).mono (fun r ⟨h1, h2⟩ => ⟨h1, fun j hj1 hj2 => ?_⟩)
      rw [h2 j hj1 hj2, hd]
      have : ¬ (j : Int) = mask[i] := by omega
      simp only [List.mem_cons, this, false_or]
    refine EvP.split (fun c1 => EvP.split (fun c2 => EvP.yes (by omega) ?_) (fun c2 => skip (fun c => c2 c.2))) (fun c1 => skip (fun c => c1 c.1))
    rw [hw]
    refine (ih (i + 1) (sh.set (rd mask (i : Int)).toNat true) (by omega)).mono (fun r ⟨h1, h2⟩ => ⟨by rw [h1, List.length_set], fun j hj1 hj2 => ?_⟩)
    rw [h2 j hj1 (by rw [List.length_set]; exact hj2), hd]
    simp only [List.mem_cons]
    by_cases cj : (rd mask (i : Int)).toNat = j
    · have : (j : Int) = mask[i] := by omega
      simp [List.getD_eq_getElem?_getD, cj, hj2, this]
    · have : ¬ (j : Int) = mask[i] := by omega
      simp [List.getD_eq_getElem?_getD, cj, this]
theorem shut_e (nodes : List S47) (edges : List S38) (mask : List Int) (hl : mask.length ≤ 10000) (hm : edges.length ≤ 1000) : EvP (fun k => reach_shut.f k nodes edges mask) (Shut edges mask) := by
  have hw : wrap64 ((edges.length : Int) + 1) = ((edges.length + 1 : Nat) : Int) := by rw [wsm] <;> omega
  refine EvP.yes (by rw [hw]; omega) (EvP.yes (by rw [hw]; omega) ?_)
  rw [hw]
  refine (shut_loop mask hl mask.length 0 _ (by omega)).mono (fun r ⟨h1, h2⟩ => ⟨by rw [h1, List.length_replicate]; omega, fun j hj1 hj2 => ?_⟩)
  rw [h2 j hj1 (by rw [List.length_replicate]; omega)]
  have : (List.replicate (((edges.length + 1 : Nat) : Int)).toNat false).getD j false = false := by
    rw [List.getD_eq_getElem?_getD, List.getElem?_replicate]
    split <;> rfl
  rw [this]
  simp
def Ed1 (nodes : List S47) (edges : List S38) (sh : List Bool) (s : Int) (a b : Int) : Prop := (∃ i : Nat, i < edges.length ∧ sh.getD (i + 1) false = false ∧ (rd_T38 edges i).f1 = a ∧ (rd_T38 edges i).f0 = b) ∧ (a = s ∨ Pass nodes a)
theorem Ed1.ends {nodes : List S47} {edges : List S38} (F : Fit nodes edges) {sh : List Bool} {s a b : Int} (h : Ed1 nodes edges sh s a b) : 0 ≤ a ∧ a < (nodes.length : Int) ∧ 0 ≤ b ∧ b < (nodes.length : Int) := by
  obtain ⟨⟨i, hi, _, rfl, rfl⟩, _⟩ := h
  have := F.ends i hi
  exact ⟨this.2.2.1, this.2.2.2, this.1, this.2.1⟩
abbrev Res1 (nodes : List S47) (edges : List S38) (sh : List Bool) (s : Int) (res : List Int) : Prop := LensOk nodes.length s (Ed1 nodes edges sh s) (g res) ∧ res.length = nodes.length ∧ ∀ v : Int, 0 ≤ v → v < nodes.length → g res v ≤ nodes.length
theorem inner1 (nodes : List S47) (edges : List S38) (F : Fit nodes edges) (sh : List Bool) (hsh : sh.length = edges.length + 1) (s u : Int) (hK : u = s ∨ Pass nodes u) (M : Nat) (hM : M ≤ 1000)
    (next : ∀ r q : List Int, q.length + cnt r ≤ M → Inv nodes.length s (Ed1 nodes edges sh s) r q → EvP (fun k => reach_lengths_1.l0 k sh s r q nodes edges) (Res1 nodes edges sh s)) (n : Nat) :
    ∀ (i : Nat) (r rest : List Int), i + n = edges.length → rest.length + cnt r ≤ M → Inv nodes.length s (Ed1 nodes edges sh s) r (u :: rest) →
      (∀ j : Nat, j < i → sh.getD (j + 1) false = false → (rd_T38 edges j).f1 = u → 0 ≤ g r (rd_T38 edges j).f0 ∧ g r (rd_T38 edges j).f0 ≤ g r u + 1) →
      EvP (fun k => reach_lengths_1.l1 k sh s r (u :: rest) u edges (edges.length : Int) (i : Int) nodes edges) (Res1 nodes edges sh s) := by
  induction n with
  | zero =>
    intro i r rest hi hc hI hJ
    refine EvP.succ (fun k => reach_lengths_1.l1.eq_2 _ _ _ _ _ _ _ _ _ _ k) (EvP.no (by omega) (EvP.yes (by simp; omega) (next r rest hc (hI.pop (fun b hb => ?_)))))
    obtain ⟨⟨j, hj, h1, h2, h3⟩, _⟩ := hb
    have := hJ j (by omega) h1 h2
    rw [h3] at this
    exact this
  | succ n ih =>
    intro i r rest hi hc hI hJ
    have hm := F.m
    have hn := F.n
    have hw : wrap64 ((i : Int) + 1) = ((i + 1 : Nat) : Int) := by rw [wsm] <;> omega
    have hu := hI.qin u (by simp)
    have E := F.ends i (by omega)
    have hlen := hI.len
    have hgo : ∀ r' rest', rest'.length + cnt r' ≤ M → Inv nodes.length s (Ed1 nodes edges sh s) r' (u :: rest') → (∀ j : Nat, j < i + 1 → sh.getD (j + 1) false = false → (rd_T38 edges j).f1 = u → 0 ≤ g r' (rd_T38 edges j).f0 ∧ g r' (rd_T38 edges j).f0 ≤ g r' u + 1) →
      EvP (fun k => reach_lengths_1.l1 k sh s r' (u :: rest') u edges (edges.length : Int) (wrap64 ((i : Int) + 1)) nodes edges) (Res1 nodes edges sh s) := by
      intro r' rest' h1 h2 h3
      rw [hw]
      exact ih (i + 1) r' rest' (by omega) h1 h2 h3
    have hsd : rdOf false sh (wrap64 ((i : Int) + 1)) = sh.getD (i + 1) false := by rw [hw]; rfl
    refine EvP.succ (fun k => reach_lengths_1.l1.eq_2 _ _ _ _ _ _ _ _ _ _ k) (EvP.yes (by omega) (EvP.yes (by omega) (EvP.yes (by omega) (EvP.yes (by omega) (EvP.yes (by omega) (EvP.split (fun c1 => ?_) (fun c1' => EvP.split (fun c2 => EvP.yes (by omega) (EvP.yes (by omega) (EvP.split (fun c3 => EvP.yes (by omega) (EvP.yes (by omega) (EvP.yes (by simp; omega) ?_))) (fun c3 => ?_)))) (fun c2 => ?_))))))))
    · rw [hsd] at c1
      refine hgo r rest hc hI (fun j hj h1 h2 => ?_)
      by_cases hji : j = i
      · subst hji; rw [c1] at h1; cases h1
      · exact hJ j (by omega) h1 h2
    · have c1 : ¬ sh.getD (i + 1) false = true := by rw [hsd] at c1'; exact c1'
      have hEd : Ed1 nodes edges sh s u (rd_T38 edges (i : Int)).f0 := ⟨⟨i, by omega, by simpa using c1, c2, rfl⟩, hK⟩
      have hub := hI.hi u hu.1 hu.2.1
      have hA := hI.assign (b := (rd_T38 edges (i : Int)).f0) E.1 E.2.1 c3 hEd (fun a b h => Ed1.ends F h)
      have hwr : wrap64 (rd r u + 1) = g r u + 1 := by rw [rd_g, wsm] <;> omega
      have hcs := cnt_set (r := r) (x := g r u + 1) E.1 (by omega) c3 (by omega)
      have G : ∀ v : Int, 0 ≤ v → g (r.set ((rd_T38 edges (i : Int)).f0).toNat (g r u + 1)) v = if v = (rd_T38 edges (i : Int)).f0 then g r u + 1 else g r v := fun v hv => g_set E.1 (by omega) hv
      have hub' : ¬ u = (rd_T38 edges (i : Int)).f0 := by intro e; rw [rd_g, ← e] at c3; omega
      rw [hwr]
      refine hgo _ (rest ++ [(rd_T38 edges (i : Int)).f0]) (by rw [List.length_append]; simp; omega) hA (fun j hj h1 h2 => ?_)
      have Ej := F.ends j (by omega)
      rw [G _ Ej.1, G u hu.1, if_neg hub']
      by_cases hji : j = i
      · subst hji; rw [if_pos rfl]; omega
      · have := hJ j (by omega) h1 h2
        split
        · omega
        · exact this
    · refine hgo r rest hc hI (fun j hj h1 h2 => ?_)
      by_cases hji : j = i
      · subst hji
        have := hI.top u rest rfl _ E.1 E.2.1
        rw [rd_g] at c3
        omega
      · exact hJ j (by omega) h1 h2
    · refine hgo r rest hc hI (fun j hj h1 h2 => ?_)
      by_cases hji : j = i
      · subst hji; exact absurd h2 c2
      · exact hJ j (by omega) h1 h2
theorem outer1 (nodes : List S47) (edges : List S38) (F : Fit nodes edges) (sh : List Bool) (hsh : sh.length = edges.length + 1) (s : Int) (M : Nat) :
    M ≤ 1000 → ∀ r q : List Int, q.length + cnt r ≤ M → Inv nodes.length s (Ed1 nodes edges sh s) r q → EvP (fun k => reach_lengths_1.l0 k sh s r q nodes edges) (Res1 nodes edges sh s) := by
  induction M with
  | zero =>
    intro _ r q hc hI
    obtain rfl : q = [] := List.length_eq_zero_iff.1 (by omega)
    exact EvP.succ (fun k => reach_lengths_1.l0.eq_2 _ _ _ _ _ _ k) (EvP.no (by simp) (EvP.ret ⟨hI.good (fun a b h => Ed1.ends F h), hI.len, fun v h0 h1 => by have := hI.hi v h0 h1; omega⟩))
  | succ M ih =>
    intro hM r q hc hI
    cases q with
    | nil => exact EvP.succ (fun k => reach_lengths_1.l0.eq_2 _ _ _ _ _ _ k) (EvP.no (by simp) (EvP.ret ⟨hI.good (fun a b h => Ed1.ends F h), hI.len, fun v h0 h1 => by have := hI.hi v h0 h1; omega⟩))
    | cons u rest =>
      have hu := hI.qin u (by simp)
      have h0 : rd (u :: rest) 0 = u := rfl
      have hlen : rest.length + cnt r ≤ M := by simp at hc; omega
      have next := ih (by omega)
      refine EvP.succ (fun k => reach_lengths_1.l0.eq_2 _ _ _ _ _ _ k) (EvP.yes (by simp) (EvP.yes (by simp) ?_))
      rw [h0]
      by_cases hK : u = s ∨ Pass nodes u
      · have ej : EvP (fun k => reach_lengths_1.j1 k sh s r (u :: rest) u false nodes edges) (Res1 nodes edges sh s) := EvP.succ (fun k => reach_lengths_1.j1.eq_2 _ _ _ _ _ _ _ _ k) (EvP.no (by simp) (inner1 nodes edges F sh hsh s u hK M (by omega) next edges.length 0 r rest (by omega) hlen hI (fun j hj => by omega)))
        refine EvP.split (fun _ => ej) (fun c => EvP.yes hu.1 (EvP.yes hu.2.1 ?_))
        have : ((rd_T47 nodes u).f1 != 1) = false := by simpa [Pass] using hK.resolve_left c
        rw [this]
        exact ej
      · have e := next r rest hlen (hI.pop (fun b hb => absurd hb.2 hK))
        refine EvP.no (fun c => hK (.inl c)) (EvP.yes hu.1 (EvP.yes hu.2.1 ?_))
        have : ((rd_T47 nodes u).f1 != 1) = true := by
          simp only [bne_iff_ne, ne_eq]
          exact fun c => hK (.inr c)
        rw [this]
        exact EvP.succ (fun k => reach_lengths_1.j1.eq_2 _ _ _ _ _ _ _ _ k) (EvP.yes rfl (EvP.yes (by simp; omega) e))
theorem lens1_sh (nodes : List S47) (edges : List S38) (F : Fit nodes edges) (sh : List Bool) (hsh : sh.length = edges.length + 1) (s : Int) (h0 : 0 ≤ s) (h1 : s < (nodes.length : Int)) :
    EvP (fun k => reach_lengths_1.f k nodes edges sh s 1) (Res1 nodes edges sh s) := by
  have hn := F.n
  have hn0 := F.n0
  refine EvP.obind (a := List.replicate nodes.length (-1)) ?_ (EvP.yes h0 (EvP.yes (by simp; omega) ?_))
  · unfold slices_Repeat_int_int.f
    rw [if_pos ⟨rfl, by omega, by omega⟩]
    simp [rd]
  · refine outer1 nodes edges F sh hsh s 1000 (by omega) _ [s] ?_ (Inv.init h0 h1)
    have : cnt ((List.replicate nodes.length (-1 : Int)).set s.toNat 0) ≤ nodes.length := by
      have := List.countP_le_length (p := fun x : Int => decide (x < 0)) (l := (List.replicate nodes.length (-1 : Int)).set s.toNat 0)
      simpa [cnt] using this
    simp; omega
theorem lens1_e (nodes : List S47) (edges : List S38) (F : Fit nodes edges) (mask : List Int) (sh : List Bool) (hs : Shut edges mask sh) (s : Int) (h0 : 0 ≤ s) (h1 : s < (nodes.length : Int)) :
    EvP (fun k => reach_lengths_1.f k nodes edges sh s 1) (LensTo nodes edges mask s) := by
  refine (lens1_sh nodes edges F sh hs.1 s h0 h1).mono (fun r ⟨h, hl, hh⟩ => ⟨hl, h.congr (fun a b => ?_), hh⟩)
  have : (∃ i : Nat, i < edges.length ∧ sh.getD (i + 1) false = false ∧ (rd_T38 edges i).f1 = a ∧ (rd_T38 edges i).f0 = b) ↔ EdgeM edges mask b a := by
    constructor
    · rintro ⟨i, h1, h2, h3, h4⟩
      refine ⟨i, h1, fun c => ?_, h4, h3⟩
      have := (hs.2 (i + 1) (by omega) (by omega)).2 (by simpa using c)
      rw [h2] at this
      cases this
    · rintro ⟨i, h1, h2, h4, h3⟩
      refine ⟨i, h1, ?_, h3, h4⟩
      rw [Bool.eq_false_iff]
      intro c
      exact h2 (by simpa using (hs.2 (i + 1) (by omega) (by omega)).1 c)
  show _ ∧ _ ↔ _
  rw [this]
theorem To_e (nodes : List S47) (edges : List S38) (F : Fit nodes edges) (mask : List Int) (hl : mask.length ≤ 10000) (s : Int) (h0 : 0 ≤ s) (h1 : s < (nodes.length : Int)) :
    EvP (fun k => reach_To.f k nodes edges mask s) (fun r => LensTo nodes edges mask s r.1 ∧ r.2 = 0) := by
  have hm := F.m
  refine EvP.no (by omega) ?_
  rw [decide_eq_false (by omega)]
  refine EvP.succ (fun k => reach_To.j0.eq_2 _ _ _ _ _ k) (EvP.no (by simp) (EvP.bind (shut_e nodes edges mask hl (by omega)) (fun sh hs => EvP.bind (lens1_e nodes edges F mask sh hs s h0 h1) (fun r hr => EvP.ret ⟨hr, rfl⟩))))
theorem To_out (nodes : List S47) (edges : List S38) (mask : List Int) (s : Int) (h : s < 0 ∨ (nodes.length : Int) ≤ s) : EvP (fun k => reach_To.f k nodes edges mask s) (fun r => r.1 = [] ∧ r.2 = 1) := by
  have e : EvP (fun k => reach_To.j0 k mask s true nodes edges) (fun r => r.1 = [] ∧ r.2 = 1) := EvP.succ (fun k => reach_To.j0.eq_2 _ _ _ _ _ k) (EvP.yes rfl (EvP.ret ⟨rfl, rfl⟩))
  refine EvP.split (fun _ => e) (fun c => ?_)
  rw [decide_eq_true (by omega)]
  exact e
theorem Name_e (s : ByteArray) : EvP (fun k => stillageref06_Name.f k s) (fun _ => True) := by
  have l0 : ∀ (n i : Nat), i + n = s.size → s.size ≤ 8 → EvP (fun k => stillageref06_Name.l0 k s (i : Int)) (fun _ => True) := by
    intro n
    induction n with
    | zero =>
      intro i hi h8
      exact EvP.succ (fun k => stillageref06_Name.l0.eq_2 _ _ k) (EvP.no (by omega) (EvP.ret trivial))
    | succ n ih =>
      intro i hi h8
      have hg : EvP (fun k => stillageref06_Name.l0 k s (wrap64 ((i : Int) + 1))) (fun _ => True) := by
        rw [wnext i (by omega)]
        exact ih (i + 1) (by omega) h8
      have hf : EvP (fun _ => some false) (fun _ => True) := EvP.ret trivial
      refine EvP.succ (fun k => stillageref06_Name.l0.eq_2 _ _ k) (EvP.yes (by omega) (EvP.yes (by omega) (EvP.split (fun _ => EvP.split (fun _ => EvP.split (fun _ => hg) (fun _ => EvP.split (fun _ => hf) (fun _ => EvP.split (fun _ => hg) (fun _ => hf)))) (fun _ => EvP.split (fun _ => hg) (fun _ => EvP.split (fun _ => hf) (fun _ => hf)))) (fun _ => EvP.split (fun _ => EvP.split (fun _ => hf) (fun _ => EvP.split (fun _ => hg) (fun _ => hf))) (fun _ => EvP.split (fun _ => hf) (fun _ => hf))))))
  refine EvP.split (fun _ => EvP.succ (fun k => stillageref06_Name.j0.eq_2 _ _ k) (EvP.yes rfl (EvP.ret trivial))) (fun _ => ?_)
  by_cases c : (s.size : Int) > 8
  · rw [decide_eq_true c]
    exact EvP.succ (fun k => stillageref06_Name.j0.eq_2 _ _ k) (EvP.yes rfl (EvP.ret trivial))
  · rw [decide_eq_false c]
    exact EvP.succ (fun k => stillageref06_Name.j0.eq_2 _ _ k) (EvP.no (by simp) (l0 s.size 0 (by omega) (by omega)))
theorem Find_e (nodes : List S47) (edges : List S38) (s : ByteArray) (hn : nodes.length ≤ 1000) : EvP (fun k => stillageref06_Find.f k nodes edges s) (fun _ => True) := by
  have l0 : ∀ (n i : Nat), i + n = nodes.length → EvP (fun k => stillageref06_Find.l0 k s (nodes.length : Int) (i : Int) nodes edges) (fun _ => True) := by
    intro n
    induction n with
    | zero =>
      intro i hi
      exact EvP.succ (fun k => stillageref06_Find.l0.eq_2 _ _ _ _ _ k) (EvP.no (by omega) (EvP.ret trivial))
    | succ n ih =>
      intro i hi
      refine EvP.succ (fun k => stillageref06_Find.l0.eq_2 _ _ _ _ _ k) (EvP.yes (by omega) (EvP.yes (by omega) (EvP.yes (by omega) (EvP.split (fun _ => EvP.ret trivial) (fun _ => ?_)))))
      rw [wnext i (by omega)]
      exact ih (i + 1) (by omega)
  exact l0 nodes.length 0 (by omega)
abbrev EdgeOk (nodes : List S47) (edges : List S38) (i : Nat) : Prop :=
  (0 ≤ (rd_T38 edges i).f0 ∧ (rd_T38 edges i).f0 < (nodes.length : Int) ∧ 0 ≤ (rd_T38 edges i).f1 ∧ (rd_T38 edges i).f1 < (nodes.length : Int)) ∧ (rd_T38 edges i).f0 ≠ (rd_T38 edges i).f1 ∧ (Pass nodes (rd_T38 edges i).f0 ∨ Pass nodes (rd_T38 edges i).f1) ∧
    ∀ j : Nat, j < i → ¬ ((rd_T38 edges j).f0 = (rd_T38 edges i).f0 ∧ (rd_T38 edges j).f1 = (rd_T38 edges i).f1)
theorem Good_l2 (nodes : List S47) (edges : List S38) (hm : edges.length ≤ 120) (i : Nat) (hi : i < edges.length) (P : Bool → Prop) (hf : P false)
    (next : (∀ j : Nat, j < i → ¬ ((rd_T38 edges j).f0 = (rd_T38 edges i).f0 ∧ (rd_T38 edges j).f1 = (rd_T38 edges i).f1)) → EvP (fun k => stillageref06_Good.l1 k (edges.length : Int) (wrap64 ((i : Int) + 1)) nodes edges) P) (n : Nat) :
    ∀ j : Nat, j + n = i → (∀ j' : Nat, j' < j → ¬ ((rd_T38 edges j').f0 = (rd_T38 edges i).f0 ∧ (rd_T38 edges j').f1 = (rd_T38 edges i).f1)) → EvP (fun k => stillageref06_Good.l2 k (i : Int) (j : Int) (edges.length : Int) (i : Int) nodes edges) P := by
  induction n with
  | zero =>
    intro j hj hp
    obtain rfl : j = i := by omega
    exact EvP.succ (fun k => stillageref06_Good.l2.eq_2 _ _ _ _ _ _ k) (EvP.no (by omega) (next hp))
  | succ n ih =>
    intro j hj hp
    refine EvP.succ (fun k => stillageref06_Good.l2.eq_2 _ _ _ _ _ _ k) (EvP.yes (by omega) (EvP.yes (by omega) (EvP.yes (by omega) (EvP.yes (by omega) (EvP.yes (by omega) (EvP.split (fun _ => EvP.ret hf) (fun c => ?_)))))))
    rw [wnext j (by omega)]
    refine ih (j + 1) (by omega) (fun j' hj' => ?_)
    by_cases e : j' = j
    · subst e
      intro h
      apply c
      simp [h.1, h.2]
    · exact hp j' (by omega)
theorem Good_l1 (nodes : List S47) (edges : List S38) (hm : edges.length ≤ 120) (n : Nat) : ∀ i : Nat, i + n = edges.length → EvP (fun k => stillageref06_Good.l1 k (edges.length : Int) (i : Int) nodes edges) (fun b => b = true → ∀ j : Nat, i ≤ j → j < edges.length → EdgeOk nodes edges j) := by
  induction n with
  | zero =>
    intro i hi
    exact EvP.succ (fun k => stillageref06_Good.l1.eq_2 _ _ _ _ k) (EvP.no (by omega) (EvP.ret (fun _ j h1 h2 => by omega)))
  | succ n ih =>
    intro i hi
    have hff : (false = true) → ∀ j : Nat, i ≤ j → j < edges.length → EdgeOk nodes edges j := fun h => by cases h
    have bad : ∀ (x6 x7 : Int), EvP (fun k => stillageref06_Good.j3 k (i : Int) x6 x7 (edges.length : Int) (i : Int) true nodes edges) (fun b => b = true → ∀ j : Nat, i ≤ j → j < edges.length → EdgeOk nodes edges j) := fun x6 x7 =>
      EvP.succ (fun k => stillageref06_Good.j3.eq_2 _ _ _ _ _ _ _ _ k) (EvP.yes rfl (EvP.ret hff))
    refine EvP.succ (fun k => stillageref06_Good.l1.eq_2 _ _ _ _ k) (EvP.yes (by omega) (EvP.yes (by omega) (EvP.yes (by omega) (EvP.split (fun _ => bad _ _) (fun c1 => EvP.split (fun _ => bad _ _) (fun c2 => EvP.split (fun _ => bad _ _) (fun c3 => EvP.split (fun _ => bad _ _) (fun c4 => ?_))))))))
    by_cases c5 : (rd_T38 edges (i : Int)).f0 = (rd_T38 edges (i : Int)).f1
    · rw [show ((rd_T38 edges (i : Int)).f0 == (rd_T38 edges (i : Int)).f1) = true from by simpa using c5]
      exact bad _ _
    · rw [show ((rd_T38 edges (i : Int)).f0 == (rd_T38 edges (i : Int)).f1) = false from by simpa using c5]
      have go : (Pass nodes (rd_T38 edges (i : Int)).f0 ∨ Pass nodes (rd_T38 edges (i : Int)).f1) → EvP (fun k => stillageref06_Good.j4 k (i : Int) (edges.length : Int) (i : Int) false nodes edges) (fun b => b = true → ∀ j : Nat, i ≤ j → j < edges.length → EdgeOk nodes edges j) := by
        intro hp
        refine EvP.succ (fun k => stillageref06_Good.j4.eq_2 _ _ _ _ _ _ k) (EvP.no (by simp) (Good_l2 nodes edges hm i (by omega) _ hff (fun hd => ?_) i 0 (by omega) (fun j' hj' => by omega)))
        rw [wnext i (by omega)]
        refine (ih (i + 1) (by omega)).mono (fun b h hb j h1 h2 => ?_)
        by_cases e : j = i
        · subst e
          exact ⟨⟨by omega, by omega, by omega, by omega⟩, c5, hp, hd⟩
        · exact h hb j (by omega) h2
      refine EvP.succ (fun k => stillageref06_Good.j3.eq_2 _ _ _ _ _ _ _ _ k) (EvP.no (by simp) (EvP.yes (by omega) (EvP.yes (by omega) (EvP.split (fun c6 => go (.inl c6)) (fun c6 => EvP.yes (by omega) (EvP.yes (by omega) ?_))))))
      by_cases c7 : (rd_T47 nodes (rd_T38 edges (i : Int)).f1).f1 = 1
      · rw [show ((rd_T47 nodes (rd_T38 edges (i : Int)).f1).f1 != 1) = false from by simpa using c7]
        exact go (.inr c7)
      · rw [show ((rd_T47 nodes (rd_T38 edges (i : Int)).f1).f1 != 1) = true from by simpa using c7]
        exact EvP.succ (fun k => stillageref06_Good.j4.eq_2 _ _ _ _ _ _ k) (EvP.yes rfl (EvP.ret hff))
abbrev NodeOk (nodes : List S47) (i : Nat) : Prop := 1 ≤ (rd_T47 nodes i).f1 ∧ (rd_T47 nodes i).f1 ≤ 4 ∧ 0 ≤ (rd_T47 nodes i).f2 ∧ (rd_T47 nodes i).f2 ≤ 7
theorem Good_l0 (nodes : List S47) (edges : List S38) (hn : nodes.length ≤ 40) (hm : edges.length ≤ 120) (n : Nat) : ∀ i : Nat, i + n = nodes.length → EvP (fun k => stillageref06_Good.l0 k (nodes.length : Int) (i : Int) nodes edges) (fun b => b = true → (∀ j : Nat, i ≤ j → j < nodes.length → NodeOk nodes j) ∧ ∀ j : Nat, j < edges.length → EdgeOk nodes edges j) := by
  induction n with
  | zero =>
    intro i hi
    refine EvP.succ (fun k => stillageref06_Good.l0.eq_2 _ _ _ _ k) (EvP.no (by omega) ((Good_l1 nodes edges hm edges.length 0 (by omega)).mono (fun b h hb => ⟨fun j h1 h2 => by omega, fun j hj => h hb j (by omega) hj⟩)))
  | succ n ih =>
    intro i hi
    have hff : (false = true) → (∀ j : Nat, i ≤ j → j < nodes.length → NodeOk nodes j) ∧ ∀ j : Nat, j < edges.length → EdgeOk nodes edges j := fun h => by cases h
    refine EvP.succ (fun k => stillageref06_Good.l0.eq_2 _ _ _ _ k) (EvP.yes (by omega) (EvP.yes (by omega) (EvP.yes (by omega) (EvP.bind (Name_e _) (fun t _ => EvP.split (fun _ => EvP.split (fun _ => EvP.ret hff) (fun c1 => EvP.split (fun _ => EvP.ret hff) (fun c2 => EvP.split (fun _ => EvP.ret hff) (fun c3 => EvP.split (fun _ => EvP.ret hff) (fun c4 => EvP.bind (Find_e nodes edges _ (by omega)) (fun t _ => EvP.split (fun _ => ?_) (fun _ => EvP.ret hff))))))) (fun _ => EvP.ret hff))))))
    rw [wnext i (by omega)]
    refine (ih (i + 1) (by omega)).mono (fun b h hb => ⟨fun j h1 h2 => ?_, (h hb).2⟩)
    by_cases e : j = i
    · subst e
      exact ⟨by omega, by omega, by omega, by omega⟩
    · exact (h hb).1 j (by omega) h2
theorem Good_e (nodes : List S47) (edges : List S38) : EvP (fun k => stillageref06_Good.f k nodes edges) (fun b => b = true → Fit nodes edges) := by
  have bad : EvP (fun k => stillageref06_Good.j0 k true nodes edges) (fun b => b = true → Fit nodes edges) := EvP.succ (fun k => stillageref06_Good.j0.eq_2 _ _ _ k) (EvP.yes rfl (EvP.ret (fun h => by cases h)))
  refine EvP.split (fun _ => bad) (fun c1 => EvP.split (fun _ => bad) (fun c2 => ?_))
  by_cases c3 : (edges.length : Int) > 120
  · rw [decide_eq_true c3]
    exact bad
  · rw [decide_eq_false c3]
    refine EvP.succ (fun k => stillageref06_Good.j0.eq_2 _ _ _ k) (EvP.no (by simp) ((Good_l0 nodes edges (by omega) (by omega) nodes.length 0 (by omega)).mono (fun b h hb => ?_)))
    obtain ⟨hN, hE⟩ := h hb
    exact ⟨by omega, by omega, by omega, fun i hi => hN i (by omega) hi, fun i hi => (hE i hi).1, fun i hi => (hE i hi).2.1, fun i hi => (hE i hi).2.2.1, fun i j hi hj => (hE i hi).2.2.2 j hj⟩
theorem Fits_e (nodes : List S47) (edges : List S38) (mask : List Int) : EvP (fun k => stillagelaw07_Fits.f k nodes edges mask) (fun b => b = true → Fit nodes edges ∧ mask.length ≤ 200) := by
  refine EvP.split (fun c => EvP.bind (Good_e nodes edges) (fun t ht => EvP.ret (fun h => ⟨ht h, by omega⟩))) (fun _ => EvP.ret (fun h => by cases h))
theorem Ints_loop (x y : List Int) (hl : x.length = y.length) (hm : x.length ≤ 100000) (n : Nat) : ∀ i : Nat, i + n = x.length → EvP (fun k => stillageref01_Ints.l0 k x y (x.length : Int) (i : Int)) (fun r => r = true ↔ x.drop i = y.drop i) := by
  induction n with
  | zero =>
    intro i hi
    refine EvP.succ (fun k => stillageref01_Ints.l0.eq_2 _ _ _ _ k) (EvP.no (by omega) (EvP.ret ?_))
    rw [List.drop_eq_nil_of_le (by omega), List.drop_eq_nil_of_le (by omega)]
    simp
  | succ n ih =>
    intro i hi
    have h1 : i < x.length := by omega
    have h2 : i < y.length := by omega
    have e1 : rd x (i : Int) = x[i] := by simp [rd, List.getElem?_eq_getElem h1]
    have e2 : rd y (i : Int) = y[i] := by simp [rd, List.getElem?_eq_getElem h2]
    refine EvP.succ (fun k => stillageref01_Ints.l0.eq_2 _ _ _ _ k) (EvP.yes (by omega) (EvP.yes (by omega) (EvP.yes (by omega) (EvP.yes (by omega) (EvP.split (fun c => ?_) (fun c => EvP.ret ?_))))))
    · rw [wnext i (by omega)]
      refine (ih (i + 1) (by omega)).mono (fun r h => ?_)
      rw [h, List.drop_eq_getElem_cons h1, List.drop_eq_getElem_cons h2]
      rw [e1, e2] at c
      simp only [List.cons.injEq, c, true_and]
    · rw [List.drop_eq_getElem_cons h1, List.drop_eq_getElem_cons h2]
      rw [e1, e2] at c
      simp only [List.cons.injEq, c, false_and]
      simp
theorem Ints_e (x y : List Int) (hm : x.length ≤ 100000) : EvP (fun k => stillageref01_Ints.f k x y) (fun r => r = true ↔ x = y) := by
  refine EvP.split (fun c => ?_) (fun c => EvP.ret ?_)
  · exact Ints_loop x y (by omega) hm x.length 0 (by omega)
  · constructor
    · intro h; cases h
    · rintro rfl
      exact absurd rfl c
theorem Ints_eq {x y : List Int} (h : x = y) (hm : x.length ≤ 100000) : EvP (fun k => stillageref01_Ints.f k x y) (fun r => r = true) := (Ints_e x y hm).mono (fun r e => e.2 h)
theorem awake_e : Evt (fun k => stillagelaw08_awake.f k) true := Evt.mono (n := 80) (by decide +kernel) (fun k r h => stillagelaw08_awake.mono k r h)
/-- Where devices lead, told plainly. -/
def walkP (edges : List S38) (node : Int) : List Int → Int × Int
  | [] => (node, 0)
  | d :: p => if d < 1 ∨ d > (edges.length : Int) ∨ (rd_T38 edges (d - 1)).f0 ≠ node then (0, 80) else walkP edges (rd_T38 edges (d - 1)).f1 p
theorem walkP_out (edges : List S38) (node d : Int) (p : List Int) (h : d < 1 ∨ d > (edges.length : Int) ∨ (rd_T38 edges (d - 1)).f0 ≠ node) : walkP edges node (d :: p) = (0, 80) := by rw [walkP, if_pos h]
theorem walkP_in (edges : List S38) (node d : Int) (p : List Int) (h : ¬ (d < 1 ∨ d > (edges.length : Int) ∨ (rd_T38 edges (d - 1)).f0 ≠ node)) : walkP edges node (d :: p) = walkP edges (rd_T38 edges (d - 1)).f1 p := by rw [walkP, if_neg h]
theorem Index_loop (l : List Int) (a : Int) (hl : l.length ≤ 100000) (n : Nat) : ∀ i : Nat, i + n = l.length → EvP (fun k => slices_Index_int_int.l0 k l a (l.length : Int) (i : Int)) (fun r => 0 ≤ r ↔ a ∈ l.drop i) := by
  induction n with
  | zero =>
    intro i hi
    refine EvP.succ (fun k => slices_Index_int_int.l0.eq_2 _ _ _ _ k) (EvP.no (by omega) (EvP.ret ?_))
    rw [List.drop_eq_nil_of_le (by omega)]
    simp
  | succ n ih =>
    intro i hi
    have hil : i < l.length := by omega
    have hrd : rd l (i : Int) = l[i] := by simp [rd, List.getElem?_eq_getElem hil]
    rw [List.drop_eq_getElem_cons hil]
    refine EvP.succ (fun k => slices_Index_int_int.l0.eq_2 _ _ _ _ k) (EvP.yes (by omega) (EvP.yes (by omega) (EvP.yes (by omega) ?_)))
    rw [hrd, wnext i (by omega)]
    refine EvP.split (fun c => EvP.ret ?_) (fun c => (ih (i + 1) (by omega)).mono (fun r h => ?_))
    · rw [c]
      exact ⟨fun _ => List.mem_cons_self, fun _ => by omega⟩
    · rw [h, List.mem_cons]
      exact ⟨.inr, fun h => h.elim (fun e => absurd e c) id⟩
theorem Contains_e (l : List Int) (a : Int) (hl : l.length ≤ 100000) : EvP (fun k => slices_Contains_int_int.f k l a) (fun t => t = true ↔ a ∈ l) :=
  EvP.bind (Index_loop l a hl l.length 0 (by omega)) (fun r h => EvP.ret (by rw [List.drop_zero] at h; rw [decide_eq_true_iff, ← h]))
/-- A device (by its number less one) that goes off from a. -/
def OffP (edges : List S38) (a : Int) (d : Int) : Prop := ∃ e : Nat, e < edges.length ∧ d = ((e + 1 : Nat) : Int) ∧ (rd_T38 edges (e : Int)).f0 = a
theorem Out_loop (nodes : List S47) (edges : List S38) (hm : edges.length ≤ 1000) (a : Int) (h0 : 0 ≤ a) (h1 : a < (nodes.length : Int)) (n : Nat) : ∀ (i : Nat) (acc : List Int), i + n = edges.length → acc.length ≤ i → (∀ x ∈ acc, OffP edges a x) → (∀ e : Nat, e < i → (rd_T38 edges (e : Int)).f0 = a → ((e + 1 : Nat) : Int) ∈ acc) →
    EvP (fun k => layout_Out.l0 k a acc edges (edges.length : Int) (i : Int) nodes edges) (fun r => r.length ≤ edges.length ∧ ∀ x, x ∈ r ↔ OffP edges a x) := by
  induction n with
  | zero =>
    intro i acc hi hl ha hc
    refine EvP.succ (fun k => layout_Out.l0.eq_2 _ _ _ _ _ _ _ k) (EvP.no (by omega) (EvP.ret ⟨by omega, fun x => ⟨ha x, ?_⟩⟩))
    rintro ⟨e, he, rfl, hf⟩
    exact hc e (by omega) hf
  | succ n ih =>
    intro i acc hi hl ha hc
    have hn : ¬ (rd_T38 edges (i : Int)).f0 = a → EvP (fun k => layout_Out.l0 k a acc edges (edges.length : Int) (wrap64 ((i : Int) + 1)) nodes edges) (fun r => r.length ≤ edges.length ∧ ∀ x, x ∈ r ↔ OffP edges a x) := by
      intro hne
      rw [wnext i (by omega)]
      refine ih (i + 1) acc (by omega) (by omega) ha (fun e he hf => ?_)
      by_cases h : e = i
      · subst h; exact absurd hf hne
      · exact hc e (by omega) hf
    refine EvP.succ (fun k => layout_Out.l0.eq_2 _ _ _ _ _ _ _ k) (EvP.yes (by omega) (EvP.yes (by omega) (EvP.yes (by omega) (EvP.split (fun c => EvP.yes h1 (EvP.yes (by omega) (EvP.yes (by omega) ?_))) hn))))
    rw [wnext i (by omega)]
    refine ih (i + 1) _ (by omega) (by simp; omega) (fun x hx => ?_) (fun e he hf => ?_)
    · rcases List.mem_append.1 hx with hx | hx
      · exact ha x hx
      · exact ⟨i, by omega, by simpa using hx, c⟩
    · by_cases h : e = i
      · subst h; simp
      · exact List.mem_append.2 (.inl (hc e (by omega) hf))
theorem Out_e (nodes : List S47) (edges : List S38) (hm : edges.length ≤ 1000) (a : Int) (h0 : 0 ≤ a) (h1 : a < (nodes.length : Int)) : EvP (fun k => layout_Out.f k nodes edges a) (fun r => r.length ≤ edges.length ∧ ∀ x, x ∈ r ↔ OffP edges a x) :=
  Out_loop nodes edges hm a h0 h1 edges.length 0 [] (by omega) (by simp) (fun x hx => by simp at hx) (fun e he => by omega)
/-- A device that comes nearer: q holds the lengths to the target. -/
structure Near (nodes : List S47) (edges : List S38) (mask q : List Int) (a : Int) (d : Int) : Prop where
  off : ∃ e : Nat, e < edges.length ∧ d = ((e + 1 : Nat) : Int) ∧ (rd_T38 edges (e : Int)).f0 = a ∧ 0 ≤ g q (rd_T38 edges (e : Int)).f1 ∧ g q (rd_T38 edges (e : Int)).f1 = g q a - 1 ∧ (0 < g q (rd_T38 edges (e : Int)).f1 → Pass nodes (rd_T38 edges (e : Int)).f1)
  op : ¬ d ∈ mask
theorem next_loop (nodes : List S47) (edges : List S38) (F : Fit nodes edges) (mask q : List Int) (hl : mask.length ≤ 100000) (hq : q.length = nodes.length) (a : Int) (h0 : 0 ≤ a) (h1 : a < (nodes.length : Int)) (hqa : g q a ≤ 1000) (hqb : -1000 ≤ g q a) (ds : List Int) (hds : ds.length ≤ 1000) (ho : ∀ x ∈ ds, OffP edges a x) (n : Nat) : ∀ i : Nat, i + n = ds.length →
    EvP (fun k => route_next.l0 k mask q a ds (ds.length : Int) (i : Int) nodes edges) (fun d => (d = 0 ∧ ∀ x ∈ ds.drop i, ¬ Near nodes edges mask q a x) ∨ Near nodes edges mask q a d) := by
  have hm := F.m
  induction n with
  | zero =>
    intro i hi
    exact EvP.succ (fun k => route_next.l0.eq_2 _ _ _ _ _ _ _ _ k) (EvP.no (by omega) (EvP.ret (.inl ⟨rfl, by rw [List.drop_eq_nil_of_le (by omega)]; simp⟩)))
  | succ n ih =>
    intro i hi
    have hil : i < ds.length := by omega
    have hrd : rd ds (i : Int) = ds[i] := by simp [rd, List.getElem?_eq_getElem hil]
    have hn : ¬ Near nodes edges mask q a ds[i] → EvP (fun k => route_next.l0 k mask q a ds (ds.length : Int) (wrap64 ((i : Int) + 1)) nodes edges) (fun d => (d = 0 ∧ ∀ x ∈ ds.drop i, ¬ Near nodes edges mask q a x) ∨ Near nodes edges mask q a d) := by
      intro hno
      rw [wnext i (by omega), List.drop_eq_getElem_cons hil]
      refine (ih (i + 1) (by omega)).mono (fun d h => h.imp (fun h => ⟨h.1, fun x hx => ?_⟩) id)
      rcases List.mem_cons.1 hx with rfl | hx
      · exact hno
      · exact h.2 x hx
    obtain ⟨e, he, hd, hf⟩ := ho ds[i] (List.getElem_mem hil)
    have hE := F.ends e he
    rw [hd] at hrd
    have key : Near nodes edges mask q a ds[i] → ¬ ((e + 1 : Nat) : Int) ∈ mask ∧ 0 ≤ g q (rd_T38 edges (e : Int)).f1 ∧ g q (rd_T38 edges (e : Int)).f1 = g q a - 1 ∧ (0 < g q (rd_T38 edges (e : Int)).f1 → Pass nodes (rd_T38 edges (e : Int)).f1) := by
      intro h
      obtain ⟨e', h1, h2, h3, h4, h5, h6⟩ := h.off
      rw [hd] at h2
      obtain rfl : e = e' := by omega
      exact ⟨by rw [← hd]; exact h.op, h4, h5, h6⟩
    refine EvP.succ (fun k => route_next.l0.eq_2 _ _ _ _ _ _ _ _ k) (EvP.yes (by omega) (EvP.yes (by omega) (EvP.yes (by omega) ?_)))
    rw [hrd, show wrap64 (((e + 1 : Nat) : Int) - 1) = (e : Int) by rw [wsm] <;> omega, show wrap64 (rd q a - 1) = g q a - 1 by rw [rd_g]; unfold wrap64; omega]
    refine EvP.yes (by omega) (EvP.yes (by omega) (EvP.bind (Contains_e mask _ hl) (fun t ht => EvP.split (fun c => hn (fun h => (key h).1 (ht.1 c))) (fun c => EvP.yes hE.2.2.1 (EvP.yes (by omega) (EvP.split (fun c => hn (fun h => by have := (key h).2.1; rw [rd_g] at c; omega)) (fun c1 => EvP.yes h0 (EvP.yes (by omega) (EvP.split (fun c2 => ?_) (fun c => hn (fun h => c (by rw [rd_g]; exact (key h).2.2.1))))))))))))
    have hop : ¬ ((e + 1 : Nat) : Int) ∈ mask := fun h => c (ht.2 h)
    rw [rd_g] at c1
    rw [rd_g] at c2
    refine EvP.split (fun c3 => EvP.yes (by omega) (EvP.split (fun c4 => EvP.ret (.inr ⟨⟨e, he, rfl, hf, by omega, c2, fun _ => c4⟩, hop⟩)) (fun c4 => hn (fun h => c4 ((key h).2.2.2 (by rw [rd_g] at c3; exact c3)))))) (fun c3 => EvP.ret (.inr ⟨⟨e, he, rfl, hf, by omega, c2, fun h => ?_⟩, hop⟩))
    exact absurd h c3
theorem next_e (nodes : List S47) (edges : List S38) (F : Fit nodes edges) (mask q : List Int) (hl : mask.length ≤ 100000) (hq : q.length = nodes.length) (a : Int) (h0 : 0 ≤ a) (h1 : a < (nodes.length : Int)) (hqa : g q a ≤ 1000) (hqb : -1000 ≤ g q a) :
    EvP (fun k => route_next.f k nodes edges mask q a) (fun d => (d = 0 ∧ ∀ x, ¬ Near nodes edges mask q a x) ∨ Near nodes edges mask q a d) := by
  have hm := F.m
  refine EvP.bind (Out_e nodes edges (by omega) a h0 h1) (fun ds h => (next_loop nodes edges F mask q hl hq a h0 h1 hqa hqb ds (by omega) (fun x hx => (h.2 x).1 hx) ds.length 0 (by omega)).mono (fun d hd => hd.imp (fun hd => ⟨hd.1, fun x hx => ?_⟩) id))
  obtain ⟨e, h1, h2, h3, _⟩ := hx.off
  exact hd.2 x (by rw [List.drop_zero]; exact (h.2 x).2 ⟨e, h1, h2, h3⟩) hx
/-- The table: each place's device, or 0. -/
structure Tab (nodes : List S47) (edges : List S38) (mask q t : List Int) : Prop where
  len : t.length = nodes.length
  ok : ∀ v : Int, 0 ≤ v → v < (nodes.length : Int) → (g t v = 0 ∧ ∀ x, ¬ Near nodes edges mask q v x) ∨ Near nodes edges mask q v (g t v)
theorem g_snoc {l : List Int} {x v : Int} (h0 : 0 ≤ v) (h1 : v < (l.length : Int)) : g (l ++ [x]) v = g l v := by
  unfold g
  rw [List.getD_eq_getElem?_getD, List.getD_eq_getElem?_getD, List.getElem?_append_left (by omega)]
theorem g_last {l : List Int} {x : Int} : g (l ++ [x]) (l.length : Int) = x := by
  unfold g
  simp
theorem table_loop (nodes : List S47) (edges : List S38) (F : Fit nodes edges) (mask q : List Int) (hl : mask.length ≤ 100000) (hq : q.length = nodes.length) (hb : ∀ v : Int, 0 ≤ v → v < (nodes.length : Int) → -1000 ≤ g q v ∧ g q v ≤ 1000) (n : Nat) : ∀ (i : Nat) (acc : List Int), i + n = nodes.length → acc.length = i → (∀ v : Int, 0 ≤ v → v < (i : Int) → (g acc v = 0 ∧ ∀ x, ¬ Near nodes edges mask q v x) ∨ Near nodes edges mask q v (g acc v)) →
    EvP (fun k => route_Table.l0 k mask q acc (nodes.length : Int) (i : Int) nodes edges) (fun r => Tab nodes edges mask q r.1 ∧ r.2 = 0) := by
  have hn := F.n
  induction n with
  | zero =>
    intro i acc hi ha hk
    refine EvP.succ (fun k => route_Table.l0.eq_2 _ _ _ _ _ _ _ k) (EvP.no (by omega) (EvP.ret ⟨⟨by show acc.length = _; omega, fun v h0 h1 => hk v h0 (by omega)⟩, rfl⟩))
  | succ n ih =>
    intro i acc hi ha hk
    have hB := hb (i : Int) (by omega) (by omega)
    refine EvP.succ (fun k => route_Table.l0.eq_2 _ _ _ _ _ _ _ k) (EvP.yes (by omega) (EvP.bind (next_e nodes edges F mask q hl hq (i : Int) (by omega) (by omega) hB.2 hB.1) (fun d hd => EvP.yes (by omega) ?_)))
    rw [wnext i (by omega)]
    refine ih (i + 1) _ (by omega) (by simp [ha]) (fun v h0 h1 => ?_)
    by_cases e : v < (i : Int)
    · rw [g_snoc h0 (by omega)]
      exact hk v h0 e
    · obtain rfl : v = (acc.length : Int) := by omega
      rw [g_last, ha]
      exact hd
theorem Table_e (nodes : List S47) (edges : List S38) (F : Fit nodes edges) (mask : List Int) (hl : mask.length ≤ 10000) (b : Int) (h0 : 0 ≤ b) (h1 : b < (nodes.length : Int)) :
    ∃ q, LensTo nodes edges mask b q ∧ EvP (fun k => route_Table.f k nodes edges mask b) (fun r => Tab nodes edges mask q r.1 ∧ r.2 = 0) := by
  have hn := F.n
  obtain ⟨x, hx, hX⟩ := To_e nodes edges F mask hl b h0 h1
  refine ⟨x.1, hX.1, EvP.ebind hx (EvP.yes hX.2 (table_loop nodes edges F mask x.1 (by omega) hX.1.len (fun v h0 h1 => ?_) nodes.length 0 [] (by omega) rfl (fun v h0 h1 => by omega)))⟩
  have h2 := hX.1.hi v h0 h1
  have h3 := hX.1.ok.low v h0 h1
  omega
/-- The way from a to b by a table: to follow it. -/
inductive Way (edges : List S38) (t : List Int) (b : Int) : Int → List Int → Prop
  | here : Way edges t b b []
  | step {a : Int} {p : List Int} : a ≠ b → g t a ≠ 0 → Way edges t b (rd_T38 edges (g t a - 1)).f1 p → Way edges t b a (g t a :: p)
theorem Way.eq {edges : List S38} {t : List Int} {b a : Int} {p p' : List Int} (h : Way edges t b a p) : Way edges t b a p' → p = p' := by
  induction h generalizing p' with
  | here => intro h'; cases h' with
    | here => rfl
    | step h1 _ _ => exact absurd rfl h1
  | step h1 h2 h3 ih => intro h'; cases h' with
    | here => exact absurd rfl h1
    | step g1 g2 g3 => rw [ih g3]
theorem Tab.dev {nodes : List S47} {edges : List S38} {mask q t : List Int} (T : Tab nodes edges mask q t) {v : Int} (h0 : 0 ≤ v) (h1 : v < (nodes.length : Int)) (hz : g t v ≠ 0) :
    ∃ e : Nat, e < edges.length ∧ g t v = ((e + 1 : Nat) : Int) ∧ (rd_T38 edges (e : Int)).f0 = v ∧ 0 ≤ g q (rd_T38 edges (e : Int)).f1 ∧ g q (rd_T38 edges (e : Int)).f1 = g q v - 1 := by
  rcases T.ok v h0 h1 with h | h
  · exact absurd h.1 hz
  · obtain ⟨e, h1, h2, h3, h4, h5, _⟩ := h.off
    exact ⟨e, h1, h2, h3, h4, h5⟩
theorem Path_loop (nodes : List S47) (edges : List S38) (F : Fit nodes edges) (mask q t : List Int) (T : Tab nodes edges mask q t) (b : Int) (n : Nat) : ∀ (a : Int) (acc : List Int), 0 ≤ a → a < (nodes.length : Int) → g q a ≤ (n : Int) → acc.length + n ≤ 100000 →
    EvP (fun k => route_Path.l0 k b t acc a nodes edges) (fun r => (∃ p, Way edges t b a p ∧ r = (acc ++ p, 0)) ∨ ((∀ p, ¬ Way edges t b a p) ∧ r = ([], 80))) := by
  have hm := F.m
  have htl := T.len
  have fin : ∀ (a : Int) (acc : List Int), a ≠ b → g t a = 0 → 0 ≤ a → a < (nodes.length : Int) → EvP (fun k => route_Path.l0 k b t acc a nodes edges) (fun r => (∃ p, Way edges t b a p ∧ r = (acc ++ p, 0)) ∨ ((∀ p, ¬ Way edges t b a p) ∧ r = ([], 80))) := by
    intro a acc hab hz h0 h1
    refine EvP.succ (fun k => route_Path.l0.eq_2 _ _ _ _ _ _ k) (EvP.no hab (EvP.yes h0 (EvP.yes (by omega) (EvP.yes hz (EvP.ret (.inr ⟨fun p h => ?_, rfl⟩))))))
    cases h with
    | here => exact hab rfl
    | step _ h _ => exact h hz
  induction n with
  | zero =>
    intro a acc h0 h1 hq hl
    by_cases hab : a = b
    · subst hab
      exact EvP.succ (fun k => route_Path.l0.eq_2 _ _ _ _ _ _ k) (EvP.yes rfl (EvP.ret (.inl ⟨[], .here, by simp⟩)))
    · refine fin a acc hab (Classical.byContradiction fun hz => ?_) h0 h1
      obtain ⟨e, _, _, _, h4, h5⟩ := T.dev h0 h1 hz
      omega
  | succ n ih =>
    intro a acc h0 h1 hq hl
    by_cases hab : a = b
    · subst hab
      exact EvP.succ (fun k => route_Path.l0.eq_2 _ _ _ _ _ _ k) (EvP.yes rfl (EvP.ret (.inl ⟨[], .here, by simp⟩)))
    · by_cases hz : g t a = 0
      · exact fin a acc hab hz h0 h1
      · obtain ⟨e, he, hd, hf, h4, h5⟩ := T.dev h0 h1 hz
        have hE := F.ends e he
        refine EvP.succ (fun k => route_Path.l0.eq_2 _ _ _ _ _ _ k) (EvP.no hab (EvP.yes h0 (EvP.yes (by omega) (EvP.no (by rw [rd_g]; exact hz) (EvP.yes (by omega) ?_)))))
        have hw : wrap64 (rd t a - 1) = g t a - 1 := by rw [rd_g, hd]; unfold wrap64; omega
        have hs : g t a - 1 = (e : Int) := by rw [hd]; omega
        rw [hw, rd_g]
        refine EvP.yes (by omega) (EvP.yes (by omega) ((ih _ (acc ++ [g t a]) (by rw [hs]; exact hE.2.2.1) (by rw [hs]; exact hE.2.2.2) (by rw [hs]; omega) (by simp; omega)).mono (fun r hr => ?_)))
        rcases hr with ⟨p, hp, hr⟩ | ⟨hp, hr⟩
        · exact .inl ⟨g t a :: p, .step hab hz hp, by rw [hr, List.append_assoc]; rfl⟩
        · refine .inr ⟨fun p h => ?_, hr⟩
          cases h with
          | here => exact hab rfl
          | step _ _ h => exact hp _ h
theorem Out2_e (nodes : List S47) (edges : List S38) (a b : Int) : route_out.f nodes edges [a, b] = some (decide (a < 0) || decide (a ≥ (nodes.length : Int)) || (decide (b < 0) || decide (b ≥ (nodes.length : Int)))) := by
  unfold route_out.f
  simp
theorem Path_out (nodes : List S47) (edges : List S38) (mask : List Int) (a b : Int) (h : a < 0 ∨ (nodes.length : Int) ≤ a ∨ b < 0 ∨ (nodes.length : Int) ≤ b) : EvP (fun k => route_Path.f k nodes edges mask a b) (fun r => r = ([], 1)) := by
  refine EvP.obind (Out2_e nodes edges a b) ?_
  rw [show (decide (a < 0) || decide (a ≥ (nodes.length : Int)) || (decide (b < 0) || decide (b ≥ (nodes.length : Int)))) = true by simp; omega]
  exact EvP.yes rfl (EvP.ret rfl)
/-- The paths to b: one table serves them all. -/
theorem Path_e (nodes : List S47) (edges : List S38) (F : Fit nodes edges) (mask : List Int) (hl : mask.length ≤ 10000) (b : Int) (h0 : 0 ≤ b) (h1 : b < (nodes.length : Int)) :
    ∃ q t, LensTo nodes edges mask b q ∧ Tab nodes edges mask q t ∧ Evt (fun k => route_Table.f k nodes edges mask b) (t, 0) ∧ ∀ a : Int, 0 ≤ a → a < (nodes.length : Int) → EvP (fun k => route_Path.f k nodes edges mask a b) (fun r => (∃ p, Way edges t b a p ∧ r = (p, 0)) ∨ ((∀ p, ¬ Way edges t b a p) ∧ r = ([], 80))) := by
  have hn := F.n
  obtain ⟨q, hq, x, hx, hX⟩ := Table_e nodes edges F mask hl b h0 h1
  refine ⟨q, x.1, hq, hX.1, by rw [show (x.1, (0 : Int)) = x from by rw [← hX.2]]; exact hx, fun a ha0 ha1 => EvP.obind (Out2_e nodes edges a b) ?_⟩
  rw [show (decide (a < 0) || decide (a ≥ (nodes.length : Int)) || (decide (b < 0) || decide (b ≥ (nodes.length : Int)))) = false by simp; omega]
  have hhi := hq.hi a ha0 ha1
  refine EvP.no (by simp) (EvP.ebind hx ((Path_loop nodes edges F mask q x.1 hX.1 b nodes.length a [] ha0 ha1 hhi (by simp; omega)).mono (fun r hr => ?_)))
  simpa using hr
theorem Way.walk {nodes : List S47} {edges : List S38} (F : Fit nodes edges) {mask q t : List Int} (T : Tab nodes edges mask q t) {b a : Int} {p : List Int} (h : Way edges t b a p) : 0 ≤ a → a < (nodes.length : Int) → walkP edges a p = (b, 0) := by
  induction h with
  | here => intro _ _; rfl
  | step h1 h2 h3 ih =>
    intro ha0 ha1
    obtain ⟨e, he, hd, hf, _⟩ := T.dev ha0 ha1 h2
    have hE := F.ends e he
    have hs : ∀ z : Int, z = ((e + 1 : Nat) : Int) → z - 1 = (e : Int) := fun z h => by omega
    rw [walkP_in _ _ _ _ (by rw [hs _ hd]; omega)]
    rw [hs _ hd] at ih ⊢
    exact ih hE.2.2.1 hE.2.2.2
theorem Way.short {nodes : List S47} {edges : List S38} (F : Fit nodes edges) {mask q t : List Int} (T : Tab nodes edges mask q t) {b a : Int} {p : List Int} (h : Way edges t b a p) : 0 ≤ a → a < (nodes.length : Int) → g q b = 0 → (p.length : Int) = g q a := by
  induction h with
  | here => intro _ _ h; simp [h]
  | step h1 h2 h3 ih =>
    intro ha0 ha1 hb
    obtain ⟨e, he, hd, hf, h4, h5⟩ := T.dev ha0 ha1 h2
    have hE := F.ends e he
    have hs : ∀ z : Int, z = ((e + 1 : Nat) : Int) → z - 1 = (e : Int) := fun z h => by omega
    rw [hs _ hd] at ih
    have := ih hE.2.2.1 hE.2.2.2 hb
    simp only [List.length_cons]
    omega
theorem LensTo.back {nodes : List S47} {edges : List S38} {mask q : List Int} {b v : Int} (h : LensTo nodes edges mask b q) (h0 : 0 ≤ v) (h1 : v < (nodes.length : Int)) (hp : 0 < g q v) : ∃ d, Near nodes edges mask q v d := by
  obtain ⟨c, hc0, hc1, ⟨⟨i, hi, hm, hf, ht⟩, hk⟩, hq⟩ := h.ok.back v h0 h1 hp
  have hcp : 0 < g q c → Pass nodes c := by
    intro hp
    rcases hk with rfl | hk
    · rw [h.ok.start] at hp; omega
    · exact hk
  refine ⟨((i + 1 : Nat) : Int), ⟨i, hi, rfl, hf, ?_, ?_, ?_⟩, by simpa using hm⟩
  · rw [ht]; omega
  · rw [ht]; omega
  · rw [ht]; exact hcp
theorem Way.ex {nodes : List S47} {edges : List S38} (F : Fit nodes edges) {mask q t : List Int} {b : Int} (hq : LensTo nodes edges mask b q) (T : Tab nodes edges mask q t) (n : Nat) : ∀ a : Int, 0 ≤ a → a < (nodes.length : Int) → g q a = (n : Int) → ∃ p, Way edges t b a p := by
  induction n with
  | zero =>
    intro a h0 h1 h
    obtain rfl := hq.ok.only a h0 h1 h
    exact ⟨[], .here⟩
  | succ n ih =>
    intro a h0 h1 h
    have hab : a ≠ b := by
      rintro rfl
      rw [hq.ok.start] at h
      omega
    have hz : g t a ≠ 0 := by
      intro hz
      obtain ⟨d, hd⟩ := hq.back h0 h1 (by omega)
      rcases T.ok a h0 h1 with h | h
      · exact h.2 d hd
      · obtain ⟨e, _, h2, _⟩ := h.off
        omega
    obtain ⟨e, he, hd, hf, h4, h5⟩ := T.dev h0 h1 hz
    have hE := F.ends e he
    obtain ⟨p, hp⟩ := ih _ hE.2.2.1 hE.2.2.2 (by omega)
    have hs : g t a - 1 = (e : Int) := by omega
    exact ⟨g t a :: p, .step hab hz (by rw [hs]; exact hp)⟩
theorem Tab.target {nodes : List S47} {edges : List S38} {mask q t : List Int} {b : Int} (T : Tab nodes edges mask q t) (hq : LensTo nodes edges mask b q) (h0 : 0 ≤ b) (h1 : b < (nodes.length : Int)) : g t b = 0 := by
  rcases T.ok b h0 h1 with h | h
  · exact h.1
  · obtain ⟨e, _, _, _, h4, h5, _⟩ := h.off
    rw [hq.ok.start] at h5
    omega
/-- The devices that lead to a full place that isn't the end. -/
def clo (edges : List S38) (b : Int) (full : List Int) (i : Nat) : Nat → List Int
  | 0 => []
  | n + 1 => if (rd_T38 edges (i : Int)).f1 = b then clo edges b full (i + 1) n else if (rd_T38 edges (i : Int)).f1 ∈ full then ((i + 1 : Nat) : Int) :: clo edges b full (i + 1) n else clo edges b full (i + 1) n
theorem clo_length (edges : List S38) (b : Int) (full : List Int) (n : Nat) : ∀ i, (clo edges b full i n).length ≤ n := by
  induction n with
  | zero => intro i; simp [clo]
  | succ n ih =>
    intro i
    have := ih (i + 1)
    rw [clo]
    split
    · omega
    · split
      · simp only [List.length_cons]; omega
      · omega
theorem mem_clo (edges : List S38) (b : Int) (full : List Int) (e : Nat) (h1 : (rd_T38 edges (e : Int)).f1 ≠ b) (h2 : (rd_T38 edges (e : Int)).f1 ∈ full) (n : Nat) : ∀ i, i ≤ e → e < i + n → ((e + 1 : Nat) : Int) ∈ clo edges b full i n := by
  induction n with
  | zero => intro i h3 h4; omega
  | succ n ih =>
    intro i h3 h4
    rw [clo]
    by_cases h : i = e
    · subst h
      rw [if_neg h1, if_pos h2]
      exact List.mem_cons_self
    · have := ih (i + 1) (by omega) (by omega)
      split
      · exact this
      · split
        · exact List.mem_cons_of_mem _ this
        · exact this
theorem clo_nil (edges : List S38) (b : Int) (n : Nat) : ∀ i, clo edges b [] i n = [] := by
  induction n with
  | zero => intro i; rfl
  | succ n ih =>
    intro i
    rw [clo, ih]
    simp
theorem Around_loop (nodes : List S47) (edges : List S38) (hm : edges.length ≤ 1000) (a b : Int) (full : List Int) (hf : full.length ≤ 100000) (P : List Int × Int → Prop) (n : Nat) : ∀ (i : Nat) (acc : List Int), i + n = edges.length → acc.length + n ≤ 100000 → EvP (fun k => route_Path.f k nodes edges (acc ++ clo edges b full i n) a b) P →
    EvP (fun k => route_Around.l0 k a b full acc edges (edges.length : Int) (i : Int) nodes edges) P := by
  induction n with
  | zero =>
    intro i acc hi hl hP
    rw [clo, List.append_nil] at hP
    exact EvP.succ (fun k => route_Around.l0.eq_2 _ _ _ _ _ _ _ _ _ k) (EvP.no (by omega) (EvP.bind hP (fun r h => EvP.ret h)))
  | succ n ih =>
    intro i acc hi hl hP
    refine EvP.succ (fun k => route_Around.l0.eq_2 _ _ _ _ _ _ _ _ _ k) (EvP.yes (by omega) (EvP.yes (by omega) (EvP.yes (by omega) ?_)))
    rw [wnext i (by omega)]
    rw [clo] at hP
    refine EvP.split (fun c => ?_) (fun c => EvP.bind (Contains_e full _ hf) (fun t ht => EvP.split (fun c2 => EvP.yes (by omega) ?_) (fun c2 => ?_)))
    · rw [if_pos c] at hP
      exact ih (i + 1) acc (by omega) (by omega) hP
    · rw [if_neg c, if_pos (ht.1 c2)] at hP
      refine ih (i + 1) _ (by omega) (by simp; omega) ?_
      rw [List.append_assoc]
      exact hP
    · rw [if_neg c, if_neg (fun h => c2 (ht.2 h))] at hP
      exact ih (i + 1) acc (by omega) (by omega) hP
theorem Around_e (nodes : List S47) (edges : List S38) (hm : edges.length ≤ 1000) (mask : List Int) (hl : mask.length ≤ 10000) (a b : Int) (ha0 : 0 ≤ a) (ha1 : a < (nodes.length : Int)) (hb0 : 0 ≤ b) (hb1 : b < (nodes.length : Int)) (full : List Int) (hf : full.length ≤ 100000) (P : List Int × Int → Prop)
    (hP : EvP (fun k => route_Path.f k nodes edges (mask ++ clo edges b full 0 edges.length) a b) P) : EvP (fun k => route_Around.f k nodes edges mask a b full) P := by
  refine EvP.obind (Out2_e nodes edges a b) ?_
  rw [show (decide (a < 0) || decide (a ≥ (nodes.length : Int)) || (decide (b < 0) || decide (b ≥ (nodes.length : Int)))) = false by simp; omega]
  refine EvP.no (by simp) (EvP.obind (a := mask) (by unfold slices_Clone_int_int.f; rw [if_pos (by omega)]) ?_)
  exact Around_loop nodes edges hm a b full hf P edges.length 0 mask (by omega) (by omega) hP
theorem fewer_to {nodes : List S47} {edges : List S38} {mask mask' q q' : List Int} {b : Int} (h : LensTo nodes edges mask b q) (h' : LensTo nodes edges mask' b q') (hs : ∀ x ∈ mask, x ∈ mask') (a : Int) (h0 : 0 ≤ a) (h1 : a < (nodes.length : Int)) (hq : 0 ≤ g q' a) : 0 ≤ g q a ∧ g q a ≤ g q' a := by
  have := h.ok.fewer h'.ok (fun x y e => ⟨by
    obtain ⟨i, i1, i2, i3⟩ := e.1
    exact ⟨i, i1, fun c => i2 (hs _ c), i3⟩, e.2⟩) (g q' a).toNat a h0 h1 (by omega)
  omega

theorem avoids_l3 (nodes : List S47) (edges : List S38) (mask full p : List Int) (hf : full.length ≤ 10000) (a b code v n i n2 j idx pl : Int) (hv : v ∈ full → v = b) (P : Bool → Prop)
    (next : EvP (fun k => stillagelaw08_RouteAvoids.l2 k mask full a b code v n i n2 j p pl (wrap64 (idx + 1)) nodes edges) P) (m : Nat) : ∀ s : Nat, s + m = full.length →
    EvP (fun k => stillagelaw08_RouteAvoids.l3 k mask full a b code v n i n2 j p pl idx full (full.length : Int) (s : Int) nodes edges) P := by
  induction m with
  | zero =>
    intro s hs
    exact EvP.succ (fun k => stillagelaw08_RouteAvoids.l3.eq_2 _ _ _ _ _ _ _ _ _ _ _ _ _ _ _ _ _ _ k) (EvP.no (by omega) next)
  | succ m ih =>
    intro s hs
    have hsl : s < full.length := by omega
    have hrd : rd full (s : Int) = full[s] := by simp [rd, List.getElem?_eq_getElem hsl]
    refine EvP.succ (fun k => stillagelaw08_RouteAvoids.l3.eq_2 _ _ _ _ _ _ _ _ _ _ _ _ _ _ _ _ _ _ k) (EvP.yes (by omega) (EvP.yes (by omega) (EvP.yes (by omega) ?_)))
    rw [wnext s (by omega)]
    refine EvP.split (fun c => EvP.yes (hv ?_) (ih (s + 1) (by omega))) (fun _ => ih (s + 1) (by omega))
    rw [← c, hrd]
    exact List.getElem_mem hsl
theorem avoids_l2 (nodes : List S47) (edges : List S38) (F : Fit nodes edges) (mask full q t mask' : List Int) (hf : full.length ≤ 10000) (b : Int) (T : Tab nodes edges mask' q t) (hc : ∀ e : Nat, e < edges.length → ¬ ((e + 1 : Nat) : Int) ∈ mask' → (rd_T38 edges (e : Int)).f1 ∈ full → (rd_T38 edges (e : Int)).f1 = b) (p : List Int) (hp : p.length ≤ 1000) (a0 n i n2 j : Int) (P : Bool → Prop)
    (next : EvP (fun k => stillagelaw08_RouteAvoids.l1 k mask full a0 n i n2 (wrap64 (j + 1)) nodes edges) P) (m : Nat) : ∀ (idx : Nat) (a : Int) (rest : List Int), rest.length = m → idx + m = p.length → p.drop idx = rest → 0 ≤ a → a < (nodes.length : Int) → Way edges t b a rest →
    EvP (fun k => stillagelaw08_RouteAvoids.l2 k mask full a0 b 0 a n i n2 j p (p.length : Int) (idx : Int) nodes edges) P := by
  have hm := F.m
  induction m with
  | zero =>
    intro idx a rest hr hi hd ha0 ha1 hw
    cases hw with
    | here => exact EvP.succ (fun k => stillagelaw08_RouteAvoids.l2.eq_2 _ _ _ _ _ _ _ _ _ _ _ _ _ _ _ k) (EvP.no (by omega) (EvP.yes rfl (EvP.yes rfl next)))
    | step _ _ _ => simp at hr
  | succ m ih =>
    intro idx a rest hr hi hd ha0 ha1 hw
    have hil : idx < p.length := by omega
    cases hw with
    | here => simp at hr
    | step hab hz hw' =>
      rename_i rest
      rw [List.drop_eq_getElem_cons hil] at hd
      obtain ⟨hd1, hd2⟩ := List.cons.inj hd
      have hrd : rd p (idx : Int) = g t a := by rw [← hd1]; simp [rd, List.getElem?_eq_getElem hil]
      have hN := (T.ok a ha0 ha1).resolve_left (fun h => hz h.1)
      obtain ⟨e, he, hde, hfe, h4, h5, h6⟩ := hN.off
      have hop := hN.op
      rw [hde] at hop
      have hE := F.ends e he
      have hs : g t a - 1 = (e : Int) := by omega
      rw [hs] at hw'
      have hw1 : wrap64 (g t a - 1) = (e : Int) := by rw [hs, wsm] <;> omega
      have j5 : EvP (fun k => stillagelaw08_RouteAvoids.j5 k mask full a0 b 0 (g t a) n i n2 j p (p.length : Int) (idx : Int) false nodes edges) P := by
        refine EvP.succ (fun k => stillagelaw08_RouteAvoids.j5.eq_2 _ _ _ _ _ _ _ _ _ _ _ _ _ _ _ _ k) (EvP.no (by simp) ?_)
        rw [hw1]
        refine EvP.yes (by omega) (EvP.yes (by omega) (avoids_l3 nodes edges mask full p hf a0 b 0 _ n i n2 j (idx : Int) _ (hc e he hop) P ?_ full.length 0 (by omega)))
        rw [wnext idx (by omega)]
        simp only [List.length_cons] at hr
        exact ih (idx + 1) _ rest (by omega) (by omega) hd2 hE.2.2.1 hE.2.2.2 hw'
      refine EvP.succ (fun k => stillagelaw08_RouteAvoids.l2.eq_2 _ _ _ _ _ _ _ _ _ _ _ _ _ _ _ k) (EvP.yes (by omega) (EvP.yes (by omega) (EvP.yes (by omega) ?_)))
      rw [hrd, hw1, hfe, show (a != a) = false by simp]
      exact EvP.no (by omega) (EvP.no (by omega) (EvP.yes (by omega) (EvP.yes (by omega) j5)))
theorem avoids_l1 (nodes : List S47) (edges : List S38) (F : Fit nodes edges) (mask full : List Int) (hl : mask.length ≤ 200) (hf : full.length ≤ 50) (a : Int) (ha0 : 0 ≤ a) (ha1 : a < (nodes.length : Int)) (n i : Int) (P : Bool → Prop)
    (next : EvP (fun k => stillagelaw08_RouteAvoids.l0 k mask full n (wrap64 (i + 1)) nodes edges) P) (m : Nat) : ∀ j : Nat, j + m = nodes.length →
    EvP (fun k => stillagelaw08_RouteAvoids.l1 k mask full a n i (nodes.length : Int) (j : Int) nodes edges) P := by
  have hm := F.m
  have hn := F.n
  induction m with
  | zero =>
    intro j hj
    exact EvP.succ (fun k => stillagelaw08_RouteAvoids.l1.eq_2 _ _ _ _ _ _ _ _ _ k) (EvP.no (by omega) next)
  | succ m ih =>
    intro j hj
    have nextj : EvP (fun k => stillagelaw08_RouteAvoids.l1 k mask full a n i (nodes.length : Int) (wrap64 ((j : Int) + 1)) nodes edges) P := by
      rw [wnext j (by omega)]
      exact ih (j + 1) (by omega)
    obtain ⟨q, t, hq, T, _, hP⟩ := Path_e nodes edges F mask (by omega) (j : Int) (by omega) (by omega)
    have hcl := clo_length edges (j : Int) full edges.length 0
    obtain ⟨q', t', hq', T', _, hP'⟩ := Path_e nodes edges F (mask ++ clo edges (j : Int) full 0 edges.length) (by rw [List.length_append]; omega) (j : Int) (by omega) (by omega)
    have hP3 := hP a ha0 ha1
    rw [show mask = mask ++ clo edges (j : Int) [] 0 edges.length by rw [clo_nil, List.append_nil]] at hP3
    refine EvP.succ (fun k => stillagelaw08_RouteAvoids.l1.eq_2 _ _ _ _ _ _ _ _ _ k) (EvP.yes (by omega) (EvP.bind (hP a ha0 ha1) (fun r1 h1 => EvP.bind (Around_e nodes edges (by omega) mask (by omega) a (j : Int) ha0 ha1 (by omega) (by omega) full (by omega) _ (hP' a ha0 ha1)) (fun r2 h2 => EvP.bind (Around_e nodes edges (by omega) mask (by omega) a (j : Int) ha0 ha1 (by omega) (by omega) [] (by simp) _ hP3) (fun r3 h3 => ?_)))))
    have e13 : r1 = r3 := by
      rcases h1 with ⟨p, w, rfl⟩ | ⟨w, rfl⟩ <;> rcases h3 with ⟨p3, w3, rfl⟩ | ⟨w3, rfl⟩
      · rw [w.eq w3]
      · exact absurd w (w3 p)
      · exact absurd w3 (w p3)
      · rfl
    subst e13
    have hlen1 : r1.1.length ≤ 100000 := by
      rcases h1 with ⟨p, w, rfl⟩ | ⟨w, rfl⟩
      · have := w.short F T ha0 ha1 hq.ok.start
        have := hq.hi a ha0 ha1
        show p.length ≤ _
        omega
      · simp
    refine EvP.yes rfl (EvP.bind (Ints_eq rfl hlen1) (fun ti hti => EvP.yes hti ?_))
    have j3 : EvP (fun k => stillagelaw08_RouteAvoids.j3 k mask full a (j : Int) r2.1 r2.2 n i (nodes.length : Int) (j : Int) false nodes edges) P := by
      refine EvP.succ (fun k => stillagelaw08_RouteAvoids.j3.eq_2 _ _ _ _ _ _ _ _ _ _ _ _ _ k) (EvP.no (by simp) ?_)
      rcases h2 with ⟨p, w, rfl⟩ | ⟨w, rfl⟩
      · have := w.short F T' ha0 ha1 hq'.ok.start
        have := hq'.hi a ha0 ha1
        refine avoids_l2 nodes edges F mask full q' t' _ (by omega) (j : Int) T' (fun e he hop hfull => Classical.byContradiction fun hne => hop (List.mem_append.2 (.inr (mem_clo edges _ full e hne hfull _ 0 (by omega) (by omega))))) p (by omega) a n i _ _ P nextj p.length 0 a p rfl (by omega) rfl ha0 ha1 w
      · exact EvP.succ (fun k => stillagelaw08_RouteAvoids.l2.eq_2 _ _ _ _ _ _ _ _ _ _ _ _ _ _ _ k) (EvP.no (by simp) (EvP.no (by decide) nextj))
    refine EvP.split (fun c => ?_) (fun _ => j3)
    rcases h2 with ⟨p2, w2, rfl⟩ | ⟨w2, rfl⟩
    · have s2 := w2.short F T' ha0 ha1 hq'.ok.start
      have hq2 := fewer_to hq hq' (fun x hx => List.mem_append.2 (.inl hx)) a ha0 ha1 (by omega)
      rcases h1 with ⟨p1, w1, rfl⟩ | ⟨w1, rfl⟩
      · have s1 := w1.short F T ha0 ha1 hq.ok.start
        rw [show decide (((p2, (0 : Int)).1.length : Int) < ((p1, (0 : Int)).1.length : Int)) = false from decide_eq_false (by show ¬ (p2.length : Int) < (p1.length : Int); omega)]
        exact EvP.yes rfl j3
      · obtain ⟨p, hp⟩ := Way.ex F hq T (g q a).toNat a ha0 ha1 (by omega)
        exact absurd hp (w1 p)
    · exact absurd c (by decide)
theorem avoids_l0 (nodes : List S47) (edges : List S38) (F : Fit nodes edges) (mask full : List Int) (hl : mask.length ≤ 200) (hf : full.length ≤ 50) (m : Nat) : ∀ i : Nat, i + m = nodes.length →
    EvP (fun k => stillagelaw08_RouteAvoids.l0 k mask full (nodes.length : Int) (i : Int) nodes edges) (fun r => r = true) := by
  have hn := F.n
  induction m with
  | zero =>
    intro i hi
    exact EvP.succ (fun k => stillagelaw08_RouteAvoids.l0.eq_2 _ _ _ _ _ _ k) (EvP.no (by omega) (EvP.ret rfl))
  | succ m ih =>
    intro i hi
    refine EvP.succ (fun k => stillagelaw08_RouteAvoids.l0.eq_2 _ _ _ _ _ _ k) (EvP.yes (by omega) (avoids_l1 nodes edges F mask full hl hf (i : Int) (by omega) (by omega) _ _ _ ?_ nodes.length 0 (by omega)))
    rw [wnext i (by omega)]
    exact ih (i + 1) (by omega)
theorem RouteAvoids (l0_0 : List S47) (l0_1 : List S38) (l1 : List Int) (l2 : List Int) (hm0_0 : l0_0.length ≤ maxLen) (hw0_0 : ∀ x ∈ l0_0, x.f0.size ≤ maxLen ∧ (Lit.int .i64 x.f1).wf = true ∧ (Lit.int .i64 x.f2).wf = true) (hm0_1 : l0_1.length ≤ maxLen) (hw0_1 : ∀ x ∈ l0_1, (Lit.int .i64 x.f0).wf = true ∧ (Lit.int .i64 x.f1).wf = true)
    (hm1 : l1.length ≤ maxLen) (hw1 : ∀ x ∈ l1, (Lit.int .i64 x).wf = true) (y1 : l1.length * 8 ≤ 140737488351232) (hm2 : l2.length ≤ maxLen) (hw2 : ∀ x ∈ l2, (Lit.int .i64 x).wf = true) (y2 : l2.length * 8 ≤ 140737488351232) :
    ∃ k, stillagelaw08_RouteAvoids.f k l0_0 l0_1 l1 l2 = some true := by
  suffices h : EvP (fun k => stillagelaw08_RouteAvoids.f k l0_0 l0_1 l1 l2) (fun r => r = true) by
    obtain ⟨k, r, h1, h2⟩ := h.get
    exact ⟨k, by rw [h1, h2]⟩
  have triv : EvP (fun k => stillagelaw08_RouteAvoids.j0 k l1 l2 true l0_0 l0_1) (fun r => r = true) := EvP.succ (fun k => stillagelaw08_RouteAvoids.j0.eq_2 _ _ _ _ _ k) (EvP.yes rfl (EvP.ret rfl))
  refine EvP.ebind awake_e (EvP.yes rfl (EvP.bind (Fits_e l0_0 l0_1 l1) (fun t ht => EvP.split (fun c => EvP.split (fun _ => triv) (fun c2 => ?_)) (fun _ => triv))))
  obtain ⟨F, hml⟩ := ht c
  by_cases h : (l0_0.length : Int) > 20
  · rw [decide_eq_true h]
    exact triv
  · rw [decide_eq_false h]
    exact EvP.succ (fun k => stillagelaw08_RouteAvoids.j0.eq_2 _ _ _ _ _ k) (EvP.no (by simp) (avoids_l0 l0_0 l0_1 F l1 l2 hml (by omega) l0_0.length 0 (by omega)))

end Go.Proofs.Ytbbdgndaaajejaa.Pure
