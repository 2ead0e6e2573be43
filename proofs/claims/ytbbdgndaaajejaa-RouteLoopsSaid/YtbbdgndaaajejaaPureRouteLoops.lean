/- stillagelaw08.RouteLoops is true at every layout and mask: no condition. -/
import Derived.OpenShut
import Derived.Test.YtbbdgndaaajejaaEvt
import Derived.Test.YtbbdgndaaajejaaBfs
import Derived.Test.YtbbdgndaaajejaaPRouteLoopsx
set_option linter.unusedVariables false
set_option linter.unusedSimpArgs false
set_option maxRecDepth 10000
namespace Go.Proofs.Ytbbdgndaaajejaa.Pure
open Go.RowKit Go.Proofs.Ytbbdgndaaajejaa.PRouteLoops Go.Proofs.YtbbdgndaaajejaaW.PrintWords Go.Proofs.YtbbdgndaaajejaaW.PrintLast Go.Proofs.PlainEvt Go.Proofs.PlainBfs
theorem wsm {n : Int} (h0 : 0 ≤ n) (h1 : n ≤ 9223372036854775807) : wrap64 n = n := by unfold wrap64; omega
theorem wnext (i : Nat) (h : i ≤ 1000000) : wrap64 ((i : Int) + 1) = ((i + 1 : Nat) : Int) := by rw [wsm] <;> omega
theorem rd_g (r : List Int) (v : Int) : rd r v = g r v := rfl
def Pass (nodes : List S47) (a : Int) : Prop := (rd_T47 nodes a).f1 = 1
/-- Open edges from a to b: their devices are not named. -/
def EdgeM (edges : List S38) (mask : List Int) (a b : Int) : Prop := ∃ i : Nat, i < edges.length ∧ ¬ ((i : Int) + 1) ∈ mask ∧ (rd_T38 edges i).f0 = a ∧ (rd_T38 edges i).f1 = b
structure Fit (nodes : List S47) (edges : List S38) : Prop where
  n0 : 1 ≤ nodes.length
  n : nodes.length ≤ 40
  m : edges.length ≤ 120
  kinds : ∀ i : Nat, i < nodes.length → 1 ≤ (rd_T47 nodes i).f1 ∧ (rd_T47 nodes i).f1 ≤ 4 ∧ 0 ≤ (rd_T47 nodes i).f2 ∧ (rd_T47 nodes i).f2 ≤ 7
  ends : ∀ i : Nat, i < edges.length → 0 ≤ (rd_T38 edges i).f0 ∧ (rd_T38 edges i).f0 < (nodes.length : Int) ∧ 0 ≤ (rd_T38 edges i).f1 ∧ (rd_T38 edges i).f1 < (nodes.length : Int)
  ne : ∀ i : Nat, i < edges.length → (rd_T38 edges i).f0 ≠ (rd_T38 edges i).f1
  track : ∀ i : Nat, i < edges.length → Pass nodes (rd_T38 edges i).f0 ∨ Pass nodes (rd_T38 edges i).f1
  once : ∀ i j : Nat, i < edges.length → j < i → ¬ ((rd_T38 edges j).f0 = (rd_T38 edges i).f0 ∧ (rd_T38 edges j).f1 = (rd_T38 edges i).f1)
theorem EdgeM.ends {nodes : List S47} {edges : List S38} (F : Fit nodes edges) {mask : List Int} {a b : Int} (h : EdgeM edges mask a b) : 0 ≤ a ∧ a < (nodes.length : Int) ∧ 0 ≤ b ∧ b < (nodes.length : Int) := by
  obtain ⟨i, hi, _, rfl, rfl⟩ := h
  exact F.ends i hi
/-- The lengths of ways from s, told. -/
structure Lens (nodes : List S47) (edges : List S38) (mask : List Int) (s : Int) (r : List Int) : Prop where
  len : r.length = nodes.length
  ok : LensOk nodes.length s (fun a b => EdgeM edges mask a b ∧ (a = s ∨ Pass nodes a)) (g r)
  hi : ∀ v : Int, 0 ≤ v → v < nodes.length → g r v ≤ nodes.length
/-- The lengths of ways to s, told. -/
structure LensTo (nodes : List S47) (edges : List S38) (mask : List Int) (s : Int) (r : List Int) : Prop where
  len : r.length = nodes.length
  ok : LensOk nodes.length s (fun a b => EdgeM edges mask b a ∧ (a = s ∨ Pass nodes a)) (g r)
  hi : ∀ v : Int, 0 ≤ v → v < nodes.length → g r v ≤ nodes.length
theorem eq_of_g {r q : List Int} (hl : r.length = q.length) (h : ∀ v : Int, 0 ≤ v → v < r.length → g r v = g q v) : r = q := by
  apply List.ext_getElem hl
  intro i h1 h2
  have := h (i : Int) (by omega) (by omega)
  unfold g at this
  simpa [List.getD_eq_getElem?_getD, h1, h2] using this
theorem Lens.eq {nodes : List S47} {edges : List S38} {mask : List Int} {s : Int} {r q : List Int} (h : Lens nodes edges mask s r) (h' : Lens nodes edges mask s q) : r = q :=
  eq_of_g (h.1.trans h'.1.symm) (fun v h0 h1 => h.2.eq h'.2 v h0 (by rw [h.1] at h1; exact h1))
theorem LensTo.eq {nodes : List S47} {edges : List S38} {mask : List Int} {s : Int} {r q : List Int} (h : LensTo nodes edges mask s r) (h' : LensTo nodes edges mask s q) : r = q :=
  eq_of_g (h.1.trans h'.1.symm) (fun v h0 h1 => h.2.eq h'.2 v h0 (by rw [h.1] at h1; exact h1))
theorem Lens.to {nodes : List S47} {edges : List S38} {mask : List Int} {s t : Int} {r q : List Int} (h : Lens nodes edges mask s r) (h' : LensTo nodes edges mask t q) (hs0 : 0 ≤ s) (hs1 : s < nodes.length) (ht0 : 0 ≤ t) (ht1 : t < nodes.length) : g r t = g q s :=
  both hs0 hs1 ht0 ht1 h.2 h'.2
theorem Lens.congr {nodes : List S47} {edges : List S38} {mask mask' : List Int} {s : Int} {r : List Int} (h : Lens nodes edges mask s r) (he : ∀ i : Nat, i < edges.length → (((i : Int) + 1) ∈ mask ↔ ((i : Int) + 1) ∈ mask')) : Lens nodes edges mask' s r := by
  refine ⟨h.1, h.2.congr (fun a b => ?_), h.3⟩
  have : EdgeM edges mask a b ↔ EdgeM edges mask' a b := by
    constructor
    · rintro ⟨i, h1, h2, h3⟩
      exact ⟨i, h1, fun c => h2 ((he i h1).2 c), h3⟩
    · rintro ⟨i, h1, h2, h3⟩
      exact ⟨i, h1, fun c => h2 ((he i h1).1 c), h3⟩
  rw [this]
theorem LensTo.congr {nodes : List S47} {edges : List S38} {mask mask' : List Int} {s : Int} {r : List Int} (h : LensTo nodes edges mask s r) (he : ∀ i : Nat, i < edges.length → (((i : Int) + 1) ∈ mask ↔ ((i : Int) + 1) ∈ mask')) : LensTo nodes edges mask' s r := by
  refine ⟨h.1, h.2.congr (fun a b => ?_), h.3⟩
  have : EdgeM edges mask b a ↔ EdgeM edges mask' b a := by
    constructor
    · rintro ⟨i, h1, h2, h3⟩
      exact ⟨i, h1, fun c => h2 ((he i h1).2 c), h3⟩
    · rintro ⟨i, h1, h2, h3⟩
      exact ⟨i, h1, fun c => h2 ((he i h1).1 c), h3⟩
  rw [this]
/-- What is shut, told of the mask. -/
def Shut (edges : List S38) (mask : List Int) (sh : List Bool) : Prop := sh.length = edges.length + 1 ∧ ∀ j : Nat, 1 ≤ j → j ≤ edges.length → (sh.getD j false = true ↔ (j : Int) ∈ mask)
theorem shut_loop (mask : List Int) (hl : mask.length ≤ 10000) (n : Nat) : ∀ (i : Nat) (sh : List Bool), i + n = mask.length → EvP (fun k => reach_shut.l0 k sh mask (mask.length : Int) (i : Int)) (fun r => r.length = sh.length ∧
    ∀ j : Nat, 1 ≤ j → j < sh.length → r.getD j false = (sh.getD j false || decide ((j : Int) ∈ mask.drop i))) := by
  induction n with
  | zero =>
    intro i sh hi
    refine EvP.succ (fun k => reach_shut.l0.eq_2 _ _ _ _ k) (EvP.no (by omega) (EvP.ret ⟨rfl, fun j _ _ => ?_⟩))
    rw [List.drop_eq_nil_of_le (by omega)]
    simp
  | succ n ih =>
    intro i sh hi
    have hil : i < mask.length := by omega
    have hd : mask.drop i = mask[i] :: mask.drop (i + 1) := List.drop_eq_getElem_cons hil
    have hrd : rd mask (i : Int) = mask[i] := by simp [rd, List.getElem?_eq_getElem hil]
    have hw := wnext i (by omega)
    refine EvP.succ (fun k => reach_shut.l0.eq_2 _ _ _ _ k) (EvP.yes (by omega) (EvP.yes (by omega) (EvP.yes (by omega) ?_)))
    have skip : ¬ (rd mask (i : Int) ≥ 1 ∧ rd mask (i : Int) < (sh.length : Int)) → EvP (fun k => reach_shut.l0 k sh mask (mask.length : Int) (wrap64 ((i : Int) + 1))) (fun r => r.length = sh.length ∧ ∀ j : Nat, 1 ≤ j → j < sh.length → r.getD j false = (sh.getD j false || decide ((j : Int) ∈ mask.drop i))) := by
      intro c
      rw [hw]
      refine (ih (i + 1) sh (by omega)).mono (fun r ⟨h1, h2⟩ => ⟨h1, fun j hj1 hj2 => ?_⟩)
      rw [h2 j hj1 hj2, hd]
      have : ¬ (j : Int) = mask[i] := by omega
      simp only [List.mem_cons, this, false_or]
    refine EvP.split (fun c1 => EvP.split (fun c2 => EvP.yes (by omega) ?_) (fun c2 => skip (fun c => c2 c.2))) (fun c1 => skip (fun c => c1 c.1))
    rw [hw]
    refine (ih (i + 1) (sh.set (rd mask (i : Int)).toNat true) (by omega)).mono (fun r ⟨h1, h2⟩ => ⟨by rw [h1, List.length_set], fun j hj1 hj2 => ?_⟩)
    rw [h2 j hj1 (by rw [List.length_set]; exact hj2), hd]
    simp only [List.mem_cons]
    by_cases cj : (rd mask (i : Int)).toNat = j
    · have : (j : Int) = mask[i] := by omega
      simp [List.getD_eq_getElem?_getD, cj, hj2, this]
    · have : ¬ (j : Int) = mask[i] := by omega
      simp [List.getD_eq_getElem?_getD, cj, this]
theorem shut_e (nodes : List S47) (edges : List S38) (mask : List Int) (hl : mask.length ≤ 10000) (hm : edges.length ≤ 1000) : EvP (fun k => reach_shut.f k nodes edges mask) (Shut edges mask) := by
  have hw : wrap64 ((edges.length : Int) + 1) = ((edges.length + 1 : Nat) : Int) := by rw [wsm] <;> omega
  refine EvP.yes (by rw [hw]; omega) (EvP.yes (by rw [hw]; omega) ?_)
  rw [hw]
  refine (shut_loop mask hl mask.length 0 _ (by omega)).mono (fun r ⟨h1, h2⟩ => ⟨by rw [h1, List.length_replicate]; omega, fun j hj1 hj2 => ?_⟩)
  rw [h2 j hj1 (by rw [List.length_replicate]; omega)]
  have : (List.replicate (((edges.length + 1 : Nat) : Int)).toNat false).getD j false = false := by
    rw [List.getD_eq_getElem?_getD, List.getElem?_replicate]
    split <;> rfl
  rw [this]
  simp
def Ed1 (nodes : List S47) (edges : List S38) (sh : List Bool) (s : Int) (a b : Int) : Prop := (∃ i : Nat, i < edges.length ∧ sh.getD (i + 1) false = false ∧ (rd_T38 edges i).f1 = a ∧ (rd_T38 edges i).f0 = b) ∧ (a = s ∨ Pass nodes a)
theorem Ed1.ends {nodes : List S47} {edges : List S38} (F : Fit nodes edges) {sh : List Bool} {s a b : Int} (h : Ed1 nodes edges sh s a b) : 0 ≤ a ∧ a < (nodes.length : Int) ∧ 0 ≤ b ∧ b < (nodes.length : Int) := by
  obtain ⟨⟨i, hi, _, rfl, rfl⟩, _⟩ := h
  have := F.ends i hi
  exact ⟨this.2.2.1, this.2.2.2, this.1, this.2.1⟩
abbrev Res1 (nodes : List S47) (edges : List S38) (sh : List Bool) (s : Int) (res : List Int) : Prop := LensOk nodes.length s (Ed1 nodes edges sh s) (g res) ∧ res.length = nodes.length ∧ ∀ v : Int, 0 ≤ v → v < nodes.length → g res v ≤ nodes.length
theorem inner1 (nodes : List S47) (edges : List S38) (F : Fit nodes edges) (sh : List Bool) (hsh : sh.length = edges.length + 1) (s u : Int) (hK : u = s ∨ Pass nodes u) (M : Nat) (hM : M ≤ 1000)
    (next : ∀ r q : List Int, q.length + cnt r ≤ M → Inv nodes.length s (Ed1 nodes edges sh s) r q → EvP (fun k => reach_lengths_1.l0 k sh s r q nodes edges) (Res1 nodes edges sh s)) (n : Nat) :
    ∀ (i : Nat) (r rest : List Int), i + n = edges.length → rest.length + cnt r ≤ M → Inv nodes.length s (Ed1 nodes edges sh s) r (u :: rest) →
      (∀ j : Nat, j < i → sh.getD (j + 1) false = false → (rd_T38 edges j).f1 = u → 0 ≤ g r (rd_T38 edges j).f0 ∧ g r (rd_T38 edges j).f0 ≤ g r u + 1) →
      EvP (fun k => reach_lengths_1.l1 k sh s r (u :: rest) u edges (edges.length : Int) (i : Int) nodes edges) (Res1 nodes edges sh s) := by
  induction n with
  | zero =>
    intro i r rest hi hc hI hJ
    refine EvP.succ (fun k => reach_lengths_1.l1.eq_2 _ _ _ _ _ _ _ _ _ _ k) (EvP.no (by omega) (EvP.yes (by simp; omega) (next r rest hc (hI.pop (fun b hb => ?_)))))
    obtain ⟨⟨j, hj, h1, h2, h3⟩, _⟩ := hb
    have := hJ j (by omega) h1 h2
    rw [h3] at this
    exact this
  | succ n ih =>
    intro i r rest hi hc hI hJ
    have hm := F.m
    have hn := F.n
    have hw : wrap64 ((i : Int) + 1) = ((i + 1 : Nat) : Int) := by rw [wsm] <;> omega
    have hu := hI.qin u (by simp)
    have E := F.ends i (by omega)
    have hlen := hI.len
    have hgo : ∀ r' rest', rest'.length + cnt r' ≤ M → Inv nodes.length s (Ed1 nodes edges sh s) r' (u :: rest') → (∀ j : Nat, j < i + 1 → sh.getD (j + 1) false = false → (rd_T38 edges j).f1 = u → 0 ≤ g r' (rd_T38 edges j).f0 ∧ g r' (rd_T38 edges j).f0 ≤ g r' u + 1) →
      EvP (fun k => reach_lengths_1.l1 k sh s r' (u :: rest') u edges (edges.length : Int) (wrap64 ((i : Int) + 1)) nodes edges) (Res1 nodes edges sh s) := by
      intro r' rest' h1 h2 h3
      rw [hw]
      exact ih (i + 1) r' rest' (by omega) h1 h2 h3
    have hsd : rdOf false sh (wrap64 ((i : Int) + 1)) = sh.getD (i + 1) false := by rw [hw]; rfl
    refine EvP.succ (fun k => reach_lengths_1.l1.eq_2 _ _ _ _ _ _ _ _ _ _ k) (EvP.yes (by omega) (EvP.yes (by omega) (EvP.yes (by omega) (EvP.yes (by omega) (EvP.yes (by omega) (EvP.split (fun c1 => ?_) (fun c1' => EvP.split (fun c2 => EvP.yes (by omega) (EvP.yes (by omega) (EvP.split (fun c3 => EvP.yes (by omega) (EvP.yes (by omega) (EvP.yes (by simp; omega) ?_))) (fun c3 => ?_)))) (fun c2 => ?_))))))))
    · rw [hsd] at c1
      refine hgo r rest hc hI (fun j hj h1 h2 => ?_)
      by_cases hji : j = i
      · subst hji; rw [c1] at h1; cases h1
      · exact hJ j (by omega) h1 h2
    · have c1 : ¬ sh.getD (i + 1) false = true := by rw [hsd] at c1'; exact c1'
      have hEd : Ed1 nodes edges sh s u (rd_T38 edges (i : Int)).f0 := ⟨⟨i, by omega, by simpa using c1, c2, rfl⟩, hK⟩
      have hub := hI.hi u hu.1 hu.2.1
      have hA := hI.assign (b := (rd_T38 edges (i : Int)).f0) E.1 E.2.1 c3 hEd (fun a b h => Ed1.ends F h)
      have hwr : wrap64 (rd r u + 1) = g r u + 1 := by rw [rd_g, wsm] <;> omega
      have hcs := cnt_set (r := r) (x := g r u + 1) E.1 (by omega) c3 (by omega)
      have G : ∀ v : Int, 0 ≤ v → g (r.set ((rd_T38 edges (i : Int)).f0).toNat (g r u + 1)) v = if v = (rd_T38 edges (i : Int)).f0 then g r u + 1 else g r v := fun v hv => g_set E.1 (by omega) hv
      have hub' : ¬ u = (rd_T38 edges (i : Int)).f0 := by intro e; rw [rd_g, ← e] at c3; omega
      rw [hwr]
      refine hgo _ (rest ++ [(rd_T38 edges (i : Int)).f0]) (by rw [List.length_append]; simp; omega) hA (fun j hj h1 h2 => ?_)
      have Ej := F.ends j (by omega)
      rw [G _ Ej.1, G u hu.1, if_neg hub']
      by_cases hji : j = i
      · subst hji; rw [if_pos rfl]; omega
      · have := hJ j (by omega) h1 h2
        split
        · omega
        · exact this
    · refine hgo r rest hc hI (fun j hj h1 h2 => ?_)
      by_cases hji : j = i
      · subst hji
        have := hI.top u rest rfl _ E.1 E.2.1
        rw [rd_g] at c3
        omega
      · exact hJ j (by omega) h1 h2
    · refine hgo r rest hc hI (fun j hj h1 h2 => ?_)
      by_cases hji : j = i
      · subst hji; exact absurd h2 c2
      · exact hJ j (by omega) h1 h2
theorem outer1 (nodes : List S47) (edges : List S38) (F : Fit nodes edges) (sh : List Bool) (hsh : sh.length = edges.length + 1) (s : Int) (M : Nat) :
    M ≤ 1000 → ∀ r q : List Int, q.length + cnt r ≤ M → Inv nodes.length s (Ed1 nodes edges sh s) r q → EvP (fun k => reach_lengths_1.l0 k sh s r q nodes edges) (Res1 nodes edges sh s) := by
  induction M with
  | zero =>
    intro _ r q hc hI
    obtain rfl : q = [] := List.length_eq_zero_iff.1 (by omega)
    exact EvP.succ (fun k => reach_lengths_1.l0.eq_2 _ _ _ _ _ _ k) (EvP.no (by simp) (EvP.ret ⟨hI.good (fun a b h => Ed1.ends F h), hI.len, fun v h0 h1 => by have := hI.hi v h0 h1; omega⟩))
  | succ M ih =>
    intro hM r q hc hI
    cases q with
    | nil => exact EvP.succ (fun k => reach_lengths_1.l0.eq_2 _ _ _ _ _ _ k) (EvP.no (by simp) (EvP.ret ⟨hI.good (fun a b h => Ed1.ends F h), hI.len, fun v h0 h1 => by have := hI.hi v h0 h1; omega⟩))
    | cons u rest =>
      have hu := hI.qin u (by simp)
      have h0 : rd (u :: rest) 0 = u := rfl
      have hlen : rest.length + cnt r ≤ M := by simp at hc; omega
      have next := ih (by omega)
      refine EvP.succ (fun k => reach_lengths_1.l0.eq_2 _ _ _ _ _ _ k) (EvP.yes (by simp) (EvP.yes (by simp) ?_))
      rw [h0]
      by_cases hK : u = s ∨ Pass nodes u
      · have ej : EvP (fun k => reach_lengths_1.j1 k sh s r (u :: rest) u false nodes edges) (Res1 nodes edges sh s) := EvP.succ (fun k => reach_lengths_1.j1.eq_2 _ _ _ _ _ _ _ _ k) (EvP.no (by simp) (inner1 nodes edges F sh hsh s u hK M (by omega) next edges.length 0 r rest (by omega) hlen hI (fun j hj => by omega)))
        refine EvP.split (fun _ => ej) (fun c => EvP.yes hu.1 (EvP.yes hu.2.1 ?_))
        have : ((rd_T47 nodes u).f1 != 1) = false := by simpa [Pass] using hK.resolve_left c
        rw [this]
        exact ej
      · have e := next r rest hlen (hI.pop (fun b hb => absurd hb.2 hK))
        refine EvP.no (fun c => hK (.inl c)) (EvP.yes hu.1 (EvP.yes hu.2.1 ?_))
        have : ((rd_T47 nodes u).f1 != 1) = true := by
          simp only [bne_iff_ne, ne_eq]
          exact fun c => hK (.inr c)
        rw [this]
        exact EvP.succ (fun k => reach_lengths_1.j1.eq_2 _ _ _ _ _ _ _ _ k) (EvP.yes rfl (EvP.yes (by simp; omega) e))
theorem lens1_sh (nodes : List S47) (edges : List S38) (F : Fit nodes edges) (sh : List Bool) (hsh : sh.length = edges.length + 1) (s : Int) (h0 : 0 ≤ s) (h1 : s < (nodes.length : Int)) :
    EvP (fun k => reach_lengths_1.f k nodes edges sh s 1) (Res1 nodes edges sh s) := by
  have hn := F.n
  have hn0 := F.n0
  refine EvP.obind (a := List.replicate nodes.length (-1)) ?_ (EvP.yes h0 (EvP.yes (by simp; omega) ?_))
  · unfold slices_Repeat_int_int.f
    rw [if_pos ⟨rfl, by omega, by omega⟩]
    simp [rd]
  · refine outer1 nodes edges F sh hsh s 1000 (by omega) _ [s] ?_ (Inv.init h0 h1)
    have : cnt ((List.replicate nodes.length (-1 : Int)).set s.toNat 0) ≤ nodes.length := by
      have := List.countP_le_length (p := fun x : Int => decide (x < 0)) (l := (List.replicate nodes.length (-1 : Int)).set s.toNat 0)
      simpa [cnt] using this
    simp; omega
theorem lens1_e (nodes : List S47) (edges : List S38) (F : Fit nodes edges) (mask : List Int) (sh : List Bool) (hs : Shut edges mask sh) (s : Int) (h0 : 0 ≤ s) (h1 : s < (nodes.length : Int)) :
    EvP (fun k => reach_lengths_1.f k nodes edges sh s 1) (LensTo nodes edges mask s) := by
  refine (lens1_sh nodes edges F sh hs.1 s h0 h1).mono (fun r ⟨h, hl, hh⟩ => ⟨hl, h.congr (fun a b => ?_), hh⟩)
  have : (∃ i : Nat, i < edges.length ∧ sh.getD (i + 1) false = false ∧ (rd_T38 edges i).f1 = a ∧ (rd_T38 edges i).f0 = b) ↔ EdgeM edges mask b a := by
    constructor
    · rintro ⟨i, h1, h2, h3, h4⟩
      refine ⟨i, h1, fun c => ?_, h4, h3⟩
      have := (hs.2 (i + 1) (by omega) (by omega)).2 (by simpa using c)
      rw [h2] at this
      cases this
    · rintro ⟨i, h1, h2, h4, h3⟩
      refine ⟨i, h1, ?_, h3, h4⟩
      rw [Bool.eq_false_iff]
      intro c
      exact h2 (by simpa using (hs.2 (i + 1) (by omega) (by omega)).1 c)
  show _ ∧ _ ↔ _
  rw [this]
theorem To_e (nodes : List S47) (edges : List S38) (F : Fit nodes edges) (mask : List Int) (hl : mask.length ≤ 10000) (s : Int) (h0 : 0 ≤ s) (h1 : s < (nodes.length : Int)) :
    EvP (fun k => reach_To.f k nodes edges mask s) (fun r => LensTo nodes edges mask s r.1 ∧ r.2 = 0) := by
  have hm := F.m
  refine EvP.no (by omega) ?_
  rw [decide_eq_false (by omega)]
  refine EvP.succ (fun k => reach_To.j0.eq_2 _ _ _ _ _ k) (EvP.no (by simp) (EvP.bind (shut_e nodes edges mask hl (by omega)) (fun sh hs => EvP.bind (lens1_e nodes edges F mask sh hs s h0 h1) (fun r hr => EvP.ret ⟨hr, rfl⟩))))
theorem To_out (nodes : List S47) (edges : List S38) (mask : List Int) (s : Int) (h : s < 0 ∨ (nodes.length : Int) ≤ s) : EvP (fun k => reach_To.f k nodes edges mask s) (fun r => r.1 = [] ∧ r.2 = 1) := by
  have e : EvP (fun k => reach_To.j0 k mask s true nodes edges) (fun r => r.1 = [] ∧ r.2 = 1) := EvP.succ (fun k => reach_To.j0.eq_2 _ _ _ _ _ k) (EvP.yes rfl (EvP.ret ⟨rfl, rfl⟩))
  refine EvP.split (fun _ => e) (fun c => ?_)
  rw [decide_eq_true (by omega)]
  exact e
theorem Name_e (s : ByteArray) : EvP (fun k => stillageref06_Name.f k s) (fun _ => True) := by
  have l0 : ∀ (n i : Nat), i + n = s.size → s.size ≤ 8 → EvP (fun k => stillageref06_Name.l0 k s (i : Int)) (fun _ => True) := by
    intro n
    induction n with
    | zero =>
      intro i hi h8
      exact EvP.succ (fun k => stillageref06_Name.l0.eq_2 _ _ k) (EvP.no (by omega) (EvP.ret trivial))
    | succ n ih =>
      intro i hi h8
      have hg : EvP (fun k => stillageref06_Name.l0 k s (wrap64 ((i : Int) + 1))) (fun _ => True) := by
        rw [wnext i (by omega)]
        exact ih (i + 1) (by omega) h8
      have hf : EvP (fun _ => some false) (fun _ => True) := EvP.ret trivial
      refine EvP.succ (fun k => stillageref06_Name.l0.eq_2 _ _ k) (EvP.yes (by omega) (EvP.yes (by omega) (EvP.split (fun _ => EvP.split (fun _ => EvP.split (fun _ => hg) (fun _ => EvP.split (fun _ => hf) (fun _ => EvP.split (fun _ => hg) (fun _ => hf)))) (fun _ => EvP.split (fun _ => hg) (fun _ => EvP.split (fun _ => hf) (fun _ => hf)))) (fun _ => EvP.split (fun _ => EvP.split (fun _ => hf) (fun _ => EvP.split (fun _ => hg) (fun _ => hf))) (fun _ => EvP.split (fun _ => hf) (fun _ => hf))))))
  refine EvP.split (fun _ => EvP.succ (fun k => stillageref06_Name.j0.eq_2 _ _ k) (EvP.yes rfl (EvP.ret trivial))) (fun _ => ?_)
  by_cases c : (s.size : Int) > 8
  · rw [decide_eq_true c]
    exact EvP.succ (fun k => stillageref06_Name.j0.eq_2 _ _ k) (EvP.yes rfl (EvP.ret trivial))
  · rw [decide_eq_false c]
    exact EvP.succ (fun k => stillageref06_Name.j0.eq_2 _ _ k) (EvP.no (by simp) (l0 s.size 0 (by omega) (by omega)))
theorem Find_e (nodes : List S47) (edges : List S38) (s : ByteArray) (hn : nodes.length ≤ 1000) : EvP (fun k => stillageref06_Find.f k nodes edges s) (fun _ => True) := by
  have l0 : ∀ (n i : Nat), i + n = nodes.length → EvP (fun k => stillageref06_Find.l0 k s (nodes.length : Int) (i : Int) nodes edges) (fun _ => True) := by
    intro n
    induction n with
    | zero =>
      intro i hi
      exact EvP.succ (fun k => stillageref06_Find.l0.eq_2 _ _ _ _ _ k) (EvP.no (by omega) (EvP.ret trivial))
    | succ n ih =>
      intro i hi
      refine EvP.succ (fun k => stillageref06_Find.l0.eq_2 _ _ _ _ _ k) (EvP.yes (by omega) (EvP.yes (by omega) (EvP.yes (by omega) (EvP.split (fun _ => EvP.ret trivial) (fun _ => ?_)))))
      rw [wnext i (by omega)]
      exact ih (i + 1) (by omega)
  exact l0 nodes.length 0 (by omega)
abbrev EdgeOk (nodes : List S47) (edges : List S38) (i : Nat) : Prop :=
  (0 ≤ (rd_T38 edges i).f0 ∧ (rd_T38 edges i).f0 < (nodes.length : Int) ∧ 0 ≤ (rd_T38 edges i).f1 ∧ (rd_T38 edges i).f1 < (nodes.length : Int)) ∧ (rd_T38 edges i).f0 ≠ (rd_T38 edges i).f1 ∧ (Pass nodes (rd_T38 edges i).f0 ∨ Pass nodes (rd_T38 edges i).f1) ∧
    ∀ j : Nat, j < i → ¬ ((rd_T38 edges j).f0 = (rd_T38 edges i).f0 ∧ (rd_T38 edges j).f1 = (rd_T38 edges i).f1)
theorem Good_l2 (nodes : List S47) (edges : List S38) (hm : edges.length ≤ 120) (i : Nat) (hi : i < edges.length) (P : Bool → Prop) (hf : P false)
    (next : (∀ j : Nat, j < i → ¬ ((rd_T38 edges j).f0 = (rd_T38 edges i).f0 ∧ (rd_T38 edges j).f1 = (rd_T38 edges i).f1)) → EvP (fun k => stillageref06_Good.l1 k (edges.length : Int) (wrap64 ((i : Int) + 1)) nodes edges) P) (n : Nat) :
    ∀ j : Nat, j + n = i → (∀ j' : Nat, j' < j → ¬ ((rd_T38 edges j').f0 = (rd_T38 edges i).f0 ∧ (rd_T38 edges j').f1 = (rd_T38 edges i).f1)) → EvP (fun k => stillageref06_Good.l2 k (i : Int) (j : Int) (edges.length : Int) (i : Int) nodes edges) P := by
  induction n with
  | zero =>
    intro j hj hp
    obtain rfl : j = i := by omega
    exact EvP.succ (fun k => stillageref06_Good.l2.eq_2 _ _ _ _ _ _ k) (EvP.no (by omega) (next hp))
  | succ n ih =>
    intro j hj hp
    refine EvP.succ (fun k => stillageref06_Good.l2.eq_2 _ _ _ _ _ _ k) (EvP.yes (by omega) (EvP.yes (by omega) (EvP.yes (by omega) (EvP.yes (by omega) (EvP.yes (by omega) (EvP.split (fun _ => EvP.ret hf) (fun c => ?_)))))))
    rw [wnext j (by omega)]
    refine ih (j + 1) (by omega) (fun j' hj' => ?_)
    by_cases e : j' = j
    · subst e
      intro h
      apply c
      simp [h.1, h.2]
    · exact hp j' (by omega)
theorem Good_l1 (nodes : List S47) (edges : List S38) (hm : edges.length ≤ 120) (n : Nat) : ∀ i : Nat, i + n = edges.length → EvP (fun k => stillageref06_Good.l1 k (edges.length : Int) (i : Int) nodes edges) (fun b => b = true → ∀ j : Nat, i ≤ j → j < edges.length → EdgeOk nodes edges j) := by
  induction n with
  | zero =>
    intro i hi
    exact EvP.succ (fun k => stillageref06_Good.l1.eq_2 _ _ _ _ k) (EvP.no (by omega) (EvP.ret (fun _ j h1 h2 => by omega)))
  | succ n ih =>
    intro i hi
    have hff : (false = true) → ∀ j : Nat, i ≤ j → j < edges.length → EdgeOk nodes edges j := fun h => by cases h
    have bad : ∀ (x6 x7 : Int), EvP (fun k => stillageref06_Good.j3 k (i : Int) x6 x7 (edges.length : Int) (i : Int) true nodes edges) (fun b => b = true → ∀ j : Nat, i ≤ j → j < edges.length → EdgeOk nodes edges j) := fun x6 x7 =>
      EvP.succ (fun k => stillageref06_Good.j3.eq_2 _ _ _ _ _ _ _ _ k) (EvP.yes rfl (EvP.ret hff))
    refine EvP.succ (fun k => stillageref06_Good.l1.eq_2 _ _ _ _ k) (EvP.yes (by omega) (EvP.yes (by omega) (EvP.yes (by omega) (EvP.split (fun _ => bad _ _) (fun c1 => EvP.split (fun _ => bad _ _) (fun c2 => EvP.split (fun _ => bad _ _) (fun c3 => EvP.split (fun _ => bad _ _) (fun c4 => ?_))))))))
    by_cases c5 : (rd_T38 edges (i : Int)).f0 = (rd_T38 edges (i : Int)).f1
    · rw [show ((rd_T38 edges (i : Int)).f0 == (rd_T38 edges (i : Int)).f1) = true from by simpa using c5]
      exact bad _ _
    · rw [show ((rd_T38 edges (i : Int)).f0 == (rd_T38 edges (i : Int)).f1) = false from by simpa using c5]
      have go : (Pass nodes (rd_T38 edges (i : Int)).f0 ∨ Pass nodes (rd_T38 edges (i : Int)).f1) → EvP (fun k => stillageref06_Good.j4 k (i : Int) (edges.length : Int) (i : Int) false nodes edges) (fun b => b = true → ∀ j : Nat, i ≤ j → j < edges.length → EdgeOk nodes edges j) := by
        intro hp
        refine EvP.succ (fun k => stillageref06_Good.j4.eq_2 _ _ _ _ _ _ k) (EvP.no (by simp) (Good_l2 nodes edges hm i (by omega) _ hff (fun hd => ?_) i 0 (by omega) (fun j' hj' => by omega)))
        rw [wnext i (by omega)]
        refine (ih (i + 1) (by omega)).mono (fun b h hb j h1 h2 => ?_)
        by_cases e : j = i
        · subst e
          exact ⟨⟨by omega, by omega, by omega, by omega⟩, c5, hp, hd⟩
        · exact h hb j (by omega) h2
      refine EvP.succ (fun k => stillageref06_Good.j3.eq_2 _ _ _ _ _ _ _ _ k) (EvP.no (by simp) (EvP.yes (by omega) (EvP.yes (by omega) (EvP.split (fun c6 => go (.inl c6)) (fun c6 => EvP.yes (by omega) (EvP.yes (by omega) ?_))))))
      by_cases c7 : (rd_T47 nodes (rd_T38 edges (i : Int)).f1).f1 = 1
      · rw [show ((rd_T47 nodes (rd_T38 edges (i : Int)).f1).f1 != 1) = false from by simpa using c7]
        exact go (.inr c7)
      · rw [show ((rd_T47 nodes (rd_T38 edges (i : Int)).f1).f1 != 1) = true from by simpa using c7]
        exact EvP.succ (fun k => stillageref06_Good.j4.eq_2 _ _ _ _ _ _ k) (EvP.yes rfl (EvP.ret hff))
abbrev NodeOk (nodes : List S47) (i : Nat) : Prop := 1 ≤ (rd_T47 nodes i).f1 ∧ (rd_T47 nodes i).f1 ≤ 4 ∧ 0 ≤ (rd_T47 nodes i).f2 ∧ (rd_T47 nodes i).f2 ≤ 7
theorem Good_l0 (nodes : List S47) (edges : List S38) (hn : nodes.length ≤ 40) (hm : edges.length ≤ 120) (n : Nat) : ∀ i : Nat, i + n = nodes.length → EvP (fun k => stillageref06_Good.l0 k (nodes.length : Int) (i : Int) nodes edges) (fun b => b = true → (∀ j : Nat, i ≤ j → j < nodes.length → NodeOk nodes j) ∧ ∀ j : Nat, j < edges.length → EdgeOk nodes edges j) := by
  induction n with
  | zero =>
    intro i hi
    refine EvP.succ (fun k => stillageref06_Good.l0.eq_2 _ _ _ _ k) (EvP.no (by omega) ((Good_l1 nodes edges hm edges.length 0 (by omega)).mono (fun b h hb => ⟨fun j h1 h2 => by omega, fun j hj => h hb j (by omega) hj⟩)))
  | succ n ih =>
    intro i hi
    have hff : (false = true) → (∀ j : Nat, i ≤ j → j < nodes.length → NodeOk nodes j) ∧ ∀ j : Nat, j < edges.length → EdgeOk nodes edges j := fun h => by cases h
    refine EvP.succ (fun k => stillageref06_Good.l0.eq_2 _ _ _ _ k) (EvP.yes (by omega) (EvP.yes (by omega) (EvP.yes (by omega) (EvP.bind (Name_e _) (fun t _ => EvP.split (fun _ => EvP.split (fun _ => EvP.ret hff) (fun c1 => EvP.split (fun _ => EvP.ret hff) (fun c2 => EvP.split (fun _ => EvP.ret hff) (fun c3 => EvP.split (fun _ => EvP.ret hff) (fun c4 => EvP.bind (Find_e nodes edges _ (by omega)) (fun t _ => EvP.split (fun _ => ?_) (fun _ => EvP.ret hff))))))) (fun _ => EvP.ret hff))))))
    rw [wnext i (by omega)]
    refine (ih (i + 1) (by omega)).mono (fun b h hb => ⟨fun j h1 h2 => ?_, (h hb).2⟩)
    by_cases e : j = i
    · subst e
      exact ⟨by omega, by omega, by omega, by omega⟩
    · exact (h hb).1 j (by omega) h2
theorem Good_e (nodes : List S47) (edges : List S38) : EvP (fun k => stillageref06_Good.f k nodes edges) (fun b => b = true → Fit nodes edges) := by
  have bad : EvP (fun k => stillageref06_Good.j0 k true nodes edges) (fun b => b = true → Fit nodes edges) := EvP.succ (fun k => stillageref06_Good.j0.eq_2 _ _ _ k) (EvP.yes rfl (EvP.ret (fun h => by cases h)))
  refine EvP.split (fun _ => bad) (fun c1 => EvP.split (fun _ => bad) (fun c2 => ?_))
  by_cases c3 : (edges.length : Int) > 120
  · rw [decide_eq_true c3]
    exact bad
  · rw [decide_eq_false c3]
    refine EvP.succ (fun k => stillageref06_Good.j0.eq_2 _ _ _ k) (EvP.no (by simp) ((Good_l0 nodes edges (by omega) (by omega) nodes.length 0 (by omega)).mono (fun b h hb => ?_)))
    obtain ⟨hN, hE⟩ := h hb
    exact ⟨by omega, by omega, by omega, fun i hi => hN i (by omega) hi, fun i hi => (hE i hi).1, fun i hi => (hE i hi).2.1, fun i hi => (hE i hi).2.2.1, fun i j hi hj => (hE i hi).2.2.2 j hj⟩
theorem Fits_e (nodes : List S47) (edges : List S38) (mask : List Int) : EvP (fun k => stillagelaw07_Fits.f k nodes edges mask) (fun b => b = true → Fit nodes edges ∧ mask.length ≤ 200) := by
  refine EvP.split (fun c => EvP.bind (Good_e nodes edges) (fun t ht => EvP.ret (fun h => ⟨ht h, by omega⟩))) (fun _ => EvP.ret (fun h => by cases h))
theorem awake_e : Evt (fun k => stillagelaw08_awake.f k) true := Evt.mono (n := 80) (by decide +kernel) (fun k r h => stillagelaw08_awake.mono k r h)
/-- Where devices lead, told plainly. -/
def walkP (edges : List S38) (node : Int) : List Int → Int × Int
  | [] => (node, 0)
  | d :: p => if d < 1 ∨ d > (edges.length : Int) ∨ (rd_T38 edges (d - 1)).f0 ≠ node then (0, 80) else walkP edges (rd_T38 edges (d - 1)).f1 p
theorem walkP_out (edges : List S38) (node d : Int) (p : List Int) (h : d < 1 ∨ d > (edges.length : Int) ∨ (rd_T38 edges (d - 1)).f0 ≠ node) : walkP edges node (d :: p) = (0, 80) := by rw [walkP, if_pos h]
theorem walkP_in (edges : List S38) (node d : Int) (p : List Int) (h : ¬ (d < 1 ∨ d > (edges.length : Int) ∨ (rd_T38 edges (d - 1)).f0 ≠ node)) : walkP edges node (d :: p) = walkP edges (rd_T38 edges (d - 1)).f1 p := by rw [walkP, if_neg h]
theorem Walk_l0 (nodes : List S47) (edges : List S38) (hm : edges.length ≤ 100000) (path : List Int) (hp : path.length ≤ 100000) (n : Nat) : ∀ (i : Nat) (node : Int), i + n = path.length → EvP (fun k => route_Walk.l0 k node path (path.length : Int) (i : Int) nodes edges) (fun r => r = walkP edges node (path.drop i)) := by
  induction n with
  | zero =>
    intro i node hi
    refine EvP.succ (fun k => route_Walk.l0.eq_2 _ _ _ _ _ _ k) (EvP.no (by omega) (EvP.ret ?_))
    rw [List.drop_eq_nil_of_le (by omega), walkP]
  | succ n ih =>
    intro i node hi
    have hil : i < path.length := by omega
    have hrd : rd path (i : Int) = path[i] := by simp [rd, List.getElem?_eq_getElem hil]
    rw [List.drop_eq_getElem_cons hil]
    refine EvP.succ (fun k => route_Walk.l0.eq_2 _ _ _ _ _ _ k) (EvP.yes (by omega) (EvP.yes (by omega) (EvP.yes (by omega) ?_)))
    rw [hrd]
    generalize path[i] = d
    refine EvP.split (fun c => EvP.ret (walkP_out _ _ _ _ (.inl c)).symm) (fun c => EvP.split (fun c2 => EvP.ret (walkP_out _ _ _ _ (.inr (.inl c2))).symm) (fun c2 => ?_))
    rw [show wrap64 (d - 1) = d - 1 by unfold wrap64; omega]
    refine EvP.yes (by omega) (EvP.yes (by omega) (EvP.split (fun c3 => ?_) (fun c3 => EvP.ret (walkP_out _ _ _ _ (.inr (.inr c3))).symm)))
    rw [wnext i (by omega), walkP_in _ _ _ _ (by rintro (h | h | h) <;> first | exact c h | exact c2 h | exact h c3)]
    exact ih (i + 1) _ (by omega)
theorem Out1_e (nodes : List S47) (edges : List S38) (a : Int) : route_out.f nodes edges [a] = some (decide (a < 0) || decide (a ≥ (nodes.length : Int))) := by
  unfold route_out.f
  simp
theorem Walk_e (nodes : List S47) (edges : List S38) (hm : edges.length ≤ 100000) (a : Int) (h0 : 0 ≤ a) (h1 : a < (nodes.length : Int)) (path : List Int) (hp : path.length ≤ 100000) : EvP (fun k => route_Walk.f k nodes edges a path) (fun r => r = walkP edges a path) := by
  refine EvP.obind (Out1_e nodes edges a) ?_
  rw [decide_eq_false (show ¬ a < 0 by omega), decide_eq_false (show ¬ a ≥ (nodes.length : Int) by omega)]
  exact EvP.no (by simp) (Walk_l0 nodes edges hm path hp path.length 0 a (by omega))
theorem Walk_out (nodes : List S47) (edges : List S38) (a : Int) (h : a < 0 ∨ (nodes.length : Int) ≤ a) (path : List Int) : EvP (fun k => route_Walk.f k nodes edges a path) (fun r => r = (0, 1)) := by
  refine EvP.obind (Out1_e nodes edges a) ?_
  rw [show (decide (a < 0) || decide (a ≥ (nodes.length : Int))) = true by simpa using h]
  exact EvP.yes rfl (EvP.ret rfl)
theorem Index_loop (l : List Int) (a : Int) (hl : l.length ≤ 100000) (n : Nat) : ∀ i : Nat, i + n = l.length → EvP (fun k => slices_Index_int_int.l0 k l a (l.length : Int) (i : Int)) (fun r => 0 ≤ r ↔ a ∈ l.drop i) := by
  induction n with
  | zero =>
    intro i hi
    refine EvP.succ (fun k => slices_Index_int_int.l0.eq_2 _ _ _ _ k) (EvP.no (by omega) (EvP.ret ?_))
    rw [List.drop_eq_nil_of_le (by omega)]
    simp
  | succ n ih =>
    intro i hi
    have hil : i < l.length := by omega
    have hrd : rd l (i : Int) = l[i] := by simp [rd, List.getElem?_eq_getElem hil]
    rw [List.drop_eq_getElem_cons hil]
    refine EvP.succ (fun k => slices_Index_int_int.l0.eq_2 _ _ _ _ k) (EvP.yes (by omega) (EvP.yes (by omega) (EvP.yes (by omega) ?_)))
    rw [hrd, wnext i (by omega)]
    refine EvP.split (fun c => EvP.ret ?_) (fun c => (ih (i + 1) (by omega)).mono (fun r h => ?_))
    · rw [c]
      exact ⟨fun _ => List.mem_cons_self, fun _ => by omega⟩
    · rw [h, List.mem_cons]
      exact ⟨.inr, fun h => h.elim (fun e => absurd e c) id⟩
theorem Contains_e (l : List Int) (a : Int) (hl : l.length ≤ 100000) : EvP (fun k => slices_Contains_int_int.f k l a) (fun t => t = true ↔ a ∈ l) :=
  EvP.bind (Index_loop l a hl l.length 0 (by omega)) (fun r h => EvP.ret (by rw [List.drop_zero] at h; rw [decide_eq_true_iff, ← h]))
/-- A device (by its number less one) that goes off from a. -/
def OffP (edges : List S38) (a : Int) (d : Int) : Prop := ∃ e : Nat, e < edges.length ∧ d = ((e + 1 : Nat) : Int) ∧ (rd_T38 edges (e : Int)).f0 = a
theorem Out_loop (nodes : List S47) (edges : List S38) (hm : edges.length ≤ 1000) (a : Int) (h0 : 0 ≤ a) (h1 : a < (nodes.length : Int)) (n : Nat) : ∀ (i : Nat) (acc : List Int), i + n = edges.length → acc.length ≤ i → (∀ x ∈ acc, OffP edges a x) → (∀ e : Nat, e < i → (rd_T38 edges (e : Int)).f0 = a → ((e + 1 : Nat) : Int) ∈ acc) →
    EvP (fun k => layout_Out.l0 k a acc edges (edges.length : Int) (i : Int) nodes edges) (fun r => r.length ≤ edges.length ∧ ∀ x, x ∈ r ↔ OffP edges a x) := by
  induction n with
  | zero =>
    intro i acc hi hl ha hc
    refine EvP.succ (fun k => layout_Out.l0.eq_2 _ _ _ _ _ _ _ k) (EvP.no (by omega) (EvP.ret ⟨by omega, fun x => ⟨ha x, ?_⟩⟩))
    rintro ⟨e, he, rfl, hf⟩
    exact hc e (by omega) hf
  | succ n ih =>
    intro i acc hi hl ha hc
    have hn : ¬ (rd_T38 edges (i : Int)).f0 = a → EvP (fun k => layout_Out.l0 k a acc edges (edges.length : Int) (wrap64 ((i : Int) + 1)) nodes edges) (fun r => r.length ≤ edges.length ∧ ∀ x, x ∈ r ↔ OffP edges a x) := by
      intro hne
      rw [wnext i (by omega)]
      refine ih (i + 1) acc (by omega) (by omega) ha (fun e he hf => ?_)
      by_cases h : e = i
      · subst h; exact absurd hf hne
      · exact hc e (by omega) hf
    refine EvP.succ (fun k => layout_Out.l0.eq_2 _ _ _ _ _ _ _ k) (EvP.yes (by omega) (EvP.yes (by omega) (EvP.yes (by omega) (EvP.split (fun c => EvP.yes h1 (EvP.yes (by omega) (EvP.yes (by omega) ?_))) hn))))
    rw [wnext i (by omega)]
    refine ih (i + 1) _ (by omega) (by simp; omega) (fun x hx => ?_) (fun e he hf => ?_)
    · rcases List.mem_append.1 hx with hx | hx
      · exact ha x hx
      · exact ⟨i, by omega, by simpa using hx, c⟩
    · by_cases h : e = i
      · subst h; simp
      · exact List.mem_append.2 (.inl (hc e (by omega) hf))
theorem Out_e (nodes : List S47) (edges : List S38) (hm : edges.length ≤ 1000) (a : Int) (h0 : 0 ≤ a) (h1 : a < (nodes.length : Int)) : EvP (fun k => layout_Out.f k nodes edges a) (fun r => r.length ≤ edges.length ∧ ∀ x, x ∈ r ↔ OffP edges a x) :=
  Out_loop nodes edges hm a h0 h1 edges.length 0 [] (by omega) (by simp) (fun x hx => by simp at hx) (fun e he => by omega)
/-- A device that comes nearer: q holds the lengths to the target. -/
structure Near (nodes : List S47) (edges : List S38) (mask q : List Int) (a : Int) (d : Int) : Prop where
  off : ∃ e : Nat, e < edges.length ∧ d = ((e + 1 : Nat) : Int) ∧ (rd_T38 edges (e : Int)).f0 = a ∧ 0 ≤ g q (rd_T38 edges (e : Int)).f1 ∧ g q (rd_T38 edges (e : Int)).f1 = g q a - 1 ∧ (0 < g q (rd_T38 edges (e : Int)).f1 → Pass nodes (rd_T38 edges (e : Int)).f1)
  op : ¬ d ∈ mask
theorem next_loop (nodes : List S47) (edges : List S38) (F : Fit nodes edges) (mask q : List Int) (hl : mask.length ≤ 100000) (hq : q.length = nodes.length) (a : Int) (h0 : 0 ≤ a) (h1 : a < (nodes.length : Int)) (hqa : g q a ≤ 1000) (hqb : -1000 ≤ g q a) (ds : List Int) (hds : ds.length ≤ 1000) (ho : ∀ x ∈ ds, OffP edges a x) (n : Nat) : ∀ i : Nat, i + n = ds.length →
    EvP (fun k => route_next.l0 k mask q a ds (ds.length : Int) (i : Int) nodes edges) (fun d => (d = 0 ∧ ∀ x ∈ ds.drop i, ¬ Near nodes edges mask q a x) ∨ Near nodes edges mask q a d) := by
  have hm := F.m
  induction n with
  | zero =>
    intro i hi
    exact EvP.succ (fun k => route_next.l0.eq_2 _ _ _ _ _ _ _ _ k) (EvP.no (by omega) (EvP.ret (.inl ⟨rfl, by rw [List.drop_eq_nil_of_le (by omega)]; simp⟩)))
  | succ n ih =>
    intro i hi
    have hil : i < ds.length := by omega
    have hrd : rd ds (i : Int) = ds[i] := by simp [rd, List.getElem?_eq_getElem hil]
    have hn : ¬ Near nodes edges mask q a ds[i] → EvP (fun k => route_next.l0 k mask q a ds (ds.length : Int) (wrap64 ((i : Int) + 1)) nodes edges) (fun d => (d = 0 ∧ ∀ x ∈ ds.drop i, ¬ Near nodes edges mask q a x) ∨ Near nodes edges mask q a d) := by
      intro hno
      rw [wnext i (by omega), List.drop_eq_getElem_cons hil]
      refine (ih (i + 1) (by omega)).mono (fun d h => h.imp (fun h => ⟨h.1, fun x hx => ?_⟩) id)
      rcases List.mem_cons.1 hx with rfl | hx
      · exact hno
      · exact h.2 x hx
    obtain ⟨e, he, hd, hf⟩ := ho ds[i] (List.getElem_mem hil)
    have hE := F.ends e he
    rw [hd] at hrd
    have key : Near nodes edges mask q a ds[i] → ¬ ((e + 1 : Nat) : Int) ∈ mask ∧ 0 ≤ g q (rd_T38 edges (e : Int)).f1 ∧ g q (rd_T38 edges (e : Int)).f1 = g q a - 1 ∧ (0 < g q (rd_T38 edges (e : Int)).f1 → Pass nodes (rd_T38 edges (e : Int)).f1) := by
      intro h
      obtain ⟨e', h1, h2, h3, h4, h5, h6⟩ := h.off
      rw [hd] at h2
      obtain rfl : e = e' := by omega
      exact ⟨by rw [← hd]; exact h.op, h4, h5, h6⟩
    refine EvP.succ (fun k => route_next.l0.eq_2 _ _ _ _ _ _ _ _ k) (EvP.yes (by omega) (EvP.yes (by omega) (EvP.yes (by omega) ?_)))
    rw [hrd, show wrap64 (((e + 1 : Nat) : Int) - 1) = (e : Int) by rw [wsm] <;> omega, show wrap64 (rd q a - 1) = g q a - 1 by rw [rd_g]; unfold wrap64; omega]
    refine EvP.yes (by omega) (EvP.yes (by omega) (EvP.bind (Contains_e mask _ hl) (fun t ht => EvP.split (fun c => hn (fun h => (key h).1 (ht.1 c))) (fun c => EvP.yes hE.2.2.1 (EvP.yes (by omega) (EvP.split (fun c => hn (fun h => by have := (key h).2.1; rw [rd_g] at c; omega)) (fun c1 => EvP.yes h0 (EvP.yes (by omega) (EvP.split (fun c2 => ?_) (fun c => hn (fun h => c (by rw [rd_g]; exact (key h).2.2.1))))))))))))
    have hop : ¬ ((e + 1 : Nat) : Int) ∈ mask := fun h => c (ht.2 h)
    rw [rd_g] at c1
    rw [rd_g] at c2
    refine EvP.split (fun c3 => EvP.yes (by omega) (EvP.split (fun c4 => EvP.ret (.inr ⟨⟨e, he, rfl, hf, by omega, c2, fun _ => c4⟩, hop⟩)) (fun c4 => hn (fun h => c4 ((key h).2.2.2 (by rw [rd_g] at c3; exact c3)))))) (fun c3 => EvP.ret (.inr ⟨⟨e, he, rfl, hf, by omega, c2, fun h => ?_⟩, hop⟩))
    exact absurd h c3
theorem next_e (nodes : List S47) (edges : List S38) (F : Fit nodes edges) (mask q : List Int) (hl : mask.length ≤ 100000) (hq : q.length = nodes.length) (a : Int) (h0 : 0 ≤ a) (h1 : a < (nodes.length : Int)) (hqa : g q a ≤ 1000) (hqb : -1000 ≤ g q a) :
    EvP (fun k => route_next.f k nodes edges mask q a) (fun d => (d = 0 ∧ ∀ x, ¬ Near nodes edges mask q a x) ∨ Near nodes edges mask q a d) := by
  have hm := F.m
  refine EvP.bind (Out_e nodes edges (by omega) a h0 h1) (fun ds h => (next_loop nodes edges F mask q hl hq a h0 h1 hqa hqb ds (by omega) (fun x hx => (h.2 x).1 hx) ds.length 0 (by omega)).mono (fun d hd => hd.imp (fun hd => ⟨hd.1, fun x hx => ?_⟩) id))
  obtain ⟨e, h1, h2, h3, _⟩ := hx.off
  exact hd.2 x (by rw [List.drop_zero]; exact (h.2 x).2 ⟨e, h1, h2, h3⟩) hx
/-- The table: each place's device, or 0. -/
structure Tab (nodes : List S47) (edges : List S38) (mask q t : List Int) : Prop where
  len : t.length = nodes.length
  ok : ∀ v : Int, 0 ≤ v → v < (nodes.length : Int) → (g t v = 0 ∧ ∀ x, ¬ Near nodes edges mask q v x) ∨ Near nodes edges mask q v (g t v)
theorem g_snoc {l : List Int} {x v : Int} (h0 : 0 ≤ v) (h1 : v < (l.length : Int)) : g (l ++ [x]) v = g l v := by
  unfold g
  rw [List.getD_eq_getElem?_getD, List.getD_eq_getElem?_getD, List.getElem?_append_left (by omega)]
theorem g_last {l : List Int} {x : Int} : g (l ++ [x]) (l.length : Int) = x := by
  unfold g
  simp
theorem table_loop (nodes : List S47) (edges : List S38) (F : Fit nodes edges) (mask q : List Int) (hl : mask.length ≤ 100000) (hq : q.length = nodes.length) (hb : ∀ v : Int, 0 ≤ v → v < (nodes.length : Int) → -1000 ≤ g q v ∧ g q v ≤ 1000) (n : Nat) : ∀ (i : Nat) (acc : List Int), i + n = nodes.length → acc.length = i → (∀ v : Int, 0 ≤ v → v < (i : Int) → (g acc v = 0 ∧ ∀ x, ¬ Near nodes edges mask q v x) ∨ Near nodes edges mask q v (g acc v)) →
    EvP (fun k => route_Table.l0 k mask q acc (nodes.length : Int) (i : Int) nodes edges) (fun r => Tab nodes edges mask q r.1 ∧ r.2 = 0) := by
  have hn := F.n
  induction n with
  | zero =>
    intro i acc hi ha hk
    refine EvP.succ (fun k => route_Table.l0.eq_2 _ _ _ _ _ _ _ k) (EvP.no (by omega) (EvP.ret ⟨⟨by show acc.length = _; omega, fun v h0 h1 => hk v h0 (by omega)⟩, rfl⟩))
  | succ n ih =>
    intro i acc hi ha hk
    have hB := hb (i : Int) (by omega) (by omega)
    refine EvP.succ (fun k => route_Table.l0.eq_2 _ _ _ _ _ _ _ k) (EvP.yes (by omega) (EvP.bind (next_e nodes edges F mask q hl hq (i : Int) (by omega) (by omega) hB.2 hB.1) (fun d hd => EvP.yes (by omega) ?_)))
    rw [wnext i (by omega)]
    refine ih (i + 1) _ (by omega) (by simp [ha]) (fun v h0 h1 => ?_)
    by_cases e : v < (i : Int)
    · rw [g_snoc h0 (by omega)]
      exact hk v h0 e
    · obtain rfl : v = (acc.length : Int) := by omega
      rw [g_last, ha]
      exact hd
theorem Table_e (nodes : List S47) (edges : List S38) (F : Fit nodes edges) (mask : List Int) (hl : mask.length ≤ 10000) (b : Int) (h0 : 0 ≤ b) (h1 : b < (nodes.length : Int)) :
    ∃ q, LensTo nodes edges mask b q ∧ EvP (fun k => route_Table.f k nodes edges mask b) (fun r => Tab nodes edges mask q r.1 ∧ r.2 = 0) := by
  have hn := F.n
  obtain ⟨x, hx, hX⟩ := To_e nodes edges F mask hl b h0 h1
  refine ⟨x.1, hX.1, EvP.ebind hx (EvP.yes hX.2 (table_loop nodes edges F mask x.1 (by omega) hX.1.len (fun v h0 h1 => ?_) nodes.length 0 [] (by omega) rfl (fun v h0 h1 => by omega)))⟩
  have h2 := hX.1.hi v h0 h1
  have h3 := hX.1.ok.low v h0 h1
  omega
/-- The way from a to b by a table: to follow it. -/
inductive Way (edges : List S38) (t : List Int) (b : Int) : Int → List Int → Prop
  | here : Way edges t b b []
  | step {a : Int} {p : List Int} : a ≠ b → g t a ≠ 0 → Way edges t b (rd_T38 edges (g t a - 1)).f1 p → Way edges t b a (g t a :: p)
theorem Way.eq {edges : List S38} {t : List Int} {b a : Int} {p p' : List Int} (h : Way edges t b a p) : Way edges t b a p' → p = p' := by
  induction h generalizing p' with
  | here => intro h'; cases h' with
    | here => rfl
    | step h1 _ _ => exact absurd rfl h1
  | step h1 h2 h3 ih => intro h'; cases h' with
    | here => exact absurd rfl h1
    | step g1 g2 g3 => rw [ih g3]
theorem Tab.dev {nodes : List S47} {edges : List S38} {mask q t : List Int} (T : Tab nodes edges mask q t) {v : Int} (h0 : 0 ≤ v) (h1 : v < (nodes.length : Int)) (hz : g t v ≠ 0) :
    ∃ e : Nat, e < edges.length ∧ g t v = ((e + 1 : Nat) : Int) ∧ (rd_T38 edges (e : Int)).f0 = v ∧ 0 ≤ g q (rd_T38 edges (e : Int)).f1 ∧ g q (rd_T38 edges (e : Int)).f1 = g q v - 1 := by
  rcases T.ok v h0 h1 with h | h
  · exact absurd h.1 hz
  · obtain ⟨e, h1, h2, h3, h4, h5, _⟩ := h.off
    exact ⟨e, h1, h2, h3, h4, h5⟩
theorem Path_loop (nodes : List S47) (edges : List S38) (F : Fit nodes edges) (mask q t : List Int) (T : Tab nodes edges mask q t) (b : Int) (n : Nat) : ∀ (a : Int) (acc : List Int), 0 ≤ a → a < (nodes.length : Int) → g q a ≤ (n : Int) → acc.length + n ≤ 100000 →
    EvP (fun k => route_Path.l0 k b t acc a nodes edges) (fun r => (∃ p, Way edges t b a p ∧ r = (acc ++ p, 0)) ∨ ((∀ p, ¬ Way edges t b a p) ∧ r = ([], 80))) := by
  have hm := F.m
  have htl := T.len
  have fin : ∀ (a : Int) (acc : List Int), a ≠ b → g t a = 0 → 0 ≤ a → a < (nodes.length : Int) → EvP (fun k => route_Path.l0 k b t acc a nodes edges) (fun r => (∃ p, Way edges t b a p ∧ r = (acc ++ p, 0)) ∨ ((∀ p, ¬ Way edges t b a p) ∧ r = ([], 80))) := by
    intro a acc hab hz h0 h1
    refine EvP.succ (fun k => route_Path.l0.eq_2 _ _ _ _ _ _ k) (EvP.no hab (EvP.yes h0 (EvP.yes (by omega) (EvP.yes hz (EvP.ret (.inr ⟨fun p h => ?_, rfl⟩))))))
    cases h with
    | here => exact hab rfl
    | step _ h _ => exact h hz
  induction n with
  | zero =>
    intro a acc h0 h1 hq hl
    by_cases hab : a = b
    · subst hab
      exact EvP.succ (fun k => route_Path.l0.eq_2 _ _ _ _ _ _ k) (EvP.yes rfl (EvP.ret (.inl ⟨[], .here, by simp⟩)))
    · refine fin a acc hab (Classical.byContradiction fun hz => ?_) h0 h1
      obtain ⟨e, _, _, _, h4, h5⟩ := T.dev h0 h1 hz
      omega
  | succ n ih =>
    intro a acc h0 h1 hq hl
    by_cases hab : a = b
    · subst hab
      exact EvP.succ (fun k => route_Path.l0.eq_2 _ _ _ _ _ _ k) (EvP.yes rfl (EvP.ret (.inl ⟨[], .here, by simp⟩)))
    · by_cases hz : g t a = 0
      · exact fin a acc hab hz h0 h1
      · obtain ⟨e, he, hd, hf, h4, h5⟩ := T.dev h0 h1 hz
        have hE := F.ends e he
        refine EvP.succ (fun k => route_Path.l0.eq_2 _ _ _ _ _ _ k) (EvP.no hab (EvP.yes h0 (EvP.yes (by omega) (EvP.no (by rw [rd_g]; exact hz) (EvP.yes (by omega) ?_)))))
        have hw : wrap64 (rd t a - 1) = g t a - 1 := by rw [rd_g, hd]; unfold wrap64; omega
        have hs : g t a - 1 = (e : Int) := by rw [hd]; omega
        rw [hw, rd_g]
        refine EvP.yes (by omega) (EvP.yes (by omega) ((ih _ (acc ++ [g t a]) (by rw [hs]; exact hE.2.2.1) (by rw [hs]; exact hE.2.2.2) (by rw [hs]; omega) (by simp; omega)).mono (fun r hr => ?_)))
        rcases hr with ⟨p, hp, hr⟩ | ⟨hp, hr⟩
        · exact .inl ⟨g t a :: p, .step hab hz hp, by rw [hr, List.append_assoc]; rfl⟩
        · refine .inr ⟨fun p h => ?_, hr⟩
          cases h with
          | here => exact hab rfl
          | step _ _ h => exact hp _ h
theorem Out2_e (nodes : List S47) (edges : List S38) (a b : Int) : route_out.f nodes edges [a, b] = some (decide (a < 0) || decide (a ≥ (nodes.length : Int)) || (decide (b < 0) || decide (b ≥ (nodes.length : Int)))) := by
  unfold route_out.f
  simp
theorem Path_out (nodes : List S47) (edges : List S38) (mask : List Int) (a b : Int) (h : a < 0 ∨ (nodes.length : Int) ≤ a ∨ b < 0 ∨ (nodes.length : Int) ≤ b) : EvP (fun k => route_Path.f k nodes edges mask a b) (fun r => r = ([], 1)) := by
  refine EvP.obind (Out2_e nodes edges a b) ?_
  rw [show (decide (a < 0) || decide (a ≥ (nodes.length : Int)) || (decide (b < 0) || decide (b ≥ (nodes.length : Int)))) = true by simp; omega]
  exact EvP.yes rfl (EvP.ret rfl)
/-- The paths to b: one table serves them all. -/
theorem Path_e (nodes : List S47) (edges : List S38) (F : Fit nodes edges) (mask : List Int) (hl : mask.length ≤ 10000) (b : Int) (h0 : 0 ≤ b) (h1 : b < (nodes.length : Int)) :
    ∃ q t, LensTo nodes edges mask b q ∧ Tab nodes edges mask q t ∧ Evt (fun k => route_Table.f k nodes edges mask b) (t, 0) ∧ ∀ a : Int, 0 ≤ a → a < (nodes.length : Int) → EvP (fun k => route_Path.f k nodes edges mask a b) (fun r => (∃ p, Way edges t b a p ∧ r = (p, 0)) ∨ ((∀ p, ¬ Way edges t b a p) ∧ r = ([], 80))) := by
  have hn := F.n
  obtain ⟨q, hq, x, hx, hX⟩ := Table_e nodes edges F mask hl b h0 h1
  refine ⟨q, x.1, hq, hX.1, by rw [show (x.1, (0 : Int)) = x from by rw [← hX.2]]; exact hx, fun a ha0 ha1 => EvP.obind (Out2_e nodes edges a b) ?_⟩
  rw [show (decide (a < 0) || decide (a ≥ (nodes.length : Int)) || (decide (b < 0) || decide (b ≥ (nodes.length : Int)))) = false by simp; omega]
  have hhi := hq.hi a ha0 ha1
  refine EvP.no (by simp) (EvP.ebind hx ((Path_loop nodes edges F mask q x.1 hX.1 b nodes.length a [] ha0 ha1 hhi (by simp; omega)).mono (fun r hr => ?_)))
  simpa using hr
theorem Way.walk {nodes : List S47} {edges : List S38} (F : Fit nodes edges) {mask q t : List Int} (T : Tab nodes edges mask q t) {b a : Int} {p : List Int} (h : Way edges t b a p) : 0 ≤ a → a < (nodes.length : Int) → walkP edges a p = (b, 0) := by
  induction h with
  | here => intro _ _; rfl
  | step h1 h2 h3 ih =>
    intro ha0 ha1
    obtain ⟨e, he, hd, hf, _⟩ := T.dev ha0 ha1 h2
    have hE := F.ends e he
    have hs : ∀ z : Int, z = ((e + 1 : Nat) : Int) → z - 1 = (e : Int) := fun z h => by omega
    rw [walkP_in _ _ _ _ (by rw [hs _ hd]; omega)]
    rw [hs _ hd] at ih ⊢
    exact ih hE.2.2.1 hE.2.2.2
theorem Way.short {nodes : List S47} {edges : List S38} (F : Fit nodes edges) {mask q t : List Int} (T : Tab nodes edges mask q t) {b a : Int} {p : List Int} (h : Way edges t b a p) : 0 ≤ a → a < (nodes.length : Int) → g q b = 0 → (p.length : Int) = g q a := by
  induction h with
  | here => intro _ _ h; simp [h]
  | step h1 h2 h3 ih =>
    intro ha0 ha1 hb
    obtain ⟨e, he, hd, hf, h4, h5⟩ := T.dev ha0 ha1 h2
    have hE := F.ends e he
    have hs : ∀ z : Int, z = ((e + 1 : Nat) : Int) → z - 1 = (e : Int) := fun z h => by omega
    rw [hs _ hd] at ih
    have := ih hE.2.2.1 hE.2.2.2 hb
    simp only [List.length_cons]
    omega
theorem LensTo.back {nodes : List S47} {edges : List S38} {mask q : List Int} {b v : Int} (h : LensTo nodes edges mask b q) (h0 : 0 ≤ v) (h1 : v < (nodes.length : Int)) (hp : 0 < g q v) : ∃ d, Near nodes edges mask q v d := by
  obtain ⟨c, hc0, hc1, ⟨⟨i, hi, hm, hf, ht⟩, hk⟩, hq⟩ := h.ok.back v h0 h1 hp
  have hcp : 0 < g q c → Pass nodes c := by
    intro hp
    rcases hk with rfl | hk
    · rw [h.ok.start] at hp; omega
    · exact hk
  refine ⟨((i + 1 : Nat) : Int), ⟨i, hi, rfl, hf, ?_, ?_, ?_⟩, by simpa using hm⟩
  · rw [ht]; omega
  · rw [ht]; omega
  · rw [ht]; exact hcp
theorem Way.ex {nodes : List S47} {edges : List S38} (F : Fit nodes edges) {mask q t : List Int} {b : Int} (hq : LensTo nodes edges mask b q) (T : Tab nodes edges mask q t) (n : Nat) : ∀ a : Int, 0 ≤ a → a < (nodes.length : Int) → g q a = (n : Int) → ∃ p, Way edges t b a p := by
  induction n with
  | zero =>
    intro a h0 h1 h
    obtain rfl := hq.ok.only a h0 h1 h
    exact ⟨[], .here⟩
  | succ n ih =>
    intro a h0 h1 h
    have hab : a ≠ b := by
      rintro rfl
      rw [hq.ok.start] at h
      omega
    have hz : g t a ≠ 0 := by
      intro hz
      obtain ⟨d, hd⟩ := hq.back h0 h1 (by omega)
      rcases T.ok a h0 h1 with h | h
      · exact h.2 d hd
      · obtain ⟨e, _, h2, _⟩ := h.off
        omega
    obtain ⟨e, he, hd, hf, h4, h5⟩ := T.dev h0 h1 hz
    have hE := F.ends e he
    obtain ⟨p, hp⟩ := ih _ hE.2.2.1 hE.2.2.2 (by omega)
    have hs : g t a - 1 = (e : Int) := by omega
    exact ⟨g t a :: p, .step hab hz (by rw [hs]; exact hp)⟩
theorem Tab.target {nodes : List S47} {edges : List S38} {mask q t : List Int} {b : Int} (T : Tab nodes edges mask q t) (hq : LensTo nodes edges mask b q) (h0 : 0 ≤ b) (h1 : b < (nodes.length : Int)) : g t b = 0 := by
  rcases T.ok b h0 h1 with h | h
  · exact h.1
  · obtain ⟨e, _, _, _, h4, h5, _⟩ := h.off
    rw [hq.ok.start] at h5
    omega
theorem Concat2_e (x p : List Int) (hx : x.length ≤ 1000) (hp : p.length ≤ 1000) : EvP (fun k => slices_Concat_int_int.f k [x, p]) (fun r => r = x ++ p) := by
  have r0 : rd_L5 [x, p] 0 = x := rfl
  have r1 : rd_L5 [x, p] 1 = p := rfl
  have w0 : wrap64 (0 + (x.length : Int)) = (x.length : Int) := by rw [wsm] <;> omega
  have w1 : wrap64 ((x.length : Int) + (p.length : Int)) = (x.length : Int) + (p.length : Int) := by rw [wsm] <;> omega
  have wa : wrap64 (0 + 1) = 1 := by unfold wrap64; omega
  have wb : wrap64 (1 + 1) = 2 := by unfold wrap64; omega
  have step1 : EvP (fun k => slices_Concat_int_int.l1 k [] [x, p] 2 0) (fun r => r = x ++ p) := by
    refine EvP.succ (fun k => slices_Concat_int_int.l1.eq_2 _ _ _ _ k) (EvP.yes (by decide) (EvP.yes (by decide) (EvP.yes (by simp) ?_)))
    rw [r0, wa, List.nil_append]
    refine EvP.yes (by simp; omega) (EvP.succ (fun k => slices_Concat_int_int.l1.eq_2 _ _ _ _ k) (EvP.yes (by decide) (EvP.yes (by decide) (EvP.yes (by simp) ?_))))
    rw [r1, wb]
    exact EvP.yes (by omega) (EvP.succ (fun k => slices_Concat_int_int.l1.eq_2 _ _ _ _ k) (EvP.no (by decide) (EvP.ret rfl)))
  refine EvP.succ (fun k => slices_Concat_int_int.l0.eq_2 _ _ _ _ _ k) (EvP.yes (by simp) (EvP.yes (by decide) (EvP.yes (by simp) ?_)))
  rw [r0, w0, wa]
  refine EvP.no (by omega) (EvP.succ (fun k => slices_Concat_int_int.l0.eq_2 _ _ _ _ _ k) (EvP.yes (by simp) (EvP.yes (by decide) (EvP.yes (by simp) ?_))))
  rw [r1, w1, wb]
  refine EvP.no (by omega) (EvP.succ (fun k => slices_Concat_int_int.l0.eq_2 _ _ _ _ _ k) (EvP.no (by simp) (EvP.obind (a := []) (by unfold slices_Grow_int_int.f; rw [if_pos (by omega)]) ?_)))
  exact step1
/-- An edge by which a loop may begin. -/
structure Cand (nodes : List S47) (edges : List S38) (mask q : List Int) (v : Int) (e : Nat) : Prop where
  lt : e < edges.length
  op : ¬ ((e + 1 : Nat) : Int) ∈ mask
  off : (rd_T38 edges (e : Int)).f0 = v
  track : Pass nodes (rd_T38 edges (e : Int)).f1
  far : 0 ≤ g q (rd_T38 edges (e : Int)).f1
/-- The best of the edges that are asked. -/
def Best (nodes : List S47) (edges : List S38) (mask q : List Int) (v : Int) (A : Nat → Prop) (d : Int) : Prop :=
  (d = 0 ∧ ∀ e, A e → ¬ Cand nodes edges mask q v e) ∨ ∃ e : Nat, d = ((e + 1 : Nat) : Int) ∧ Cand nodes edges mask q v e ∧ ∀ e', A e' → Cand nodes edges mask q v e' → g q (rd_T38 edges (e : Int)).f1 ≤ g q (rd_T38 edges (e' : Int)).f1
theorem Best.skip {nodes : List S47} {edges : List S38} {mask q : List Int} {v : Int} {A B : Nat → Prop} {d : Int} (h : Best nodes edges mask q v A d) {e0 : Nat} (hB : ∀ e, B e → A e ∨ e = e0) (hn : ¬ Cand nodes edges mask q v e0) : Best nodes edges mask q v B d := by
  rcases h with ⟨h1, h2⟩ | ⟨e, h1, h2, h3⟩
  · refine .inl ⟨h1, fun e he => ?_⟩
    rcases hB e he with h | rfl
    · exact h2 e h
    · exact hn
  · refine .inr ⟨e, h1, h2, fun e' he' hc => ?_⟩
    rcases hB e' he' with h | rfl
    · exact h3 e' h hc
    · exact absurd hc hn
theorem Loop_l0 (nodes : List S47) (edges : List S38) (F : Fit nodes edges) (mask q : List Int) (hl : mask.length ≤ 10000) (hq : q.length = nodes.length) (v : Int) (ds : List Int) (hds : ds.length ≤ 1000) (ho : ∀ x ∈ ds, OffP edges v x) (P : List Int × Int → Prop)
    (fin : ∀ best, Best nodes edges mask q v (fun e => ((e + 1 : Nat) : Int) ∈ ds) best → EvP (fun k => if best = 0 then some (([] : List Int), (80 : Int)) else if 0 ≤ wrap64 (best - 1) then (if wrap64 (best - 1) < (edges.length : Int) then (route_Path.f k nodes edges mask (rd_T38 edges (wrap64 (best - 1))).f1 v).bind fun bt264 => (slices_Concat_int_int.f k [[best], bt264.1]).bind fun t274 => some (t274, bt264.2) else none) else none) P) (n : Nat) :
    ∀ (i : Nat) (best : Int), i + n = ds.length → Best nodes edges mask q v (fun e => ((e + 1 : Nat) : Int) ∈ ds.take i) best → EvP (fun k => route_Loop.l0 k mask v q best ds (ds.length : Int) (i : Int) nodes edges) P := by
  have hm := F.m
  induction n with
  | zero =>
    intro i best hi hb
    rw [List.take_of_length_le (by omega)] at hb
    exact EvP.succ (fun k => route_Loop.l0.eq_2 _ _ _ _ _ _ _ _ _ k) (EvP.no (by omega) (fin best hb))
  | succ n ih =>
    intro i best hi hb
    have hil : i < ds.length := by omega
    have hrd : rd ds (i : Int) = ds[i] := by simp [rd, List.getElem?_eq_getElem hil]
    obtain ⟨e, he, hd, hf⟩ := ho ds[i] (List.getElem_mem hil)
    have hE := F.ends e he
    have hB : ∀ e', ((e' + 1 : Nat) : Int) ∈ ds.take (i + 1) → ((e' + 1 : Nat) : Int) ∈ ds.take i ∨ e' = e := by
      intro e' h
      rw [List.take_succ_eq_append_getElem hil, hd] at h
      rcases List.mem_append.1 h with h | h
      · exact .inl h
      · right
        have := List.mem_singleton.1 h
        omega
    rw [hd] at hrd
    have skip : ¬ Cand nodes edges mask q v e → EvP (fun k => route_Loop.l0 k mask v q best ds (ds.length : Int) (wrap64 ((i : Int) + 1)) nodes edges) P := by
      intro hn
      rw [wnext i (by omega)]
      exact ih (i + 1) best (by omega) (hb.skip hB hn)
    have skipj : ¬ Cand nodes edges mask q v e → EvP (fun k => route_Loop.j1 k mask v q best ((e + 1 : Nat) : Int) (rd_T38 edges (e : Int)).f1 ds (ds.length : Int) (i : Int) true nodes edges) P := fun hn =>
      EvP.succ (fun k => route_Loop.j1.eq_2 _ _ _ _ _ _ _ _ _ _ _ _ k) (EvP.yes rfl (skip hn))
    refine EvP.succ (fun k => route_Loop.l0.eq_2 _ _ _ _ _ _ _ _ _ k) (EvP.yes (by omega) (EvP.yes (by omega) (EvP.yes (by omega) ?_)))
    rw [hrd, show wrap64 (((e + 1 : Nat) : Int) - 1) = (e : Int) by rw [wsm] <;> omega]
    refine EvP.yes (by omega) (EvP.yes (by omega) (EvP.bind (Contains_e mask _ (by omega)) (fun t ht => EvP.split (fun c => skipj (fun h => h.op (ht.1 c))) (fun c => EvP.yes hE.2.2.1 (EvP.yes (by omega) (EvP.split (fun c1 => skipj (fun h => by have := h.far; rw [rd_g] at c1; omega)) (fun c1 => EvP.yes hE.2.2.2 ?_)))))))
    by_cases ck : (rd_T47 nodes (rd_T38 edges (e : Int)).f1).f1 = 1
    · rw [show ((rd_T47 nodes (rd_T38 edges (e : Int)).f1).f1 != 1) = false from by simpa using ck]
      rw [rd_g] at c1
      have hC : Cand nodes edges mask q v e := ⟨he, fun h => c (ht.2 h), hf, ck, by omega⟩
      refine EvP.succ (fun k => route_Loop.j1.eq_2 _ _ _ _ _ _ _ _ _ _ _ _ k) (EvP.no (by simp) ?_)
      rw [wnext i (by omega)]
      rcases hb with ⟨h1, h2⟩ | ⟨e1, h1, h2, h3⟩
      · refine EvP.yes h1 (ih (i + 1) _ (by omega) (.inr ⟨e, rfl, hC, fun e' he' hc => ?_⟩))
        rcases hB e' he' with h | rfl
        · exact absurd hc (h2 e' h)
        · exact Int.le_refl _
      · have hE1 := F.ends e1 h2.lt
        subst h1
        rw [show wrap64 (((e1 + 1 : Nat) : Int) - 1) = (e1 : Int) by have := h2.lt; rw [wsm] <;> omega]
        refine EvP.no (by omega) (EvP.yes hE.2.2.1 (EvP.yes (by omega) (EvP.yes (by omega) (EvP.yes (by have := h2.lt; omega) (EvP.yes hE1.2.2.1 (EvP.yes (by omega) (EvP.split (fun c3 => ?_) (fun c3 => ?_))))))))
        · rw [rd_g, rd_g] at c3
          refine ih (i + 1) _ (by omega) (.inr ⟨e, rfl, hC, fun e' he' hc => ?_⟩)
          rcases hB e' he' with h | rfl
          · have := h3 e' h hc
            omega
          · exact Int.le_refl _
        · rw [rd_g, rd_g] at c3
          refine ih (i + 1) _ (by omega) (.inr ⟨e1, rfl, h2, fun e' he' hc => ?_⟩)
          rcases hB e' he' with h | rfl
          · exact h3 e' h hc
          · omega
    · rw [show ((rd_T47 nodes (rd_T38 edges (e : Int)).f1).f1 != 1) = true from by simpa using ck]
      exact skipj (fun h => ck h.track)
/-- The loop from v. -/
theorem Loop_e (nodes : List S47) (edges : List S38) (F : Fit nodes edges) (mask : List Int) (hl : mask.length ≤ 10000) (v : Int) (h0 : 0 ≤ v) (h1 : v < (nodes.length : Int)) :
    ∃ q, LensTo nodes edges mask v q ∧ EvP (fun k => route_Loop.f k nodes edges mask v) (fun r => ((∀ e, ¬ Cand nodes edges mask q v e) ∧ r = ([], 80)) ∨ ∃ e : Nat, Cand nodes edges mask q v e ∧ (∀ e', Cand nodes edges mask q v e' → g q (rd_T38 edges (e : Int)).f1 ≤ g q (rd_T38 edges (e' : Int)).f1) ∧ ∃ p, r = (p, 0) ∧ (p.length : Int) = g q (rd_T38 edges (e : Int)).f1 + 1 ∧ walkP edges v p = (v, 0)) := by
  have hn := F.n
  have hm := F.m
  obtain ⟨q, t, hq, T, _, hP⟩ := Path_e nodes edges F mask hl v h0 h1
  refine ⟨q, hq, EvP.obind (Out1_e nodes edges v) ?_⟩
  rw [decide_eq_false (show ¬ v < 0 by omega), decide_eq_false (show ¬ v ≥ (nodes.length : Int) by omega)]
  refine EvP.no (by simp) (EvP.bind (To_e nodes edges F mask hl v h0 h1) (fun far hfar => EvP.bind (Out_e nodes edges (by omega) v h0 h1) (fun ds hds => ?_)))
  rw [hfar.1.eq hq]
  refine Loop_l0 nodes edges F mask q hl hq.len v ds (by omega) (fun x hx => (hds.2 x).1 hx) _ (fun best hb => ?_) ds.length 0 0 (by omega) (.inl ⟨rfl, fun e he => by simp at he⟩)
  have all : ∀ e, Cand nodes edges mask q v e → ((e + 1 : Nat) : Int) ∈ ds := fun e h => (hds.2 _).2 ⟨e, h.lt, rfl, h.off⟩
  rcases hb with ⟨rfl, h2⟩ | ⟨e, rfl, hC, h3⟩
  · exact EvP.yes rfl (EvP.ret (.inl ⟨fun e h => h2 e (all e h) h, rfl⟩))
  · have hE := F.ends e hC.lt
    have hlt := hC.lt
    rw [show wrap64 (((e + 1 : Nat) : Int) - 1) = (e : Int) by rw [wsm] <;> omega]
    obtain ⟨p0, hp0⟩ := Way.ex F hq T (g q (rd_T38 edges (e : Int)).f1).toNat _ hE.2.2.1 hE.2.2.2 (by have := hC.far; omega)
    have hlen := hp0.short F T hE.2.2.1 hE.2.2.2 hq.ok.start
    have hhi := hq.hi _ hE.2.2.1 hE.2.2.2
    have hw := hp0.walk F T hE.2.2.1 hE.2.2.2
    refine EvP.no (by omega) (EvP.yes (by omega) (EvP.yes (by omega) (EvP.bind (hP _ hE.2.2.1 hE.2.2.2) (fun r hr => ?_))))
    rcases hr with ⟨p, w, rfl⟩ | ⟨w, _⟩
    · obtain rfl := w.eq hp0
      refine EvP.bind (Concat2_e [((e + 1 : Nat) : Int)] p (by simp) (by omega)) (fun c hc => EvP.ret (.inr ⟨e, hC, fun e' h => h3 e' (all e' h) h, c, rfl, ?_, ?_⟩))
      · rw [hc]
        simp
        omega
      · rw [hc]
        show walkP edges v (((e + 1 : Nat) : Int) :: p) = _
        have hs : ((e + 1 : Nat) : Int) - 1 = (e : Int) := by omega
        have hoff := hC.off
        rw [walkP_in _ _ _ _ (by rw [hs]; omega), hs]
        exact hw
    · exact absurd hp0 (w p0)

/-- The least length so far: of the edges below i. -/
def Least (nodes : List S47) (edges : List S38) (mask q : List Int) (v : Int) (i : Nat) (x : Int) : Prop :=
  (x = -1 ∧ ∀ e, e < i → ¬ Cand nodes edges mask q v e) ∨ ∃ e : Nat, x = g q (rd_T38 edges (e : Int)).f1 + 1 ∧ Cand nodes edges mask q v e ∧ ∀ e', e' < i → Cand nodes edges mask q v e' → g q (rd_T38 edges (e : Int)).f1 ≤ g q (rd_T38 edges (e' : Int)).f1
theorem Least.skip {nodes : List S47} {edges : List S38} {mask q : List Int} {v : Int} {i : Nat} {x : Int} (h : Least nodes edges mask q v i x) (hn : ¬ Cand nodes edges mask q v i) : Least nodes edges mask q v (i + 1) x := by
  rcases h with ⟨h1, h2⟩ | ⟨e, h1, h2, h3⟩
  · refine .inl ⟨h1, fun e he => ?_⟩
    by_cases h : e = i
    · subst h; exact hn
    · exact h2 e (by omega)
  · refine .inr ⟨e, h1, h2, fun e' he' hc => ?_⟩
    by_cases h : e' = i
    · subst h; exact absurd hc hn
    · exact h3 e' (by omega) hc
theorem loops_l2 (nodes : List S47) (edges : List S38) (F : Fit nodes edges) (mask q : List Int) (hl : mask.length ≤ 10000) (hq : q.length = nodes.length) (hb : ∀ v : Int, 0 ≤ v → v < (nodes.length : Int) → g q v ≤ 1000) (v : Int) (p : List Int) (code x n v2 : Int) (i : Nat) (hi : i < edges.length) (hx : Least nodes edges mask q v i x) (P : Bool → Prop)
    (next : ∀ x', Least nodes edges mask q v (i + 1) x' → EvP (fun k => stillagelaw08_RouteLoops.l1 k mask v q p code x' n v2 edges (edges.length : Int) (wrap64 ((i : Int) + 1)) nodes edges) P) (m : Nat) : ∀ (j : Nat) (fl : Bool), j + m = mask.length → (fl = true ↔ ¬ ((i + 1 : Nat) : Int) ∈ mask.take j) →
    EvP (fun k => stillagelaw08_RouteLoops.l2 k mask v q p code x (i : Int) fl n v2 edges (edges.length : Int) (i : Int) mask (mask.length : Int) (j : Int) nodes edges (rd_T38 edges (i : Int)).f0 (rd_T38 edges (i : Int)).f1) P := by
  have hm := F.m
  have hE := F.ends i hi
  induction m with
  | zero =>
    intro j fl hj hfl
    rw [List.take_of_length_le (by omega)] at hfl
    have skip : ¬ Cand nodes edges mask q v i → EvP (fun k => stillagelaw08_RouteLoops.l1 k mask v q p code x n v2 edges (edges.length : Int) (wrap64 ((i : Int) + 1)) nodes edges) P := fun hn => next x (hx.skip hn)
    have hw : wrap64 (rd q (rd_T38 edges (i : Int)).f1 + 1) = g q (rd_T38 edges (i : Int)).f1 + 1 ∨ rd q (rd_T38 edges (i : Int)).f1 < 0 := by
      have := hb _ hE.2.2.1 hE.2.2.2
      rw [rd_g]
      by_cases h : g q (rd_T38 edges (i : Int)).f1 < 0
      · exact .inr h
      · exact .inl (by rw [wsm] <;> omega)
    refine EvP.succ (fun k => stillagelaw08_RouteLoops.l2.eq_2 _ _ _ _ _ _ _ _ _ _ _ _ _ _ _ _ _ _ _ _ k) (EvP.no (by omega) (EvP.split (fun c => EvP.split (fun c1 => EvP.yes hE.2.2.1 (EvP.yes hE.2.2.2 (EvP.split (fun c2 => EvP.yes (by omega) (EvP.split (fun c3 => ?_) (fun c3 => skip (fun h => c3 (by rw [rd_g]; exact h.far))))) (fun c2 => skip (fun h => c2 h.track))))) (fun c1 => skip (fun h => c1 h.off))) (fun c => skip (fun h => c (hfl.2 h.op)))))
    have hC : Cand nodes edges mask q v i := ⟨hi, hfl.1 c, c1, c2, by rw [rd_g] at c3; exact c3⟩
    rw [hw.resolve_right (by omega)]
    have hnew : (∀ e', e' < i → Cand nodes edges mask q v e' → g q (rd_T38 edges (i : Int)).f1 ≤ g q (rd_T38 edges (e' : Int)).f1) → Least nodes edges mask q v (i + 1) (g q (rd_T38 edges (i : Int)).f1 + 1) := by
      intro h
      refine .inr ⟨i, rfl, hC, fun e' he' hc => ?_⟩
      by_cases h2 : e' = i
      · subst h2; exact Int.le_refl _
      · exact h e' (by omega) hc
    refine EvP.split (fun c4 => next _ (hnew (fun e' he' hc => ?_))) (fun c4 => EvP.split (fun c5 => next _ (hnew (fun e' he' hc => ?_))) (fun c5 => next _ ?_))
    · rcases hx with ⟨_, h2⟩ | ⟨e, h1, h2, h3⟩
      · exact absurd hc (h2 e' he')
      · have := h2.far
        omega
    · rcases hx with ⟨_, h2⟩ | ⟨e, h1, h2, h3⟩
      · exact absurd hc (h2 e' he')
      · have := h3 e' he' hc
        omega
    · rcases hx with ⟨h1, _⟩ | ⟨e, h1, h2, h3⟩
      · omega
      · refine .inr ⟨e, h1, h2, fun e' he' hc => ?_⟩
        by_cases h4 : e' = i
        · subst h4; omega
        · exact h3 e' (by omega) hc
  | succ m ih =>
    intro j fl hj hfl
    have hjl : j < mask.length := by omega
    have hrd : rd mask (j : Int) = mask[j] := by simp [rd, List.getElem?_eq_getElem hjl]
    refine EvP.succ (fun k => stillagelaw08_RouteLoops.l2.eq_2 _ _ _ _ _ _ _ _ _ _ _ _ _ _ _ _ _ _ _ _ k) (EvP.yes (by omega) (EvP.yes (by omega) (EvP.yes (by omega) ?_)))
    rw [wnext j (by omega), wnext i (by omega), hrd]
    refine EvP.split (fun c => ih (j + 1) _ (by omega) ?_) (fun c => ih (j + 1) _ (by omega) ?_)
    · rw [List.take_succ_eq_append_getElem hjl, List.mem_append, bne_iff_ne, List.mem_singleton]
      have := hfl.1 c
      constructor
      · rintro h (h2 | h2)
        · exact this h2
        · exact h h2.symm
      · intro h h2
        exact h (.inr h2.symm)
    · rw [List.take_succ_eq_append_getElem hjl, List.mem_append]
      have : ((i + 1 : Nat) : Int) ∈ mask.take j := Classical.byContradiction fun h => c (hfl.2 h)
      constructor
      · intro h; cases h
      · intro h; exact absurd (.inl this) h
theorem loops_l1 (nodes : List S47) (edges : List S38) (F : Fit nodes edges) (mask q : List Int) (hl : mask.length ≤ 10000) (hq : q.length = nodes.length) (hb : ∀ v : Int, 0 ≤ v → v < (nodes.length : Int) → g q v ≤ 1000) (v : Int) (h0 : 0 ≤ v) (h1 : v < (nodes.length : Int)) (r : List Int × Int) (n v2 : Int) (P : Bool → Prop)
    (hr : ((∀ e, ¬ Cand nodes edges mask q v e) ∧ r = ([], 80)) ∨ ∃ e : Nat, Cand nodes edges mask q v e ∧ (∀ e', Cand nodes edges mask q v e' → g q (rd_T38 edges (e : Int)).f1 ≤ g q (rd_T38 edges (e' : Int)).f1) ∧ ∃ p, r = (p, 0) ∧ (p.length : Int) = g q (rd_T38 edges (e : Int)).f1 + 1 ∧ walkP edges v p = (v, 0))
    (next : EvP (fun k => stillagelaw08_RouteLoops.l0 k mask n (wrap64 (v2 + 1)) nodes edges) P) (m : Nat) : ∀ (i : Nat) (x : Int), i + m = edges.length → Least nodes edges mask q v i x →
    EvP (fun k => stillagelaw08_RouteLoops.l1 k mask v q r.1 r.2 x n v2 edges (edges.length : Int) (i : Int) nodes edges) P := by
  have hm := F.m
  induction m with
  | zero =>
    intro i x hi hx
    have j5 : ∀ p : List Int, p.length ≤ 100000 → walkP edges v p = (v, 0) → EvP (fun k => stillagelaw08_RouteLoops.j5 k mask v p n v2 false nodes edges) P := by
      intro p hp hw
      refine EvP.succ (fun k => stillagelaw08_RouteLoops.j5.eq_2 _ _ _ _ _ _ _ _ k) (EvP.no (by simp) (EvP.bind (Walk_e nodes edges (by omega) v h0 h1 p hp) (fun w e => ?_)))
      rw [e, hw]
      exact EvP.yes rfl (EvP.yes rfl next)
    refine EvP.succ (fun k => stillagelaw08_RouteLoops.l1.eq_2 _ _ _ _ _ _ _ _ _ _ _ _ _ k) (EvP.no (by omega) ?_)
    rcases hr with ⟨hno, rfl⟩ | ⟨e, hC, hmin, p, rfl, hlen, hw⟩
    · have hx1 : x = -1 := by
        rcases hx with ⟨h, _⟩ | ⟨e, _, h, _⟩
        · exact h
        · exact absurd h (hno e)
      subst hx1
      exact EvP.no (by decide) (EvP.no (by decide) (EvP.yes rfl (EvP.yes rfl (j5 [] (by simp) rfl))))
    · have hE := F.ends e hC.lt
      have hbe := hb _ hE.2.2.1 hE.2.2.2
      have hx1 : x = g q (rd_T38 edges (e : Int)).f1 + 1 := by
        have hlt := hC.lt
        rcases hx with ⟨_, h⟩ | ⟨e1, h1, h2, h3⟩
        · exact absurd hC (h e (by omega))
        · have a1 := h3 e (by omega) hC
          have a2 := hmin e1 h2
          omega
      have hfar := hC.far
      rw [show (((p, (0 : Int)).2 == 0) != decide (x ≥ 0)) = false by rw [decide_eq_true (by omega)]; rfl, show ((((p, (0 : Int)).1.length : Int)) != x) = false by show ((p.length : Int) != x) = false; rw [hlen, hx1]; simp]
      exact EvP.no (by simp) (EvP.yes rfl (j5 p (by omega) hw))
  | succ m ih =>
    intro i x hi hx
    refine EvP.succ (fun k => stillagelaw08_RouteLoops.l1.eq_2 _ _ _ _ _ _ _ _ _ _ _ _ _ k) (EvP.yes (by omega) (EvP.yes (by omega) (EvP.yes (by omega) (loops_l2 nodes edges F mask q hl hq hb v r.1 r.2 x n v2 i (by omega) hx P (fun x' hx' => ?_) mask.length 0 true (by omega) (by simp)))))
    rw [wnext i (by omega)]
    exact ih (i + 1) x' (by omega) hx'
theorem loops_l0 (nodes : List S47) (edges : List S38) (F : Fit nodes edges) (mask : List Int) (hl : mask.length ≤ 10000) (m : Nat) : ∀ i : Nat, i + m = nodes.length →
    EvP (fun k => stillagelaw08_RouteLoops.l0 k mask (nodes.length : Int) (i : Int) nodes edges) (fun r => r = true) := by
  have hn := F.n
  induction m with
  | zero =>
    intro i hi
    exact EvP.succ (fun k => stillagelaw08_RouteLoops.l0.eq_2 _ _ _ _ _ k) (EvP.no (by omega) (EvP.ret rfl))
  | succ m ih =>
    intro i hi
    obtain ⟨q, hq, hL⟩ := Loop_e nodes edges F mask hl (i : Int) (by omega) (by omega)
    refine EvP.succ (fun k => stillagelaw08_RouteLoops.l0.eq_2 _ _ _ _ _ k) (EvP.yes (by omega) (EvP.bind (To_e nodes edges F mask hl (i : Int) (by omega) (by omega)) (fun far hfar => EvP.bind hL (fun r hr => EvP.yes hfar.2 ?_))))
    rw [show ((far.1.length : Int) != (nodes.length : Int)) = false by rw [hfar.1.len]; simp, hfar.1.eq hq]
    refine EvP.succ (fun k => stillagelaw08_RouteLoops.j2.eq_2 _ _ _ _ _ _ _ _ _ _ k) (EvP.no (by simp) (loops_l1 nodes edges F mask q hl hq.len (fun v h0 h1 => ?_) (i : Int) (by omega) (by omega) r _ _ _ hr ?_ edges.length 0 (-1) (by omega) (.inl ⟨rfl, fun e he => by omega⟩)))
    · have := hq.hi v h0 h1
      omega
    · rw [wnext i (by omega)]
      exact ih (i + 1) (by omega)
theorem RouteLoops (l0_0 : List S47) (l0_1 : List S38) (l1 : List Int) (hm0_0 : l0_0.length ≤ maxLen) (hw0_0 : ∀ x ∈ l0_0, x.f0.size ≤ maxLen ∧ (Lit.int .i64 x.f1).wf = true ∧ (Lit.int .i64 x.f2).wf = true) (hm0_1 : l0_1.length ≤ maxLen) (hw0_1 : ∀ x ∈ l0_1, (Lit.int .i64 x.f0).wf = true ∧ (Lit.int .i64 x.f1).wf = true)
    (hm1 : l1.length ≤ maxLen) (hw1 : ∀ x ∈ l1, (Lit.int .i64 x).wf = true) (y1 : l1.length * 8 ≤ 140737488351232) :
    ∃ k, stillagelaw08_RouteLoops.f k l0_0 l0_1 l1 = some true := by
  suffices h : EvP (fun k => stillagelaw08_RouteLoops.f k l0_0 l0_1 l1) (fun r => r = true) by
    obtain ⟨k, r, h1, h2⟩ := h.get
    exact ⟨k, by rw [h1, h2]⟩
  have triv : EvP (fun k => stillagelaw08_RouteLoops.j0 k l1 true l0_0 l0_1) (fun r => r = true) := EvP.succ (fun k => stillagelaw08_RouteLoops.j0.eq_2 _ _ _ _ k) (EvP.yes rfl (EvP.ret rfl))
  refine EvP.ebind awake_e (EvP.yes rfl (EvP.bind (Fits_e l0_0 l0_1 l1) (fun t ht => EvP.split (fun c => ?_) (fun _ => triv))))
  obtain ⟨F, hml⟩ := ht c
  by_cases h : (l0_0.length : Int) > 25
  · rw [decide_eq_true h]
    exact triv
  · rw [decide_eq_false h]
    exact EvP.succ (fun k => stillagelaw08_RouteLoops.j0.eq_2 _ _ _ _ k) (EvP.no (by simp) (loops_l0 l0_0 l0_1 F l1 (by omega) l0_0.length 0 (by omega)))

end Go.Proofs.Ytbbdgndaaajejaa.Pure
