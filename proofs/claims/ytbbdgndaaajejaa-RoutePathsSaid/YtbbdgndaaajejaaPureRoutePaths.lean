/- stillagelaw08.RoutePaths is true at every layout, mask and two numbers: no condition. -/
import Derived.OpenShut
import Derived.Test.YtbbdgndaaajejaaEvt
import Derived.Test.YtbbdgndaaajejaaBfs
import Derived.Test.YtbbdgndaaajejaaPRoutePathsx
set_option linter.unusedVariables false
set_option linter.unusedSimpArgs false
set_option maxRecDepth 10000
namespace Go.Proofs.Ytbbdgndaaajejaa.Pure
open Go.RowKit Go.Proofs.Ytbbdgndaaajejaa.PRoutePaths Go.Proofs.YtbbdgndaaajejaaW.PrintWords Go.Proofs.YtbbdgndaaajejaaW.PrintLast Go.Proofs.PlainEvt Go.Proofs.PlainBfs
theorem wsm {n : Int} (h0 : 0 ≤ n) (h1 : n ≤ 9223372036854775807) : wrap64 n = n := by unfold wrap64; omega
theorem wnext (i : Nat) (h : i ≤ 1000000) : wrap64 ((i : Int) + 1) = ((i + 1 : Nat) : Int) := by rw [wsm] <;> omega
theorem rd_g (r : List Int) (v : Int) : rd r v = g r v := rfl
def Pass (nodes : List S47) (a : Int) : Prop := (rd_T47 nodes a).f1 = 1
/-- Open edges from a to b: their devices are not named. -/
def EdgeM (edges : List S38) (mask : List Int) (a b : Int) : Prop := ∃ i : Nat, i < edges.length ∧ ¬ ((i : Int) + 1) ∈ mask ∧ (rd_T38 edges i).f0 = a ∧ (rd_T38 edges i).f1 = b
structure Fit (nodes : List S47) (edges : List S38) : Prop where
 n0 : 1 ≤ nodes.length
 n : nodes.length ≤ 40
 m : edges.length ≤ 120
 kinds : ∀ i : Nat, i < nodes.length → 1 ≤ (rd_T47 nodes i).f1 ∧ (rd_T47 nodes i).f1 ≤ 4 ∧ 0 ≤ (rd_T47 nodes i).f2 ∧ (rd_T47 nodes i).f2 ≤ 7
 ends : ∀ i : Nat, i < edges.length → 0 ≤ (rd_T38 edges i).f0 ∧ (rd_T38 edges i).f0 < (nodes.length : Int) ∧ 0 ≤ (rd_T38 edges i).f1 ∧ (rd_T38 edges i).f1 < (nodes.length : Int)
 ne : ∀ i : Nat, i < edges.length → (rd_T38 edges i).f0 ≠ (rd_T38 edges i).f1
 track : ∀ i : Nat, i < edges.length → Pass nodes (rd_T38 edges i).f0 ∨ Pass nodes (rd_T38 edges i).f1
 once : ∀ i j : Nat, i < edges.length → j < i → ¬ ((rd_T38 edges j).f0 = (rd_T38 edges i).f0 ∧ (rd_T38 edges j).f1 = (rd_T38 edges i).f1)
theorem EdgeM.ends {nodes : List S47} {edges : List S38} (F : Fit nodes edges) {mask : List Int} {a b : Int} (h : EdgeM edges mask a b) : 0 ≤ a ∧ a < (nodes.length : Int) ∧ 0 ≤ b ∧ b < (nodes.length : Int) := by
 obtain ⟨i, hi, _, rfl, rfl⟩ := h
 exact F.ends i hi
/-- The lengths of ways from s, told. -/
structure Lens (nodes : List S47) (edges : List S38) (mask : List Int) (s : Int) (r : List Int) : Prop where
 len : r.length = nodes.length
 ok : LensOk nodes.length s (fun a b => EdgeM edges mask a b ∧ (a = s ∨ Pass nodes a)) (g r)
 hi : ∀ v : Int, 0 ≤ v → v < nodes.length → g r v ≤ nodes.length
/-- The lengths of ways to s, told. -/
structure LensTo (nodes : List S47) (edges : List S38) (mask : List Int) (s : Int) (r : List Int) : Prop where
 len : r.length = nodes.length
 ok : LensOk nodes.length s (fun a b => EdgeM edges mask b a ∧ (a = s ∨ Pass nodes a)) (g r)
 hi : ∀ v : Int, 0 ≤ v → v < nodes.length → g r v ≤ nodes.length
theorem eq_of_g {r q : List Int} (hl : r.length = q.length) (h : ∀ v : Int, 0 ≤ v → v < r.length → g r v = g q v) : r = q := by
 apply List.ext_getElem hl
 intro i h1 h2
 have := h (i : Int) (by omega) (by omega)
 unfold g at this
 simpa [List.getD_eq_getElem?_getD, h1, h2] using this
theorem Lens.eq {nodes : List S47} {edges : List S38} {mask : List Int} {s : Int} {r q : List Int} (h : Lens nodes edges mask s r) (h' : Lens nodes edges mask s q) : r = q :=
 eq_of_g (h.1.trans h'.1.symm) (fun v h0 h1 => h.2.eq h'.2 v h0 (by rw [h.1] at h1; exact h1))
theorem LensTo.eq {nodes : List S47} {edges : List S38} {mask : List Int} {s : Int} {r q : List Int} (h : LensTo nodes edges mask s r) (h' : LensTo nodes edges mask s q) : r = q :=
 eq_of_g (h.1.trans h'.1.symm) (fun v h0 h1 => h.2.eq h'.2 v h0 (by rw [h.1] at h1; exact h1))
theorem Lens.to {nodes : List S47} {edges : List S38} {mask : List Int} {s t : Int} {r q : List Int} (h : Lens nodes edges mask s r) (h' : LensTo nodes edges mask t q) (hs0 : 0 ≤ s) (hs1 : s < nodes.length) (ht0 : 0 ≤ t) (ht1 : t < nodes.length) : g r t = g q s :=
 both hs0 hs1 ht0 ht1 h.2 h'.2
theorem Lens.congr {nodes : List S47} {edges : List S38} {mask mask' : List Int} {s : Int} {r : List Int} (h : Lens nodes edges mask s r) (he : ∀ i : Nat, i < edges.length → (((i : Int) + 1) ∈ mask ↔ ((i : Int) + 1) ∈ mask')) : Lens nodes edges mask' s r := by
 refine ⟨h.1, h.2.congr (fun a b => ?_), h.3⟩
 have : EdgeM edges mask a b ↔ EdgeM edges mask' a b := by
  constructor
  ·rintro ⟨i, h1, h2, h3⟩
   exact ⟨i, h1, fun c => h2 ((he i h1).2 c), h3⟩
  ·rintro ⟨i, h1, h2, h3⟩
   exact ⟨i, h1, fun c => h2 ((he i h1).1 c), h3⟩
 rw [this]
theorem LensTo.congr {nodes : List S47} {edges : List S38} {mask mask' : List Int} {s : Int} {r : List Int} (h : LensTo nodes edges mask s r) (he : ∀ i : Nat, i < edges.length → (((i : Int) + 1) ∈ mask ↔ ((i : Int) + 1) ∈ mask')) : LensTo nodes edges mask' s r := by
 refine ⟨h.1, h.2.congr (fun a b => ?_), h.3⟩
 have : EdgeM edges mask b a ↔ EdgeM edges mask' b a := by
  constructor
  ·rintro ⟨i, h1, h2, h3⟩
   exact ⟨i, h1, fun c => h2 ((he i h1).2 c), h3⟩
  ·rintro ⟨i, h1, h2, h3⟩
   exact ⟨i, h1, fun c => h2 ((he i h1).1 c), h3⟩
 rw [this]
/-- What is shut, told of the mask. -/
def Shut (edges : List S38) (mask : List Int) (sh : List Bool) : Prop := sh.length = edges.length + 1 ∧ ∀ j : Nat, 1 ≤ j → j ≤ edges.length → (sh.getD j false = true ↔ (j : Int) ∈ mask)
theorem shut_loop (mask : List Int) (hl : mask.length ≤ 10000) (n : Nat) : ∀ (i : Nat) (sh : List Bool), i + n = mask.length → EvP (fun k => reach_shut.l0 k sh mask (mask.length : Int) (i : Int)) (fun r => r.length = sh.length ∧
  ∀ j : Nat, 1 ≤ j → j < sh.length → r.getD j false = (sh.getD j false || decide ((j : Int) ∈ mask.drop i))) := by
 induction n with
 | zero =>
  intro i sh hi
  refine EvP.succ (fun k => reach_shut.l0.eq_2 _ _ _ _ k) (EvP.no (by omega) (EvP.ret ⟨rfl, fun j _ _ => ?_⟩))
  rw [List.drop_eq_nil_of_le (by omega)]
  simp
 | succ n ih =>
  intro i sh hi
  have hil : i < mask.length := by omega
  have hd : mask.drop i = mask[i] :: mask.drop (i + 1) := List.drop_eq_getElem_cons hil
  have hrd : rd mask (i : Int) = mask[i] := by simp [rd, List.getElem?_eq_getElem hil]
  have hw := wnext i (by omega)
  refine EvP.succ (fun k => reach_shut.l0.eq_2 _ _ _ _ k) (EvP.yes (by omega) (EvP.yes (by omega) (EvP.yes (by omega) ?_)))
  have skip : ¬ (rd mask (i : Int) ≥ 1 ∧ rd mask (i : Int) < (sh.length : Int)) → EvP (fun k => reach_shut.l0 k sh mask (mask.length : Int) (wrap64 ((i : Int) + 1))) (fun r => r.length = sh.length ∧ ∀ j : Nat, 1 ≤ j → j < sh.length → r.getD j false = (sh.getD j false || decide ((j : Int) ∈ mask.drop i))) := by
   intro c
   rw [hw]
   refine (ih (i + 1) sh (by omega)).mono (fun r ⟨h1, h2⟩ => ⟨h1, fun j hj1 hj2 => ?_⟩)
   rw [h2 j hj1 hj2, hd]
   have : ¬ (j : Int) = mask[i] := by omega
   simp only [List.mem_cons, this, false_or]
  refine EvP.split (fun c1 => EvP.split (fun c2 => EvP.yes (by omega) ?_) (fun c2 => skip (fun c => c2 c.2))) (fun c1 => skip (fun c => c1 c.1))
  rw [hw]
  refine (ih (i + 1) (sh.set (rd mask (i : Int)).toNat true) (by omega)).mono (fun r ⟨h1, h2⟩ => ⟨by rw [h1, List.length_set], fun j hj1 hj2 => ?_⟩)
  rw [h2 j hj1 (by rw [List.length_set]; exact hj2), hd]
  simp only [List.mem_cons]
  by_cases cj : (rd mask (i : Int)).toNat = j
  ·have : (j : Int) = mask[i] := by omega
   simp [List.getD_eq_getElem?_getD, cj, hj2, this]
  ·have : ¬ (j : Int) = mask[i] := by omega
   simp [List.getD_eq_getElem?_getD, cj, this]
theorem shut_e (nodes : List S47) (edges : List S38) (mask : List Int) (hl : mask.length ≤ 10000) (hm : edges.length ≤ 1000) : EvP (fun k => reach_shut.f k nodes edges mask) (Shut edges mask) := by
 have hw : wrap64 ((edges.length : Int) + 1) = ((edges.length + 1 : Nat) : Int) := by rw [wsm] <;> omega
 refine EvP.yes (by rw [hw]; omega) (EvP.yes (by rw [hw]; omega) ?_)
 rw [hw]
 refine (shut_loop mask hl mask.length 0 _ (by omega)).mono (fun r ⟨h1, h2⟩ => ⟨by rw [h1, List.length_replicate]; omega, fun j hj1 hj2 => ?_⟩)
 rw [h2 j hj1 (by rw [List.length_replicate]; omega)]
 have : (List.replicate (((edges.length + 1 : Nat) : Int)).toNat false).getD j false = false := by
  rw [List.getD_eq_getElem?_getD, List.getElem?_replicate]
  split <;> rfl
 rw [this]
 simp
def Ed1 (nodes : List S47) (edges : List S38) (sh : List Bool) (s : Int) (a b : Int) : Prop := (∃ i : Nat, i < edges.length ∧ sh.getD (i + 1) false = false ∧ (rd_T38 edges i).f1 = a ∧ (rd_T38 edges i).f0 = b) ∧ (a = s ∨ Pass nodes a)
theorem Ed1.ends {nodes : List S47} {edges : List S38} (F : Fit nodes edges) {sh : List Bool} {s a b : Int} (h : Ed1 nodes edges sh s a b) : 0 ≤ a ∧ a < (nodes.length : Int) ∧ 0 ≤ b ∧ b < (nodes.length : Int) := by
 obtain ⟨⟨i, hi, _, rfl, rfl⟩, _⟩ := h
 have := F.ends i hi
 exact ⟨this.2.2.1, this.2.2.2, this.1, this.2.1⟩
abbrev Res1 (nodes : List S47) (edges : List S38) (sh : List Bool) (s : Int) (res : List Int) : Prop := LensOk nodes.length s (Ed1 nodes edges sh s) (g res) ∧ res.length = nodes.length ∧ ∀ v : Int, 0 ≤ v → v < nodes.length → g res v ≤ nodes.length
theorem inner1 (nodes : List S47) (edges : List S38) (F : Fit nodes edges) (sh : List Bool) (hsh : sh.length = edges.length + 1) (s u : Int) (hK : u = s ∨ Pass nodes u) (M : Nat) (hM : M ≤ 1000)
  (next : ∀ r q : List Int, q.length + cnt r ≤ M → Inv nodes.length s (Ed1 nodes edges sh s) r q → EvP (fun k => reach_lengths_1.l0 k sh s r q nodes edges) (Res1 nodes edges sh s)) (n : Nat) :
  ∀ (i : Nat) (r rest : List Int), i + n = edges.length → rest.length + cnt r ≤ M → Inv nodes.length s (Ed1 nodes edges sh s) r (u :: rest) →
   (∀ j : Nat, j < i → sh.getD (j + 1) false = false → (rd_T38 edges j).f1 = u → 0 ≤ g r (rd_T38 edges j).f0 ∧ g r (rd_T38 edges j).f0 ≤ g r u + 1) →
   EvP (fun k => reach_lengths_1.l1 k sh s r (u :: rest) u edges (edges.length : Int) (i : Int) nodes edges) (Res1 nodes edges sh s) := by
 induction n with
 | zero =>
  intro i r rest hi hc hI hJ
  refine EvP.succ (fun k => reach_lengths_1.l1.eq_2 _ _ _ _ _ _ _ _ _ _ k) (EvP.no (by omega) (EvP.yes (by simp; omega) (next r rest hc (hI.pop (fun b hb => ?_)))))
  obtain ⟨⟨j, hj, h1, h2, h3⟩, _⟩ := hb
  have := hJ j (by omega) h1 h2
  rw [h3] at this
  exact this
 | succ n ih =>
  intro i r rest hi hc hI hJ
  have hm := F.m
  have hn := F.n
  have hw : wrap64 ((i : Int) + 1) = ((i + 1 : Nat) : Int) := by rw [wsm] <;> omega
  have hu := hI.qin u (by simp)
  have E := F.ends i (by omega)
  have hlen := hI.len
  have hgo : ∀ r' rest', rest'.length + cnt r' ≤ M → Inv nodes.length s (Ed1 nodes edges sh s) r' (u :: rest') → (∀ j : Nat, j < i + 1 → sh.getD (j + 1) false = false → (rd_T38 edges j).f1 = u → 0 ≤ g r' (rd_T38 edges j).f0 ∧ g r' (rd_T38 edges j).f0 ≤ g r' u + 1) →
   EvP (fun k => reach_lengths_1.l1 k sh s r' (u :: rest') u edges (edges.length : Int) (wrap64 ((i : Int) + 1)) nodes edges) (Res1 nodes edges sh s) := by
   intro r' rest' h1 h2 h3
   rw [hw]
   exact ih (i + 1) r' rest' (by omega) h1 h2 h3
  have hsd : rdOf false sh (wrap64 ((i : Int) + 1)) = sh.getD (i + 1) false := by rw [hw]; rfl
  refine EvP.succ (fun k => reach_lengths_1.l1.eq_2 _ _ _ _ _ _ _ _ _ _ k) (EvP.yes (by omega) (EvP.yes (by omega) (EvP.yes (by omega) (EvP.yes (by omega) (EvP.yes (by omega) (EvP.split (fun c1 => ?_) (fun c1' => EvP.split (fun c2 => EvP.yes (by omega) (EvP.yes (by omega) (EvP.split (fun c3 => EvP.yes (by omega) (EvP.yes (by omega) (EvP.yes (by simp; omega) ?_))) (fun c3 => ?_)))) (fun c2 => ?_))))))))
  ·rw [hsd] at c1
   refine hgo r rest hc hI (fun j hj h1 h2 => ?_)
   by_cases hji : j = i
   ·subst hji; rw [c1] at h1; cases h1
   ·exact hJ j (by omega) h1 h2
  ·have c1 : ¬ sh.getD (i + 1) false = true := by rw [hsd] at c1'; exact c1'
   have hEd : Ed1 nodes edges sh s u (rd_T38 edges (i : Int)).f0 := ⟨⟨i, by omega, by simpa using c1, c2, rfl⟩, hK⟩
   have hub := hI.hi u hu.1 hu.2.1
   have hA := hI.assign (b := (rd_T38 edges (i : Int)).f0) E.1 E.2.1 c3 hEd (fun a b h => Ed1.ends F h)
   have hwr : wrap64 (rd r u + 1) = g r u + 1 := by rw [rd_g, wsm] <;> omega
   have hcs := cnt_set (r := r) (x := g r u + 1) E.1 (by omega) c3 (by omega)
   have G : ∀ v : Int, 0 ≤ v → g (r.set ((rd_T38 edges (i : Int)).f0).toNat (g r u + 1)) v = if v = (rd_T38 edges (i : Int)).f0 then g r u + 1 else g r v := fun v hv => g_set E.1 (by omega) hv
   have hub' : ¬ u = (rd_T38 edges (i : Int)).f0 := by intro e; rw [rd_g, ← e] at c3; omega
   rw [hwr]
   refine hgo _ (rest ++ [(rd_T38 edges (i : Int)).f0]) (by rw [List.length_append]; simp; omega) hA (fun j hj h1 h2 => ?_)
   have Ej := F.ends j (by omega)
   rw [G _ Ej.1, G u hu.1, if_neg hub']
   by_cases hji : j = i
   ·subst hji; rw [if_pos rfl]; omega
   ·have := hJ j (by omega) h1 h2
    split
    ·omega
    ·exact this
  ·refine hgo r rest hc hI (fun j hj h1 h2 => ?_)
   by_cases hji : j = i
   ·subst hji
    have := hI.top u rest rfl _ E.1 E.2.1
    rw [rd_g] at c3
    omega
   ·exact hJ j (by omega) h1 h2
  ·refine hgo r rest hc hI (fun j hj h1 h2 => ?_)
   by_cases hji : j = i
   ·subst hji; exact absurd h2 c2
   ·exact hJ j (by omega) h1 h2
theorem outer1 (nodes : List S47) (edges : List S38) (F : Fit nodes edges) (sh : List Bool) (hsh : sh.length = edges.length + 1) (s : Int) (M : Nat) :
  M ≤ 1000 → ∀ r q : List Int, q.length + cnt r ≤ M → Inv nodes.length s (Ed1 nodes edges sh s) r q → EvP (fun k => reach_lengths_1.l0 k sh s r q nodes edges) (Res1 nodes edges sh s) := by
 induction M with
 | zero =>
  intro _ r q hc hI
  obtain rfl : q = [] := List.length_eq_zero_iff.1 (by omega)
  exact EvP.succ (fun k => reach_lengths_1.l0.eq_2 _ _ _ _ _ _ k) (EvP.no (by simp) (EvP.ret ⟨hI.good (fun a b h => Ed1.ends F h), hI.len, fun v h0 h1 => by have := hI.hi v h0 h1; omega⟩))
 | succ M ih =>
  intro hM r q hc hI
  cases q with
  | nil => exact EvP.succ (fun k => reach_lengths_1.l0.eq_2 _ _ _ _ _ _ k) (EvP.no (by simp) (EvP.ret ⟨hI.good (fun a b h => Ed1.ends F h), hI.len, fun v h0 h1 => by have := hI.hi v h0 h1; omega⟩))
  | cons u rest =>
   have hu := hI.qin u (by simp)
   have h0 : rd (u :: rest) 0 = u := rfl
   have hlen : rest.length + cnt r ≤ M := by simp at hc; omega
   have next := ih (by omega)
   refine EvP.succ (fun k => reach_lengths_1.l0.eq_2 _ _ _ _ _ _ k) (EvP.yes (by simp) (EvP.yes (by simp) ?_))
   rw [h0]
   by_cases hK : u = s ∨ Pass nodes u
   ·have ej : EvP (fun k => reach_lengths_1.j1 k sh s r (u :: rest) u false nodes edges) (Res1 nodes edges sh s) := EvP.succ (fun k => reach_lengths_1.j1.eq_2 _ _ _ _ _ _ _ _ k) (EvP.no (by simp) (inner1 nodes edges F sh hsh s u hK M (by omega) next edges.length 0 r rest (by omega) hlen hI (fun j hj => by omega)))
    refine EvP.split (fun _ => ej) (fun c => EvP.yes hu.1 (EvP.yes hu.2.1 ?_))
    have : ((rd_T47 nodes u).f1 != 1) = false := by simpa [Pass] using hK.resolve_left c
    rw [this]
    exact ej
   ·have e := next r rest hlen (hI.pop (fun b hb => absurd hb.2 hK))
    refine EvP.no (fun c => hK (.inl c)) (EvP.yes hu.1 (EvP.yes hu.2.1 ?_))
    have : ((rd_T47 nodes u).f1 != 1) = true := by
     simp only [bne_iff_ne, ne_eq]
     exact fun c => hK (.inr c)
    rw [this]
    exact EvP.succ (fun k => reach_lengths_1.j1.eq_2 _ _ _ _ _ _ _ _ k) (EvP.yes rfl (EvP.yes (by simp; omega) e))
theorem lens1_sh (nodes : List S47) (edges : List S38) (F : Fit nodes edges) (sh : List Bool) (hsh : sh.length = edges.length + 1) (s : Int) (h0 : 0 ≤ s) (h1 : s < (nodes.length : Int)) :
  EvP (fun k => reach_lengths_1.f k nodes edges sh s 1) (Res1 nodes edges sh s) := by
 have hn := F.n
 have hn0 := F.n0
 refine EvP.obind (a := List.replicate nodes.length (-1)) ?_ (EvP.yes h0 (EvP.yes (by simp; omega) ?_))
 ·unfold slices_Repeat_int_int.f
  rw [if_pos ⟨rfl, by omega, by omega⟩]
  simp [rd]
 ·refine outer1 nodes edges F sh hsh s 1000 (by omega) _ [s] ?_ (Inv.init h0 h1)
  have : cnt ((List.replicate nodes.length (-1 : Int)).set s.toNat 0) ≤ nodes.length := by
   have := List.countP_le_length (p := fun x : Int => decide (x < 0)) (l := (List.replicate nodes.length (-1 : Int)).set s.toNat 0)
   simpa [cnt] using this
  simp; omega
theorem lens1_e (nodes : List S47) (edges : List S38) (F : Fit nodes edges) (mask : List Int) (sh : List Bool) (hs : Shut edges mask sh) (s : Int) (h0 : 0 ≤ s) (h1 : s < (nodes.length : Int)) :
  EvP (fun k => reach_lengths_1.f k nodes edges sh s 1) (LensTo nodes edges mask s) := by
 refine (lens1_sh nodes edges F sh hs.1 s h0 h1).mono (fun r ⟨h, hl, hh⟩ => ⟨hl, h.congr (fun a b => ?_), hh⟩)
 have : (∃ i : Nat, i < edges.length ∧ sh.getD (i + 1) false = false ∧ (rd_T38 edges i).f1 = a ∧ (rd_T38 edges i).f0 = b) ↔ EdgeM edges mask b a := by
  constructor
  ·rintro ⟨i, h1, h2, h3, h4⟩
   refine ⟨i, h1, fun c => ?_, h4, h3⟩
   have := (hs.2 (i + 1) (by omega) (by omega)).2 (by simpa using c)
   rw [h2] at this
   cases this
  ·rintro ⟨i, h1, h2, h4, h3⟩
   refine ⟨i, h1, ?_, h3, h4⟩
   rw [Bool.eq_false_iff]
   intro c
   exact h2 (by simpa using (hs.2 (i + 1) (by omega) (by omega)).1 c)
 show _ ∧ _ ↔ _
 rw [this]
theorem To_e (nodes : List S47) (edges : List S38) (F : Fit nodes edges) (mask : List Int) (hl : mask.length ≤ 10000) (s : Int) (h0 : 0 ≤ s) (h1 : s < (nodes.length : Int)) :
  EvP (fun k => reach_To.f k nodes edges mask s) (fun r => LensTo nodes edges mask s r.1 ∧ r.2 = 0) := by
 have hm := F.m
 refine EvP.no (by omega) ?_
 rw [decide_eq_false (by omega)]
 refine EvP.succ (fun k => reach_To.j0.eq_2 _ _ _ _ _ k) (EvP.no (by simp) (EvP.bind (shut_e nodes edges mask hl (by omega)) (fun sh hs => EvP.bind (lens1_e nodes edges F mask sh hs s h0 h1) (fun r hr => EvP.ret ⟨hr, rfl⟩))))
theorem To_out (nodes : List S47) (edges : List S38) (mask : List Int) (s : Int) (h : s < 0 ∨ (nodes.length : Int) ≤ s) : EvP (fun k => reach_To.f k nodes edges mask s) (fun r => r.1 = [] ∧ r.2 = 1) := by
 have e : EvP (fun k => reach_To.j0 k mask s true nodes edges) (fun r => r.1 = [] ∧ r.2 = 1) := EvP.succ (fun k => reach_To.j0.eq_2 _ _ _ _ _ k) (EvP.yes rfl (EvP.ret ⟨rfl, rfl⟩))
 refine EvP.split (fun _ => e) (fun c => ?_)
 rw [decide_eq_true (by omega)]
 exact e
theorem Name_e (s : ByteArray) : EvP (fun k => stillageref06_Name.f k s) (fun _ => True) := by
 have l0 : ∀ (n i : Nat), i + n = s.size → s.size ≤ 8 → EvP (fun k => stillageref06_Name.l0 k s (i : Int)) (fun _ => True) := by
  intro n
  induction n with
  | zero =>
   intro i hi h8
   exact EvP.succ (fun k => stillageref06_Name.l0.eq_2 _ _ k) (EvP.no (by omega) (EvP.ret trivial))
  | succ n ih =>
   intro i hi h8
   have hg : EvP (fun k => stillageref06_Name.l0 k s (wrap64 ((i : Int) + 1))) (fun _ => True) := by
    rw [wnext i (by omega)]
    exact ih (i + 1) (by omega) h8
   have hf : EvP (fun _ => some false) (fun _ => True) := EvP.ret trivial
   refine EvP.succ (fun k => stillageref06_Name.l0.eq_2 _ _ k) (EvP.yes (by omega) (EvP.yes (by omega) (EvP.split (fun _ => EvP.split (fun _ => EvP.split (fun _ => hg) (fun _ => EvP.split (fun _ => hf) (fun _ => EvP.split (fun _ => hg) (fun _ => hf)))) (fun _ => EvP.split (fun _ => hg) (fun _ => EvP.split (fun _ => hf) (fun _ => hf)))) (fun _ => EvP.split (fun _ => EvP.split (fun _ => hf) (fun _ => EvP.split (fun _ => hg) (fun _ => hf))) (fun _ => EvP.split (fun _ => hf) (fun _ => hf))))))
 refine EvP.split (fun _ => EvP.succ (fun k => stillageref06_Name.j0.eq_2 _ _ k) (EvP.yes rfl (EvP.ret trivial))) (fun _ => ?_)
 by_cases c : (s.size : Int) > 8
 ·rw [decide_eq_true c]
  exact EvP.succ (fun k => stillageref06_Name.j0.eq_2 _ _ k) (EvP.yes rfl (EvP.ret trivial))
 ·rw [decide_eq_false c]
  exact EvP.succ (fun k => stillageref06_Name.j0.eq_2 _ _ k) (EvP.no (by simp) (l0 s.size 0 (by omega) (by omega)))
theorem Find_e (nodes : List S47) (edges : List S38) (s : ByteArray) (hn : nodes.length ≤ 1000) : EvP (fun k => stillageref06_Find.f k nodes edges s) (fun _ => True) := by
 have l0 : ∀ (n i : Nat), i + n = nodes.length → EvP (fun k => stillageref06_Find.l0 k s (nodes.length : Int) (i : Int) nodes edges) (fun _ => True) := by
  intro n
  induction n with
  | zero =>
   intro i hi
   exact EvP.succ (fun k => stillageref06_Find.l0.eq_2 _ _ _ _ _ k) (EvP.no (by omega) (EvP.ret trivial))
  | succ n ih =>
   intro i hi
   refine EvP.succ (fun k => stillageref06_Find.l0.eq_2 _ _ _ _ _ k) (EvP.yes (by omega) (EvP.yes (by omega) (EvP.yes (by omega) (EvP.split (fun _ => EvP.ret trivial) (fun _ => ?_)))))
   rw [wnext i (by omega)]
   exact ih (i + 1) (by omega)
 exact l0 nodes.length 0 (by omega)
abbrev EdgeOk (nodes : List S47) (edges : List S38) (i : Nat) : Prop :=
 (0 ≤ (rd_T38 edges i).f0 ∧ (rd_T38 edges i).f0 < (nodes.length : Int) ∧ 0 ≤ (rd_T38 edges i).f1 ∧ (rd_T38 edges i).f1 < (nodes.length : Int)) ∧ (rd_T38 edges i).f0 ≠ (rd_T38 edges i).f1 ∧ (Pass nodes (rd_T38 edges i).f0 ∨ Pass nodes (rd_T38 edges i).f1) ∧
  ∀ j : Nat, j < i → ¬ ((rd_T38 edges j).f0 = (rd_T38 edges i).f0 ∧ (rd_T38 edges j).f1 = (rd_T38 edges i).f1)
theorem Good_l2 (nodes : List S47) (edges : List S38) (hm : edges.length ≤ 120) (i : Nat) (hi : i < edges.length) (P : Bool → Prop) (hf : P false)
  (next : (∀ j : Nat, j < i → ¬ ((rd_T38 edges j).f0 = (rd_T38 edges i).f0 ∧ (rd_T38 edges j).f1 = (rd_T38 edges i).f1)) → EvP (fun k => stillageref06_Good.l1 k (edges.length : Int) (wrap64 ((i : Int) + 1)) nodes edges) P) (n : Nat) :
  ∀ j : Nat, j + n = i → (∀ j' : Nat, j' < j → ¬ ((rd_T38 edges j').f0 = (rd_T38 edges i).f0 ∧ (rd_T38 edges j').f1 = (rd_T38 edges i).f1)) → EvP (fun k => stillageref06_Good.l2 k (i : Int) (j : Int) (edges.length : Int) (i : Int) nodes edges) P := by
 induction n with
 | zero =>
  intro j hj hp
  obtain rfl : j = i := by omega
  exact EvP.succ (fun k => stillageref06_Good.l2.eq_2 _ _ _ _ _ _ k) (EvP.no (by omega) (next hp))
 | succ n ih =>
  intro j hj hp
  refine EvP.succ (fun k => stillageref06_Good.l2.eq_2 _ _ _ _ _ _ k) (EvP.yes (by omega) (EvP.yes (by omega) (EvP.yes (by omega) (EvP.yes (by omega) (EvP.yes (by omega) (EvP.split (fun _ => EvP.ret hf) (fun c => ?_)))))))
  rw [wnext j (by omega)]
  refine ih (j + 1) (by omega) (fun j' hj' => ?_)
  by_cases e : j' = j
  ·subst e
   intro h
   apply c
   simp [h.1, h.2]
  ·exact hp j' (by omega)
theorem Good_l1 (nodes : List S47) (edges : List S38) (hm : edges.length ≤ 120) (n : Nat) : ∀ i : Nat, i + n = edges.length → EvP (fun k => stillageref06_Good.l1 k (edges.length : Int) (i : Int) nodes edges) (fun b => b = true → ∀ j : Nat, i ≤ j → j < edges.length → EdgeOk nodes edges j) := by
 induction n with
 | zero =>
  intro i hi
  exact EvP.succ (fun k => stillageref06_Good.l1.eq_2 _ _ _ _ k) (EvP.no (by omega) (EvP.ret (fun _ j h1 h2 => by omega)))
 | succ n ih =>
  intro i hi
  have hff : (false = true) → ∀ j : Nat, i ≤ j → j < edges.length → EdgeOk nodes edges j := fun h => by cases h
  have bad : ∀ (x6 x7 : Int), EvP (fun k => stillageref06_Good.j3 k (i : Int) x6 x7 (edges.length : Int) (i : Int) true nodes edges) (fun b => b = true → ∀ j : Nat, i ≤ j → j < edges.length → EdgeOk nodes edges j) := fun x6 x7 =>
   EvP.succ (fun k => stillageref06_Good.j3.eq_2 _ _ _ _ _ _ _ _ k) (EvP.yes rfl (EvP.ret hff))
  refine EvP.succ (fun k => stillageref06_Good.l1.eq_2 _ _ _ _ k) (EvP.yes (by omega) (EvP.yes (by omega) (EvP.yes (by omega) (EvP.split (fun _ => bad _ _) (fun c1 => EvP.split (fun _ => bad _ _) (fun c2 => EvP.split (fun _ => bad _ _) (fun c3 => EvP.split (fun _ => bad _ _) (fun c4 => ?_))))))))
  by_cases c5 : (rd_T38 edges (i : Int)).f0 = (rd_T38 edges (i : Int)).f1
  ·rw [show ((rd_T38 edges (i : Int)).f0 == (rd_T38 edges (i : Int)).f1) = true from by simpa using c5]
   exact bad _ _
  ·rw [show ((rd_T38 edges (i : Int)).f0 == (rd_T38 edges (i : Int)).f1) = false from by simpa using c5]
   have go : (Pass nodes (rd_T38 edges (i : Int)).f0 ∨ Pass nodes (rd_T38 edges (i : Int)).f1) → EvP (fun k => stillageref06_Good.j4 k (i : Int) (edges.length : Int) (i : Int) false nodes edges) (fun b => b = true → ∀ j : Nat, i ≤ j → j < edges.length → EdgeOk nodes edges j) := by
    intro hp
    refine EvP.succ (fun k => stillageref06_Good.j4.eq_2 _ _ _ _ _ _ k) (EvP.no (by simp) (Good_l2 nodes edges hm i (by omega) _ hff (fun hd => ?_) i 0 (by omega) (fun j' hj' => by omega)))
    rw [wnext i (by omega)]
    refine (ih (i + 1) (by omega)).mono (fun b h hb j h1 h2 => ?_)
    by_cases e : j = i
    ·subst e
     exact ⟨⟨by omega, by omega, by omega, by omega⟩, c5, hp, hd⟩
    ·exact h hb j (by omega) h2
   refine EvP.succ (fun k => stillageref06_Good.j3.eq_2 _ _ _ _ _ _ _ _ k) (EvP.no (by simp) (EvP.yes (by omega) (EvP.yes (by omega) (EvP.split (fun c6 => go (.inl c6)) (fun c6 => EvP.yes (by omega) (EvP.yes (by omega) ?_))))))
   by_cases c7 : (rd_T47 nodes (rd_T38 edges (i : Int)).f1).f1 = 1
   ·rw [show ((rd_T47 nodes (rd_T38 edges (i : Int)).f1).f1 != 1) = false from by simpa using c7]
    exact go (.inr c7)
   ·rw [show ((rd_T47 nodes (rd_T38 edges (i : Int)).f1).f1 != 1) = true from by simpa using c7]
    exact EvP.succ (fun k => stillageref06_Good.j4.eq_2 _ _ _ _ _ _ k) (EvP.yes rfl (EvP.ret hff))
abbrev NodeOk (nodes : List S47) (i : Nat) : Prop := 1 ≤ (rd_T47 nodes i).f1 ∧ (rd_T47 nodes i).f1 ≤ 4 ∧ 0 ≤ (rd_T47 nodes i).f2 ∧ (rd_T47 nodes i).f2 ≤ 7
theorem Good_l0 (nodes : List S47) (edges : List S38) (hn : nodes.length ≤ 40) (hm : edges.length ≤ 120) (n : Nat) : ∀ i : Nat, i + n = nodes.length → EvP (fun k => stillageref06_Good.l0 k (nodes.length : Int) (i : Int) nodes edges) (fun b => b = true → (∀ j : Nat, i ≤ j → j < nodes.length → NodeOk nodes j) ∧ ∀ j : Nat, j < edges.length → EdgeOk nodes edges j) := by
 induction n with
 | zero =>
  intro i hi
  refine EvP.succ (fun k => stillageref06_Good.l0.eq_2 _ _ _ _ k) (EvP.no (by omega) ((Good_l1 nodes edges hm edges.length 0 (by omega)).mono (fun b h hb => ⟨fun j h1 h2 => by omega, fun j hj => h hb j (by omega) hj⟩)))
 | succ n ih =>
  intro i hi
  have hff : (false = true) → (∀ j : Nat, i ≤ j → j < nodes.length → NodeOk nodes j) ∧ ∀ j : Nat, j < edges.length → EdgeOk nodes edges j := fun h => by cases h
  refine EvP.succ (fun k => stillageref06_Good.l0.eq_2 _ _ _ _ k) (EvP.yes (by omega) (EvP.yes (by omega) (EvP.yes (by omega) (EvP.bind (Name_e _) (fun t _ => EvP.split (fun _ => EvP.split (fun _ => EvP.ret hff) (fun c1 => EvP.split (fun _ => EvP.ret hff) (fun c2 => EvP.split (fun _ => EvP.ret hff) (fun c3 => EvP.split (fun _ => EvP.ret hff) (fun c4 => EvP.bind (Find_e nodes edges _ (by omega)) (fun t _ => EvP.split (fun _ => ?_) (fun _ => EvP.ret hff))))))) (fun _ => EvP.ret hff))))))
  rw [wnext i (by omega)]
  refine (ih (i + 1) (by omega)).mono (fun b h hb => ⟨fun j h1 h2 => ?_, (h hb).2⟩)
  by_cases e : j = i
  ·subst e
   exact ⟨by omega, by omega, by omega, by omega⟩
  ·exact (h hb).1 j (by omega) h2
theorem Good_e (nodes : List S47) (edges : List S38) : EvP (fun k => stillageref06_Good.f k nodes edges) (fun b => b = true → Fit nodes edges) := by
 have bad : EvP (fun k => stillageref06_Good.j0 k true nodes edges) (fun b => b = true → Fit nodes edges) := EvP.succ (fun k => stillageref06_Good.j0.eq_2 _ _ _ k) (EvP.yes rfl (EvP.ret (fun h => by cases h)))
 refine EvP.split (fun _ => bad) (fun c1 => EvP.split (fun _ => bad) (fun c2 => ?_))
 by_cases c3 : (edges.length : Int) > 120
 ·rw [decide_eq_true c3]
  exact bad
 ·rw [decide_eq_false c3]
  refine EvP.succ (fun k => stillageref06_Good.j0.eq_2 _ _ _ k) (EvP.no (by simp) ((Good_l0 nodes edges (by omega) (by omega) nodes.length 0 (by omega)).mono (fun b h hb => ?_)))
  obtain ⟨hN, hE⟩ := h hb
  exact ⟨by omega, by omega, by omega, fun i hi => hN i (by omega) hi, fun i hi => (hE i hi).1, fun i hi => (hE i hi).2.1, fun i hi => (hE i hi).2.2.1, fun i j hi hj => (hE i hi).2.2.2 j hj⟩
theorem Fits_e (nodes : List S47) (edges : List S38) (mask : List Int) : EvP (fun k => stillagelaw07_Fits.f k nodes edges mask) (fun b => b = true → Fit nodes edges ∧ mask.length ≤ 200) := by
 refine EvP.split (fun c => EvP.bind (Good_e nodes edges) (fun t ht => EvP.ret (fun h => ⟨ht h, by omega⟩))) (fun _ => EvP.ret (fun h => by cases h))
theorem Ints_loop (x y : List Int) (hl : x.length = y.length) (hm : x.length ≤ 100000) (n : Nat) : ∀ i : Nat, i + n = x.length → EvP (fun k => stillageref01_Ints.l0 k x y (x.length : Int) (i : Int)) (fun r => r = true ↔ x.drop i = y.drop i) := by
 induction n with
 | zero =>
  intro i hi
  refine EvP.succ (fun k => stillageref01_Ints.l0.eq_2 _ _ _ _ k) (EvP.no (by omega) (EvP.ret ?_))
  rw [List.drop_eq_nil_of_le (by omega), List.drop_eq_nil_of_le (by omega)]
  simp
 | succ n ih =>
  intro i hi
  have h1 : i < x.length := by omega
  have h2 : i < y.length := by omega
  have e1 : rd x (i : Int) = x[i] := by simp [rd, List.getElem?_eq_getElem h1]
  have e2 : rd y (i : Int) = y[i] := by simp [rd, List.getElem?_eq_getElem h2]
  refine EvP.succ (fun k => stillageref01_Ints.l0.eq_2 _ _ _ _ k) (EvP.yes (by omega) (EvP.yes (by omega) (EvP.yes (by omega) (EvP.yes (by omega) (EvP.split (fun c => ?_) (fun c => EvP.ret ?_))))))
  ·rw [wnext i (by omega)]
   refine (ih (i + 1) (by omega)).mono (fun r h => ?_)
   rw [h, List.drop_eq_getElem_cons h1, List.drop_eq_getElem_cons h2]
   rw [e1, e2] at c
   simp only [List.cons.injEq, c, true_and]
  ·rw [List.drop_eq_getElem_cons h1, List.drop_eq_getElem_cons h2]
   rw [e1, e2] at c
   simp only [List.cons.injEq, c, false_and]
   simp
theorem Ints_e (x y : List Int) (hm : x.length ≤ 100000) : EvP (fun k => stillageref01_Ints.f k x y) (fun r => r = true ↔ x = y) := by
 refine EvP.split (fun c => ?_) (fun c => EvP.ret ?_)
 ·exact Ints_loop x y (by omega) hm x.length 0 (by omega)
 ·constructor
  ·intro h; cases h
  ·rintro rfl
   exact absurd rfl c
theorem Ints_eq {x y : List Int} (h : x = y) (hm : x.length ≤ 100000) : EvP (fun k => stillageref01_Ints.f k x y) (fun r => r = true) := (Ints_e x y hm).mono (fun r e => e.2 h)
theorem awake_e : Evt (fun k => stillagelaw08_awake.f k) true := Evt.mono (n := 80) (by decide +kernel) (fun k r h => stillagelaw08_awake.mono k r h)
theorem Index_loop (l : List Int) (a : Int) (hl : l.length ≤ 100000) (n : Nat) : ∀ i : Nat, i + n = l.length → EvP (fun k => slices_Index_int_int.l0 k l a (l.length : Int) (i : Int)) (fun r => 0 ≤ r ↔ a ∈ l.drop i) := by
 induction n with
 | zero =>
  intro i hi
  refine EvP.succ (fun k => slices_Index_int_int.l0.eq_2 _ _ _ _ k) (EvP.no (by omega) (EvP.ret ?_))
  rw [List.drop_eq_nil_of_le (by omega)]
  simp
 | succ n ih =>
  intro i hi
  have hil : i < l.length := by omega
  have hrd : rd l (i : Int) = l[i] := by simp [rd, List.getElem?_eq_getElem hil]
  rw [List.drop_eq_getElem_cons hil]
  refine EvP.succ (fun k => slices_Index_int_int.l0.eq_2 _ _ _ _ k) (EvP.yes (by omega) (EvP.yes (by omega) (EvP.yes (by omega) ?_)))
  rw [hrd, wnext i (by omega)]
  refine EvP.split (fun c => EvP.ret ?_) (fun c => (ih (i + 1) (by omega)).mono (fun r h => ?_))
  ·rw [c]
   exact ⟨fun _ => List.mem_cons_self, fun _ => by omega⟩
  ·rw [h, List.mem_cons]
   exact ⟨.inr, fun h => h.elim (fun e => absurd e c) id⟩
theorem Contains_e (l : List Int) (a : Int) (hl : l.length ≤ 100000) : EvP (fun k => slices_Contains_int_int.f k l a) (fun t => t = true ↔ a ∈ l) :=
 EvP.bind (Index_loop l a hl l.length 0 (by omega)) (fun r h => EvP.ret (by rw [List.drop_zero] at h; rw [decide_eq_true_iff, ← h]))
/-- A device (by its number less one) that goes off from a. -/
def OffP (edges : List S38) (a : Int) (d : Int) : Prop := ∃ e : Nat, e < edges.length ∧ d = ((e + 1 : Nat) : Int) ∧ (rd_T38 edges (e : Int)).f0 = a
theorem Out_loop (nodes : List S47) (edges : List S38) (hm : edges.length ≤ 1000) (a : Int) (h0 : 0 ≤ a) (h1 : a < (nodes.length : Int)) (n : Nat) : ∀ (i : Nat) (acc : List Int), i + n = edges.length → acc.length ≤ i → (∀ x ∈ acc, OffP edges a x) → (∀ e : Nat, e < i → (rd_T38 edges (e : Int)).f0 = a → ((e + 1 : Nat) : Int) ∈ acc) →
  EvP (fun k => layout_Out.l0 k a acc edges (edges.length : Int) (i : Int) nodes edges) (fun r => r.length ≤ edges.length ∧ ∀ x, x ∈ r ↔ OffP edges a x) := by
 induction n with
 | zero =>
  intro i acc hi hl ha hc
  refine EvP.succ (fun k => layout_Out.l0.eq_2 _ _ _ _ _ _ _ k) (EvP.no (by omega) (EvP.ret ⟨by omega, fun x => ⟨ha x, ?_⟩⟩))
  rintro ⟨e, he, rfl, hf⟩
  exact hc e (by omega) hf
 | succ n ih =>
  intro i acc hi hl ha hc
  have hn : ¬ (rd_T38 edges (i : Int)).f0 = a → EvP (fun k => layout_Out.l0 k a acc edges (edges.length : Int) (wrap64 ((i : Int) + 1)) nodes edges) (fun r => r.length ≤ edges.length ∧ ∀ x, x ∈ r ↔ OffP edges a x) := by
   intro hne
   rw [wnext i (by omega)]
   refine ih (i + 1) acc (by omega) (by omega) ha (fun e he hf => ?_)
   by_cases h : e = i
   ·subst h; exact absurd hf hne
   ·exact hc e (by omega) hf
  refine EvP.succ (fun k => layout_Out.l0.eq_2 _ _ _ _ _ _ _ k) (EvP.yes (by omega) (EvP.yes (by omega) (EvP.yes (by omega) (EvP.split (fun c => EvP.yes h1 (EvP.yes (by omega) (EvP.yes (by omega) ?_))) hn))))
  rw [wnext i (by omega)]
  refine ih (i + 1) _ (by omega) (by simp; omega) (fun x hx => ?_) (fun e he hf => ?_)
  ·rcases List.mem_append.1 hx with hx | hx
   ·exact ha x hx
   ·exact ⟨i, by omega, by simpa using hx, c⟩
  ·by_cases h : e = i
   ·subst h; simp
   ·exact List.mem_append.2 (.inl (hc e (by omega) hf))
theorem Out_e (nodes : List S47) (edges : List S38) (hm : edges.length ≤ 1000) (a : Int) (h0 : 0 ≤ a) (h1 : a < (nodes.length : Int)) : EvP (fun k => layout_Out.f k nodes edges a) (fun r => r.length ≤ edges.length ∧ ∀ x, x ∈ r ↔ OffP edges a x) :=
 Out_loop nodes edges hm a h0 h1 edges.length 0 [] (by omega) (by simp) (fun x hx => by simp at hx) (fun e he => by omega)
theorem Out_sorted (nodes : List S47) (edges : List S38) (hm : edges.length ≤ 1000) (a : Int) (h0 : 0 ≤ a) (h1 : a < (nodes.length : Int)) (n : Nat) : ∀ (i : Nat) (acc : List Int), i + n = edges.length → acc.length ≤ i → acc.Pairwise (· < ·) → (∀ x ∈ acc, x ≤ (i : Int)) →
  EvP (fun k => layout_Out.l0 k a acc edges (edges.length : Int) (i : Int) nodes edges) (fun r => r.Pairwise (· < ·)) := by
 induction n with
 | zero =>
  intro i acc hi hl hp hb
  exact EvP.succ (fun k => layout_Out.l0.eq_2 _ _ _ _ _ _ _ k) (EvP.no (by omega) (EvP.ret hp))
 | succ n ih =>
  intro i acc hi hl hp hb
  have hn : EvP (fun k => layout_Out.l0 k a acc edges (edges.length : Int) (wrap64 ((i : Int) + 1)) nodes edges) (fun r => r.Pairwise (· < ·)) := by
   rw [wnext i (by omega)]
   exact ih (i + 1) acc (by omega) (by omega) hp (fun x hx => by have := hb x hx; omega)
  refine EvP.succ (fun k => layout_Out.l0.eq_2 _ _ _ _ _ _ _ k) (EvP.yes (by omega) (EvP.yes (by omega) (EvP.yes (by omega) (EvP.split (fun c => EvP.yes h1 (EvP.yes (by omega) (EvP.yes (by omega) ?_))) (fun _ => hn)))))
  rw [wnext i (by omega)]
  refine ih (i + 1) _ (by omega) (by simp; omega) ?_ (fun x hx => ?_)
  ·rw [List.pairwise_append]
   refine ⟨hp, by simp, fun x hx y hy => ?_⟩
   have := hb x hx
   obtain rfl := List.mem_singleton.1 hy
   omega
  ·rcases List.mem_append.1 hx with hx | hx
   ·have := hb x hx; omega
   ·obtain rfl := List.mem_singleton.1 hx
    omega
theorem EvP_and {α : Type} {F : Nat → Option α} {P Q : α → Prop} (h1 : EvP F P) (h2 : EvP F Q) : EvP F (fun r => P r ∧ Q r) := by
 obtain ⟨r1, ⟨K1, e1⟩, p1⟩ := h1
 obtain ⟨r2, ⟨K2, e2⟩, p2⟩ := h2
 have e := (e1 (K1 + K2) (by omega)).symm.trans (e2 (K1 + K2) (by omega))
 obtain rfl := Option.some.inj e
 exact ⟨r1, ⟨K1, e1⟩, p1, p2⟩
/-- A device that comes nearer: q holds the lengths to the target. -/
structure Near (nodes : List S47) (edges : List S38) (mask q : List Int) (a : Int) (d : Int) : Prop where
 off : ∃ e : Nat, e < edges.length ∧ d = ((e + 1 : Nat) : Int) ∧ (rd_T38 edges (e : Int)).f0 = a ∧ 0 ≤ g q (rd_T38 edges (e : Int)).f1 ∧ g q (rd_T38 edges (e : Int)).f1 = g q a - 1 ∧ (0 < g q (rd_T38 edges (e : Int)).f1 → Pass nodes (rd_T38 edges (e : Int)).f1)
 op : ¬ d ∈ mask
theorem next_loop (nodes : List S47) (edges : List S38) (F : Fit nodes edges) (mask q : List Int) (hl : mask.length ≤ 100000) (hq : q.length = nodes.length) (a : Int) (h0 : 0 ≤ a) (h1 : a < (nodes.length : Int)) (hqa : g q a ≤ 1000) (hqb : -1000 ≤ g q a) (ds : List Int) (hds : ds.length ≤ 1000) (ho : ∀ x ∈ ds, OffP edges a x) (hp : ds.Pairwise (· < ·)) (n : Nat) : ∀ i : Nat, i + n = ds.length →
  EvP (fun k => route_next.l0 k mask q a ds (ds.length : Int) (i : Int) nodes edges) (fun d => (d = 0 ∧ ∀ x ∈ ds.drop i, ¬ Near nodes edges mask q a x) ∨ (Near nodes edges mask q a d ∧ ∀ x ∈ ds.drop i, Near nodes edges mask q a x → d ≤ x)) := by
 have hm := F.m
 induction n with
 | zero =>
  intro i hi
  exact EvP.succ (fun k => route_next.l0.eq_2 _ _ _ _ _ _ _ _ k) (EvP.no (by omega) (EvP.ret (.inl ⟨rfl, by rw [List.drop_eq_nil_of_le (by omega)]; simp⟩)))
 | succ n ih =>
  intro i hi
  have hil : i < ds.length := by omega
  have hrd : rd ds (i : Int) = ds[i] := by simp [rd, List.getElem?_eq_getElem hil]
  have hn : ¬ Near nodes edges mask q a ds[i] → EvP (fun k => route_next.l0 k mask q a ds (ds.length : Int) (wrap64 ((i : Int) + 1)) nodes edges) (fun d => (d = 0 ∧ ∀ x ∈ ds.drop i, ¬ Near nodes edges mask q a x) ∨ (Near nodes edges mask q a d ∧ ∀ x ∈ ds.drop i, Near nodes edges mask q a x → d ≤ x)) := by
   intro hno
   rw [wnext i (by omega), List.drop_eq_getElem_cons hil]
   refine (ih (i + 1) (by omega)).mono (fun d h => h.imp (fun h => ⟨h.1, fun x hx => ?_⟩) (fun h => ⟨h.1, fun x hx hN => ?_⟩))
   ·rcases List.mem_cons.1 hx with rfl | hx
    ·exact hno
    ·exact h.2 x hx
   ·rcases List.mem_cons.1 hx with rfl | hx
    ·exact absurd hN hno
    ·exact h.2 x hx hN
  have hle : ∀ x ∈ ds.drop i, Near nodes edges mask q a x → ds[i] ≤ x := by
   intro x hx _
   have h2 : (ds.drop i).Pairwise (· < ·) := hp.sublist (List.drop_sublist i ds)
   rw [List.drop_eq_getElem_cons hil] at hx h2
   rcases List.mem_cons.1 hx with rfl | hx
   ·exact Int.le_refl _
   ·exact Int.le_of_lt ((List.pairwise_cons.1 h2).1 x hx)
  obtain ⟨e, he, hd, hf⟩ := ho ds[i] (List.getElem_mem hil)
  have hE := F.ends e he
  rw [hd] at hrd
  rw [hd] at hle
  have key : Near nodes edges mask q a ds[i] → ¬ ((e + 1 : Nat) : Int) ∈ mask ∧ 0 ≤ g q (rd_T38 edges (e : Int)).f1 ∧ g q (rd_T38 edges (e : Int)).f1 = g q a - 1 ∧ (0 < g q (rd_T38 edges (e : Int)).f1 → Pass nodes (rd_T38 edges (e : Int)).f1) := by
   intro h
   obtain ⟨e', h1, h2, h3, h4, h5, h6⟩ := h.off
   rw [hd] at h2
   obtain rfl : e = e' := by omega
   exact ⟨by rw [← hd]; exact h.op, h4, h5, h6⟩
  refine EvP.succ (fun k => route_next.l0.eq_2 _ _ _ _ _ _ _ _ k) (EvP.yes (by omega) (EvP.yes (by omega) (EvP.yes (by omega) ?_)))
  rw [hrd, show wrap64 (((e + 1 : Nat) : Int) - 1) = (e : Int) by rw [wsm] <;> omega, show wrap64 (rd q a - 1) = g q a - 1 by rw [rd_g]; unfold wrap64; omega]
  refine EvP.yes (by omega) (EvP.yes (by omega) (EvP.bind (Contains_e mask _ hl) (fun t ht => EvP.split (fun c => hn (fun h => (key h).1 (ht.1 c))) (fun c => EvP.yes hE.2.2.1 (EvP.yes (by omega) (EvP.split (fun c => hn (fun h => by have := (key h).2.1; rw [rd_g] at c; omega)) (fun c1 => EvP.yes h0 (EvP.yes (by omega) (EvP.split (fun c2 => ?_) (fun c => hn (fun h => c (by rw [rd_g]; exact (key h).2.2.1))))))))))))
  have hop : ¬ ((e + 1 : Nat) : Int) ∈ mask := fun h => c (ht.2 h)
  rw [rd_g] at c1
  rw [rd_g] at c2
  refine EvP.split (fun c3 => EvP.yes (by omega) (EvP.split (fun c4 => EvP.ret (.inr ⟨⟨⟨e, he, rfl, hf, by omega, c2, fun _ => c4⟩, hop⟩, hle⟩)) (fun c4 => hn (fun h => c4 ((key h).2.2.2 (by rw [rd_g] at c3; exact c3)))))) (fun c3 => EvP.ret (.inr ⟨⟨⟨e, he, rfl, hf, by omega, c2, fun h => ?_⟩, hop⟩, hle⟩))
  exact absurd h c3
theorem next_e (nodes : List S47) (edges : List S38) (F : Fit nodes edges) (mask q : List Int) (hl : mask.length ≤ 100000) (hq : q.length = nodes.length) (a : Int) (h0 : 0 ≤ a) (h1 : a < (nodes.length : Int)) (hqa : g q a ≤ 1000) (hqb : -1000 ≤ g q a) :
  EvP (fun k => route_next.f k nodes edges mask q a) (fun d => (d = 0 ∧ ∀ x, ¬ Near nodes edges mask q a x) ∨ (Near nodes edges mask q a d ∧ ∀ x, Near nodes edges mask q a x → d ≤ x)) := by
 have hm := F.m
 refine EvP.bind (EvP_and (Out_e nodes edges (by omega) a h0 h1) (Out_sorted nodes edges (by omega) a h0 h1 edges.length 0 [] (by omega) (by simp) (by simp) (by simp))) (fun ds hh => ?_)
 obtain ⟨h, hp⟩ := hh
 have hmem : ∀ x, Near nodes edges mask q a x → x ∈ ds.drop 0 := fun x hx => by
  obtain ⟨e, h1, h2, h3, _⟩ := hx.off
  rw [List.drop_zero]
  exact (h.2 x).2 ⟨e, h1, h2, h3⟩
 exact (next_loop nodes edges F mask q hl hq a h0 h1 hqa hqb ds (by omega) (fun x hx => (h.2 x).1 hx) hp ds.length 0 (by omega)).mono (fun d hd => hd.imp (fun hd => ⟨hd.1, fun x hx => hd.2 x (hmem x hx) hx⟩) (fun hd => ⟨hd.1, fun x hx => hd.2 x (hmem x hx) hx⟩))
/-- The table: each place's device, or 0. -/
structure Tab (nodes : List S47) (edges : List S38) (mask q t : List Int) : Prop where
 len : t.length = nodes.length
 ok : ∀ v : Int, 0 ≤ v → v < (nodes.length : Int) → (g t v = 0 ∧ ∀ x, ¬ Near nodes edges mask q v x) ∨ (Near nodes edges mask q v (g t v) ∧ ∀ x, Near nodes edges mask q v x → g t v ≤ x)
theorem g_snoc {l : List Int} {x v : Int} (h0 : 0 ≤ v) (h1 : v < (l.length : Int)) : g (l ++ [x]) v = g l v := by
 unfold g
 rw [List.getD_eq_getElem?_getD, List.getD_eq_getElem?_getD, List.getElem?_append_left (by omega)]
theorem g_last {l : List Int} {x : Int} : g (l ++ [x]) (l.length : Int) = x := by
 unfold g
 simp
theorem table_loop (nodes : List S47) (edges : List S38) (F : Fit nodes edges) (mask q : List Int) (hl : mask.length ≤ 100000) (hq : q.length = nodes.length) (hb : ∀ v : Int, 0 ≤ v → v < (nodes.length : Int) → -1000 ≤ g q v ∧ g q v ≤ 1000) (n : Nat) : ∀ (i : Nat) (acc : List Int), i + n = nodes.length → acc.length = i → (∀ v : Int, 0 ≤ v → v < (i : Int) → (g acc v = 0 ∧ ∀ x, ¬ Near nodes edges mask q v x) ∨ (Near nodes edges mask q v (g acc v) ∧ ∀ x, Near nodes edges mask q v x → g acc v ≤ x)) →
  EvP (fun k => route_Table.l0 k mask q acc (nodes.length : Int) (i : Int) nodes edges) (fun r => Tab nodes edges mask q r.1 ∧ r.2 = 0) := by
 have hn := F.n
 induction n with
 | zero =>
  intro i acc hi ha hk
  refine EvP.succ (fun k => route_Table.l0.eq_2 _ _ _ _ _ _ _ k) (EvP.no (by omega) (EvP.ret ⟨⟨by show acc.length = _; omega, fun v h0 h1 => hk v h0 (by omega)⟩, rfl⟩))
 | succ n ih =>
  intro i acc hi ha hk
  have hB := hb (i : Int) (by omega) (by omega)
  refine EvP.succ (fun k => route_Table.l0.eq_2 _ _ _ _ _ _ _ k) (EvP.yes (by omega) (EvP.bind (next_e nodes edges F mask q hl hq (i : Int) (by omega) (by omega) hB.2 hB.1) (fun d hd => EvP.yes (by omega) ?_)))
  rw [wnext i (by omega)]
  refine ih (i + 1) _ (by omega) (by simp [ha]) (fun v h0 h1 => ?_)
  by_cases e : v < (i : Int)
  ·rw [g_snoc h0 (by omega)]
   exact hk v h0 e
  ·obtain rfl : v = (acc.length : Int) := by omega
   rw [g_last, ha]
   exact hd
theorem Table_e (nodes : List S47) (edges : List S38) (F : Fit nodes edges) (mask : List Int) (hl : mask.length ≤ 10000) (b : Int) (h0 : 0 ≤ b) (h1 : b < (nodes.length : Int)) :
  ∃ q, LensTo nodes edges mask b q ∧ EvP (fun k => route_Table.f k nodes edges mask b) (fun r => Tab nodes edges mask q r.1 ∧ r.2 = 0) := by
 have hn := F.n
 obtain ⟨x, hx, hX⟩ := To_e nodes edges F mask hl b h0 h1
 refine ⟨x.1, hX.1, EvP.ebind hx (EvP.yes hX.2 (table_loop nodes edges F mask x.1 (by omega) hX.1.len (fun v h0 h1 => ?_) nodes.length 0 [] (by omega) rfl (fun v h0 h1 => by omega)))⟩
 have h2 := hX.1.hi v h0 h1
 have h3 := hX.1.ok.low v h0 h1
 omega
/-- The way from a to b by a table: to follow it. -/
inductive Way (edges : List S38) (t : List Int) (b : Int) : Int → List Int → Prop
 | here : Way edges t b b []
 | step {a : Int} {p : List Int} : a ≠ b → g t a ≠ 0 → Way edges t b (rd_T38 edges (g t a - 1)).f1 p → Way edges t b a (g t a :: p)
theorem Way.eq {edges : List S38} {t : List Int} {b a : Int} {p p' : List Int} (h : Way edges t b a p) : Way edges t b a p' → p = p' := by
 induction h generalizing p' with
 | here => intro h'; cases h' with
  | here => rfl
  | step h1 _ _ => exact absurd rfl h1
 | step h1 h2 h3 ih => intro h'; cases h' with
  | here => exact absurd rfl h1
  | step g1 g2 g3 => rw [ih g3]
theorem Tab.dev {nodes : List S47} {edges : List S38} {mask q t : List Int} (T : Tab nodes edges mask q t) {v : Int} (h0 : 0 ≤ v) (h1 : v < (nodes.length : Int)) (hz : g t v ≠ 0) :
  ∃ e : Nat, e < edges.length ∧ g t v = ((e + 1 : Nat) : Int) ∧ (rd_T38 edges (e : Int)).f0 = v ∧ 0 ≤ g q (rd_T38 edges (e : Int)).f1 ∧ g q (rd_T38 edges (e : Int)).f1 = g q v - 1 := by
 rcases T.ok v h0 h1 with h | h
 ·exact absurd h.1 hz
 ·obtain ⟨e, h1, h2, h3, h4, h5, _⟩ := h.1.off
  exact ⟨e, h1, h2, h3, h4, h5⟩
theorem Path_loop (nodes : List S47) (edges : List S38) (F : Fit nodes edges) (mask q t : List Int) (T : Tab nodes edges mask q t) (b : Int) (n : Nat) : ∀ (a : Int) (acc : List Int), 0 ≤ a → a < (nodes.length : Int) → g q a ≤ (n : Int) → acc.length + n ≤ 100000 →
  EvP (fun k => route_Path.l0 k b t acc a nodes edges) (fun r => (∃ p, Way edges t b a p ∧ r = (acc ++ p, 0)) ∨ ((∀ p, ¬ Way edges t b a p) ∧ r = ([], 80))) := by
 have hm := F.m
 have htl := T.len
 have fin : ∀ (a : Int) (acc : List Int), a ≠ b → g t a = 0 → 0 ≤ a → a < (nodes.length : Int) → EvP (fun k => route_Path.l0 k b t acc a nodes edges) (fun r => (∃ p, Way edges t b a p ∧ r = (acc ++ p, 0)) ∨ ((∀ p, ¬ Way edges t b a p) ∧ r = ([], 80))) := by
  intro a acc hab hz h0 h1
  refine EvP.succ (fun k => route_Path.l0.eq_2 _ _ _ _ _ _ k) (EvP.no hab (EvP.yes h0 (EvP.yes (by omega) (EvP.yes hz (EvP.ret (.inr ⟨fun p h => ?_, rfl⟩))))))
  cases h with
  | here => exact hab rfl
  | step _ h _ => exact h hz
 induction n with
 | zero =>
  intro a acc h0 h1 hq hl
  by_cases hab : a = b
  ·subst hab
   exact EvP.succ (fun k => route_Path.l0.eq_2 _ _ _ _ _ _ k) (EvP.yes rfl (EvP.ret (.inl ⟨[], .here, by simp⟩)))
  ·refine fin a acc hab (Classical.byContradiction fun hz => ?_) h0 h1
   obtain ⟨e, _, _, _, h4, h5⟩ := T.dev h0 h1 hz
   omega
 | succ n ih =>
  intro a acc h0 h1 hq hl
  by_cases hab : a = b
  ·subst hab
   exact EvP.succ (fun k => route_Path.l0.eq_2 _ _ _ _ _ _ k) (EvP.yes rfl (EvP.ret (.inl ⟨[], .here, by simp⟩)))
  ·by_cases hz : g t a = 0
   ·exact fin a acc hab hz h0 h1
   ·obtain ⟨e, he, hd, hf, h4, h5⟩ := T.dev h0 h1 hz
    have hE := F.ends e he
    refine EvP.succ (fun k => route_Path.l0.eq_2 _ _ _ _ _ _ k) (EvP.no hab (EvP.yes h0 (EvP.yes (by omega) (EvP.no (by rw [rd_g]; exact hz) (EvP.yes (by omega) ?_)))))
    have hw : wrap64 (rd t a - 1) = g t a - 1 := by rw [rd_g, hd]; unfold wrap64; omega
    have hs : g t a - 1 = (e : Int) := by rw [hd]; omega
    rw [hw, rd_g]
    refine EvP.yes (by omega) (EvP.yes (by omega) ((ih _ (acc ++ [g t a]) (by rw [hs]; exact hE.2.2.1) (by rw [hs]; exact hE.2.2.2) (by rw [hs]; omega) (by simp; omega)).mono (fun r hr => ?_)))
    rcases hr with ⟨p, hp, hr⟩ | ⟨hp, hr⟩
    ·exact .inl ⟨g t a :: p, .step hab hz hp, by rw [hr, List.append_assoc]; rfl⟩
    ·refine .inr ⟨fun p h => ?_, hr⟩
     cases h with
     | here => exact hab rfl
     | step _ _ h => exact hp _ h
theorem Out2_e (nodes : List S47) (edges : List S38) (a b : Int) : route_out.f nodes edges [a, b] = some (decide (a < 0) || decide (a ≥ (nodes.length : Int)) || (decide (b < 0) || decide (b ≥ (nodes.length : Int)))) := by
 unfold route_out.f
 simp
theorem Path_out (nodes : List S47) (edges : List S38) (mask : List Int) (a b : Int) (h : a < 0 ∨ (nodes.length : Int) ≤ a ∨ b < 0 ∨ (nodes.length : Int) ≤ b) : EvP (fun k => route_Path.f k nodes edges mask a b) (fun r => r = ([], 1)) := by
 refine EvP.obind (Out2_e nodes edges a b) ?_
 rw [show (decide (a < 0) || decide (a ≥ (nodes.length : Int)) || (decide (b < 0) || decide (b ≥ (nodes.length : Int)))) = true by simp; omega]
 exact EvP.yes rfl (EvP.ret rfl)
/-- The paths to b: one table serves them all. -/
theorem Path_e (nodes : List S47) (edges : List S38) (F : Fit nodes edges) (mask : List Int) (hl : mask.length ≤ 10000) (b : Int) (h0 : 0 ≤ b) (h1 : b < (nodes.length : Int)) :
  ∃ q t, LensTo nodes edges mask b q ∧ Tab nodes edges mask q t ∧ Evt (fun k => route_Table.f k nodes edges mask b) (t, 0) ∧ ∀ a : Int, 0 ≤ a → a < (nodes.length : Int) → EvP (fun k => route_Path.f k nodes edges mask a b) (fun r => (∃ p, Way edges t b a p ∧ r = (p, 0)) ∨ ((∀ p, ¬ Way edges t b a p) ∧ r = ([], 80))) := by
 have hn := F.n
 obtain ⟨q, hq, x, hx, hX⟩ := Table_e nodes edges F mask hl b h0 h1
 refine ⟨q, x.1, hq, hX.1, by rw [show (x.1, (0 : Int)) = x from by rw [← hX.2]]; exact hx, fun a ha0 ha1 => EvP.obind (Out2_e nodes edges a b) ?_⟩
 rw [show (decide (a < 0) || decide (a ≥ (nodes.length : Int)) || (decide (b < 0) || decide (b ≥ (nodes.length : Int)))) = false by simp; omega]
 have hhi := hq.hi a ha0 ha1
 refine EvP.no (by simp) (EvP.ebind hx ((Path_loop nodes edges F mask q x.1 hX.1 b nodes.length a [] ha0 ha1 hhi (by simp; omega)).mono (fun r hr => ?_)))
 simpa using hr
theorem Way.short {nodes : List S47} {edges : List S38} (F : Fit nodes edges) {mask q t : List Int} (T : Tab nodes edges mask q t) {b a : Int} {p : List Int} (h : Way edges t b a p) : 0 ≤ a → a < (nodes.length : Int) → g q b = 0 → (p.length : Int) = g q a := by
 induction h with
 | here => intro _ _ h; simp [h]
 | step h1 h2 h3 ih =>
  intro ha0 ha1 hb
  obtain ⟨e, he, hd, hf, h4, h5⟩ := T.dev ha0 ha1 h2
  have hE := F.ends e he
  have hs : ∀ z : Int, z = ((e + 1 : Nat) : Int) → z - 1 = (e : Int) := fun z h => by omega
  rw [hs _ hd] at ih
  have := ih hE.2.2.1 hE.2.2.2 hb
  simp only [List.length_cons]
  omega
theorem LensTo.back {nodes : List S47} {edges : List S38} {mask q : List Int} {b v : Int} (h : LensTo nodes edges mask b q) (h0 : 0 ≤ v) (h1 : v < (nodes.length : Int)) (hp : 0 < g q v) : ∃ d, Near nodes edges mask q v d := by
 obtain ⟨c, hc0, hc1, ⟨⟨i, hi, hm, hf, ht⟩, hk⟩, hq⟩ := h.ok.back v h0 h1 hp
 have hcp : 0 < g q c → Pass nodes c := by
  intro hp
  rcases hk with rfl | hk
  ·rw [h.ok.start] at hp; omega
  ·exact hk
 refine ⟨((i + 1 : Nat) : Int), ⟨i, hi, rfl, hf, ?_, ?_, ?_⟩, by simpa using hm⟩
 ·rw [ht]; omega
 ·rw [ht]; omega
 ·rw [ht]; exact hcp
theorem Way.ex {nodes : List S47} {edges : List S38} (F : Fit nodes edges) {mask q t : List Int} {b : Int} (hq : LensTo nodes edges mask b q) (T : Tab nodes edges mask q t) (n : Nat) : ∀ a : Int, 0 ≤ a → a < (nodes.length : Int) → g q a = (n : Int) → ∃ p, Way edges t b a p := by
 induction n with
 | zero =>
  intro a h0 h1 h
  obtain rfl := hq.ok.only a h0 h1 h
  exact ⟨[], .here⟩
 | succ n ih =>
  intro a h0 h1 h
  have hab : a ≠ b := by
   rintro rfl
   rw [hq.ok.start] at h
   omega
  have hz : g t a ≠ 0 := by
   intro hz
   obtain ⟨d, hd⟩ := hq.back h0 h1 (by omega)
   rcases T.ok a h0 h1 with h | h
   ·exact h.2 d hd
   ·obtain ⟨e, _, h2, _⟩ := h.1.off
    omega
  obtain ⟨e, he, hd, hf, h4, h5⟩ := T.dev h0 h1 hz
  have hE := F.ends e he
  obtain ⟨p, hp⟩ := ih _ hE.2.2.1 hE.2.2.2 (by omega)
  have hs : g t a - 1 = (e : Int) := by omega
  exact ⟨g t a :: p, .step hab hz (by rw [hs]; exact hp)⟩
theorem Open_loop (mask : List Int) (d : Int) (hm : mask.length ≤ 100000) (n : Nat) : ∀ i : Nat, i + n = mask.length → EvP (fun k => stillageref07_Open.l0 k mask d (mask.length : Int) (i : Int)) (fun r => r = true ↔ ¬ d ∈ mask.drop i) := by
 induction n with
 | zero =>
  intro i hi
  refine EvP.succ (fun k => stillageref07_Open.l0.eq_2 _ _ _ _ k) (EvP.no (by omega) (EvP.ret ?_))
  rw [List.drop_eq_nil_of_le (by omega)]
  simp
 | succ n ih =>
  intro i hi
  have h1 : i < mask.length := by omega
  have e1 : rd mask (i : Int) = mask[i] := by simp [rd, List.getElem?_eq_getElem h1]
  refine EvP.succ (fun k => stillageref07_Open.l0.eq_2 _ _ _ _ k) (EvP.yes (by omega) (EvP.yes (by omega) (EvP.yes (by omega) (EvP.split (fun c => EvP.ret ?_) (fun c => ?_)))))
  ·rw [List.drop_eq_getElem_cons h1, ← c, e1]
   constructor
   ·intro h; cases h
   ·intro h; exact absurd List.mem_cons_self h
  ·rw [wnext i (by omega)]
   refine (ih (i + 1) (by omega)).mono (fun r h => ?_)
   rw [h, List.drop_eq_getElem_cons h1, List.mem_cons]
   rw [e1] at c
   have : ¬ d = mask[i] := fun e => c e.symm
   simp only [this, false_or]
theorem Open_e (mask : List Int) (d : Int) (hm : mask.length ≤ 100000) : EvP (fun k => stillageref07_Open.f k mask d) (fun r => r = true ↔ ¬ d ∈ mask) := Open_loop mask d hm mask.length 0 (by omega)
abbrev EdM (nodes : List S47) (edges : List S38) (mask : List Int) (s : Int) (a b : Int) : Prop := EdgeM edges mask a b ∧ (a = s ∨ Pass nodes a)
theorem btw_l2 (nodes : List S47) (edges : List S38) (F : Fit nodes edges) (mask : List Int) (hl : mask.length ≤ 10000) (s : Int) (M : Nat)
  (next : ∀ r : List Int, meas r < M → Inr nodes.length s (EdM nodes edges mask s) r → EvP (fun k => stillageref07_Between.l1 k mask s r true nodes edges) (Lens nodes edges mask s)) (n : Nat) :
  ∀ (i : Nat) (r : List Int) (ch : Bool), i + n = edges.length → Inr nodes.length s (EdM nodes edges mask s) r → meas r < M + 1 → (ch = true → meas r < M) →
   (ch = false → ∀ j : Nat, j < i → ¬ ((j : Int) + 1) ∈ mask → ((rd_T38 edges j).f0 = s ∨ Pass nodes (rd_T38 edges j).f0) → 0 ≤ g r (rd_T38 edges j).f0 → 0 ≤ g r (rd_T38 edges j).f1 ∧ g r (rd_T38 edges j).f1 ≤ g r (rd_T38 edges j).f0 + 1) →
   EvP (fun k => stillageref07_Between.l2 k mask s r ch (edges.length : Int) (i : Int) nodes edges) (Lens nodes edges mask s) := by
 have hm := F.m
 have hn := F.n
 induction n with
 | zero =>
  intro i r ch hi hI h1 h2 h3
  refine EvP.succ (fun k => stillageref07_Between.l2.eq_2 _ _ _ _ _ _ _ _ k) (EvP.no (by omega) ?_)
  cases ch with
  | true => exact next r (h2 rfl) hI
  | false =>
   refine EvP.succ (fun k => stillageref07_Between.l1.eq_2 _ _ _ _ _ _ k) (EvP.no (by simp) (EvP.ret ⟨hI.len, hI.good (fun a b e ha => ?_), fun v h0 h1 => by have := hI.hi v h0 h1; omega⟩))
   obtain ⟨⟨j, j1, j2, rfl, rfl⟩, j3⟩ := e
   exact h3 rfl j (by omega) j2 j3 ha
 | succ n ih =>
  intro i r ch hi hI h1 h2 h3
  have E := F.ends i (by omega)
  have hlen := hI.len
  have hw := wnext i (by omega)
  have q0 : (0 : Int) ≤ (i : Int) := Int.natCast_nonneg i
  have q1 : (i : Int) < (edges.length : Int) := by clear h1 h2 h3; omega
  have q2 : (rd_T38 edges (i : Int)).f0 < (r.length : Int) := by clear h1 h2 h3; omega
  have q3 : (rd_T38 edges (i : Int)).f1 < (r.length : Int) := by clear h1 h2 h3; omega
  have skip : (ch = false → ¬ ((i : Int) + 1) ∈ mask → ((rd_T38 edges i).f0 = s ∨ Pass nodes (rd_T38 edges i).f0) → 0 ≤ g r (rd_T38 edges i).f0 → 0 ≤ g r (rd_T38 edges i).f1 ∧ g r (rd_T38 edges i).f1 ≤ g r (rd_T38 edges i).f0 + 1) →
    EvP (fun k => stillageref07_Between.l2 k mask s r ch (edges.length : Int) (wrap64 ((i : Int) + 1)) nodes edges) (Lens nodes edges mask s) := by
   intro hs
   rw [hw]
   refine ih (i + 1) r ch (by omega) hI h1 h2 (fun hc j hj => ?_)
   by_cases e : j = i
   ·subst e
    exact hs hc
   ·exact h3 hc j (Nat.lt_of_le_of_ne (Nat.le_of_lt_succ hj) e)
  have bad : (¬ (¬ ((i : Int) + 1) ∈ mask ∧ ((rd_T38 edges i).f0 = s ∨ Pass nodes (rd_T38 edges i).f0) ∧ 0 ≤ g r (rd_T38 edges i).f0)) → EvP (fun k => stillageref07_Between.j3 k mask s r ch (rd_T38 edges (i : Int)).f0 (rd_T38 edges (i : Int)).f1 (edges.length : Int) (i : Int) true nodes edges) (Lens nodes edges mask s) := by
   intro hb
   exact EvP.succ (fun k => stillageref07_Between.j3.eq_2 _ _ _ _ _ _ _ _ _ _ _ k) (EvP.yes rfl (skip (fun _ a b c => absurd ⟨a, b, c⟩ hb)))
  have good : ¬ ((i : Int) + 1) ∈ mask → ((rd_T38 edges i).f0 = s ∨ Pass nodes (rd_T38 edges i).f0) → 0 ≤ g r (rd_T38 edges i).f0 → EvP (fun k => stillageref07_Between.j3 k mask s r ch (rd_T38 edges (i : Int)).f0 (rd_T38 edges (i : Int)).f1 (edges.length : Int) (i : Int) false nodes edges) (Lens nodes edges mask s) := by
   intro g1 g2 g3
   have hEd : EdM nodes edges mask s (rd_T38 edges i).f0 (rd_T38 edges i).f1 := ⟨⟨i, by omega, g1, rfl, rfl⟩, g2⟩
   have hub := hI.hi (rd_T38 edges i).f0 E.1 E.2.1
   have hwr : wrap64 (rd r (rd_T38 edges (i : Int)).f0 + 1) = g r (rd_T38 edges i).f0 + 1 := by rw [rd_g, wsm] <;> omega
   have put : (g r (rd_T38 edges i).f1 < 0 ∨ g r (rd_T38 edges i).f0 + 1 < g r (rd_T38 edges i).f1) → EvP (fun k => stillageref07_Between.l2 k mask s (r.set ((rd_T38 edges (i : Int)).f1).toNat (g r (rd_T38 edges i).f0 + 1)) true (edges.length : Int) (wrap64 ((i : Int) + 1)) nodes edges) (Lens nodes edges mask s) := by
    intro hb
    obtain ⟨s1, s2⟩ := hI.set hEd E.1 E.2.1 E.2.2.1 E.2.2.2 g3 hb (by omega)
    rw [hw]
    exact ih (i + 1) _ true (by omega) s1 (by omega) (fun _ => by omega) (fun h => by cases h)
   refine EvP.succ (fun k => stillageref07_Between.j3.eq_2 _ _ _ _ _ _ _ _ _ _ _ k) (EvP.no (by simp) (EvP.yes E.2.2.1 (EvP.yes q3 ?_)))
   rw [hwr]
   exact EvP.split (fun c => EvP.yes E.1 (EvP.yes q2 (put (.inl c)))) (fun c => EvP.yes E.1 (EvP.yes q2 (EvP.split (fun c2 => put (.inr c2)) (fun c2 => skip (fun _ _ _ _ => by rw [rd_g] at c c2; omega)))))
  have op : ((rd_T38 edges i).f0 = s ∨ Pass nodes (rd_T38 edges i).f0) → 0 ≤ g r (rd_T38 edges i).f0 → ∀ t : Bool, (t = true ↔ ¬ ((i : Int) + 1) ∈ mask) → EvP (fun k => stillageref07_Between.j3 k mask s r ch (rd_T38 edges (i : Int)).f0 (rd_T38 edges (i : Int)).f1 (edges.length : Int) (i : Int) (!t) nodes edges) (Lens nodes edges mask s) := by
   intro g2 g3 t ht
   cases t with
   | true => exact good (ht.1 rfl) g2 g3
   | false =>
    refine bad (fun h => ?_)
    have := ht.2 h.1
    cases this
  have hop : EvP (fun k => stillageref07_Open.f k mask (wrap64 ((i : Int) + 1))) (fun t => t = true ↔ ¬ ((i : Int) + 1) ∈ mask) := by
   rw [show wrap64 ((i : Int) + 1) = (i : Int) + 1 by rw [hw]; omega]
   exact Open_e mask _ (by omega)
  refine EvP.succ (fun k => stillageref07_Between.l2.eq_2 _ _ _ _ _ _ _ _ k) (EvP.yes q1 (EvP.yes q0 (EvP.yes q1 (EvP.yes E.1 (EvP.yes q2 (EvP.split (fun c => bad (fun h => ?_)) (fun c => EvP.split (fun c1 => EvP.bind hop (fun t ht => op (.inl c1) (by rw [rd_g] at c; omega) t ht)) (fun c1 => EvP.yes E.2.1 (EvP.split (fun c2 => EvP.bind hop (fun t ht => op (.inr c2) (by rw [rd_g] at c; omega) t ht)) (fun c2 => bad (fun h => ?_)))))))))))
  ·rw [rd_g] at c
   omega
  ·exact h.2.1.elim c1 c2
theorem btw_l1 (nodes : List S47) (edges : List S38) (F : Fit nodes edges) (mask : List Int) (hl : mask.length ≤ 10000) (s : Int) (M : Nat) : ∀ r : List Int, meas r < M → Inr nodes.length s (EdM nodes edges mask s) r →
  EvP (fun k => stillageref07_Between.l1 k mask s r true nodes edges) (Lens nodes edges mask s) := by
 induction M with
 | zero => intro r h; omega
 | succ M ih =>
  intro r h hI
  exact EvP.succ (fun k => stillageref07_Between.l1.eq_2 _ _ _ _ _ _ k) (EvP.yes rfl (btw_l2 nodes edges F mask hl s M ih edges.length 0 r false (by omega) hI (by omega) (fun h => by cases h) (fun _ j hj => by omega)))
theorem btw_l0 (nodes : List S47) (edges : List S38) (F : Fit nodes edges) (mask : List Int) (hl : mask.length ≤ 10000) (s : Int) (h0 : 0 ≤ s) (h1 : s < (nodes.length : Int)) (n : Nat) : ∀ i : Nat, i + n = nodes.length →
  EvP (fun k => stillageref07_Between.l0 k mask s (List.replicate i (-1) ++ List.replicate n 0) (nodes.length : Int) (i : Int) nodes edges) (Lens nodes edges mask s) := by
 have hn := F.n
 induction n with
 | zero =>
  intro i hi
  obtain rfl : i = nodes.length := by omega
  refine EvP.succ (fun k => stillageref07_Between.l0.eq_2 _ _ _ _ _ _ _ k) (EvP.no (by omega) (EvP.yes h0 (EvP.yes (by simp; omega) ?_)))
  rw [List.replicate_zero, List.append_nil]
  exact btw_l1 nodes edges F mask hl s (meas ((List.replicate nodes.length (-1 : Int)).set s.toNat 0) + 1) _ (Nat.lt_succ_self _) (Inr.init h0 h1)
 | succ n ih =>
  intro i hi
  refine EvP.succ (fun k => stillageref07_Between.l0.eq_2 _ _ _ _ _ _ _ k) (EvP.yes (by omega) (EvP.yes (by omega) (EvP.yes (by simp; omega) ?_)))
  rw [wnext i (by omega)]
  have e : (List.replicate i (-1 : Int) ++ List.replicate (n + 1) 0).set ((i : Int)).toNat (-1) = List.replicate (i + 1) (-1) ++ List.replicate n 0 := by
   rw [show ((i : Int)).toNat = i by omega, List.set_append_right _ _ (by simp), List.length_replicate, Nat.sub_self, List.replicate_succ (n := n), List.set_cons_zero, List.replicate_succ' (n := i), List.append_assoc]
   rfl
  rw [e]
  exact ih (i + 1) (by omega)
theorem Between_e (nodes : List S47) (edges : List S38) (F : Fit nodes edges) (mask : List Int) (hl : mask.length ≤ 10000) (s : Int) (h0 : 0 ≤ s) (h1 : s < (nodes.length : Int)) : EvP (fun k => stillageref07_Between.f k nodes edges mask s) (Lens nodes edges mask s) := by
 have hn := F.n
 refine EvP.yes (by omega) (EvP.yes (by omega) (EvP.ebind (Evt.pure _) ?_))
 rw [show (((nodes.length : Int)) : Int).toNat = nodes.length by omega, List.length_replicate]
 exact btw_l0 nodes edges F mask hl s h0 h1 nodes.length 0 (by omega)
/-- The devices that lead to a full place that isn't the end. -/
def clo (edges : List S38) (b : Int) (full : List Int) (i : Nat) : Nat → List Int
 | 0 => []
 | n + 1 => if (rd_T38 edges (i : Int)).f1 = b then clo edges b full (i + 1) n else if (rd_T38 edges (i : Int)).f1 ∈ full then ((i + 1 : Nat) : Int) :: clo edges b full (i + 1) n else clo edges b full (i + 1) n
theorem clo_length (edges : List S38) (b : Int) (full : List Int) (n : Nat) : ∀ i, (clo edges b full i n).length ≤ n := by
 induction n with
 | zero => intro i; simp [clo]
 | succ n ih =>
  intro i
  have := ih (i + 1)
  rw [clo]
  split
  ·omega
  ·split
   ·simp only [List.length_cons]; omega
   ·omega
theorem mem_clo (edges : List S38) (b : Int) (full : List Int) (e : Nat) (h1 : (rd_T38 edges (e : Int)).f1 ≠ b) (h2 : (rd_T38 edges (e : Int)).f1 ∈ full) (n : Nat) : ∀ i, i ≤ e → e < i + n → ((e + 1 : Nat) : Int) ∈ clo edges b full i n := by
 induction n with
 | zero => intro i h3 h4; omega
 | succ n ih =>
  intro i h3 h4
  rw [clo]
  by_cases h : i = e
  ·subst h
   rw [if_neg h1, if_pos h2]
   exact List.mem_cons_self
  ·have := ih (i + 1) (by omega) (by omega)
   split
   ·exact this
   ·split
    ·exact List.mem_cons_of_mem _ this
    ·exact this
theorem clo_nil (edges : List S38) (b : Int) (n : Nat) : ∀ i, clo edges b [] i n = [] := by
 induction n with
 | zero => intro i; rfl
 | succ n ih =>
  intro i
  rw [clo, ih]
  simp
theorem Around_loop (nodes : List S47) (edges : List S38) (hm : edges.length ≤ 1000) (a b : Int) (full : List Int) (hf : full.length ≤ 100000) (P : List Int × Int → Prop) (n : Nat) : ∀ (i : Nat) (acc : List Int), i + n = edges.length → acc.length + n ≤ 100000 → EvP (fun k => route_Path.f k nodes edges (acc ++ clo edges b full i n) a b) P →
  EvP (fun k => route_Around.l0 k a b full acc edges (edges.length : Int) (i : Int) nodes edges) P := by
 induction n with
 | zero =>
  intro i acc hi hl hP
  rw [clo, List.append_nil] at hP
  exact EvP.succ (fun k => route_Around.l0.eq_2 _ _ _ _ _ _ _ _ _ k) (EvP.no (by omega) (EvP.bind hP (fun r h => EvP.ret h)))
 | succ n ih =>
  intro i acc hi hl hP
  refine EvP.succ (fun k => route_Around.l0.eq_2 _ _ _ _ _ _ _ _ _ k) (EvP.yes (by omega) (EvP.yes (by omega) (EvP.yes (by omega) ?_)))
  rw [wnext i (by omega)]
  rw [clo] at hP
  refine EvP.split (fun c => ?_) (fun c => EvP.bind (Contains_e full _ hf) (fun t ht => EvP.split (fun c2 => EvP.yes (by omega) ?_) (fun c2 => ?_)))
  ·rw [if_pos c] at hP
   exact ih (i + 1) acc (by omega) (by omega) hP
  ·rw [if_neg c, if_pos (ht.1 c2)] at hP
   refine ih (i + 1) _ (by omega) (by simp; omega) ?_
   rw [List.append_assoc]
   exact hP
  ·rw [if_neg c, if_neg (fun h => c2 (ht.2 h))] at hP
   exact ih (i + 1) acc (by omega) (by omega) hP
theorem Around_e (nodes : List S47) (edges : List S38) (hm : edges.length ≤ 1000) (mask : List Int) (hl : mask.length ≤ 10000) (a b : Int) (ha0 : 0 ≤ a) (ha1 : a < (nodes.length : Int)) (hb0 : 0 ≤ b) (hb1 : b < (nodes.length : Int)) (full : List Int) (hf : full.length ≤ 100000) (P : List Int × Int → Prop)
  (hP : EvP (fun k => route_Path.f k nodes edges (mask ++ clo edges b full 0 edges.length) a b) P) : EvP (fun k => route_Around.f k nodes edges mask a b full) P := by
 refine EvP.obind (Out2_e nodes edges a b) ?_
 rw [show (decide (a < 0) || decide (a ≥ (nodes.length : Int)) || (decide (b < 0) || decide (b ≥ (nodes.length : Int)))) = false by simp; omega]
 refine EvP.no (by simp) (EvP.obind (a := mask) (by unfold slices_Clone_int_int.f; rw [if_pos (by omega)]) ?_)
 exact Around_loop nodes edges hm a b full hf P edges.length 0 mask (by omega) (by omega) hP
theorem clo_mem (edges : List S38) (b : Int) (full : List Int) (n : Nat) : ∀ (i : Nat) (x : Int), x ∈ clo edges b full i n → ∃ e : Nat, x = ((e + 1 : Nat) : Int) ∧ (rd_T38 edges (e : Int)).f1 ≠ b ∧ (rd_T38 edges (e : Int)).f1 ∈ full := by
 induction n with
 | zero => intro i x h; simp [clo] at h
 | succ n ih =>
  intro i x h
  rw [clo] at h
  split at h
  ·exact ih _ _ h
  ·split at h
   ·rename_i h1 h2
    rcases List.mem_cons.1 h with rfl | h
    ·exact ⟨i, rfl, h1, h2⟩
    ·exact ih _ _ h
   ·exact ih _ _ h
theorem clo_iff (edges : List S38) (b : Int) (full : List Int) (mask : List Int) {e : Nat} (he : e < edges.length) : ((e + 1 : Nat) : Int) ∈ mask ++ clo edges b full 0 edges.length ↔ ((e + 1 : Nat) : Int) ∈ mask ∨ ((rd_T38 edges (e : Int)).f1 ≠ b ∧ (rd_T38 edges (e : Int)).f1 ∈ full) := by
 rw [List.mem_append]
 constructor
 ·rintro (h | h)
  ·exact .inl h
  ·obtain ⟨e', h1, h2, h3⟩ := clo_mem edges b full _ _ _ h
   obtain rfl : e = e' := by omega
   exact .inr ⟨h2, h3⟩
 ·rintro (h | h)
  ·exact .inl h
  ·exact .inr (mem_clo edges b full e h.1 h.2 edges.length 0 (by omega) (by omega))
theorem Out1_e (nodes : List S47) (edges : List S38) (a : Int) : route_out.f nodes edges [a] = some (decide (a < 0) || decide (a ≥ (nodes.length : Int))) := by
 unfold route_out.f
 simp
theorem Concat2_e (x p : List Int) (hx : x.length ≤ 1000) (hp : p.length ≤ 1000) : EvP (fun k => slices_Concat_int_int.f k [x, p]) (fun r => r = x ++ p) := by
 have r0 : rd_L5 [x, p] 0 = x := rfl
 have r1 : rd_L5 [x, p] 1 = p := rfl
 have w0 : wrap64 (0 + (x.length : Int)) = (x.length : Int) := by rw [wsm] <;> omega
 have w1 : wrap64 ((x.length : Int) + (p.length : Int)) = (x.length : Int) + (p.length : Int) := by rw [wsm] <;> omega
 have wa : wrap64 (0 + 1) = 1 := by unfold wrap64; omega
 have wb : wrap64 (1 + 1) = 2 := by unfold wrap64; omega
 have step1 : EvP (fun k => slices_Concat_int_int.l1 k [] [x, p] 2 0) (fun r => r = x ++ p) := by
  refine EvP.succ (fun k => slices_Concat_int_int.l1.eq_2 _ _ _ _ k) (EvP.yes (by decide) (EvP.yes (by decide) (EvP.yes (by simp) ?_)))
  rw [r0, wa, List.nil_append]
  refine EvP.yes (by simp; omega) (EvP.succ (fun k => slices_Concat_int_int.l1.eq_2 _ _ _ _ k) (EvP.yes (by decide) (EvP.yes (by decide) (EvP.yes (by simp) ?_))))
  rw [r1, wb]
  exact EvP.yes (by omega) (EvP.succ (fun k => slices_Concat_int_int.l1.eq_2 _ _ _ _ k) (EvP.no (by decide) (EvP.ret rfl)))
 refine EvP.succ (fun k => slices_Concat_int_int.l0.eq_2 _ _ _ _ _ k) (EvP.yes (by simp) (EvP.yes (by decide) (EvP.yes (by simp) ?_)))
 rw [r0, w0, wa]
 refine EvP.no (by omega) (EvP.succ (fun k => slices_Concat_int_int.l0.eq_2 _ _ _ _ _ k) (EvP.yes (by simp) (EvP.yes (by decide) (EvP.yes (by simp) ?_))))
 rw [r1, w1, wb]
 refine EvP.no (by omega) (EvP.succ (fun k => slices_Concat_int_int.l0.eq_2 _ _ _ _ _ k) (EvP.no (by simp) (EvP.obind (a := []) (by unfold slices_Grow_int_int.f; rw [if_pos (by omega)]) ?_)))
 exact step1
/-- An edge by which a loop may begin. -/
structure Cand (nodes : List S47) (edges : List S38) (mask q : List Int) (v : Int) (e : Nat) : Prop where
 lt : e < edges.length
 op : ¬ ((e + 1 : Nat) : Int) ∈ mask
 off : (rd_T38 edges (e : Int)).f0 = v
 track : Pass nodes (rd_T38 edges (e : Int)).f1
 far : 0 ≤ g q (rd_T38 edges (e : Int)).f1
/-- The best of the edges that are asked. -/
def Best (nodes : List S47) (edges : List S38) (mask q : List Int) (v : Int) (A : Nat → Prop) (d : Int) : Prop :=
 (d = 0 ∧ ∀ e, A e → ¬ Cand nodes edges mask q v e) ∨ ∃ e : Nat, d = ((e + 1 : Nat) : Int) ∧ A e ∧ Cand nodes edges mask q v e ∧ ∀ e', A e' → Cand nodes edges mask q v e' → g q (rd_T38 edges (e : Int)).f1 ≤ g q (rd_T38 edges (e' : Int)).f1 ∧ (g q (rd_T38 edges (e : Int)).f1 = g q (rd_T38 edges (e' : Int)).f1 → e ≤ e')
theorem Best.skip {nodes : List S47} {edges : List S38} {mask q : List Int} {v : Int} {A B : Nat → Prop} {d : Int} (h : Best nodes edges mask q v A d) {e0 : Nat} (hB : ∀ e, B e → A e ∨ e = e0) (hA : ∀ e, A e → B e) (hn : ¬ Cand nodes edges mask q v e0) : Best nodes edges mask q v B d := by
 rcases h with ⟨h1, h2⟩ | ⟨e, h1, hAe, h2, h3⟩
 ·refine .inl ⟨h1, fun e he => ?_⟩
  rcases hB e he with h | rfl
  ·exact h2 e h
  ·exact hn
 ·refine .inr ⟨e, h1, hA e hAe, h2, fun e' he' hc => ?_⟩
  rcases hB e' he' with h | rfl
  ·exact h3 e' h hc
  ·exact absurd hc hn
theorem Loop_l0 (nodes : List S47) (edges : List S38) (F : Fit nodes edges) (mask q : List Int) (hl : mask.length ≤ 10000) (hq : q.length = nodes.length) (v : Int) (ds : List Int) (hds : ds.length ≤ 1000) (ho : ∀ x ∈ ds, OffP edges v x) (hp : ds.Pairwise (· < ·)) (P : List Int × Int → Prop)
  (fin : ∀ best, Best nodes edges mask q v (fun e => ((e + 1 : Nat) : Int) ∈ ds) best → EvP (fun k => if best = 0 then some (([] : List Int), (80 : Int)) else if 0 ≤ wrap64 (best - 1) then (if wrap64 (best - 1) < (edges.length : Int) then (route_Path.f k nodes edges mask (rd_T38 edges (wrap64 (best - 1))).f1 v).bind fun bt264 => (slices_Concat_int_int.f k [[best], bt264.1]).bind fun t274 => some (t274, bt264.2) else none) else none) P) (n : Nat) :
  ∀ (i : Nat) (best : Int), i + n = ds.length → Best nodes edges mask q v (fun e => ((e + 1 : Nat) : Int) ∈ ds.take i) best → EvP (fun k => route_Loop.l0 k mask v q best ds (ds.length : Int) (i : Int) nodes edges) P := by
 have hm := F.m
 induction n with
 | zero =>
  intro i best hi hb
  rw [List.take_of_length_le (by omega)] at hb
  exact EvP.succ (fun k => route_Loop.l0.eq_2 _ _ _ _ _ _ _ _ _ k) (EvP.no (by omega) (fin best hb))
 | succ n ih =>
  intro i best hi hb
  have hil : i < ds.length := by omega
  have hrd : rd ds (i : Int) = ds[i] := by simp [rd, List.getElem?_eq_getElem hil]
  obtain ⟨e, he, hd, hf⟩ := ho ds[i] (List.getElem_mem hil)
  have hE := F.ends e he
  have hB : ∀ e', ((e' + 1 : Nat) : Int) ∈ ds.take (i + 1) → ((e' + 1 : Nat) : Int) ∈ ds.take i ∨ e' = e := by
   intro e' h
   rw [List.take_succ_eq_append_getElem hil, hd] at h
   rcases List.mem_append.1 h with h | h
   ·exact .inl h
   ·right
    have := List.mem_singleton.1 h
    omega
  have hA : ∀ e', ((e' + 1 : Nat) : Int) ∈ ds.take i → ((e' + 1 : Nat) : Int) ∈ ds.take (i + 1) := by
   intro e' h
   rw [List.take_succ_eq_append_getElem hil]
   exact List.mem_append_left _ h
  have hme : ((e + 1 : Nat) : Int) ∈ ds.take (i + 1) := by
   rw [List.take_succ_eq_append_getElem hil, hd]
   exact List.mem_append_right _ (List.mem_singleton.2 rfl)
  have hlt : ∀ e', ((e' + 1 : Nat) : Int) ∈ ds.take i → e' < e := by
   intro e' h
   have h2 : (ds.take (i + 1)).Pairwise (· < ·) := hp.sublist (List.take_sublist _ _)
   rw [List.take_succ_eq_append_getElem hil, hd, List.pairwise_append] at h2
   have := h2.2.2 _ h _ (List.mem_singleton.2 rfl)
   omega
  rw [hd] at hrd
  have skip : ¬ Cand nodes edges mask q v e → EvP (fun k => route_Loop.l0 k mask v q best ds (ds.length : Int) (wrap64 ((i : Int) + 1)) nodes edges) P := by
   intro hn
   rw [wnext i (by omega)]
   exact ih (i + 1) best (by omega) (hb.skip hB hA hn)
  have skipj : ¬ Cand nodes edges mask q v e → EvP (fun k => route_Loop.j1 k mask v q best ((e + 1 : Nat) : Int) (rd_T38 edges (e : Int)).f1 ds (ds.length : Int) (i : Int) true nodes edges) P := fun hn =>
   EvP.succ (fun k => route_Loop.j1.eq_2 _ _ _ _ _ _ _ _ _ _ _ _ k) (EvP.yes rfl (skip hn))
  refine EvP.succ (fun k => route_Loop.l0.eq_2 _ _ _ _ _ _ _ _ _ k) (EvP.yes (by omega) (EvP.yes (by omega) (EvP.yes (by omega) ?_)))
  rw [hrd, show wrap64 (((e + 1 : Nat) : Int) - 1) = (e : Int) by rw [wsm] <;> omega]
  refine EvP.yes (by omega) (EvP.yes (by omega) (EvP.bind (Contains_e mask _ (by omega)) (fun t ht => EvP.split (fun c => skipj (fun h => h.op (ht.1 c))) (fun c => EvP.yes hE.2.2.1 (EvP.yes (by omega) (EvP.split (fun c1 => skipj (fun h => by have := h.far; rw [rd_g] at c1; omega)) (fun c1 => EvP.yes hE.2.2.2 ?_)))))))
  by_cases ck : (rd_T47 nodes (rd_T38 edges (e : Int)).f1).f1 = 1
  ·rw [show ((rd_T47 nodes (rd_T38 edges (e : Int)).f1).f1 != 1) = false from by simpa using ck]
   rw [rd_g] at c1
   have hC : Cand nodes edges mask q v e := ⟨he, fun h => c (ht.2 h), hf, ck, by omega⟩
   refine EvP.succ (fun k => route_Loop.j1.eq_2 _ _ _ _ _ _ _ _ _ _ _ _ k) (EvP.no (by simp) ?_)
   rw [wnext i (by omega)]
   rcases hb with ⟨h1, h2⟩ | ⟨e1, h1, hA1, h2, h3⟩
   ·refine EvP.yes h1 (ih (i + 1) _ (by omega) (.inr ⟨e, rfl, hme, hC, fun e' he' hc => ?_⟩))
    rcases hB e' he' with h | rfl
    ·exact absurd hc (h2 e' h)
    ·exact ⟨Int.le_refl _, fun _ => Nat.le_refl _⟩
   ·have hE1 := F.ends e1 h2.lt
    subst h1
    rw [show wrap64 (((e1 + 1 : Nat) : Int) - 1) = (e1 : Int) by have := h2.lt; rw [wsm] <;> omega]
    refine EvP.no (by omega) (EvP.yes hE.2.2.1 (EvP.yes (by omega) (EvP.yes (by omega) (EvP.yes (by have := h2.lt; omega) (EvP.yes hE1.2.2.1 (EvP.yes (by omega) (EvP.split (fun c3 => ?_) (fun c3 => ?_))))))))
    ·rw [rd_g, rd_g] at c3
     refine ih (i + 1) _ (by omega) (.inr ⟨e, rfl, hme, hC, fun e' he' hc => ?_⟩)
     rcases hB e' he' with h | rfl
     ·have := (h3 e' h hc).1
      exact ⟨by omega, fun h => by omega⟩
     ·exact ⟨Int.le_refl _, fun _ => Nat.le_refl _⟩
    ·rw [rd_g, rd_g] at c3
     refine ih (i + 1) _ (by omega) (.inr ⟨e1, rfl, hA _ hA1, h2, fun e' he' hc => ?_⟩)
     rcases hB e' he' with h | rfl
     ·exact h3 e' h hc
     ·exact ⟨by omega, fun _ => Nat.le_of_lt (hlt e1 hA1)⟩
  ·rw [show ((rd_T47 nodes (rd_T38 edges (e : Int)).f1).f1 != 1) = true from by simpa using ck]
   exact skipj (fun h => ck h.track)
/-- The loop from v. -/
theorem Loop_e (nodes : List S47) (edges : List S38) (F : Fit nodes edges) (mask : List Int) (hl : mask.length ≤ 10000) (v : Int) (h0 : 0 ≤ v) (h1 : v < (nodes.length : Int)) {q t : List Int} (hq : LensTo nodes edges mask v q) (T : Tab nodes edges mask q t)
  (hP : ∀ a : Int, 0 ≤ a → a < (nodes.length : Int) → EvP (fun k => route_Path.f k nodes edges mask a v) (fun r => (∃ p, Way edges t v a p ∧ r = (p, 0)) ∨ ((∀ p, ¬ Way edges t v a p) ∧ r = ([], 80)))) :
  EvP (fun k => route_Loop.f k nodes edges mask v) (fun r => ((∀ e, ¬ Cand nodes edges mask q v e) ∧ r = ([], 80)) ∨ ∃ e : Nat, Cand nodes edges mask q v e ∧ (∀ e', Cand nodes edges mask q v e' → g q (rd_T38 edges (e : Int)).f1 ≤ g q (rd_T38 edges (e' : Int)).f1 ∧ (g q (rd_T38 edges (e : Int)).f1 = g q (rd_T38 edges (e' : Int)).f1 → e ≤ e')) ∧ ∃ p, Way edges t v (rd_T38 edges (e : Int)).f1 p ∧ r = (((e + 1 : Nat) : Int) :: p, 0)) := by
 have hn := F.n
 have hm := F.m
 refine EvP.obind (Out1_e nodes edges v) ?_
 rw [decide_eq_false (show ¬ v < 0 by omega), decide_eq_false (show ¬ v ≥ (nodes.length : Int) by omega)]
 refine EvP.no (by simp) (EvP.bind (To_e nodes edges F mask hl v h0 h1) (fun far hfar => EvP.bind (EvP_and (Out_e nodes edges (by omega) v h0 h1) (Out_sorted nodes edges (by omega) v h0 h1 edges.length 0 [] (by omega) (by simp) (by simp) (by simp))) (fun ds hh => ?_)))
 obtain ⟨hds, hp⟩ := hh
 rw [hfar.1.eq hq]
 refine Loop_l0 nodes edges F mask q hl hq.len v ds (by omega) (fun x hx => (hds.2 x).1 hx) hp _ (fun best hb => ?_) ds.length 0 0 (by omega) (.inl ⟨rfl, fun e he => by simp at he⟩)
 have all : ∀ e, Cand nodes edges mask q v e → ((e + 1 : Nat) : Int) ∈ ds := fun e h => (hds.2 _).2 ⟨e, h.lt, rfl, h.off⟩
 rcases hb with ⟨rfl, h2⟩ | ⟨e, rfl, _, hC, h3⟩
 ·exact EvP.yes rfl (EvP.ret (.inl ⟨fun e h => h2 e (all e h) h, rfl⟩))
 ·have hE := F.ends e hC.lt
  have hlt := hC.lt
  rw [show wrap64 (((e + 1 : Nat) : Int) - 1) = (e : Int) by rw [wsm] <;> omega]
  obtain ⟨p0, hp0⟩ := Way.ex F hq T (g q (rd_T38 edges (e : Int)).f1).toNat _ hE.2.2.1 hE.2.2.2 (by have := hC.far; omega)
  have hlen := hp0.short F T hE.2.2.1 hE.2.2.2 hq.ok.start
  have hhi := hq.hi _ hE.2.2.1 hE.2.2.2
  refine EvP.no (by omega) (EvP.yes (by omega) (EvP.yes (by omega) (EvP.bind (hP _ hE.2.2.1 hE.2.2.2) (fun r hr => ?_))))
  rcases hr with ⟨p, w, rfl⟩ | ⟨w, _⟩
  ·obtain rfl := w.eq hp0
   refine EvP.bind (Concat2_e [((e + 1 : Nat) : Int)] p (by simp) (by omega)) (fun c hc => EvP.ret (.inr ⟨e, hC, fun e' h => h3 e' (all e' h) h, p, w, ?_⟩))
   rw [hc]
   rfl
  ·exact absurd hp0 (w p0)

theorem has_e (l : List Int) (x : Int) (hl : l.length ≤ 100000) : EvP (fun k => stillageref08_has.f k l x) (fun r => r = true ↔ x ∈ l) := by
 refine EvP.eq (fun k => by rw [stillageref08_has.f]) ?_
 suffices hs : ∀ (d i : Nat), i + d = l.length → EvP (fun k => stillageref08_has.l0 k l x (l.length : Int) (i : Int)) (fun r => r = true ↔ x ∈ l.drop i) from hs l.length 0 (by omega)
 intro d
 induction d with
 | zero =>
  intro i hi
  refine EvP.succ (fun k => stillageref08_has.l0.eq_2 _ _ _ _ k) (EvP.no (by omega) (EvP.ret ?_))
  rw [List.drop_eq_nil_of_le (by omega)]
  simp
 | succ d ih =>
  intro i hi
  have h1 : i < l.length := by omega
  have e1 : rd l (i : Int) = l[i] := by simp [rd, List.getElem?_eq_getElem h1]
  refine EvP.succ (fun k => stillageref08_has.l0.eq_2 _ _ _ _ k) (EvP.yes (by omega) (EvP.yes (by omega) (EvP.yes (by omega) ?_)))
  rw [e1, wnext i (by omega), List.drop_eq_getElem_cons h1]
  refine EvP.split (fun c => EvP.ret ?_) (fun c => (ih (i + 1) (by omega)).mono (fun r h => ?_))
  ·rw [c]; exact ⟨fun _ => List.mem_cons_self, fun _ => rfl⟩
  ·rw [h, List.mem_cons]
   exact ⟨.inr, fun h => h.elim (fun e => absurd e.symm c) id⟩
theorem reached_e (nodes : List S47) (edges : List S38) (F : Fit nodes edges) (mask full q : List Int) (hl : mask.length ≤ 5000) (hf : full.length ≤ 1000) (b : Int) (h0 : 0 ≤ b) (h1 : b < (nodes.length : Int)) (L : LensTo nodes edges (mask ++ clo edges b full 0 edges.length) b q) (a : Int) (ha0 : 0 ≤ a) (ha1 : a < (nodes.length : Int)) (n : Int) :
  EvP (fun k => stillageref08_reached.f k nodes edges mask a b n full) (fun r => r = true ↔ 0 ≤ g q a ∧ g q a ≤ n) := by
 have hm := F.m
 refine EvP.ebind (Evt.pure _) (EvP.yes (by rw [List.length_nil]; omega) ?_)
 rw [List.nil_append]
 suffices hs : ∀ (d i : Nat) (acc : List Int), i + d = edges.length → acc ++ clo edges b full i d = mask ++ clo edges b full 0 edges.length → acc.length + d ≤ 10000 → EvP (fun k => stillageref08_reached.l0 k a b n full acc ((i + 1 : Nat) : Int) nodes edges) (fun r => r = true ↔ 0 ≤ g q a ∧ g q a ≤ n) from hs edges.length 0 mask (by omega) rfl (by omega)
 intro d
 induction d with
 | zero =>
  intro i acc hi he hal
  rw [clo, List.append_nil] at he
  subst he
  refine EvP.succ (fun k => stillageref08_reached.l0.eq_2 _ _ _ _ _ _ _ _ k) (EvP.no (by omega) (EvP.bind (Between_e nodes edges F _ (by omega) a ha0 ha1) (fun r hr => EvP.yes h0 (EvP.yes (by rw [hr.len]; exact h1) ?_))))
  have e := hr.to L ha0 ha1 h0 h1
  rw [rd_g, e]
  refine EvP.split (fun c => EvP.ret ?_) (fun c => EvP.ret ?_)
  ·rw [decide_eq_true_iff]
   exact ⟨fun h => ⟨c, h⟩, fun h => h.2⟩
  ·constructor
   ·intro h; cases h
   ·intro h; exact absurd h.1 c
 | succ d ih =>
  intro i acc hi he hal
  have e1 : wrap64 (((i + 1 : Nat) : Int) - 1) = (i : Int) := by rw [wsm] <;> omega
  refine EvP.succ (fun k => stillageref08_reached.l0.eq_2 _ _ _ _ _ _ _ _ k) (EvP.yes (by omega) ?_)
  rw [e1, wnext (i + 1) (by omega)]
  rw [clo] at he
  refine EvP.yes (by omega) (EvP.yes (by omega) (EvP.split (fun c => ?_) (fun c => EvP.bind (has_e full _ (by omega)) (fun t ht => EvP.split (fun c2 => EvP.yes (by omega) ?_) (fun c2 => ?_)))))
  ·rw [if_pos c] at he
   exact ih (i + 1) acc (by omega) he (by omega)
  ·rw [if_neg c, if_pos (ht.1 c2)] at he
   exact ih (i + 1) _ (by omega) (by rw [List.append_assoc]; exact he) (by rw [List.length_append, List.length_singleton]; omega)
  ·rw [if_neg c, if_neg (fun h => c2 (ht.2 h))] at he
   exact ih (i + 1) acc (by omega) he (by omega)
/-- What first tells of the rows of so many edges. -/
def Told (edges : List S38) (q t : List Int) (b a : Int) (n : Nat) (r : List Int × Bool) : Prop :=
 (g q a < 0 ∨ (n : Int) < g q a → r.2 = false) ∧ ((n : Int) = g q a → r.2 = true ∧ Way edges t b a r.1)
theorem near_iff {nodes : List S47} {edges : List S38} (F : Fit nodes edges) {mask q : List Int} {a : Int} {e : Nat} (he : e < edges.length) : Near nodes edges mask q a ((e + 1 : Nat) : Int) ↔ (rd_T38 edges (e : Int)).f0 = a ∧ ¬ ((e + 1 : Nat) : Int) ∈ mask ∧ 0 ≤ g q (rd_T38 edges (e : Int)).f1 ∧ g q (rd_T38 edges (e : Int)).f1 = g q a - 1 ∧ (0 < g q (rd_T38 edges (e : Int)).f1 → Pass nodes (rd_T38 edges (e : Int)).f1) := by
 constructor
 ·intro h
  obtain ⟨e', h1, h2, h3, h4, h5, h6⟩ := h.off
  obtain rfl : e = e' := by omega
  exact ⟨h3, h.op, h4, h5, h6⟩
 ·rintro ⟨h1, h2, h3, h4, h5⟩
  exact ⟨⟨e, he, rfl, h1, h3, h4, h5⟩, h2⟩
theorem first_e (nodes : List S47) (edges : List S38) (F : Fit nodes edges) (mask full q t : List Int) (hl : mask.length ≤ 5000) (hf : full.length ≤ 1000) (b : Int) (h0 : 0 ≤ b) (h1 : b < (nodes.length : Int)) (L : LensTo nodes edges (mask ++ clo edges b full 0 edges.length) b q) (T : Tab nodes edges (mask ++ clo edges b full 0 edges.length) q t) (n : Nat) : n ≤ 1000 → ∀ a : Int, 0 ≤ a → a < (nodes.length : Int) → (g q a < 0 ∨ (n : Int) ≤ g q a) →
  EvP (fun k => stillageref08_first.f k nodes edges mask a b (n : Int) full) (Told edges q t b a n) := by
 have hm := F.m
 have hst := L.ok.start
 induction n with
 | zero =>
  intro _ a ha0 ha1 hg
  refine EvP.succ (fun k => by rw [stillageref08_first.f]) (EvP.yes (c := ((0 : Nat) : Int) = 0) rfl (EvP.ret ⟨fun h => ?_, fun h => ?_⟩))
  ·rw [beq_eq_false_iff_ne]
   intro e
   subst e
   rw [hst] at h
   omega
  ·have e := L.ok.only a ha0 ha1 (by omega)
   subst e
   exact ⟨by simp, .here⟩
 | succ n ih =>
  intro hn a ha0 ha1 hg
  refine EvP.succ (fun k => by rw [stillageref08_first.f]) (EvP.no (by omega) ?_)
  generalize hM : mask ++ clo edges b full 0 edges.length = M at L T
  have hMi : ∀ {e : Nat}, e < edges.length → (((e + 1 : Nat) : Int) ∈ M ↔ ((e + 1 : Nat) : Int) ∈ mask ∨ ((rd_T38 edges (e : Int)).f1 ≠ b ∧ (rd_T38 edges (e : Int)).f1 ∈ full)) := fun he => by rw [← hM]; exact clo_iff edges b full mask he
  suffices hs : ∀ (d i : Nat), i + d = edges.length + 1 → 1 ≤ i → (∀ e : Nat, e + 1 < i → ((n + 1 : Nat) : Int) = g q a → ¬ Near nodes edges M q a ((e + 1 : Nat) : Int)) → EvP (fun k => stillageref08_first.l0 k mask a b ((n + 1 : Nat) : Int) full (i : Int) nodes edges) (Told edges q t b a (n + 1)) from hs edges.length 1 (by omega) (by omega) (fun e he => by omega)
  intro d
  induction d with
  | zero =>
   intro i hi _ hno
   refine EvP.succ (fun k => stillageref08_first.l0.eq_2 _ _ _ _ _ _ _ _ k) (EvP.no (by omega) (EvP.ret ⟨fun _ => rfl, fun h => ?_⟩))
   exfalso
   obtain ⟨x, hx⟩ := L.back ha0 ha1 (by omega)
   obtain ⟨e, he, rfl, _⟩ := hx.off
   exact hno e (by omega) h hx
  | succ d ihd =>
   intro i hi hi1 hno
   obtain ⟨e, rfl⟩ : ∃ e : Nat, i = e + 1 := ⟨i - 1, by omega⟩
   have he : e < edges.length := by omega
   have hE := F.ends e he
   have e1 : wrap64 (((e + 1 : Nat) : Int) - 1) = (e : Int) := by rw [wsm] <;> omega
   have e2 : wrap64 (((n + 1 : Nat) : Int) - 1) = (n : Int) := by rw [wsm] <;> omega
   have hop : ((e : Int) + 1) = ((e + 1 : Nat) : Int) := by omega
   have skip : (((n + 1 : Nat) : Int) = g q a → ¬ Near nodes edges M q a ((e + 1 : Nat) : Int)) → EvP (fun k => stillageref08_first.l0 k mask a b ((n + 1 : Nat) : Int) full (wrap64 (((e + 1 : Nat) : Int) + 1)) nodes edges) (Told edges q t b a (n + 1)) := by
    intro hN
    rw [wnext (e + 1) (by omega)]
    refine ihd (e + 1 + 1) (by omega) (by omega) (fun e' he' hq => ?_)
    by_cases c : e' = e
    ·subst c; exact hN hq
    ·exact hno e' (by omega) hq
   refine EvP.succ (fun k => stillageref08_first.l0.eq_2 _ _ _ _ _ _ _ _ k) (EvP.yes (by omega) ?_)
   rw [e1]
   have hskip1 : (((n + 1 : Nat) : Int) = g q a → ¬ Near nodes edges M q a ((e + 1 : Nat) : Int)) → EvP (fun k => stillageref08_first.j1 k mask a b ((n + 1 : Nat) : Int) full ((e + 1 : Nat) : Int) true nodes edges) (Told edges q t b a (n + 1)) :=
    fun hN => EvP.succ (fun k => stillageref08_first.j1.eq_2 _ _ _ _ _ _ _ _ _ k) (EvP.yes rfl (skip hN))
   refine EvP.yes (by omega) (EvP.yes (by omega) (EvP.split (fun c => EvP.bind (Open_e mask _ (by omega)) (fun o ho => ?_)) (fun c => hskip1 (fun _ h => c ((near_iff F he).1 h).1))))
   cases o with
   | false => exact hskip1 (fun _ h => absurd (ho.2 (fun hh => ((near_iff F he).1 h).2.1 ((hMi he).2 (.inl hh)))) (by simp))
   | true =>
    have hopen := ho.1 rfl
    have skip2 : (((n + 1 : Nat) : Int) = g q a → ¬ Near nodes edges M q a ((e + 1 : Nat) : Int)) → EvP (fun k => stillageref08_first.j2 k mask a b ((n + 1 : Nat) : Int) full ((e + 1 : Nat) : Int) (rd_T38 edges (e : Int)).f1 true nodes edges) (Told edges q t b a (n + 1)) :=
     fun hN => EvP.succ (fun k => stillageref08_first.j2.eq_2 _ _ _ _ _ _ _ _ _ _ k) (EvP.yes rfl (skip hN))
    have skip3 : (((n + 1 : Nat) : Int) = g q a → ¬ Near nodes edges M q a ((e + 1 : Nat) : Int)) → EvP (fun k => stillageref08_first.j3 k mask a b ((n + 1 : Nat) : Int) full ((e + 1 : Nat) : Int) (rd_T38 edges (e : Int)).f1 true nodes edges) (Told edges q t b a (n + 1)) :=
     fun hN => EvP.succ (fun k => stillageref08_first.j3.eq_2 _ _ _ _ _ _ _ _ _ _ k) (EvP.yes rfl (skip hN))
    have hstep : ¬ ((e + 1 : Nat) : Int) ∈ M → ((rd_T38 edges (e : Int)).f1 = b ∨ Pass nodes (rd_T38 edges (e : Int)).f1) → 0 ≤ g q (rd_T38 edges (e : Int)).f1 → 0 ≤ g q a ∧ g q a ≤ g q (rd_T38 edges (e : Int)).f1 + 1 := fun hm h1 h2 => L.ok.step _ _ ⟨⟨e, he, by rw [hop]; exact hm, c, rfl⟩, h1⟩ h2
    have take : 0 ≤ g q (rd_T38 edges (e : Int)).f1 → g q (rd_T38 edges (e : Int)).f1 = (n : Int) → g q a = ((n + 1 : Nat) : Int) → Near nodes edges M q a ((e + 1 : Nat) : Int) → EvP (fun k => stillageref08_first.j3 k mask a b ((n + 1 : Nat) : Int) full ((e + 1 : Nat) : Int) (rd_T38 edges (e : Int)).f1 false nodes edges) (Told edges q t b a (n + 1)) := by
     intro q0 q1 q2 hN
     refine EvP.succ (fun k => stillageref08_first.j3.eq_2 _ _ _ _ _ _ _ _ _ _ k) (EvP.no (by simp) ?_)
     rw [e2]
     refine EvP.bind (ih (by omega) _ hE.2.2.1 hE.2.2.2 (.inr (by omega))) (fun r hr => ?_)
     have hr2 := hr.2 q1.symm
     have hlen := hr2.2.short F T hE.2.2.1 hE.2.2.2 hst
     have hab : a ≠ b := fun h => by rw [h, hst] at q2; omega
     have hga : g t a = ((e + 1 : Nat) : Int) := by
      rcases T.ok a ha0 ha1 with ⟨_, hnone⟩ | ⟨hN2, hle⟩
      ·exact absurd hN (hnone _)
      ·have l1 := hle _ hN
       obtain ⟨e', he', hd', _⟩ := hN2.off
       rcases Nat.lt_or_ge e' e with h | h
       ·exact absurd (hd' ▸ hN2) (hno e' (by omega) (by omega))
       ·omega
     have hW : Way edges t b a (((e + 1 : Nat) : Int) :: r.1) := by
      have hs : g t a - 1 = (e : Int) := by omega
      have := Way.step (edges := edges) (t := t) (b := b) (a := a) (p := r.1) hab (by omega) (by rw [hs]; exact hr2.2)
      rwa [hga] at this
     refine EvP.yes hr2.1 (EvP.ebind (Evt.pure _) (EvP.yes (by rw [List.length_singleton]; omega) (EvP.ret ⟨fun h => by omega, fun _ => ⟨rfl, hW⟩⟩)))
    refine EvP.succ (fun k => stillageref08_first.j1.eq_2 _ _ _ _ _ _ _ _ _ k) (EvP.no (by simp) ?_)
    rw [e1]
    refine EvP.yes (by omega) (EvP.yes (by omega) (EvP.split (fun c1 => EvP.yes hE.2.2.1 (EvP.yes (by omega) (EvP.split (fun c2 => EvP.bind (has_e full _ (by omega)) (fun u hu => EvP.split (fun c5 => skip2 (fun hq h => ?_)) (fun c5 => EvP.split (fun c3 => skip2 (fun hq h => ?_)) (fun c3 => EvP.no (by omega) ?_)))) (fun c2 => skip2 (fun hq h => c2 (((near_iff F he).1 h).2.2.2.2 ?_)))))) (fun c1 => EvP.yes (by omega) ?_)))
    ·have h2 := ((near_iff F he).1 h).2
     by_cases c6 : (rd_T38 edges (e : Int)).f1 = b
     ·rw [c6, hst] at h2; omega
     ·exact h2.1 ((hMi he).2 (.inr ⟨c6, hu.1 c5⟩))
    ·have h2 := ((near_iff F he).1 h).2.2.2.1
     rw [c3, hst] at h2
     omega
    ·have hnM : ¬ ((e + 1 : Nat) : Int) ∈ M := fun h => by
      rcases (hMi he).1 h with h | h
      ·exact hopen h
      ·exact c5 (hu.2 h.2)
     refine EvP.succ (fun k => stillageref08_first.j2.eq_2 _ _ _ _ _ _ _ _ _ _ k) (EvP.no (by simp) (EvP.yes c1 ?_))
     rw [e2]
     refine EvP.bind (reached_e nodes edges F mask full q hl hf b h0 h1 (hM ▸ L) _ hE.2.2.1 hE.2.2.2 (n : Int)) (fun u ht => ?_)
     cases u with
     | false =>
      refine skip3 (fun hq h => ?_)
      have h2 := ((near_iff F he).1 h).2.2
      have := ht.2 ⟨h2.1, by omega⟩
      cases this
     | true =>
      have h2 := ht.1 rfl
      have h3 := hstep hnM (.inr c2) h2.1
      exact take h2.1 (by omega) (by omega) ((near_iff F he).2 ⟨c, hnM, h2.1, by omega, fun _ => c2⟩)
    ·have h2 := ((near_iff F he).1 h).2.2.2.1
     omega
    ·obtain rfl : n = 0 := by omega
     by_cases c4 : (rd_T38 edges (e : Int)).f1 = b
     ·rw [show ((rd_T38 edges (e : Int)).f1 != b) = false by rw [c4]; simp]
      have h2 : g q (rd_T38 edges (e : Int)).f1 = 0 := by rw [c4]; exact hst
      have hnM : ¬ ((e + 1 : Nat) : Int) ∈ M := fun h => by
       rcases (hMi he).1 h with h | h
       ·exact hopen h
       ·exact h.1 c4
      have h3 := hstep hnM (.inl c4) (by omega)
      refine EvP.succ (fun k => stillageref08_first.j2.eq_2 _ _ _ _ _ _ _ _ _ _ k) (EvP.no (by simp) (EvP.no c1 ?_))
      exact take (by omega) (by omega) (by omega) ((near_iff F he).2 ⟨c, hnM, by omega, by omega, fun h => by omega⟩)
     ·rw [show ((rd_T38 edges (e : Int)).f1 != b) = true by simpa using c4]
      refine skip2 (fun hq h => c4 ?_)
      have h2 := ((near_iff F he).1 h).2.2
      exact L.ok.only _ hE.2.2.1 hE.2.2.2 (by omega)
theorem refPath_e (nodes : List S47) (edges : List S38) (F : Fit nodes edges) (mask full q t : List Int) (hl : mask.length ≤ 5000) (hf : full.length ≤ 1000) (b : Int) (h0 : 0 ≤ b) (h1 : b < (nodes.length : Int)) (L : LensTo nodes edges (mask ++ clo edges b full 0 edges.length) b q) (T : Tab nodes edges (mask ++ clo edges b full 0 edges.length) q t) (a : Int) (ha0 : 0 ≤ a) (ha1 : a < (nodes.length : Int)) :
  EvP (fun k => stillageref08_Path.f k nodes edges mask a b full) (fun r => (0 ≤ g q a → ∃ p, Way edges t b a p ∧ r = (p, 0)) ∧ (g q a < 0 → r = ([], 80))) := by
 have hn := F.n
 have hhi := L.hi a ha0 ha1
 suffices hs : ∀ (d i : Nat), i + d = nodes.length + 1 → (g q a < 0 ∨ (i : Int) ≤ g q a) → EvP (fun k => stillageref08_Path.l0 k mask a b full (i : Int) nodes edges) (fun r => (0 ≤ g q a → ∃ p, Way edges t b a p ∧ r = (p, 0)) ∧ (g q a < 0 → r = ([], 80))) from hs (nodes.length + 1) 0 (by omega) (by omega)
 intro d
 induction d with
 | zero =>
  intro i hi hg
  exact EvP.succ (fun k => stillageref08_Path.l0.eq_2 _ _ _ _ _ _ _ k) (EvP.no (by omega) (EvP.ret ⟨fun h => by omega, fun _ => rfl⟩))
 | succ d ih =>
  intro i hi hg
  refine EvP.succ (fun k => stillageref08_Path.l0.eq_2 _ _ _ _ _ _ _ k) (EvP.yes (by omega) (EvP.bind (first_e nodes edges F mask full q t hl hf b h0 h1 L T i (by omega) a ha0 ha1 hg) (fun r hr => ?_)))
  by_cases c : (i : Int) = g q a
  ·have h2 := hr.2 c
   exact EvP.yes h2.1 (EvP.ret ⟨fun _ => ⟨r.1, h2.2, rfl⟩, fun h => by omega⟩)
  ·refine EvP.no (by rw [hr.1 (by omega)]; simp) ?_
   rw [wnext i (by omega)]
   exact ih (i + 1) (by omega) (by omega)
/-- An edge by which the reference's loop of n edges begins. -/
def LP (nodes : List S47) (edges : List S38) (mask q : List Int) (v : Int) (n : Nat) (e : Nat) : Prop := Cand nodes edges mask q v e ∧ g q (rd_T38 edges (e : Int)).f1 = (n : Int) - 1
theorem firstLoop_e (nodes : List S47) (edges : List S38) (F : Fit nodes edges) (mask q t : List Int) (hl : mask.length ≤ 5000) (v : Int) (h0 : 0 ≤ v) (h1 : v < (nodes.length : Int)) (L : LensTo nodes edges mask v q) (T : Tab nodes edges mask q t) (n : Nat) (hn1 : 1 ≤ n) (hn : n ≤ 1000) (hmin : ∀ e, Cand nodes edges mask q v e → (n : Int) - 1 ≤ g q (rd_T38 edges (e : Int)).f1) :
  EvP (fun k => stillageref08_first.f k nodes edges mask v v (n : Int) []) (fun r => (∃ e p, LP nodes edges mask q v n e ∧ (∀ e', LP nodes edges mask q v n e' → e ≤ e') ∧ Way edges t v (rd_T38 edges (e : Int)).f1 p ∧ r = (((e + 1 : Nat) : Int) :: p, true)) ∨ ((∀ e, ¬ LP nodes edges mask q v n e) ∧ r.2 = false)) := by
 have hm := F.m
 have hst := L.ok.start
 have hclo : mask ++ clo edges v [] 0 edges.length = mask := by rw [clo_nil, List.append_nil]
 refine EvP.succ (fun k => by rw [stillageref08_first.f]) (EvP.no (by omega) ?_)
 suffices hs : ∀ (d i : Nat), i + d = edges.length + 1 → 1 ≤ i → (∀ e : Nat, e + 1 < i → ¬ LP nodes edges mask q v n e) → EvP (fun k => stillageref08_first.l0 k mask v v (n : Int) [] (i : Int) nodes edges) (fun r => (∃ e p, LP nodes edges mask q v n e ∧ (∀ e', LP nodes edges mask q v n e' → e ≤ e') ∧ Way edges t v (rd_T38 edges (e : Int)).f1 p ∧ r = (((e + 1 : Nat) : Int) :: p, true)) ∨ ((∀ e, ¬ LP nodes edges mask q v n e) ∧ r.2 = false)) from hs edges.length 1 (by omega) (by omega) (fun e he => by omega)
 intro d
 induction d with
 | zero =>
  intro i hi _ hno
  exact EvP.succ (fun k => stillageref08_first.l0.eq_2 _ _ _ _ _ _ _ _ k) (EvP.no (by omega) (EvP.ret (.inr ⟨fun e h => hno e (by have := h.1.lt; omega) h, rfl⟩)))
 | succ d ihd =>
  intro i hi hi1 hno
  obtain ⟨e, rfl⟩ : ∃ e : Nat, i = e + 1 := ⟨i - 1, by omega⟩
  have he : e < edges.length := by omega
  have hE := F.ends e he
  have hne := F.ne e he
  have e1 : wrap64 (((e + 1 : Nat) : Int) - 1) = (e : Int) := by rw [wsm] <;> omega
  have e2 : wrap64 ((n : Int) - 1) = ((n - 1 : Nat) : Int) := by rw [wsm] <;> omega
  have skip : ¬ LP nodes edges mask q v n e → EvP (fun k => stillageref08_first.l0 k mask v v (n : Int) [] (wrap64 (((e + 1 : Nat) : Int) + 1)) nodes edges) (fun r => (∃ e p, LP nodes edges mask q v n e ∧ (∀ e', LP nodes edges mask q v n e' → e ≤ e') ∧ Way edges t v (rd_T38 edges (e : Int)).f1 p ∧ r = (((e + 1 : Nat) : Int) :: p, true)) ∨ ((∀ e, ¬ LP nodes edges mask q v n e) ∧ r.2 = false)) := by
   intro hN
   rw [wnext (e + 1) (by omega)]
   refine ihd (e + 1 + 1) (by omega) (by omega) (fun e' he' => ?_)
   by_cases c : e' = e
   ·subst c; exact hN
   ·exact hno e' (by omega)
  refine EvP.succ (fun k => stillageref08_first.l0.eq_2 _ _ _ _ _ _ _ _ k) (EvP.yes (by omega) ?_)
  rw [e1]
  have skip1 : ¬ LP nodes edges mask q v n e → EvP (fun k => stillageref08_first.j1 k mask v v (n : Int) [] ((e + 1 : Nat) : Int) true nodes edges) _ := fun hN => EvP.succ (fun k => stillageref08_first.j1.eq_2 _ _ _ _ _ _ _ _ _ k) (EvP.yes rfl (skip hN))
  have skip2 : ¬ LP nodes edges mask q v n e → EvP (fun k => stillageref08_first.j2 k mask v v (n : Int) [] ((e + 1 : Nat) : Int) (rd_T38 edges (e : Int)).f1 true nodes edges) _ := fun hN => EvP.succ (fun k => stillageref08_first.j2.eq_2 _ _ _ _ _ _ _ _ _ _ k) (EvP.yes rfl (skip hN))
  have skip3 : ¬ LP nodes edges mask q v n e → EvP (fun k => stillageref08_first.j3 k mask v v (n : Int) [] ((e + 1 : Nat) : Int) (rd_T38 edges (e : Int)).f1 true nodes edges) _ := fun hN => EvP.succ (fun k => stillageref08_first.j3.eq_2 _ _ _ _ _ _ _ _ _ _ k) (EvP.yes rfl (skip hN))
  refine EvP.yes (by omega) (EvP.yes (by omega) (EvP.split (fun c => EvP.bind (Open_e mask _ (by omega)) (fun o ho => ?_)) (fun c => skip1 (fun h => c h.1.off))))
  cases o with
  | false => exact skip1 (fun h => absurd (ho.2 h.1.op) (by simp))
  | true =>
   have hopen := ho.1 rfl
   have hto : (rd_T38 edges (e : Int)).f1 ≠ v := fun h => hne (c.trans h.symm)
   have hz : ¬ g q (rd_T38 edges (e : Int)).f1 = 0 := fun h => hto (L.ok.only _ hE.2.2.1 hE.2.2.2 h)
   refine EvP.succ (fun k => stillageref08_first.j1.eq_2 _ _ _ _ _ _ _ _ _ k) (EvP.no (by simp) ?_)
   rw [e1]
   refine EvP.yes (by omega) (EvP.yes (by omega) (EvP.split (fun c1 => EvP.yes hE.2.2.1 (EvP.yes (by omega) (EvP.split (fun c2 => EvP.bind (has_e [] _ (by simp)) (fun u hu => EvP.no (fun h => absurd (hu.1 h) (List.not_mem_nil)) (EvP.no hto (EvP.no (by omega) ?_)))) (fun c2 => skip2 (fun h => c2 h.1.track))))) (fun c1 => EvP.yes (by omega) ?_)))
   ·refine EvP.succ (fun k => stillageref08_first.j2.eq_2 _ _ _ _ _ _ _ _ _ _ k) (EvP.no (by simp) (EvP.yes c1 ?_))
    rw [e2]
    refine EvP.bind (reached_e nodes edges F mask [] q hl (by simp) v h0 h1 (by rw [hclo]; exact L) _ hE.2.2.1 hE.2.2.2 ((n - 1 : Nat) : Int)) (fun u ht => ?_)
    cases u with
    | false =>
     refine skip3 (fun h => ?_)
     have h2 := h.2
     have h3 := h.1.far
     have := ht.2 ⟨h3, by omega⟩
     cases this
    | true =>
     have h2 := ht.1 rfl
     have hC : Cand nodes edges mask q v e := ⟨he, hopen, c, c2, h2.1⟩
     have h3 := hmin e hC
     have hq1 : g q (rd_T38 edges (e : Int)).f1 = ((n - 1 : Nat) : Int) := by omega
     refine EvP.succ (fun k => stillageref08_first.j3.eq_2 _ _ _ _ _ _ _ _ _ _ k) (EvP.no (by simp) ?_)
     rw [e2]
     refine EvP.bind (first_e nodes edges F mask [] q t hl (by simp) v h0 h1 (by rw [hclo]; exact L) (by rw [hclo]; exact T) (n - 1) (by omega) _ hE.2.2.1 hE.2.2.2 (.inr (by omega))) (fun r hr => ?_)
     have hr2 := hr.2 hq1.symm
     have hlen := hr2.2.short F T hE.2.2.1 hE.2.2.2 hst
     refine EvP.yes hr2.1 (EvP.ebind (Evt.pure _) (EvP.yes (by rw [List.length_singleton]; omega) (EvP.ret (.inl ⟨e, r.1, ⟨hC, by omega⟩, fun e' h => ?_, hr2.2, rfl⟩))))
     rcases Nat.lt_or_ge e' e with h4 | h4
     ·exact absurd h (hno e' (by omega))
     ·exact h4
   ·rw [show ((rd_T38 edges (e : Int)).f1 != v) = true by simpa using hto]
    exact skip2 (fun h => hz (by have := h.2; omega))
theorem refLoop_e (nodes : List S47) (edges : List S38) (F : Fit nodes edges) (mask q t : List Int) (hl : mask.length ≤ 5000) (v : Int) (h0 : 0 ≤ v) (h1 : v < (nodes.length : Int)) (L : LensTo nodes edges mask v q) (T : Tab nodes edges mask q t) :
  EvP (fun k => stillageref08_Loop.f k nodes edges mask v) (fun r => ((∀ e, ¬ Cand nodes edges mask q v e) ∧ r = ([], 80)) ∨ ∃ e : Nat, Cand nodes edges mask q v e ∧ (∀ e', Cand nodes edges mask q v e' → g q (rd_T38 edges (e : Int)).f1 ≤ g q (rd_T38 edges (e' : Int)).f1 ∧ (g q (rd_T38 edges (e : Int)).f1 = g q (rd_T38 edges (e' : Int)).f1 → e ≤ e')) ∧ ∃ p, Way edges t v (rd_T38 edges (e : Int)).f1 p ∧ r = (((e + 1 : Nat) : Int) :: p, 0)) := by
 have hn := F.n
 have hw : wrap64 ((nodes.length : Int) + 1) = ((nodes.length + 1 : Nat) : Int) := by rw [wnext _ (by omega)]
 suffices hs : ∀ (d i : Nat), i + d = nodes.length + 2 → 1 ≤ i → (∀ e, Cand nodes edges mask q v e → (i : Int) - 1 ≤ g q (rd_T38 edges (e : Int)).f1) → EvP (fun k => stillageref08_Loop.l0 k mask v (i : Int) nodes edges) (fun r => ((∀ e, ¬ Cand nodes edges mask q v e) ∧ r = ([], 80)) ∨ ∃ e : Nat, Cand nodes edges mask q v e ∧ (∀ e', Cand nodes edges mask q v e' → g q (rd_T38 edges (e : Int)).f1 ≤ g q (rd_T38 edges (e' : Int)).f1 ∧ (g q (rd_T38 edges (e : Int)).f1 = g q (rd_T38 edges (e' : Int)).f1 → e ≤ e')) ∧ ∃ p, Way edges t v (rd_T38 edges (e : Int)).f1 p ∧ r = (((e + 1 : Nat) : Int) :: p, 0)) from hs (nodes.length + 1) 1 (by omega) (by omega) (fun e h => by have := h.far; omega)
 intro d
 induction d with
 | zero =>
  intro i hi hi1 hmin
  refine EvP.succ (fun k => stillageref08_Loop.l0.eq_2 _ _ _ _ _ k) (EvP.no (by rw [hw]; omega) (EvP.ret (.inl ⟨fun e h => ?_, rfl⟩)))
  have hE := F.ends e h.lt
  have := hmin e h
  have := L.hi _ hE.2.2.1 hE.2.2.2
  omega
 | succ d ih =>
  intro i hi hi1 hmin
  refine EvP.succ (fun k => stillageref08_Loop.l0.eq_2 _ _ _ _ _ k) (EvP.yes (by rw [hw]; omega) (EvP.bind (firstLoop_e nodes edges F mask q t hl v h0 h1 L T i hi1 (by omega) hmin) (fun r hr => ?_)))
  rcases hr with ⟨e, p, hLP, hle, hW, rfl⟩ | ⟨hno, hr⟩
  ·refine EvP.yes rfl (EvP.ret (.inr ⟨e, hLP.1, fun e' h => ⟨?_, fun heq => ?_⟩, p, hW, rfl⟩))
   ·have := hmin e' h
    have := hLP.2
    omega
   ·exact hle e' ⟨h, by have := hLP.2; omega⟩
  ·refine EvP.no (by rw [hr]; simp) ?_
   rw [wnext i (by omega)]
   refine ih (i + 1) (by omega) (by omega) (fun e h => ?_)
   have := hmin e h
   have : ¬ g q (rd_T38 edges (e : Int)).f1 = (i : Int) - 1 := fun h2 => hno e ⟨h, h2⟩
   omega
theorem small_e (nodes : List S47) (edges : List S38) (mask : List Int) : EvP (fun k => stillagelaw08_small.f k nodes edges mask) (fun b => b = true → Fit nodes edges ∧ mask.length ≤ 200) :=
 EvP.bind (Fits_e nodes edges mask) (fun t ht => EvP.split (fun c => EvP.split (fun _ => EvP.ret (fun _ => ht c)) (fun _ => EvP.ret (fun h => by cases h))) (fun _ => EvP.ret (fun h => by cases h)))
theorem outside_f (nodes : List S47) (edges : List S38) (a : Int) : stillagelaw08_outside.f nodes edges a = some (decide (a < 0 ∨ (nodes.length : Int) ≤ a)) := by
 unfold stillagelaw08_outside.f
 by_cases c : a < 0
 ·rw [if_pos c, decide_eq_true (.inl c)]
 ·rw [if_neg c]
  congr 1
  rw [decide_eq_decide]
  omega
theorem Around_out (nodes : List S47) (edges : List S38) (mask : List Int) (a b : Int) (full : List Int) (h : a < 0 ∨ (nodes.length : Int) ≤ a ∨ b < 0 ∨ (nodes.length : Int) ≤ b) : EvP (fun k => route_Around.f k nodes edges mask a b full) (fun r => r = ([], 1)) := by
 refine EvP.obind (Out2_e nodes edges a b) ?_
 rw [show (decide (a < 0) || decide (a ≥ (nodes.length : Int)) || (decide (b < 0) || decide (b ≥ (nodes.length : Int)))) = true by simp; omega]
 exact EvP.yes rfl (EvP.ret rfl)
theorem Loop_out (nodes : List S47) (edges : List S38) (mask : List Int) (v : Int) (h : v < 0 ∨ (nodes.length : Int) ≤ v) : EvP (fun k => route_Loop.f k nodes edges mask v) (fun r => r = ([], 1)) := by
 refine EvP.obind (Out1_e nodes edges v) ?_
 rw [show (decide (v < 0) || decide (v ≥ (nodes.length : Int))) = true by simp; omega]
 exact EvP.yes rfl (EvP.ret rfl)
theorem path_same {nodes : List S47} {edges : List S38} (F : Fit nodes edges) {mask q t : List Int} {b a : Int} (L : LensTo nodes edges mask b q) (T : Tab nodes edges mask q t) (ha0 : 0 ≤ a) (ha1 : a < (nodes.length : Int)) {r s : List Int × Int}
  (hr : (∃ p, Way edges t b a p ∧ r = (p, 0)) ∨ ((∀ p, ¬ Way edges t b a p) ∧ r = ([], 80))) (hs : (0 ≤ g q a → ∃ p, Way edges t b a p ∧ s = (p, 0)) ∧ (g q a < 0 → s = ([], 80))) : r = s ∧ r.1.length ≤ 1000 ∧ r.2 ≠ 1 := by
 have hn := F.n
 have hhi := L.hi a ha0 ha1
 rcases hr with ⟨p, hp, rfl⟩ | ⟨hno, rfl⟩
 ·have hlen := hp.short F T ha0 ha1 L.ok.start
  obtain ⟨p', hp', rfl⟩ := hs.1 (by omega)
  rw [hp.eq hp']
  refine ⟨rfl, ?_, by show (0 : Int) ≠ 1; decide⟩
  have := hp.eq hp'
  subst this
  show p.length ≤ 1000
  omega
 ·have hneg : g q a < 0 := by
   rcases Int.lt_or_le (g q a) 0 with h | h
   ·exact h
   ·obtain ⟨p, hp, _⟩ := hs.1 h
    exact absurd hp (hno p)
  rw [hs.2 hneg]
  exact ⟨rfl, by simp, by decide⟩
theorem loop_same {nodes : List S47} {edges : List S38} (F : Fit nodes edges) {mask q t : List Int} {v : Int} (L : LensTo nodes edges mask v q) (T : Tab nodes edges mask q t) {r s : List Int × Int}
  (hr : ((∀ e, ¬ Cand nodes edges mask q v e) ∧ r = ([], 80)) ∨ ∃ e : Nat, Cand nodes edges mask q v e ∧ (∀ e', Cand nodes edges mask q v e' → g q (rd_T38 edges (e : Int)).f1 ≤ g q (rd_T38 edges (e' : Int)).f1 ∧ (g q (rd_T38 edges (e : Int)).f1 = g q (rd_T38 edges (e' : Int)).f1 → e ≤ e')) ∧ ∃ p, Way edges t v (rd_T38 edges (e : Int)).f1 p ∧ r = (((e + 1 : Nat) : Int) :: p, 0))
  (hs : ((∀ e, ¬ Cand nodes edges mask q v e) ∧ s = ([], 80)) ∨ ∃ e : Nat, Cand nodes edges mask q v e ∧ (∀ e', Cand nodes edges mask q v e' → g q (rd_T38 edges (e : Int)).f1 ≤ g q (rd_T38 edges (e' : Int)).f1 ∧ (g q (rd_T38 edges (e : Int)).f1 = g q (rd_T38 edges (e' : Int)).f1 → e ≤ e')) ∧ ∃ p, Way edges t v (rd_T38 edges (e : Int)).f1 p ∧ s = (((e + 1 : Nat) : Int) :: p, 0)) : r = s ∧ r.1.length ≤ 1000 ∧ r.2 ≠ 1 := by
 have hn := F.n
 rcases hr with ⟨h1, rfl⟩ | ⟨e, hC, hle, p, hW, rfl⟩
 ·rcases hs with ⟨_, rfl⟩ | ⟨e, hC, _⟩
  ·exact ⟨rfl, by simp, by decide⟩
  ·exact absurd hC (h1 e)
 ·rcases hs with ⟨h1, _⟩ | ⟨e2, hC2, hle2, p2, hW2, rfl⟩
  ·exact absurd hC (h1 e)
  ·have hE := F.ends e hC.lt
   have a1 := hle e2 hC2
   have a2 := hle2 e hC
   have b1 := a1.2 (by omega)
   have b2 := a2.2 (by omega)
   obtain rfl : e = e2 := by omega
   obtain rfl := hW.eq hW2
   have hlen := hW.short F T hE.2.2.1 hE.2.2.2 L.ok.start
   have hhi := L.hi _ hE.2.2.1 hE.2.2.2
   exact ⟨rfl, by simp only [List.length_cons]; omega, by show (0 : Int) ≠ 1; decide⟩
theorem RoutePaths (l0_0 : List S47) (l0_1 : List S38) (l1 : List Int) (a2_0 a2_1 : Int) (hm0_0 : l0_0.length ≤ maxLen) (hw0_0 : ∀ x ∈ l0_0, x.f0.size ≤ maxLen ∧ (Lit.int .i64 x.f1).wf = true ∧ (Lit.int .i64 x.f2).wf = true) (hm0_1 : l0_1.length ≤ maxLen) (hw0_1 : ∀ x ∈ l0_1, (Lit.int .i64 x.f0).wf = true ∧ (Lit.int .i64 x.f1).wf = true)
  (hm1 : l1.length ≤ maxLen) (hw1 : ∀ x ∈ l1, (Lit.int .i64 x).wf = true) (y1 : l1.length * 8 ≤ 140737488351232) (w2_0 : (Lit.int .i64 a2_0).wf = true) (w2_1 : (Lit.int .i64 a2_1).wf = true) :
  ∃ k, stillagelaw08_RoutePaths.f k l0_0 l0_1 l1 a2_0 a2_1 = some true := by
 suffices h : EvP (fun k => stillagelaw08_RoutePaths.f k l0_0 l0_1 l1 a2_0 a2_1) (fun r => r = true) by
  obtain ⟨k, r, h1, h2⟩ := h.get
  exact ⟨k, by rw [h1, h2]⟩
 refine EvP.ebind awake_e (EvP.yes rfl (EvP.bind (small_e l0_0 l0_1 l1) (fun t ht => EvP.split (fun c => ?_) (fun _ => EvP.ret rfl))))
 obtain ⟨F, hml⟩ := ht c
 have hn := F.n
 have hm := F.m
 refine EvP.ebind (Evt.pure _) ?_
 have told : ∀ (z : List Int × Int), EvP (fun k => stillagelaw08_RoutePaths.j0 k l1 a2_0 a2_1 [a2_0, a2_1, 1, 2, 5] [] 1 [] 1 z.1 z.2 false l0_0 l0_1) (fun r => r = true) := fun z =>
  EvP.succ (fun k => stillagelaw08_RoutePaths.j0.eq_2 _ _ _ _ _ _ _ _ _ _ _ _ _ k) (EvP.no (by simp) (EvP.yes rfl (EvP.ret (by simp [wrap64]))))
 by_cases hA : a2_0 < 0 ∨ (l0_0.length : Int) ≤ a2_0
 ·refine EvP.bind (Path_out l0_0 l0_1 l1 a2_0 a2_1 (by omega)) (fun p hp => EvP.bind (Around_out l0_0 l0_1 l1 a2_0 a2_1 _ (by omega)) (fun q hq => EvP.bind (Loop_out l0_0 l0_1 l1 a2_0 hA) (fun r hr => ?_)))
  subst hp hq hr
  refine EvP.obind (outside_f l0_0 l0_1 a2_0) ?_
  rw [decide_eq_true hA]
  refine EvP.no (by decide) (EvP.obind (a := true) (by rw [outside_f, decide_eq_true hA]) (EvP.yes rfl (EvP.no (by decide) ?_)))
  exact told ([], 1)
 ·obtain ⟨qa, ta, hqa, Ta, _, hPa⟩ := Path_e l0_0 l0_1 F l1 (by omega) a2_0 (by omega) (by omega)
  have hLoop := Loop_e l0_0 l0_1 F l1 (by omega) a2_0 (by omega) (by omega) hqa Ta hPa
  have hRef := refLoop_e l0_0 l0_1 F l1 qa ta (by omega) a2_0 (by omega) (by omega) hqa Ta
  obtain ⟨z0, hz0, hz1⟩ := hRef
  by_cases hB : a2_1 < 0 ∨ (l0_0.length : Int) ≤ a2_1
  ·refine EvP.bind (Path_out l0_0 l0_1 l1 a2_0 a2_1 (by omega)) (fun p hp => EvP.bind (Around_out l0_0 l0_1 l1 a2_0 a2_1 _ (by omega)) (fun q hq => EvP.bind hLoop (fun r hr => ?_)))
   have hrs := loop_same F hqa Ta hr hz1
   subst hp hq
   refine EvP.obind (outside_f l0_0 l0_1 a2_0) ?_
   rw [decide_eq_false hA]
   refine EvP.no (by have := hrs.2.2; simp [this]) (EvP.obind (a := false) (by rw [outside_f, decide_eq_false hA]) (EvP.no (by simp) (EvP.obind (a := true) (by rw [outside_f, decide_eq_true hB]) (EvP.no (by decide) ?_))))
   exact told r
  ·obtain ⟨q, t, hq, T, _, hP⟩ := Path_e l0_0 l0_1 F l1 (by omega) a2_1 (by omega) (by omega)
   have hcl := clo_length l0_1 a2_1 [a2_0, a2_1, 1, 2, 5] l0_1.length 0
   obtain ⟨q2, t2, hq2, T2, _, hP2⟩ := Path_e l0_0 l0_1 F (l1 ++ clo l0_1 a2_1 [a2_0, a2_1, 1, 2, 5] 0 l0_1.length) (by rw [List.length_append]; omega) a2_1 (by omega) (by omega)
   have hclo : l1 ++ clo l0_1 a2_1 [] 0 l0_1.length = l1 := by rw [clo_nil, List.append_nil]
   have hR1 := refPath_e l0_0 l0_1 F l1 [] q t (by omega) (by simp) a2_1 (by omega) (by omega) (by rw [hclo]; exact hq) (by rw [hclo]; exact T) a2_0 (by omega) (by omega)
   have hR2 := refPath_e l0_0 l0_1 F l1 [a2_0, a2_1, 1, 2, 5] q2 t2 (by omega) (by simp) a2_1 (by omega) (by omega) hq2 T2 a2_0 (by omega) (by omega)
   refine EvP.bind (hP a2_0 (by omega) (by omega)) (fun p hp => EvP.bind (Around_e l0_0 l0_1 (by omega) l1 (by omega) a2_0 a2_1 (by omega) (by omega) (by omega) (by omega) [a2_0, a2_1, 1, 2, 5] (by simp) _ (hP2 a2_0 (by omega) (by omega))) (fun u hu => EvP.bind hLoop (fun r hr => ?_)))
   obtain ⟨y1, hy1, hy2⟩ := hR1
   obtain ⟨y2, hy3, hy4⟩ := hR2
   obtain ⟨e1, n1, m1⟩ := path_same F hq T (by omega) (by omega) hp hy2
   obtain ⟨e2, n2, m2⟩ := path_same F hq2 T2 (by omega) (by omega) hu hy4
   obtain ⟨e3, n3, m3⟩ := loop_same F hqa Ta hr hz1
   subst e1 e2 e3
   refine EvP.obind (outside_f l0_0 l0_1 a2_0) ?_
   rw [decide_eq_false hA]
   refine EvP.no (by simp [m3]) (EvP.obind (a := false) (by rw [outside_f, decide_eq_false hA]) (EvP.no (by simp) (EvP.obind (a := false) (by rw [outside_f, decide_eq_false hB]) (EvP.no (by simp [m1]) ?_))))
   have e5 : ((p.2 == 1) != (u.2 == 1)) = false := by rw [show (p.2 == 1) = false from beq_eq_false_iff_ne.2 m1, show (u.2 == 1) = false from beq_eq_false_iff_ne.2 m2]; rfl
   rw [e5]
   refine EvP.succ (fun k => stillagelaw08_RoutePaths.j0.eq_2 _ _ _ _ _ _ _ _ _ _ _ _ _ k) (EvP.no (by simp) (EvP.no m1 (EvP.ebind hy1 (EvP.ebind hy3 (EvP.ebind hz0 (EvP.yes rfl (EvP.yes rfl (EvP.yes rfl ?_))))))))
   refine EvP.bind (Ints_eq rfl (by omega)) (fun b1 hb1 => EvP.yes hb1 (EvP.bind (Ints_eq rfl (by omega)) (fun b2 hb2 => EvP.yes hb2 (EvP.bind (Ints_eq rfl (by omega)) (fun b3 hb3 => EvP.ret hb3)))))

end Go.Proofs.Ytbbdgndaaajejaa.Pure
