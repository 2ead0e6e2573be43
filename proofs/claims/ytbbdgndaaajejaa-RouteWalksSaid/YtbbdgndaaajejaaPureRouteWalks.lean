/- stillagelaw08.RouteWalks is true at every layout, number and row of devices: no condition. -/
import Derived.OpenShut
import Derived.Test.YtbbdgndaaajejaaEvt
import Derived.Test.YtbbdgndaaajejaaBfs
import Derived.Test.YtbbdgndaaajejaaPRouteWalksx
set_option linter.unusedVariables false
set_option linter.unusedSimpArgs false
set_option maxRecDepth 10000
namespace Go.Proofs.Ytbbdgndaaajejaa.Pure
open Go.RowKit Go.Proofs.Ytbbdgndaaajejaa.PRouteWalks Go.Proofs.YtbbdgndaaajejaaW.PrintWords Go.Proofs.YtbbdgndaaajejaaW.PrintLast Go.Proofs.PlainEvt Go.Proofs.PlainBfs
theorem wsm {n : Int} (h0 : 0 ≤ n) (h1 : n ≤ 9223372036854775807) : wrap64 n = n := by unfold wrap64; omega
theorem wnext (i : Nat) (h : i ≤ 1000000) : wrap64 ((i : Int) + 1) = ((i + 1 : Nat) : Int) := by rw [wsm] <;> omega
theorem rd_g (r : List Int) (v : Int) : rd r v = g r v := rfl
def Pass (nodes : List S47) (a : Int) : Prop := (rd_T47 nodes a).f1 = 1
/-- Open edges from a to b: their devices are not named. -/
def EdgeM (edges : List S38) (mask : List Int) (a b : Int) : Prop := ∃ i : Nat, i < edges.length ∧ ¬ ((i : Int) + 1) ∈ mask ∧ (rd_T38 edges i).f0 = a ∧ (rd_T38 edges i).f1 = b
structure Fit (nodes : List S47) (edges : List S38) : Prop where
  n0 : 1 ≤ nodes.length
  n : nodes.length ≤ 40
  m : edges.length ≤ 120
  kinds : ∀ i : Nat, i < nodes.length → 1 ≤ (rd_T47 nodes i).f1 ∧ (rd_T47 nodes i).f1 ≤ 4 ∧ 0 ≤ (rd_T47 nodes i).f2 ∧ (rd_T47 nodes i).f2 ≤ 7
  ends : ∀ i : Nat, i < edges.length → 0 ≤ (rd_T38 edges i).f0 ∧ (rd_T38 edges i).f0 < (nodes.length : Int) ∧ 0 ≤ (rd_T38 edges i).f1 ∧ (rd_T38 edges i).f1 < (nodes.length : Int)
  ne : ∀ i : Nat, i < edges.length → (rd_T38 edges i).f0 ≠ (rd_T38 edges i).f1
  track : ∀ i : Nat, i < edges.length → Pass nodes (rd_T38 edges i).f0 ∨ Pass nodes (rd_T38 edges i).f1
  once : ∀ i j : Nat, i < edges.length → j < i → ¬ ((rd_T38 edges j).f0 = (rd_T38 edges i).f0 ∧ (rd_T38 edges j).f1 = (rd_T38 edges i).f1)
theorem EdgeM.ends {nodes : List S47} {edges : List S38} (F : Fit nodes edges) {mask : List Int} {a b : Int} (h : EdgeM edges mask a b) : 0 ≤ a ∧ a < (nodes.length : Int) ∧ 0 ≤ b ∧ b < (nodes.length : Int) := by
  obtain ⟨i, hi, _, rfl, rfl⟩ := h
  exact F.ends i hi
/-- The lengths of ways from s, told. -/
structure Lens (nodes : List S47) (edges : List S38) (mask : List Int) (s : Int) (r : List Int) : Prop where
  len : r.length = nodes.length
  ok : LensOk nodes.length s (fun a b => EdgeM edges mask a b ∧ (a = s ∨ Pass nodes a)) (g r)
  hi : ∀ v : Int, 0 ≤ v → v < nodes.length → g r v ≤ nodes.length
/-- The lengths of ways to s, told. -/
structure LensTo (nodes : List S47) (edges : List S38) (mask : List Int) (s : Int) (r : List Int) : Prop where
  len : r.length = nodes.length
  ok : LensOk nodes.length s (fun a b => EdgeM edges mask b a ∧ (a = s ∨ Pass nodes a)) (g r)
  hi : ∀ v : Int, 0 ≤ v → v < nodes.length → g r v ≤ nodes.length
theorem eq_of_g {r q : List Int} (hl : r.length = q.length) (h : ∀ v : Int, 0 ≤ v → v < r.length → g r v = g q v) : r = q := by
  apply List.ext_getElem hl
  intro i h1 h2
  have := h (i : Int) (by omega) (by omega)
  unfold g at this
  simpa [List.getD_eq_getElem?_getD, h1, h2] using this
theorem Lens.eq {nodes : List S47} {edges : List S38} {mask : List Int} {s : Int} {r q : List Int} (h : Lens nodes edges mask s r) (h' : Lens nodes edges mask s q) : r = q :=
  eq_of_g (h.1.trans h'.1.symm) (fun v h0 h1 => h.2.eq h'.2 v h0 (by rw [h.1] at h1; exact h1))
theorem LensTo.eq {nodes : List S47} {edges : List S38} {mask : List Int} {s : Int} {r q : List Int} (h : LensTo nodes edges mask s r) (h' : LensTo nodes edges mask s q) : r = q :=
  eq_of_g (h.1.trans h'.1.symm) (fun v h0 h1 => h.2.eq h'.2 v h0 (by rw [h.1] at h1; exact h1))
theorem Lens.to {nodes : List S47} {edges : List S38} {mask : List Int} {s t : Int} {r q : List Int} (h : Lens nodes edges mask s r) (h' : LensTo nodes edges mask t q) (hs0 : 0 ≤ s) (hs1 : s < nodes.length) (ht0 : 0 ≤ t) (ht1 : t < nodes.length) : g r t = g q s :=
  both hs0 hs1 ht0 ht1 h.2 h'.2
theorem Lens.congr {nodes : List S47} {edges : List S38} {mask mask' : List Int} {s : Int} {r : List Int} (h : Lens nodes edges mask s r) (he : ∀ i : Nat, i < edges.length → (((i : Int) + 1) ∈ mask ↔ ((i : Int) + 1) ∈ mask')) : Lens nodes edges mask' s r := by
  refine ⟨h.1, h.2.congr (fun a b => ?_), h.3⟩
  have : EdgeM edges mask a b ↔ EdgeM edges mask' a b := by
    constructor
    · rintro ⟨i, h1, h2, h3⟩
      exact ⟨i, h1, fun c => h2 ((he i h1).2 c), h3⟩
    · rintro ⟨i, h1, h2, h3⟩
      exact ⟨i, h1, fun c => h2 ((he i h1).1 c), h3⟩
  rw [this]
theorem LensTo.congr {nodes : List S47} {edges : List S38} {mask mask' : List Int} {s : Int} {r : List Int} (h : LensTo nodes edges mask s r) (he : ∀ i : Nat, i < edges.length → (((i : Int) + 1) ∈ mask ↔ ((i : Int) + 1) ∈ mask')) : LensTo nodes edges mask' s r := by
  refine ⟨h.1, h.2.congr (fun a b => ?_), h.3⟩
  have : EdgeM edges mask b a ↔ EdgeM edges mask' b a := by
    constructor
    · rintro ⟨i, h1, h2, h3⟩
      exact ⟨i, h1, fun c => h2 ((he i h1).2 c), h3⟩
    · rintro ⟨i, h1, h2, h3⟩
      exact ⟨i, h1, fun c => h2 ((he i h1).1 c), h3⟩
  rw [this]
theorem Name_e (s : ByteArray) : EvP (fun k => stillageref06_Name.f k s) (fun _ => True) := by
  have l0 : ∀ (n i : Nat), i + n = s.size → s.size ≤ 8 → EvP (fun k => stillageref06_Name.l0 k s (i : Int)) (fun _ => True) := by
    intro n
    induction n with
    | zero =>
      intro i hi h8
      exact EvP.succ (fun k => stillageref06_Name.l0.eq_2 _ _ k) (EvP.no (by omega) (EvP.ret trivial))
    | succ n ih =>
      intro i hi h8
      have hg : EvP (fun k => stillageref06_Name.l0 k s (wrap64 ((i : Int) + 1))) (fun _ => True) := by
        rw [wnext i (by omega)]
        exact ih (i + 1) (by omega) h8
      have hf : EvP (fun _ => some false) (fun _ => True) := EvP.ret trivial
      refine EvP.succ (fun k => stillageref06_Name.l0.eq_2 _ _ k) (EvP.yes (by omega) (EvP.yes (by omega) (EvP.split (fun _ => EvP.split (fun _ => EvP.split (fun _ => hg) (fun _ => EvP.split (fun _ => hf) (fun _ => EvP.split (fun _ => hg) (fun _ => hf)))) (fun _ => EvP.split (fun _ => hg) (fun _ => EvP.split (fun _ => hf) (fun _ => hf)))) (fun _ => EvP.split (fun _ => EvP.split (fun _ => hf) (fun _ => EvP.split (fun _ => hg) (fun _ => hf))) (fun _ => EvP.split (fun _ => hf) (fun _ => hf))))))
  refine EvP.split (fun _ => EvP.succ (fun k => stillageref06_Name.j0.eq_2 _ _ k) (EvP.yes rfl (EvP.ret trivial))) (fun _ => ?_)
  by_cases c : (s.size : Int) > 8
  · rw [decide_eq_true c]
    exact EvP.succ (fun k => stillageref06_Name.j0.eq_2 _ _ k) (EvP.yes rfl (EvP.ret trivial))
  · rw [decide_eq_false c]
    exact EvP.succ (fun k => stillageref06_Name.j0.eq_2 _ _ k) (EvP.no (by simp) (l0 s.size 0 (by omega) (by omega)))
theorem Find_e (nodes : List S47) (edges : List S38) (s : ByteArray) (hn : nodes.length ≤ 1000) : EvP (fun k => stillageref06_Find.f k nodes edges s) (fun _ => True) := by
  have l0 : ∀ (n i : Nat), i + n = nodes.length → EvP (fun k => stillageref06_Find.l0 k s (nodes.length : Int) (i : Int) nodes edges) (fun _ => True) := by
    intro n
    induction n with
    | zero =>
      intro i hi
      exact EvP.succ (fun k => stillageref06_Find.l0.eq_2 _ _ _ _ _ k) (EvP.no (by omega) (EvP.ret trivial))
    | succ n ih =>
      intro i hi
      refine EvP.succ (fun k => stillageref06_Find.l0.eq_2 _ _ _ _ _ k) (EvP.yes (by omega) (EvP.yes (by omega) (EvP.yes (by omega) (EvP.split (fun _ => EvP.ret trivial) (fun _ => ?_)))))
      rw [wnext i (by omega)]
      exact ih (i + 1) (by omega)
  exact l0 nodes.length 0 (by omega)
abbrev EdgeOk (nodes : List S47) (edges : List S38) (i : Nat) : Prop :=
  (0 ≤ (rd_T38 edges i).f0 ∧ (rd_T38 edges i).f0 < (nodes.length : Int) ∧ 0 ≤ (rd_T38 edges i).f1 ∧ (rd_T38 edges i).f1 < (nodes.length : Int)) ∧ (rd_T38 edges i).f0 ≠ (rd_T38 edges i).f1 ∧ (Pass nodes (rd_T38 edges i).f0 ∨ Pass nodes (rd_T38 edges i).f1) ∧
    ∀ j : Nat, j < i → ¬ ((rd_T38 edges j).f0 = (rd_T38 edges i).f0 ∧ (rd_T38 edges j).f1 = (rd_T38 edges i).f1)
theorem Good_l2 (nodes : List S47) (edges : List S38) (hm : edges.length ≤ 120) (i : Nat) (hi : i < edges.length) (P : Bool → Prop) (hf : P false)
    (next : (∀ j : Nat, j < i → ¬ ((rd_T38 edges j).f0 = (rd_T38 edges i).f0 ∧ (rd_T38 edges j).f1 = (rd_T38 edges i).f1)) → EvP (fun k => stillageref06_Good.l1 k (edges.length : Int) (wrap64 ((i : Int) + 1)) nodes edges) P) (n : Nat) :
    ∀ j : Nat, j + n = i → (∀ j' : Nat, j' < j → ¬ ((rd_T38 edges j').f0 = (rd_T38 edges i).f0 ∧ (rd_T38 edges j').f1 = (rd_T38 edges i).f1)) → EvP (fun k => stillageref06_Good.l2 k (i : Int) (j : Int) (edges.length : Int) (i : Int) nodes edges) P := by
  induction n with
  | zero =>
    intro j hj hp
    obtain rfl : j = i := by omega
    exact EvP.succ (fun k => stillageref06_Good.l2.eq_2 _ _ _ _ _ _ k) (EvP.no (by omega) (next hp))
  | succ n ih =>
    intro j hj hp
    refine EvP.succ (fun k => stillageref06_Good.l2.eq_2 _ _ _ _ _ _ k) (EvP.yes (by omega) (EvP.yes (by omega) (EvP.yes (by omega) (EvP.yes (by omega) (EvP.yes (by omega) (EvP.split (fun _ => EvP.ret hf) (fun c => ?_)))))))
    rw [wnext j (by omega)]
    refine ih (j + 1) (by omega) (fun j' hj' => ?_)
    by_cases e : j' = j
    · subst e
      intro h
      apply c
      simp [h.1, h.2]
    · exact hp j' (by omega)
theorem Good_l1 (nodes : List S47) (edges : List S38) (hm : edges.length ≤ 120) (n : Nat) : ∀ i : Nat, i + n = edges.length → EvP (fun k => stillageref06_Good.l1 k (edges.length : Int) (i : Int) nodes edges) (fun b => b = true → ∀ j : Nat, i ≤ j → j < edges.length → EdgeOk nodes edges j) := by
  induction n with
  | zero =>
    intro i hi
    exact EvP.succ (fun k => stillageref06_Good.l1.eq_2 _ _ _ _ k) (EvP.no (by omega) (EvP.ret (fun _ j h1 h2 => by omega)))
  | succ n ih =>
    intro i hi
    have hff : (false = true) → ∀ j : Nat, i ≤ j → j < edges.length → EdgeOk nodes edges j := fun h => by cases h
    have bad : ∀ (x6 x7 : Int), EvP (fun k => stillageref06_Good.j3 k (i : Int) x6 x7 (edges.length : Int) (i : Int) true nodes edges) (fun b => b = true → ∀ j : Nat, i ≤ j → j < edges.length → EdgeOk nodes edges j) := fun x6 x7 =>
      EvP.succ (fun k => stillageref06_Good.j3.eq_2 _ _ _ _ _ _ _ _ k) (EvP.yes rfl (EvP.ret hff))
    refine EvP.succ (fun k => stillageref06_Good.l1.eq_2 _ _ _ _ k) (EvP.yes (by omega) (EvP.yes (by omega) (EvP.yes (by omega) (EvP.split (fun _ => bad _ _) (fun c1 => EvP.split (fun _ => bad _ _) (fun c2 => EvP.split (fun _ => bad _ _) (fun c3 => EvP.split (fun _ => bad _ _) (fun c4 => ?_))))))))
    by_cases c5 : (rd_T38 edges (i : Int)).f0 = (rd_T38 edges (i : Int)).f1
    · rw [show ((rd_T38 edges (i : Int)).f0 == (rd_T38 edges (i : Int)).f1) = true from by simpa using c5]
      exact bad _ _
    · rw [show ((rd_T38 edges (i : Int)).f0 == (rd_T38 edges (i : Int)).f1) = false from by simpa using c5]
      have go : (Pass nodes (rd_T38 edges (i : Int)).f0 ∨ Pass nodes (rd_T38 edges (i : Int)).f1) → EvP (fun k => stillageref06_Good.j4 k (i : Int) (edges.length : Int) (i : Int) false nodes edges) (fun b => b = true → ∀ j : Nat, i ≤ j → j < edges.length → EdgeOk nodes edges j) := by
        intro hp
        refine EvP.succ (fun k => stillageref06_Good.j4.eq_2 _ _ _ _ _ _ k) (EvP.no (by simp) (Good_l2 nodes edges hm i (by omega) _ hff (fun hd => ?_) i 0 (by omega) (fun j' hj' => by omega)))
        rw [wnext i (by omega)]
        refine (ih (i + 1) (by omega)).mono (fun b h hb j h1 h2 => ?_)
        by_cases e : j = i
        · subst e
          exact ⟨⟨by omega, by omega, by omega, by omega⟩, c5, hp, hd⟩
        · exact h hb j (by omega) h2
      refine EvP.succ (fun k => stillageref06_Good.j3.eq_2 _ _ _ _ _ _ _ _ k) (EvP.no (by simp) (EvP.yes (by omega) (EvP.yes (by omega) (EvP.split (fun c6 => go (.inl c6)) (fun c6 => EvP.yes (by omega) (EvP.yes (by omega) ?_))))))
      by_cases c7 : (rd_T47 nodes (rd_T38 edges (i : Int)).f1).f1 = 1
      · rw [show ((rd_T47 nodes (rd_T38 edges (i : Int)).f1).f1 != 1) = false from by simpa using c7]
        exact go (.inr c7)
      · rw [show ((rd_T47 nodes (rd_T38 edges (i : Int)).f1).f1 != 1) = true from by simpa using c7]
        exact EvP.succ (fun k => stillageref06_Good.j4.eq_2 _ _ _ _ _ _ k) (EvP.yes rfl (EvP.ret hff))
abbrev NodeOk (nodes : List S47) (i : Nat) : Prop := 1 ≤ (rd_T47 nodes i).f1 ∧ (rd_T47 nodes i).f1 ≤ 4 ∧ 0 ≤ (rd_T47 nodes i).f2 ∧ (rd_T47 nodes i).f2 ≤ 7
theorem Good_l0 (nodes : List S47) (edges : List S38) (hn : nodes.length ≤ 40) (hm : edges.length ≤ 120) (n : Nat) : ∀ i : Nat, i + n = nodes.length → EvP (fun k => stillageref06_Good.l0 k (nodes.length : Int) (i : Int) nodes edges) (fun b => b = true → (∀ j : Nat, i ≤ j → j < nodes.length → NodeOk nodes j) ∧ ∀ j : Nat, j < edges.length → EdgeOk nodes edges j) := by
  induction n with
  | zero =>
    intro i hi
    refine EvP.succ (fun k => stillageref06_Good.l0.eq_2 _ _ _ _ k) (EvP.no (by omega) ((Good_l1 nodes edges hm edges.length 0 (by omega)).mono (fun b h hb => ⟨fun j h1 h2 => by omega, fun j hj => h hb j (by omega) hj⟩)))
  | succ n ih =>
    intro i hi
    have hff : (false = true) → (∀ j : Nat, i ≤ j → j < nodes.length → NodeOk nodes j) ∧ ∀ j : Nat, j < edges.length → EdgeOk nodes edges j := fun h => by cases h
    refine EvP.succ (fun k => stillageref06_Good.l0.eq_2 _ _ _ _ k) (EvP.yes (by omega) (EvP.yes (by omega) (EvP.yes (by omega) (EvP.bind (Name_e _) (fun t _ => EvP.split (fun _ => EvP.split (fun _ => EvP.ret hff) (fun c1 => EvP.split (fun _ => EvP.ret hff) (fun c2 => EvP.split (fun _ => EvP.ret hff) (fun c3 => EvP.split (fun _ => EvP.ret hff) (fun c4 => EvP.bind (Find_e nodes edges _ (by omega)) (fun t _ => EvP.split (fun _ => ?_) (fun _ => EvP.ret hff))))))) (fun _ => EvP.ret hff))))))
    rw [wnext i (by omega)]
    refine (ih (i + 1) (by omega)).mono (fun b h hb => ⟨fun j h1 h2 => ?_, (h hb).2⟩)
    by_cases e : j = i
    · subst e
      exact ⟨by omega, by omega, by omega, by omega⟩
    · exact (h hb).1 j (by omega) h2
theorem Good_e (nodes : List S47) (edges : List S38) : EvP (fun k => stillageref06_Good.f k nodes edges) (fun b => b = true → Fit nodes edges) := by
  have bad : EvP (fun k => stillageref06_Good.j0 k true nodes edges) (fun b => b = true → Fit nodes edges) := EvP.succ (fun k => stillageref06_Good.j0.eq_2 _ _ _ k) (EvP.yes rfl (EvP.ret (fun h => by cases h)))
  refine EvP.split (fun _ => bad) (fun c1 => EvP.split (fun _ => bad) (fun c2 => ?_))
  by_cases c3 : (edges.length : Int) > 120
  · rw [decide_eq_true c3]
    exact bad
  · rw [decide_eq_false c3]
    refine EvP.succ (fun k => stillageref06_Good.j0.eq_2 _ _ _ k) (EvP.no (by simp) ((Good_l0 nodes edges (by omega) (by omega) nodes.length 0 (by omega)).mono (fun b h hb => ?_)))
    obtain ⟨hN, hE⟩ := h hb
    exact ⟨by omega, by omega, by omega, fun i hi => hN i (by omega) hi, fun i hi => (hE i hi).1, fun i hi => (hE i hi).2.1, fun i hi => (hE i hi).2.2.1, fun i j hi hj => (hE i hi).2.2.2 j hj⟩
theorem own_f (nodes : List S47) (edges : List S38) (hn : nodes.length ≤ 1000) (hm : edges.length ≤ 1000) : stillagelaw06_Own.f nodes edges = some (nodes, edges) := by
  unfold stillagelaw06_Own.f
  rw [Option.bind_some, if_pos (by simp; omega), Option.bind_some, if_pos (by simp; omega)]
  simp
theorem awake_e : Evt (fun k => stillagelaw08_awake.f k) true := Evt.mono (n := 80) (by decide +kernel) (fun k r h => stillagelaw08_awake.mono k r h)
/-- Where devices lead, told plainly. -/
def walkP (edges : List S38) (node : Int) : List Int → Int × Int
  | [] => (node, 0)
  | d :: p => if d < 1 ∨ d > (edges.length : Int) ∨ (rd_T38 edges (d - 1)).f0 ≠ node then (0, 80) else walkP edges (rd_T38 edges (d - 1)).f1 p
theorem walkP_out (edges : List S38) (node d : Int) (p : List Int) (h : d < 1 ∨ d > (edges.length : Int) ∨ (rd_T38 edges (d - 1)).f0 ≠ node) : walkP edges node (d :: p) = (0, 80) := by rw [walkP, if_pos h]
theorem walkP_in (edges : List S38) (node d : Int) (p : List Int) (h : ¬ (d < 1 ∨ d > (edges.length : Int) ∨ (rd_T38 edges (d - 1)).f0 ≠ node)) : walkP edges node (d :: p) = walkP edges (rd_T38 edges (d - 1)).f1 p := by rw [walkP, if_neg h]
theorem Walk_l0 (nodes : List S47) (edges : List S38) (hm : edges.length ≤ 100000) (path : List Int) (hp : path.length ≤ 100000) (n : Nat) : ∀ (i : Nat) (node : Int), i + n = path.length → EvP (fun k => route_Walk.l0 k node path (path.length : Int) (i : Int) nodes edges) (fun r => r = walkP edges node (path.drop i)) := by
  induction n with
  | zero =>
    intro i node hi
    refine EvP.succ (fun k => route_Walk.l0.eq_2 _ _ _ _ _ _ k) (EvP.no (by omega) (EvP.ret ?_))
    rw [List.drop_eq_nil_of_le (by omega), walkP]
  | succ n ih =>
    intro i node hi
    have hil : i < path.length := by omega
    have hrd : rd path (i : Int) = path[i] := by simp [rd, List.getElem?_eq_getElem hil]
    rw [List.drop_eq_getElem_cons hil]
    refine EvP.succ (fun k => route_Walk.l0.eq_2 _ _ _ _ _ _ k) (EvP.yes (by omega) (EvP.yes (by omega) (EvP.yes (by omega) ?_)))
    rw [hrd]
    generalize path[i] = d
    refine EvP.split (fun c => EvP.ret (walkP_out _ _ _ _ (.inl c)).symm) (fun c => EvP.split (fun c2 => EvP.ret (walkP_out _ _ _ _ (.inr (.inl c2))).symm) (fun c2 => ?_))
    rw [show wrap64 (d - 1) = d - 1 by unfold wrap64; omega]
    refine EvP.yes (by omega) (EvP.yes (by omega) (EvP.split (fun c3 => ?_) (fun c3 => EvP.ret (walkP_out _ _ _ _ (.inr (.inr c3))).symm)))
    rw [wnext i (by omega), walkP_in _ _ _ _ (by rintro (h | h | h) <;> first | exact c h | exact c2 h | exact h c3)]
    exact ih (i + 1) _ (by omega)
theorem Out1_e (nodes : List S47) (edges : List S38) (a : Int) : route_out.f nodes edges [a] = some (decide (a < 0) || decide (a ≥ (nodes.length : Int))) := by
  unfold route_out.f
  simp
theorem Walk_e (nodes : List S47) (edges : List S38) (hm : edges.length ≤ 100000) (a : Int) (h0 : 0 ≤ a) (h1 : a < (nodes.length : Int)) (path : List Int) (hp : path.length ≤ 100000) : EvP (fun k => route_Walk.f k nodes edges a path) (fun r => r = walkP edges a path) := by
  refine EvP.obind (Out1_e nodes edges a) ?_
  rw [decide_eq_false (show ¬ a < 0 by omega), decide_eq_false (show ¬ a ≥ (nodes.length : Int) by omega)]
  exact EvP.no (by simp) (Walk_l0 nodes edges hm path hp path.length 0 a (by omega))
theorem Walk_out (nodes : List S47) (edges : List S38) (a : Int) (h : a < 0 ∨ (nodes.length : Int) ≤ a) (path : List Int) : EvP (fun k => route_Walk.f k nodes edges a path) (fun r => r = (0, 1)) := by
  refine EvP.obind (Out1_e nodes edges a) ?_
  rw [show (decide (a < 0) || decide (a ≥ (nodes.length : Int))) = true by simpa using h]
  exact EvP.yes rfl (EvP.ret rfl)
theorem RWalk_l0 (nodes : List S47) (edges : List S38) (hm : edges.length ≤ 100000) (path : List Int) (hp : path.length ≤ 100000) (n : Nat) : ∀ (i : Nat) (node : Int), i + n = path.length → EvP (fun k => stillageref08_Walk.l0 k node path (path.length : Int) (i : Int) nodes edges) (fun r => r = walkP edges node (path.drop i)) := by
  induction n with
  | zero =>
    intro i node hi
    refine EvP.succ (fun k => stillageref08_Walk.l0.eq_2 _ _ _ _ _ _ k) (EvP.no (by omega) (EvP.ret ?_))
    rw [List.drop_eq_nil_of_le (by omega), walkP]
  | succ n ih =>
    intro i node hi
    have hil : i < path.length := by omega
    have hrd : rd path (i : Int) = path[i] := by simp [rd, List.getElem?_eq_getElem hil]
    rw [List.drop_eq_getElem_cons hil]
    refine EvP.succ (fun k => stillageref08_Walk.l0.eq_2 _ _ _ _ _ _ k) (EvP.yes (by omega) (EvP.yes (by omega) (EvP.yes (by omega) ?_)))
    rw [hrd]
    generalize path[i] = d
    refine EvP.split (fun c => EvP.ret (walkP_out _ _ _ _ (.inl c)).symm) (fun c => EvP.split (fun c2 => EvP.ret (walkP_out _ _ _ _ (.inr (.inl c2))).symm) (fun c2 => ?_))
    rw [show wrap64 (d - 1) = d - 1 by unfold wrap64; omega]
    refine EvP.yes (by omega) (EvP.yes (by omega) (EvP.split (fun c3 => ?_) (fun c3 => EvP.ret (walkP_out _ _ _ _ (.inr (.inr c3))).symm)))
    rw [wnext i (by omega), walkP_in _ _ _ _ (by rintro (h | h | h) <;> first | exact c h | exact c2 h | exact h c3)]
    exact ih (i + 1) _ (by omega)

theorem RouteWalks (l0_0 : List S47) (l0_1 : List S38) (a1 : Int) (l2 : List Int) (hm0_0 : l0_0.length ≤ maxLen) (hw0_0 : ∀ x ∈ l0_0, x.f0.size ≤ maxLen ∧ (Lit.int .i64 x.f1).wf = true ∧ (Lit.int .i64 x.f2).wf = true) (hm0_1 : l0_1.length ≤ maxLen) (hw0_1 : ∀ x ∈ l0_1, (Lit.int .i64 x.f0).wf = true ∧ (Lit.int .i64 x.f1).wf = true)
    (w1 : (Lit.int .i64 a1).wf = true) (hm2 : l2.length ≤ maxLen) (hw2 : ∀ x ∈ l2, (Lit.int .i64 x).wf = true) (y2 : l2.length * 8 ≤ 140737488351232) :
    ∃ k, stillagelaw08_RouteWalks.f k l0_0 l0_1 a1 l2 = some true := by
  suffices h : EvP (fun k => stillagelaw08_RouteWalks.f k l0_0 l0_1 a1 l2) (fun r => r = true) by
    obtain ⟨k, r, h1, h2⟩ := h.get
    exact ⟨k, by rw [h1, h2]⟩
  refine EvP.ebind awake_e (EvP.yes rfl ?_)
  by_cases hl : (l2.length : Int) > 200
  · rw [decide_eq_true hl]
    exact EvP.succ (fun k => stillagelaw08_RouteWalks.j0.eq_2 _ _ _ _ _ k) (EvP.yes rfl (EvP.ebind awake_e (EvP.ret rfl)))
  · rw [decide_eq_false hl]
    refine EvP.succ (fun k => stillagelaw08_RouteWalks.j0.eq_2 _ _ _ _ _ k) (EvP.no (by simp) (EvP.bind (Good_e l0_0 l0_1) (fun t ht => EvP.split (fun c => ?_) (fun _ => EvP.ret rfl))))
    have F := ht c
    have hn := F.n
    have hm := F.m
    refine EvP.obind (own_f l0_0 l0_1 (by omega) (by omega)) (EvP.ebind (Evt.pure _) (EvP.yes (by simp; omega) ?_))
    rw [List.nil_append]
    have hout : stillagelaw08_outside.f l0_0 l0_1 a1 = some (decide (a1 < 0) || decide (a1 ≥ (l0_0.length : Int))) := by
      unfold stillagelaw08_outside.f
      by_cases h : a1 < 0
      · rw [if_pos h, decide_eq_true h]; rfl
      · rw [if_neg h, decide_eq_false h]; rfl
    by_cases ho : a1 < 0 ∨ (l0_0.length : Int) ≤ a1
    · refine EvP.bind (Walk_out l0_0 l0_1 a1 ho l2) (fun r hr => EvP.obind hout ?_)
      rw [show (decide (a1 < 0) || decide (a1 ≥ (l0_0.length : Int))) = true by simpa using ho, hr]
      exact EvP.yes rfl (EvP.yes rfl (EvP.ret rfl))
    · refine EvP.bind (Walk_e l0_0 l0_1 (by omega) a1 (by omega) (by omega) l2 (by omega)) (fun r hr => EvP.obind hout ?_)
      rw [show (decide (a1 < 0) || decide (a1 ≥ (l0_0.length : Int))) = false by simpa using ho]
      refine EvP.no (by simp) (EvP.bind (RWalk_l0 l0_0 l0_1 (by omega) l2 (by omega) l2.length 0 a1 (by omega)) (fun q hq => ?_))
      rw [List.drop_zero] at hq
      rw [hr, hq]
      exact EvP.yes rfl (EvP.ret (by simp))

end Go.Proofs.Ytbbdgndaaajejaa.Pure
