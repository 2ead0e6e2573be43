/- stillagelaw03.TurnRows is true at every three numbers: no condition. -/
import Derived.OpenShut
import Derived.Test.YtkeajkdcboopcaaEvt
import Derived.Test.YtkeajkdcboopcaaPTurnRowsx
set_option linter.unusedVariables false
set_option linter.unusedSimpArgs false
set_option maxRecDepth 10000
namespace Go.Proofs.Ytkeajkdcboopcaa.Pure
open Go.RowKit Go.Proofs.Ytkeajkdcboopcaa.PTurnRows Go.Proofs.YtkeajkdcboopcaaW.PrintWords Go.Proofs.YtkeajkdcboopcaaW.PrintLast Go.Proofs.PlainEvt
theorem w16 (n : Int) : IntKind.u16.wrap n = n % 65536 := by simp [IntKind.wrap, IntKind.bits, IntKind.signed]
theorem wsm {n : Int} (h0 : -9223372036854775808 ≤ n) (h1 : n ≤ 9223372036854775807) : wrap64 n = n := by unfold wrap64; omega
theorem wnext (i : Nat) (h : i ≤ 1000000000) : wrap64 ((i : Int) + 1) = ((i + 1 : Nat) : Int) := by rw [wsm] <;> omega
def up (lo x : Int) : Int := (x - lo) % 65536
def In16 (x : Int) : Prop := 0 ≤ x ∧ x < 65536
theorem up_range (lo x : Int) : 0 ≤ up lo x ∧ up lo x < 65536 := by unfold up; omega
theorem up_inj {lo x y : Int} (hx : In16 x) (hy : In16 y) (h : up lo x = up lo y) : x = y := by unfold up at h; unfold In16 at *; omega
theorem up_back {lo x : Int} (hx : In16 x) : (up lo x + lo) % 65536 = x := by unfold up; unfold In16 at *; omega
theorem ext_of_sorted {α : Type} (r : α → α → Prop) (hi : ∀ a, ¬ r a a) (ha : ∀ a b, r a b → ¬ r b a) : ∀ l1 l2 : List α, l1.Pairwise r → l2.Pairwise r → (∀ x, x ∈ l1 ↔ x ∈ l2) → l1 = l2
  | [], [], _, _, _ => rfl
  | [], b :: l2, _, _, h => by have := (h b).2 List.mem_cons_self; simp at this
  | a :: l1, [], _, _, h => by have := (h a).1 List.mem_cons_self; simp at this
  | a :: l1, b :: l2, h1, h2, h => by
    rw [List.pairwise_cons] at h1 h2
    have e : a = b := by
      rcases List.mem_cons.mp ((h a).1 List.mem_cons_self) with e | e
      · exact e
      · rcases List.mem_cons.mp ((h b).2 List.mem_cons_self) with e' | e'
        · exact e'.symm
        · exact absurd (h1.1 b e') (ha _ _ (h2.1 a e))
    subst e
    congr 1
    refine ext_of_sorted r hi ha l1 l2 h1.2 h2.2 (fun x => ?_)
    constructor
    · intro hx
      rcases List.mem_cons.mp ((h x).1 (List.mem_cons_of_mem _ hx)) with e | e
      · subst e; exact absurd (h1.1 x hx) (hi x)
      · exact e
    · intro hx
      rcases List.mem_cons.mp ((h x).2 (List.mem_cons_of_mem _ hx)) with e | e
      · subst e; exact absurd (h2.1 x hx) (hi x)
      · exact e
theorem le_sort (lo : Int) (x y : U16) : (!(Go.Proofs.ltOf (cfU lo)) y x) = decide (up lo x.val ≤ up lo y.val) := by
  rw [ltU]
  unfold up
  by_cases h : ((x.val : Int) - lo) % 65536 ≤ ((y.val : Int) - lo) % 65536
  · rw [decide_eq_true h, decide_eq_false (by omega)]; rfl
  · rw [decide_eq_false h, decide_eq_true (by omega)]; rfl
theorem u16_in (x : U16) : In16 (x.val : Int) := by have := x.isLt; unfold In16; omega
theorem comp_inv (lo : Int) (s : Array U16) (hs : ∀ i j, i < j → j < s.size → up lo (s[i]!).val ≤ up lo (s[j]!).val) : ∀ m, m ≤ s.size →
    (Lib.compactUpTo s m).Pairwise (fun x y => up lo x.val < up lo y.val) ∧ (∀ x ∈ Lib.compactUpTo s m, ∃ j, j < m ∧ x = s[j]!) ∧ ∀ j, j < m → s[j]! ∈ Lib.compactUpTo s m := by
  intro m
  induction m with
  | zero => intro _; exact ⟨by simp [Lib.compactUpTo], by simp [Lib.compactUpTo], fun j h => by omega⟩
  | succ m ih =>
    intro hm
    obtain ⟨h1, h2, h3⟩ := ih (by omega)
    rw [Lib.compactUpTo_succ]
    cases hk : Lib.keeps s m with
    | false =>
      have hz : m ≠ 0 ∧ s[m]! = s[m - 1]! := by simpa [Lib.keeps] using hk
      simp only [Bool.false_eq_true, if_false, List.append_nil]
      refine ⟨h1, fun x hx => ?_, fun j hj => ?_⟩
      · obtain ⟨j, hj, e⟩ := h2 x hx
        exact ⟨j, by omega, e⟩
      · by_cases e : j = m
        · subst e; rw [hz.2]; exact h3 _ (by omega)
        · exact h3 j (by omega)
    | true =>
      have hz : m = 0 ∨ s[m]! ≠ s[m - 1]! := by simpa [Lib.keeps] using hk
      simp only [if_true]
      refine ⟨?_, fun x hx => ?_, fun j hj => ?_⟩
      · rw [List.pairwise_append]
        refine ⟨h1, by simp, fun x hx y hy => ?_⟩
        obtain rfl : y = s[m]! := by simpa using hy
        obtain ⟨j, hj, rfl⟩ := h2 x hx
        rcases hz with rfl | hz
        · omega
        · have hlast : up lo (s[m - 1]!).val < up lo (s[m]!).val := by
            have := hs (m - 1) m (by omega) (by omega)
            rcases Int.lt_or_eq_of_le this with h | h
            · exact h
            · exact absurd (Fin.ext (Int.natCast_inj.mp (up_inj (u16_in _) (u16_in _) h))).symm hz
          by_cases e : j = m - 1
          · subst e; exact hlast
          · have := hs j (m - 1) (by omega) (by omega)
            omega
      · rcases List.mem_append.mp hx with hx | hx
        · obtain ⟨j, hj, e⟩ := h2 x hx
          exact ⟨j, by omega, e⟩
        · obtain rfl : x = s[m]! := by simpa using hx
          exact ⟨m, by omega, rfl⟩
      · by_cases e : j = m
        · subst e; simp
        · exact List.mem_append_left _ (h3 j (by omega))
theorem sortU_sorted (lo : Int) (d : Array U16) : ∀ i j, i < j → j < (sortU lo d).size → up lo ((sortU lo d)[i]!).val ≤ up lo ((sortU lo d)[j]!).val := by
  intro i j hij hj
  have hp := List.pairwise_mergeSort (le := fun x y : U16 => !(Go.Proofs.ltOf (cfU lo)) y x) (fun a b c h1 h2 => by rw [le_sort] at *; simp at *; omega) (fun a b => by rw [le_sort, le_sort]; simp; omega) d.toList
  rw [List.pairwise_iff_getElem] at hp
  have hj' : j < (d.toList.mergeSort fun x y => !(Go.Proofs.ltOf (cfU lo)) y x).length := by simpa [sortU] using hj
  have := hp i j (by omega) hj' hij
  rw [le_sort] at this
  rw [getElem!_pos (sortU lo d) i (by omega), getElem!_pos (sortU lo d) j hj]
  simpa [sortU] using this
theorem orderU_pairwise (lo : Int) (d : Array U16) : (orderU lo d).Pairwise (fun x y => up lo x.val < up lo y.val) := (comp_inv lo (sortU lo d) (sortU_sorted lo d) _ (Nat.le_refl _)).1
theorem orderU_mem (lo : Int) (d : Array U16) (x : U16) : x ∈ orderU lo d ↔ x ∈ d.toList := by
  obtain ⟨_, h2, h3⟩ := comp_inv lo (sortU lo d) (sortU_sorted lo d) _ (Nat.le_refl _)
  have hm : ∀ y, y ∈ (sortU lo d).toList ↔ y ∈ d.toList := fun y => by simp [sortU, List.mem_mergeSort]
  constructor
  · intro hx
    obtain ⟨j, hj, e⟩ := h2 x hx
    rw [← hm, e, getElem!_pos (sortU lo d) j hj]
    simp
  · intro hx
    rw [← hm] at hx
    obtain ⟨j, hj, e⟩ := List.getElem_of_mem hx
    have hj' : j < (sortU lo d).size := by simpa using hj
    have := h3 j hj'
    rw [getElem!_pos (sortU lo d) j hj'] at this
    rw [← e]
    simpa [orderU] using this
/-- What is told of a list put in order. -/
structure Ord (lo : Int) (l R : List Int) : Prop where
  pw : R.Pairwise (fun x y => up lo x < up lo y)
  mem : ∀ x, x ∈ R ↔ x ∈ l
theorem Ord.eq {lo : Int} {l R Q : List Int} (h : Ord lo l R) (h' : Ord lo l Q) : R = Q :=
  ext_of_sorted _ (fun _ => by omega) (fun _ _ _ => by omega) R Q h.pw h'.pw (fun x => (h.mem x).trans (h'.mem x).symm)
theorem Order_f (l : List Int) (lo : Int) (hl : ∀ x ∈ l, In16 x) (hn : l.length ≤ 100000) : ∃ R, turn_Order.f l lo = some R ∧ Ord lo l R := by
  unfold turn_Order.f
  rw [if_pos ⟨by rw [List.all_eq_true]; intro x hx; have := hl x hx; unfold In16 at this; simp; omega, by omega⟩]
  refine ⟨_, rfl, ?_, fun x => ?_⟩
  · rw [List.pairwise_map]
    exact orderU_pairwise lo (toU l)
  · rw [List.mem_map]
    simp only [orderU_mem, toU, List.mem_map]
    constructor
    · rintro ⟨u, ⟨y, hy, rfl⟩, rfl⟩
      have := hl y hy
      unfold In16 at this
      have e : ((Fin.ofNat 65536 y.toNat).val : Int) = y := by simp [Fin.ofNat]; omega
      rw [e]; exact hy
    · intro hx
      have := hl x hx
      unfold In16 at this
      exact ⟨Fin.ofNat 65536 x.toNat, ⟨x, hx, rfl⟩, by simp [Fin.ofNat]; omega⟩
theorem Same_loop (x y : List Int) (hl : x.length = y.length) (hm : x.length ≤ 100000) (n : Nat) : ∀ i : Nat, i + n = x.length → EvP (fun k => stillageref03_Same.l0 k x y (x.length : Int) (i : Int)) (fun r => r = true ↔ x.drop i = y.drop i) := by
  induction n with
  | zero =>
    intro i hi
    refine EvP.succ (fun k => stillageref03_Same.l0.eq_2 _ _ _ _ k) (EvP.no (by omega) (EvP.ret ?_))
    rw [List.drop_eq_nil_of_le (by omega), List.drop_eq_nil_of_le (by omega)]
    simp
  | succ n ih =>
    intro i hi
    have h1 : i < x.length := by omega
    have h2 : i < y.length := by omega
    have e1 : rd x (i : Int) = x[i] := by simp [rd, List.getElem?_eq_getElem h1]
    have e2 : rd y (i : Int) = y[i] := by simp [rd, List.getElem?_eq_getElem h2]
    refine EvP.succ (fun k => stillageref03_Same.l0.eq_2 _ _ _ _ k) (EvP.yes (by omega) (EvP.yes (by omega) (EvP.yes (by omega) (EvP.yes (by omega) (EvP.split (fun c => ?_) (fun c => EvP.ret ?_))))))
    · rw [wnext i (by omega)]
      refine (ih (i + 1) (by omega)).mono (fun r h => ?_)
      rw [h, List.drop_eq_getElem_cons h1, List.drop_eq_getElem_cons h2]
      rw [e1, e2] at c
      simp only [List.cons.injEq, c, true_and]
    · rw [List.drop_eq_getElem_cons h1, List.drop_eq_getElem_cons h2]
      rw [e1, e2] at c
      simp only [List.cons.injEq, c, false_and]
      simp
theorem Same_e (x y : List Int) (hm : x.length ≤ 100000) : EvP (fun k => stillageref03_Same.f k x y) (fun r => r = true ↔ x = y) := by
  refine EvP.split (fun c => ?_) (fun c => EvP.ret ?_)
  · exact Same_loop x y (by omega) hm x.length 0 (by omega)
  · constructor
    · intro h; cases h
    · rintro rfl
      exact absurd rfl c
theorem Same_eq {x y : List Int} (h : x = y) (hm : x.length ≤ 100000) : EvP (fun k => stillageref03_Same.f k x y) (fun r => r = true) := (Same_e x y hm).mono (fun r e => e.2 h)
theorem awake_e : Evt (fun k => stillagelaw03_awake.f k) true := Evt.mono (n := 1) (by decide +kernel) (fun k r h => stillagelaw03_awake.mono k r h)
def elt (lo : Int) (j : Int) : Int := (lo + j) % 65536
theorem elt_in (lo j : Int) : In16 (elt lo j) := by unfold In16 elt; omega
theorem elt_up (lo j : Int) (h0 : 0 ≤ j) (h1 : j < 65536) : up lo (elt lo j) = j := by unfold up elt; omega
def rowOf (lo : Int) (i : Nat) : List Int := (List.range i).map fun j : Nat => elt lo (j : Int)
def turnedOf (lo n k : Int) (i : Nat) : List Int := (List.range i).flatMap fun j : Nat => [elt lo (((j : Int) * 7 + k) % n), elt lo (((j : Int) + k) % n)]
theorem rowOf_succ (lo : Int) (i : Nat) : rowOf lo (i + 1) = rowOf lo i ++ [elt lo (i : Int)] := by simp [rowOf, List.range_succ]
theorem turnedOf_succ (lo n k : Int) (i : Nat) : turnedOf lo n k (i + 1) = turnedOf lo n k i ++ [elt lo (((i : Int) * 7 + k) % n), elt lo (((i : Int) + k) % n)] := by simp [turnedOf, List.range_succ, List.flatMap_append]
theorem turnedOf_length (lo n k : Int) (i : Nat) : (turnedOf lo n k i).length = 2 * i := by
  induction i with
  | zero => rfl
  | succ i ih => rw [turnedOf_succ, List.length_append, ih]; simp; omega
theorem within_f (s lo n : Int) (h : 0 ≤ (s - lo) % 65536) : turn_Within.f s lo n = some (decide ((s - lo) % 65536 < n)) := by
  unfold turn_Within.f
  rw [w16, wsm (by omega) (by omega)]
theorem row_ord (lo : Int) (n : Nat) (hn : n ≤ 200) (k : Int) (hk0 : 0 ≤ k) (hk1 : k < n) : Ord lo (turnedOf lo n k n) (rowOf lo n) := by
  refine ⟨?_, fun x => ?_⟩
  · unfold rowOf
    rw [List.pairwise_map, List.pairwise_iff_getElem]
    intro i j hi hj hij
    simp only [List.getElem_range]
    simp at hi hj
    rw [elt_up lo _ (by omega) (by omega), elt_up lo _ (by omega) (by omega)]
    omega
  · unfold rowOf turnedOf
    rw [List.mem_map, List.mem_flatMap]
    constructor
    · rintro ⟨j, hj, rfl⟩
      rw [List.mem_range] at hj
      have e : ((((j + n - k.toNat) % n : Nat) : Int) + k) % (n : Int) = (j : Int) := by
        obtain ⟨m, rfl⟩ := Int.eq_ofNat_of_zero_le hk0
        simp only [Int.toNat_natCast]
        have h1 : ((j + n - m) % n + m) % n = j := by
          rw [Nat.mod_add_mod, show j + n - m + m = j + n by omega, Nat.add_mod_right, Nat.mod_eq_of_lt hj]
        rw [← Int.natCast_add, ← Int.natCast_emod, h1]
      exact ⟨(j + n - k.toNat) % n, List.mem_range.mpr (Nat.mod_lt _ (by omega)), by rw [e]; simp⟩
    · rintro ⟨j, hj, hx⟩
      have hnz : (n : Int) ≠ 0 := by omega
      have hpos : (0 : Int) < n := by omega
      have g : ∀ z : Int, ∃ a, a ∈ List.range n ∧ elt lo (a : Int) = elt lo (z % (n : Int)) := by
        intro z
        have h1 := Int.emod_nonneg z hnz
        have h2 := Int.emod_lt_of_pos z hpos
        exact ⟨(z % (n : Int)).toNat, List.mem_range.mpr (by omega), by rw [Int.toNat_of_nonneg h1]⟩
      simp only [List.mem_cons, List.not_mem_nil, or_false] at hx
      rcases hx with rfl | rfl
      · exact g _
      · exact g _
theorem rows_loop (lo : Int) (ho : In16 lo) (n : Nat) (hn : n ≤ 200) (h1n : 1 ≤ n) (k : Int) (hk0 : 0 ≤ k) (hk1 : k < n) (d : Nat) : ∀ i : Nat, i + d = n →
    EvP (fun f => stillagelaw03_TurnRows.l0 f lo (n : Int) k (rowOf lo i) (turnedOf lo n k i) (i : Int)) (fun r => r = true) := by
  have hoo := ho
  unfold In16 at hoo
  induction d with
  | zero =>
    intro i hi
    obtain rfl : i = n := by omega
    obtain ⟨R, h1, hR⟩ := Order_f (turnedOf lo i k i) lo (fun x hx => by
      unfold turnedOf at hx
      rw [List.mem_flatMap] at hx
      obtain ⟨j, _, hx⟩ := hx
      simp only [List.mem_cons, List.not_mem_nil, or_false] at hx
      rcases hx with rfl | rfl
      · exact elt_in _ _
      · exact elt_in _ _) (by rw [turnedOf_length]; omega)
    have e := hR.eq (row_ord lo i hn k hk0 hk1)
    subst e
    refine EvP.succ (fun f => stillagelaw03_TurnRows.l0.eq_2 _ _ _ _ _ _ f) ?_
    refine (EvP.no (by omega) (EvP.obind (a := false) ?_ (EvP.no (show ¬ (false = true) by decide) (EvP.obind (a := false) ?_ (EvP.no (show ¬ (false = true) by decide) (EvP.obind h1 (EvP.bind (Same_eq rfl ?_) (fun a ha => EvP.ret ha))))))))
    · rw [w16, w16, within_f _ _ _ (by omega)]
      congr 1
      rw [decide_eq_false]
      omega
    · rw [w16, within_f _ _ _ (by omega)]
      congr 1
      rw [decide_eq_false]
      omega
    · simp [rowOf]; omega
  | succ d ih =>
    intro i hi
    have hz : (n : Int) ≠ 0 := by omega
    have hpos : (0 : Int) < n := by omega
    have hL := turnedOf_length lo n k i
    have a1 := Int.emod_nonneg ((i : Int) * 7 + k) hz
    have a2 := Int.emod_lt_of_pos ((i : Int) * 7 + k) hpos
    have b1 := Int.emod_nonneg ((i : Int) + k) hz
    have b2 := Int.emod_lt_of_pos ((i : Int) + k) hpos
    have e1 : IntKind.u16.wrap (lo + (IntKind.u16.wrap (Int.tmod (wrap64 ((wrap64 ((i : Int) * 7)) + k)) (n : Int)))) = elt lo (((i : Int) * 7 + k) % n) := by
      rw [wsm (n := (i : Int) * 7) (by omega) (by omega), wsm (n := (i : Int) * 7 + k) (by omega) (by omega), Int.tmod_eq_emod_of_nonneg (by omega), w16, w16]
      generalize ((i : Int) * 7 + k) % (n : Int) = z at a1 a2 ⊢
      unfold elt
      omega
    have e2 : IntKind.u16.wrap (lo + (IntKind.u16.wrap (Int.tmod (wrap64 ((i : Int) + k)) (n : Int)))) = elt lo (((i : Int) + k) % n) := by
      rw [wsm (n := (i : Int) + k) (by omega) (by omega), Int.tmod_eq_emod_of_nonneg (by omega), w16, w16]
      generalize ((i : Int) + k) % (n : Int) = z at b1 b2 ⊢
      unfold elt
      omega
    have e3 : IntKind.u16.wrap (lo + (IntKind.u16.wrap (i : Int))) = elt lo (i : Int) := by
      rw [w16, w16]
      unfold elt
      omega
    refine EvP.succ (fun f => stillagelaw03_TurnRows.l0.eq_2 _ _ _ _ _ _ f) ?_
    refine EvP.yes (by omega) (EvP.yes (by simp [rowOf]; omega) (EvP.no hz ?_))
    refine EvP.obind rfl ?_
    refine EvP.yes (by rw [hL]; simp; omega) (EvP.obind (a := true) ?_ (EvP.yes rfl ?_))
    · rw [e3, within_f _ _ _ (by omega)]
      congr 1
      rw [decide_eq_true]
      have := elt_up lo i (by omega) (by omega)
      unfold up at this
      omega
    · rw [e1, e2, e3, ← rowOf_succ, ← turnedOf_succ, wnext i (by omega)]
      exact ih (i + 1) (by omega)
theorem TurnRows : stillagelaw03_TurnRows.Pure := by
  intro lo a1 a2 h0 h1 h2
  suffices h : EvP (fun k => stillagelaw03_TurnRows.f k lo a1 a2) (fun r => r = true) by
    obtain ⟨k, r, h1, h2⟩ := h.get
    exact ⟨k, by rw [h1, h2]⟩
  have ho : In16 lo := by have := bounds_u16 h0; unfold In16; omega
  have wu : ∀ n : Int, IntKind.u64.wrap n = n % 18446744073709551616 := fun n => by simp [IntKind.wrap, IntKind.bits, IntKind.signed]
  obtain ⟨n, hn, hn1, hn2⟩ : ∃ n : Nat, wrap64 ((wrap64 (Int.tmod (IntKind.u64.wrap a1) 200)) + 1) = (n : Int) ∧ 1 ≤ n ∧ n ≤ 200 := by
    rw [wu]
    have h3 : 0 ≤ a1 % 18446744073709551616 := Int.emod_nonneg _ (by omega)
    generalize a1 % 18446744073709551616 = z at h3
    rw [Int.tmod_eq_emod_of_nonneg h3]
    have h4 : 0 ≤ z % 200 := Int.emod_nonneg _ (by omega)
    have h5 : z % 200 < 200 := Int.emod_lt_of_pos _ (by omega)
    generalize z % 200 = y at h4 h5
    rw [wsm (n := y) (by omega) (by omega), wsm (by omega) (by omega)]
    exact ⟨(y + 1).toNat, by omega, by omega, by omega⟩
  have hk : ∃ k : Int, wrap64 (Int.tmod (IntKind.u64.wrap a2) (IntKind.u64.wrap (n : Int))) = k ∧ 0 ≤ k ∧ k < n := by
    rw [wu, wu, Int.emod_eq_of_lt (a := (n : Int)) (by omega) (by omega)]
    have h3 : 0 ≤ a2 % 18446744073709551616 := Int.emod_nonneg _ (by omega)
    generalize a2 % 18446744073709551616 = z at h3
    rw [Int.tmod_eq_emod_of_nonneg h3]
    have h4 : 0 ≤ z % (n : Int) := Int.emod_nonneg _ (by omega)
    have h5 : z % (n : Int) < n := Int.emod_lt_of_pos _ (by omega)
    generalize z % (n : Int) = y at h4 h5
    exact ⟨y, wsm (by omega) (by omega), h4, h5⟩
  obtain ⟨k, hk, hk0, hk1⟩ := hk
  refine EvP.ebind awake_e (EvP.yes rfl ?_)
  rw [hn, hk]
  refine EvP.no (by rw [wu]; omega) ?_
  exact rows_loop lo ho n hn2 hn1 k hk0 hk1 n 0 (by omega)

end Go.Proofs.Ytkeajkdcboopcaa.Pure
