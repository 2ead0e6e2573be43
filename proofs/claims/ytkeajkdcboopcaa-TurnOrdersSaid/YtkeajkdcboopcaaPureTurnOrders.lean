/- stillagelaw03.TurnOrders is true at every list and every number: no condition. -/
import Derived.OpenShut
import Derived.Test.YtkeajkdcboopcaaEvt
import Derived.Test.YtkeajkdcboopcaaPTurnOrdersx
set_option linter.unusedVariables false
set_option linter.unusedSimpArgs false
set_option maxRecDepth 10000
namespace Go.Proofs.Ytkeajkdcboopcaa.Pure
open Go.RowKit Go.Proofs.Ytkeajkdcboopcaa.PTurnOrders Go.Proofs.YtkeajkdcboopcaaW.PrintWords Go.Proofs.YtkeajkdcboopcaaW.PrintLast Go.Proofs.PlainEvt
theorem w16 (n : Int) : IntKind.u16.wrap n = n % 65536 := by simp [IntKind.wrap, IntKind.bits, IntKind.signed]
theorem wsm {n : Int} (h0 : -9223372036854775808 ≤ n) (h1 : n ≤ 9223372036854775807) : wrap64 n = n := by unfold wrap64; omega
theorem wnext (i : Nat) (h : i ≤ 1000000000) : wrap64 ((i : Int) + 1) = ((i + 1 : Nat) : Int) := by rw [wsm] <;> omega
def up (lo x : Int) : Int := (x - lo) % 65536
def In16 (x : Int) : Prop := 0 ≤ x ∧ x < 65536
theorem up_range (lo x : Int) : 0 ≤ up lo x ∧ up lo x < 65536 := by unfold up; omega
theorem up_inj {lo x y : Int} (hx : In16 x) (hy : In16 y) (h : up lo x = up lo y) : x = y := by unfold up at h; unfold In16 at *; omega
theorem up_back {lo x : Int} (hx : In16 x) : (up lo x + lo) % 65536 = x := by unfold up; unfold In16 at *; omega
theorem ext_of_sorted {α : Type} (r : α → α → Prop) (hi : ∀ a, ¬ r a a) (ha : ∀ a b, r a b → ¬ r b a) : ∀ l1 l2 : List α, l1.Pairwise r → l2.Pairwise r → (∀ x, x ∈ l1 ↔ x ∈ l2) → l1 = l2
  | [], [], _, _, _ => rfl
  | [], b :: l2, _, _, h => by have := (h b).2 List.mem_cons_self; simp at this
  | a :: l1, [], _, _, h => by have := (h a).1 List.mem_cons_self; simp at this
  | a :: l1, b :: l2, h1, h2, h => by
    rw [List.pairwise_cons] at h1 h2
    have e : a = b := by
      rcases List.mem_cons.mp ((h a).1 List.mem_cons_self) with e | e
      · exact e
      · rcases List.mem_cons.mp ((h b).2 List.mem_cons_self) with e' | e'
        · exact e'.symm
        · exact absurd (h1.1 b e') (ha _ _ (h2.1 a e))
    subst e
    congr 1
    refine ext_of_sorted r hi ha l1 l2 h1.2 h2.2 (fun x => ?_)
    constructor
    · intro hx
      rcases List.mem_cons.mp ((h x).1 (List.mem_cons_of_mem _ hx)) with e | e
      · subst e; exact absurd (h1.1 x hx) (hi x)
      · exact e
    · intro hx
      rcases List.mem_cons.mp ((h x).2 (List.mem_cons_of_mem _ hx)) with e | e
      · subst e; exact absurd (h2.1 x hx) (hi x)
      · exact e
theorem le_sort (lo : Int) (x y : U16) : (!(Go.Proofs.ltOf (cfU lo)) y x) = decide (up lo x.val ≤ up lo y.val) := by
  rw [ltU]
  unfold up
  by_cases h : ((x.val : Int) - lo) % 65536 ≤ ((y.val : Int) - lo) % 65536
  · rw [decide_eq_true h, decide_eq_false (by omega)]; rfl
  · rw [decide_eq_false h, decide_eq_true (by omega)]; rfl
theorem u16_in (x : U16) : In16 (x.val : Int) := by have := x.isLt; unfold In16; omega
theorem comp_inv (lo : Int) (s : Array U16) (hs : ∀ i j, i < j → j < s.size → up lo (s[i]!).val ≤ up lo (s[j]!).val) : ∀ m, m ≤ s.size →
    (Lib.compactUpTo s m).Pairwise (fun x y => up lo x.val < up lo y.val) ∧ (∀ x ∈ Lib.compactUpTo s m, ∃ j, j < m ∧ x = s[j]!) ∧ ∀ j, j < m → s[j]! ∈ Lib.compactUpTo s m := by
  intro m
  induction m with
  | zero => intro _; exact ⟨by simp [Lib.compactUpTo], by simp [Lib.compactUpTo], fun j h => by omega⟩
  | succ m ih =>
    intro hm
    obtain ⟨h1, h2, h3⟩ := ih (by omega)
    rw [Lib.compactUpTo_succ]
    cases hk : Lib.keeps s m with
    | false =>
      have hz : m ≠ 0 ∧ s[m]! = s[m - 1]! := by simpa [Lib.keeps] using hk
      simp only [Bool.false_eq_true, if_false, List.append_nil]
      refine ⟨h1, fun x hx => ?_, fun j hj => ?_⟩
      · obtain ⟨j, hj, e⟩ := h2 x hx
        exact ⟨j, by omega, e⟩
      · by_cases e : j = m
        · subst e; rw [hz.2]; exact h3 _ (by omega)
        · exact h3 j (by omega)
    | true =>
      have hz : m = 0 ∨ s[m]! ≠ s[m - 1]! := by simpa [Lib.keeps] using hk
      simp only [if_true]
      refine ⟨?_, fun x hx => ?_, fun j hj => ?_⟩
      · rw [List.pairwise_append]
        refine ⟨h1, by simp, fun x hx y hy => ?_⟩
        obtain rfl : y = s[m]! := by simpa using hy
        obtain ⟨j, hj, rfl⟩ := h2 x hx
        rcases hz with rfl | hz
        · omega
        · have hlast : up lo (s[m - 1]!).val < up lo (s[m]!).val := by
            have := hs (m - 1) m (by omega) (by omega)
            rcases Int.lt_or_eq_of_le this with h | h
            · exact h
            · exact absurd (Fin.ext (Int.natCast_inj.mp (up_inj (u16_in _) (u16_in _) h))).symm hz
          by_cases e : j = m - 1
          · subst e; exact hlast
          · have := hs j (m - 1) (by omega) (by omega)
            omega
      · rcases List.mem_append.mp hx with hx | hx
        · obtain ⟨j, hj, e⟩ := h2 x hx
          exact ⟨j, by omega, e⟩
        · obtain rfl : x = s[m]! := by simpa using hx
          exact ⟨m, by omega, rfl⟩
      · by_cases e : j = m
        · subst e; simp
        · exact List.mem_append_left _ (h3 j (by omega))
theorem sortU_sorted (lo : Int) (d : Array U16) : ∀ i j, i < j → j < (sortU lo d).size → up lo ((sortU lo d)[i]!).val ≤ up lo ((sortU lo d)[j]!).val := by
  intro i j hij hj
  have hp := List.pairwise_mergeSort (le := fun x y : U16 => !(Go.Proofs.ltOf (cfU lo)) y x) (fun a b c h1 h2 => by rw [le_sort] at *; simp at *; omega) (fun a b => by rw [le_sort, le_sort]; simp; omega) d.toList
  rw [List.pairwise_iff_getElem] at hp
  have hj' : j < (d.toList.mergeSort fun x y => !(Go.Proofs.ltOf (cfU lo)) y x).length := by simpa [sortU] using hj
  have := hp i j (by omega) hj' hij
  rw [le_sort] at this
  rw [getElem!_pos (sortU lo d) i (by omega), getElem!_pos (sortU lo d) j hj]
  simpa [sortU] using this
theorem orderU_pairwise (lo : Int) (d : Array U16) : (orderU lo d).Pairwise (fun x y => up lo x.val < up lo y.val) := (comp_inv lo (sortU lo d) (sortU_sorted lo d) _ (Nat.le_refl _)).1
theorem orderU_mem (lo : Int) (d : Array U16) (x : U16) : x ∈ orderU lo d ↔ x ∈ d.toList := by
  obtain ⟨_, h2, h3⟩ := comp_inv lo (sortU lo d) (sortU_sorted lo d) _ (Nat.le_refl _)
  have hm : ∀ y, y ∈ (sortU lo d).toList ↔ y ∈ d.toList := fun y => by simp [sortU, List.mem_mergeSort]
  constructor
  · intro hx
    obtain ⟨j, hj, e⟩ := h2 x hx
    rw [← hm, e, getElem!_pos (sortU lo d) j hj]
    simp
  · intro hx
    rw [← hm] at hx
    obtain ⟨j, hj, e⟩ := List.getElem_of_mem hx
    have hj' : j < (sortU lo d).size := by simpa using hj
    have := h3 j hj'
    rw [getElem!_pos (sortU lo d) j hj'] at this
    rw [← e]
    simpa [orderU] using this
/-- What is told of a list put in order. -/
structure Ord (lo : Int) (l R : List Int) : Prop where
  pw : R.Pairwise (fun x y => up lo x < up lo y)
  mem : ∀ x, x ∈ R ↔ x ∈ l
theorem Ord.eq {lo : Int} {l R Q : List Int} (h : Ord lo l R) (h' : Ord lo l Q) : R = Q :=
  ext_of_sorted _ (fun _ => by omega) (fun _ _ _ => by omega) R Q h.pw h'.pw (fun x => (h.mem x).trans (h'.mem x).symm)
theorem Order_f (l : List Int) (lo : Int) (hl : ∀ x ∈ l, In16 x) (hn : l.length ≤ 100000) : ∃ R, turn_Order.f l lo = some R ∧ Ord lo l R := by
  unfold turn_Order.f
  rw [if_pos ⟨by rw [List.all_eq_true]; intro x hx; have := hl x hx; unfold In16 at this; simp; omega, by omega⟩]
  refine ⟨_, rfl, ?_, fun x => ?_⟩
  · rw [List.pairwise_map]
    exact orderU_pairwise lo (toU l)
  · rw [List.mem_map]
    simp only [orderU_mem, toU, List.mem_map]
    constructor
    · rintro ⟨u, ⟨y, hy, rfl⟩, rfl⟩
      have := hl y hy
      unfold In16 at this
      have e : ((Fin.ofNat 65536 y.toNat).val : Int) = y := by simp [Fin.ofNat]; omega
      rw [e]; exact hy
    · intro hx
      have := hl x hx
      unfold In16 at this
      exact ⟨Fin.ofNat 65536 x.toNat, ⟨x, hx, rfl⟩, by simp [Fin.ofNat]; omega⟩
theorem Same_loop (x y : List Int) (hl : x.length = y.length) (hm : x.length ≤ 100000) (n : Nat) : ∀ i : Nat, i + n = x.length → EvP (fun k => stillageref03_Same.l0 k x y (x.length : Int) (i : Int)) (fun r => r = true ↔ x.drop i = y.drop i) := by
  induction n with
  | zero =>
    intro i hi
    refine EvP.succ (fun k => stillageref03_Same.l0.eq_2 _ _ _ _ k) (EvP.no (by omega) (EvP.ret ?_))
    rw [List.drop_eq_nil_of_le (by omega), List.drop_eq_nil_of_le (by omega)]
    simp
  | succ n ih =>
    intro i hi
    have h1 : i < x.length := by omega
    have h2 : i < y.length := by omega
    have e1 : rd x (i : Int) = x[i] := by simp [rd, List.getElem?_eq_getElem h1]
    have e2 : rd y (i : Int) = y[i] := by simp [rd, List.getElem?_eq_getElem h2]
    refine EvP.succ (fun k => stillageref03_Same.l0.eq_2 _ _ _ _ k) (EvP.yes (by omega) (EvP.yes (by omega) (EvP.yes (by omega) (EvP.yes (by omega) (EvP.split (fun c => ?_) (fun c => EvP.ret ?_))))))
    · rw [wnext i (by omega)]
      refine (ih (i + 1) (by omega)).mono (fun r h => ?_)
      rw [h, List.drop_eq_getElem_cons h1, List.drop_eq_getElem_cons h2]
      rw [e1, e2] at c
      simp only [List.cons.injEq, c, true_and]
    · rw [List.drop_eq_getElem_cons h1, List.drop_eq_getElem_cons h2]
      rw [e1, e2] at c
      simp only [List.cons.injEq, c, false_and]
      simp
theorem Same_e (x y : List Int) (hm : x.length ≤ 100000) : EvP (fun k => stillageref03_Same.f k x y) (fun r => r = true ↔ x = y) := by
  refine EvP.split (fun c => ?_) (fun c => EvP.ret ?_)
  · exact Same_loop x y (by omega) hm x.length 0 (by omega)
  · constructor
    · intro h; cases h
    · rintro rfl
      exact absurd rfl c
theorem Same_eq {x y : List Int} (h : x = y) (hm : x.length ≤ 100000) : EvP (fun k => stillageref03_Same.f k x y) (fun r => r = true) := (Same_e x y hm).mono (fun r e => e.2 h)
theorem awake_e : Evt (fun k => stillagelaw03_awake.f k) true := Evt.mono (n := 1) (by decide +kernel) (fun k r h => stillagelaw03_awake.mono k r h)
theorem tm {x lo : Int} (hx : In16 x) (hl : In16 lo) : Int.tmod (wrap64 ((wrap64 ((wrap64 x) - (wrap64 lo))) + 65536)) 65536 = up lo x := by
  unfold In16 at *
  rw [wsm (n := x) (by omega) (by omega), wsm (n := lo) (by omega) (by omega), wsm (n := x - lo) (by omega) (by omega), wsm (n := x - lo + 65536) (by omega) (by omega), Int.tmod_eq_emod_of_nonneg (by omega)]
  unfold up
  omega
structure Got (lo : Int) (l out : List Int) (last : Int) : Prop where
  pw : out.Pairwise (fun x y => up lo x < up lo y)
  sub : ∀ x ∈ out, x ∈ l
  hi : ∀ x ∈ out, up lo x ≤ last
  all : ∀ x ∈ l, up lo x ≤ last → x ∈ out
  len : (out.length : Int) ≤ last + 1
theorem ROrder_loops (l : List Int) (lo : Int) (hl : ∀ x ∈ l, In16 x) (ho : In16 lo) (hn : l.length ≤ 100000) (d : Nat) : ∀ (last : Int) (out : List Int), -1 ≤ last → last < 65536 → 65536 - last ≤ d → Got lo l out last →
    EvP (fun k => stillageref03_Order.l0 k l lo out last) (fun R => Ord lo l R) := by
  induction d with
  | zero => intro last out h1 h2 h3; omega
  | succ d ih =>
    intro last out h1 h2 h3 G
    refine EvP.succ (fun k => by rw [stillageref03_Order.l0]) ?_
    have inner : ∀ (n i : Nat) (nx : Int), i + n = l.length → (nx = 65536 ∨ ∃ x ∈ l, up lo x = nx ∧ last < nx) → (∀ j : Nat, j < i → (h : j < l.length) → last < up lo l[j] → nx ≤ up lo l[j]) → nx ≤ 65536 →
        EvP (fun k => stillageref03_Order.l1 k l lo out last nx (l.length : Int) (i : Int)) (fun R => Ord lo l R) := by
      intro n
      induction n with
      | zero =>
        intro i nx hi hx hall hle
        refine EvP.succ (fun k => by rw [stillageref03_Order.l1]) (EvP.no (by omega) (EvP.split (fun c => EvP.ret ?_) (fun c => ?_)))
        · refine ⟨G.pw, fun x => ⟨G.sub x, fun hxl => ?_⟩⟩
          obtain ⟨j, hj, e⟩ := List.getElem_of_mem hxl
          have h4 := hall j (by omega) hj
          rw [e] at h4
          have := up_range lo x
          exact G.all x hxl (by omega)
        · obtain ⟨x, hxl, hxu, hxlast⟩ := hx.resolve_left c
          have hr := up_range lo x
          have hL := G.len
          have hlow : In16 lo := ho
          refine EvP.yes (by omega) ?_
          have e1 : IntKind.u16.wrap (Int.tmod (wrap64 (nx + (wrap64 lo))) 65536) = x := by
            unfold In16 at hlow
            rw [w16, wsm (n := lo) (by omega) (by omega), wsm (n := nx + lo) (by omega) (by omega), Int.tmod_eq_emod_of_nonneg (by omega), ← hxu, up_back (hl x hxl)]
            have := hl x hxl
            unfold In16 at this
            omega
          rw [e1]
          refine ih nx (out ++ [x]) (by omega) (by omega) (by omega) ⟨?_, ?_, ?_, ?_, ?_⟩
          · rw [List.pairwise_append]
            refine ⟨G.pw, by simp, fun a ha b hb => ?_⟩
            obtain rfl : b = x := by simpa using hb
            have := G.hi a ha
            omega
          · intro a ha
            rcases List.mem_append.mp ha with ha | ha
            · exact G.sub a ha
            · obtain rfl : a = x := by simpa using ha
              exact hxl
          · intro a ha
            rcases List.mem_append.mp ha with ha | ha
            · have := G.hi a ha
              omega
            · obtain rfl : a = x := by simpa using ha
              omega
          · intro a ha hau
            by_cases hlast : up lo a ≤ last
            · exact List.mem_append_left _ (G.all a ha hlast)
            · obtain ⟨j, hj, e⟩ := List.getElem_of_mem ha
              have h4 := hall j (by omega) hj
              rw [e] at h4
              have h5 := h4 (by omega)
              have : a = x := up_inj (lo := lo) (hl a ha) (hl x hxl) (by omega)
              rw [this]
              simp
          · simp
            omega
      | succ n ihn =>
        intro i nx hi hx hall hle
        have hil : i < l.length := by omega
        have hmem : l[i] ∈ l := List.getElem_mem hil
        have e1 : rd l (i : Int) = l[i] := by simp [rd, List.getElem?_eq_getElem hil]
        refine EvP.succ (fun k => by rw [stillageref03_Order.l1]) (EvP.yes (by omega) (EvP.yes (by omega) (EvP.yes (by omega) ?_)))
        rw [e1, tm (hl _ hmem) ho, wnext i (by omega)]
        have hr := up_range lo l[i]
        refine EvP.split (fun c => EvP.split (fun c2 => ?_) (fun c2 => ?_)) (fun c => ?_)
        · refine ihn (i + 1) _ (by omega) (.inr ⟨_, hmem, rfl, by omega⟩) (fun j hj hjl hu => ?_) (by omega)
          by_cases e : j = i
          · subst e; omega
          · have := hall j (by omega) hjl hu
            omega
        · refine ihn (i + 1) _ (by omega) hx (fun j hj hjl hu => ?_) hle
          by_cases e : j = i
          · subst e; omega
          · exact hall j (by omega) hjl hu
        · refine ihn (i + 1) _ (by omega) hx (fun j hj hjl hu => ?_) hle
          by_cases e : j = i
          · subst e; omega
          · exact hall j (by omega) hjl hu
    exact inner l.length 0 65536 (by omega) (.inl rfl) (fun j hj => by omega) (by omega)
theorem ROrder_e (l : List Int) (lo : Int) (hl : ∀ x ∈ l, In16 x) (ho : In16 lo) (hn : l.length ≤ 100000) : EvP (fun k => stillageref03_Order.f k l lo) (fun R => Ord lo l R) := by
  refine ROrder_loops l lo hl ho hn 65537 (-1) [] (by omega) (by omega) (by omega) ⟨by simp, by simp, by simp, fun x _ h => ?_, by simp⟩
  have := up_range lo x
  omega
theorem bump (x0 x5 : List Int) (h : x5 = x0) (hm : x5.length ≤ 100000) (n : Nat) : ∀ (i : Nat) (x6 : List Int), i + n = x6.length → x6.length ≤ 100000 →
    EvP (fun k => stillagelaw03_TurnOrders.l0 k x0 x5 x6 (x6.length : Int) (i : Int)) (fun r => r = true) := by
  induction n with
  | zero =>
    intro i x6 hi h6
    refine EvP.succ (fun k => by rw [stillagelaw03_TurnOrders.l0]) (EvP.no (by omega) (EvP.bind (Same_eq h hm) (fun a ha => EvP.ret ha)))
  | succ n ih =>
    intro i x6 hi h6
    refine EvP.succ (fun k => by rw [stillagelaw03_TurnOrders.l0]) (EvP.yes (by omega) (EvP.yes (by omega) (EvP.yes (by omega) ?_)))
    rw [wnext i (by omega)]
    have := ih (i + 1) (x6.set i (IntKind.u16.wrap ((rd x6 (i : Int)) + 1))) (by rw [List.length_set]; omega) (by rw [List.length_set]; exact h6)
    rw [List.length_set] at this
    simpa using this
theorem TurnOrders : stillagelaw03_TurnOrders.Pure := by
  intro l lo hm hb hw hlo
  suffices h : EvP (fun k => stillagelaw03_TurnOrders.f k l lo) (fun r => r = true) by
    obtain ⟨k, r, h1, h2⟩ := h.get
    exact ⟨k, by rw [h1, h2]⟩
  have hl : ∀ x ∈ l, In16 x := fun x hx => by have := bounds_u16 (hw x hx); unfold In16; omega
  have ho : In16 lo := by have := bounds_u16 hlo; unfold In16; omega
  refine EvP.ebind awake_e (EvP.yes rfl ?_)
  refine EvP.succ (fun k => by rw [stillagelaw03_TurnOrders.j0]) (EvP.split (fun c => EvP.ebind awake_e (EvP.ret rfl)) (fun c => ?_))
  have hn : l.length ≤ 200 := by simp at c; omega
  refine EvP.obind rfl (EvP.yes (by simp; omega) (EvP.obind rfl ?_))
  rw [List.nil_append]
  obtain ⟨R, h1, hR⟩ := Order_f l lo hl (by omega)
  have hlen : R.length ≤ 100000 := by
    have hr : ∀ (n : Nat) (Q : List Int) (b : Int), Q.length = n → Q.Pairwise (fun x y => up lo x < up lo y) → (∀ x ∈ Q, b ≤ up lo x) → b + (n : Int) ≤ 65536 ∨ n = 0 := by
      intro n
      induction n with
      | zero => intro Q b _ _ _; exact .inr rfl
      | succ n ih =>
        intro Q b hn hp hQ
        cases Q with
        | nil => simp at hn
        | cons q Q =>
          rw [List.pairwise_cons] at hp
          have h0 := hQ q List.mem_cons_self
          have h2 := (up_range lo q).2
          rcases ih Q (up lo q + 1) (by simpa using hn) hp.2 (fun x hx => hp.1 x hx) with h | h
          · left; omega
          · left; subst h; omega
    rcases hr R.length R 0 rfl hR.pw (fun x _ => (up_range lo x).1) with h | h <;> omega
  refine EvP.obind h1 (EvP.bind (Same_eq rfl (by omega)) (fun a ha => EvP.yes ha (EvP.bind (ROrder_e l lo hl ho (by omega)) (fun Q hQ => EvP.bind (Same_eq (hR.eq hQ) hlen) (fun b hb => ?_)))))
  subst hb
  refine EvP.succ (fun k => by rw [stillagelaw03_TurnOrders.j1]) (EvP.no (by simp) ?_)
  exact bump l l rfl (by omega) R.length 0 R (by omega) hlen

end Go.Proofs.Ytkeajkdcboopcaa.Pure
