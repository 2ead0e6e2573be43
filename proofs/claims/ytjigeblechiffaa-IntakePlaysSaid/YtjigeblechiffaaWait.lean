/- Waiting: the numbers that wait, put in order. -/
import Derived.Test.YtjigeblechiffaaIn7
import Derived.Test.YtjigeblechiffaaKeys
import Derived.Test.YtjigeblechiffaaOr1
namespace Go.Proofs.Ytjigeblechiffaa.POrder
open Go.RowKit Go.Proofs.YtjigeblechiffaaW.PrintWords Go.Proofs.YtjigeblechiffaaW.PrintLast Go.Proofs.YtjigeblechiffaaW.PrintMore
set_option linter.unusedVariables false
set_option linter.unusedSimpArgs false
theorem w16 (n : Int) : IntKind.u16.wrap n = n % 65536 := by simp [IntKind.wrap, IntKind.bits, IntKind.signed]
def up (lo x : Int) : Int := (x - lo) % 65536
def In16 (x : Int) : Prop := 0 ≤ x ∧ x < 65536
theorem up_range (lo x : Int) : 0 ≤ up lo x ∧ up lo x < 65536 := by unfold up; omega
theorem up_inj {lo x y : Int} (hx : In16 x) (hy : In16 y) (h : up lo x = up lo y) : x = y := by unfold up at h; unfold In16 at *; omega
theorem up_back {lo x : Int} (hx : In16 x) : (up lo x + lo) % 65536 = x := by unfold up; unfold In16 at *; omega
theorem ext_of_sorted {α : Type} (r : α → α → Prop) (hi : ∀ a, ¬ r a a) (ha : ∀ a b, r a b → ¬ r b a) : ∀ l1 l2 : List α, l1.Pairwise r → l2.Pairwise r → (∀ x, x ∈ l1 ↔ x ∈ l2) → l1 = l2
  | [], [], _, _, _ => rfl
  | [], b :: l2, _, _, h => by have := (h b).2 List.mem_cons_self; simp at this
  | a :: l1, [], _, _, h => by have := (h a).1 List.mem_cons_self; simp at this
  | a :: l1, b :: l2, h1, h2, h => by
    rw [List.pairwise_cons] at h1 h2
    have e : a = b := by
      rcases List.mem_cons.mp ((h a).1 List.mem_cons_self) with e | e
      · exact e
      · rcases List.mem_cons.mp ((h b).2 List.mem_cons_self) with e' | e'
        · exact e'.symm
        · exact absurd (h1.1 b e') (ha _ _ (h2.1 a e))
    subst e
    congr 1
    refine ext_of_sorted r hi ha l1 l2 h1.2 h2.2 (fun x => ?_)
    constructor
    · intro hx
      rcases List.mem_cons.mp ((h x).1 (List.mem_cons_of_mem _ hx)) with e | e
      · subst e; exact absurd (h1.1 x hx) (hi x)
      · exact e
    · intro hx
      rcases List.mem_cons.mp ((h x).2 (List.mem_cons_of_mem _ hx)) with e | e
      · subst e; exact absurd (h2.1 x hx) (hi x)
      · exact e
theorem le_sort (lo : Int) (x y : U16) : (!(Go.Proofs.ltOf (cfU lo)) y x) = decide (up lo x.val ≤ up lo y.val) := by
  rw [ltU]
  unfold up
  by_cases h : ((x.val : Int) - lo) % 65536 ≤ ((y.val : Int) - lo) % 65536
  · rw [decide_eq_true h, decide_eq_false (by omega)]; rfl
  · rw [decide_eq_false h, decide_eq_true (by omega)]; rfl
theorem u16_in (x : U16) : In16 (x.val : Int) := by have := x.isLt; unfold In16; omega
theorem comp_inv (lo : Int) (s : Array U16) (hs : ∀ i j, i < j → j < s.size → up lo (s[i]!).val ≤ up lo (s[j]!).val) : ∀ m, m ≤ s.size →
    (Lib.compactUpTo s m).Pairwise (fun x y => up lo x.val < up lo y.val) ∧ (∀ x ∈ Lib.compactUpTo s m, ∃ j, j < m ∧ x = s[j]!) ∧ ∀ j, j < m → s[j]! ∈ Lib.compactUpTo s m := by
  intro m
  induction m with
  | zero => intro _; exact ⟨by simp [Lib.compactUpTo], by simp [Lib.compactUpTo], fun j h => by omega⟩
  | succ m ih =>
    intro hm
    obtain ⟨h1, h2, h3⟩ := ih (by omega)
    rw [Lib.compactUpTo_succ]
    cases hk : Lib.keeps s m with
    | false =>
      have hz : m ≠ 0 ∧ s[m]! = s[m - 1]! := by simpa [Lib.keeps] using hk
      simp only [Bool.false_eq_true, if_false, List.append_nil]
      refine ⟨h1, fun x hx => ?_, fun j hj => ?_⟩
      · obtain ⟨j, hj, e⟩ := h2 x hx
        exact ⟨j, by omega, e⟩
      · by_cases e : j = m
        · subst e; rw [hz.2]; exact h3 _ (by omega)
        · exact h3 j (by omega)
    | true =>
      have hz : m = 0 ∨ s[m]! ≠ s[m - 1]! := by simpa [Lib.keeps] using hk
      simp only [if_true]
      refine ⟨?_, fun x hx => ?_, fun j hj => ?_⟩
      · rw [List.pairwise_append]
        refine ⟨h1, by simp, fun x hx y hy => ?_⟩
        obtain rfl : y = s[m]! := by simpa using hy
        obtain ⟨j, hj, rfl⟩ := h2 x hx
        rcases hz with rfl | hz
        · omega
        · have hlast : up lo (s[m - 1]!).val < up lo (s[m]!).val := by
            have := hs (m - 1) m (by omega) (by omega)
            rcases Int.lt_or_eq_of_le this with h | h
            · exact h
            · exact absurd (Fin.ext (Int.natCast_inj.mp (up_inj (u16_in _) (u16_in _) h))).symm hz
          by_cases e : j = m - 1
          · subst e; exact hlast
          · have := hs j (m - 1) (by omega) (by omega)
            omega
      · rcases List.mem_append.mp hx with hx | hx
        · obtain ⟨j, hj, e⟩ := h2 x hx
          exact ⟨j, by omega, e⟩
        · obtain rfl : x = s[m]! := by simpa using hx
          exact ⟨m, by omega, rfl⟩
      · by_cases e : j = m
        · subst e; simp
        · exact List.mem_append_left _ (h3 j (by omega))
theorem sortU_sorted (lo : Int) (d : Array U16) : ∀ i j, i < j → j < (sortU lo d).size → up lo ((sortU lo d)[i]!).val ≤ up lo ((sortU lo d)[j]!).val := by
  intro i j hij hj
  have hp := List.pairwise_mergeSort (le := fun x y : U16 => !(Go.Proofs.ltOf (cfU lo)) y x) (fun a b c h1 h2 => by rw [le_sort] at *; simp at *; omega) (fun a b => by rw [le_sort, le_sort]; simp; omega) d.toList
  rw [List.pairwise_iff_getElem] at hp
  have hj' : j < (d.toList.mergeSort fun x y => !(Go.Proofs.ltOf (cfU lo)) y x).length := by simpa [sortU] using hj
  have := hp i j (by omega) hj' hij
  rw [le_sort] at this
  rw [getElem!_pos (sortU lo d) i (by omega), getElem!_pos (sortU lo d) j hj]
  simpa [sortU] using this
theorem orderU_pairwise (lo : Int) (d : Array U16) : (orderU lo d).Pairwise (fun x y => up lo x.val < up lo y.val) := (comp_inv lo (sortU lo d) (sortU_sorted lo d) _ (Nat.le_refl _)).1
theorem orderU_mem (lo : Int) (d : Array U16) (x : U16) : x ∈ orderU lo d ↔ x ∈ d.toList := by
  obtain ⟨_, h2, h3⟩ := comp_inv lo (sortU lo d) (sortU_sorted lo d) _ (Nat.le_refl _)
  have hm : ∀ y, y ∈ (sortU lo d).toList ↔ y ∈ d.toList := fun y => by simp [sortU, List.mem_mergeSort]
  constructor
  · intro hx
    obtain ⟨j, hj, e⟩ := h2 x hx
    rw [← hm, e, getElem!_pos (sortU lo d) j hj]
    simp
  · intro hx
    rw [← hm] at hx
    obtain ⟨j, hj, e⟩ := List.getElem_of_mem hx
    have hj' : j < (sortU lo d).size := by simpa using hj
    have := h3 j hj'
    rw [getElem!_pos (sortU lo d) j hj'] at this
    rw [← e]
    simpa [orderU] using this
/-- What is told of a list put in order. -/
structure Ord (lo : Int) (l R : List Int) : Prop where
  pw : R.Pairwise (fun x y => up lo x < up lo y)
  mem : ∀ x, x ∈ R ↔ x ∈ l
theorem Ord.eq {lo : Int} {l R Q : List Int} (h : Ord lo l R) (h' : Ord lo l Q) : R = Q :=
  ext_of_sorted _ (fun _ => by omega) (fun _ _ _ => by omega) R Q h.pw h'.pw (fun x => (h.mem x).trans (h'.mem x).symm)
theorem Order_f (l : List Int) (lo : Int) (hl : ∀ x ∈ l, In16 x) (hn : l.length ≤ 100000) : ∃ R, turn_Order.f l lo = some R ∧ Ord lo l R := by
  unfold turn_Order.f
  rw [if_pos ⟨by rw [List.all_eq_true]; intro x hx; have := hl x hx; unfold In16 at this; simp; omega, by omega⟩]
  refine ⟨_, rfl, ?_, fun x => ?_⟩
  · rw [List.pairwise_map]
    exact orderU_pairwise lo (toU l)
  · rw [List.mem_map]
    simp only [orderU_mem, toU, List.mem_map]
    constructor
    · rintro ⟨u, ⟨y, hy, rfl⟩, rfl⟩
      have := hl y hy
      unfold In16 at this
      have e : ((Fin.ofNat 65536 y.toNat).val : Int) = y := by simp [Fin.ofNat]; omega
      rw [e]; exact hy
    · intro hx
      have := hl x hx
      unfold In16 at this
      exact ⟨Fin.ofNat 65536 x.toNat, ⟨x, hx, rfl⟩, by simp [Fin.ofNat]; omega⟩

end Go.Proofs.Ytjigeblechiffaa.POrder
namespace Go.Proofs.Ytjigeblechiffaa.PIntake
open Go.RowKit Go.Proofs.YtjigeblechiffaaW.PrintWords Go.Proofs.YtjigeblechiffaaW.PrintLast Go.Proofs.YtjigeblechiffaaW.PrintMore
attribute [local go_sem] max2_int min2_int max_two min_two max_three min_three max_four min_four   -- for this text's walks alone
set_option linter.unusedVariables false
set_option linter.unusedSimpArgs false
variable {w0 w w1 : World} {B : Nat} {s : St}
/-- The numbers that wait are numbers of 16 bits, each once. -/
theorem IV.keys (h : IV w0 B w s) : (∀ p ∈ s.came, 0 ≤ p.1 ∧ p.1 < 65536) ∧ (s.came.map (·.1)).Nodup := by
  obtain ⟨es, cl, vs, a, hE, c⟩ := h.mp
  have hS := h.stm es cl a
  have hvk : vs.map (·.1) = s.came.map (·.1) := by
    have : ∀ {vs : List (Int × Value)} {cs : List (Int × P)}, Rel2 (fun p q => p.1 = q.1 ∧ RV B w p.2 q.2) vs cs → vs.map (·.1) = cs.map (·.1) := by
      intro vs
      induction vs with
      | nil => intro cs h; cases cs with
        | nil => rfl
        | cons _ _ => exact h.elim
      | cons p vs ih => intro cs h; cases cs with
        | nil => exact h.elim
        | cons q cs => obtain ⟨⟨h1, _⟩, h3⟩ := h; rw [List.map_cons, List.map_cons, ih h3, h1]
    exact this c
  have hek : es.toList.map (·.key) = (vs.map (·.1)).map (Value.int .u16) := by
    have := congrArg (List.map Prod.fst) hE
    simpa [List.map_map, Function.comp_def] using this
  constructor
  · intro p hp
    have : p.1 ∈ s.came.map (·.1) := List.mem_map_of_mem hp
    rw [← hvk] at this
    have : Value.int .u16 p.1 ∈ es.toList.map (·.key) := by rw [hek]; exact List.mem_map_of_mem this
    obtain ⟨e, he, hk⟩ := List.mem_map.1 this
    obtain ⟨y, hy, hb⟩ := hS.2 e he
    rw [hy] at hk
    injection hk with _ hk
    subst hk
    exact hb
  · have := hS.1.2.2
    rw [hek, hvk] at this
    exact (List.pairwise_map.1 this).imp fun hne e => hne (by rw [e])
theorem in16 (h : IV w0 B w s) {ss : List Int} (hS : ss.Nodup ∧ ∀ x, x ∈ ss ↔ ∃ p ∈ s.came, p.1 = x) : ∀ x ∈ ss, POrder.In16 x := fun x hx => by
  obtain ⟨p, hp, rfl⟩ := (hS.2 x).1 hx
  exact h.keys.1 p hp
theorem perm_keys (h : IV w0 B w s) {ss : List Int} (hS : ss.Nodup ∧ ∀ x, x ∈ ss ↔ ∃ p ∈ s.came, p.1 = x) : ss.Perm (s.came.map (·.1)) :=
  (List.perm_ext_iff_of_nodup hS.1 h.keys.2).2 fun x => by rw [hS.2 x, List.mem_map]
theorem few (h : IV w0 B w s) (hs : s.came.length ≤ 1000) {ss : List Int} (hS : ss.Nodup ∧ ∀ x, x ∈ ss ↔ ∃ p ∈ s.came, p.1 = x) : ss.length ≤ 100000 := by
  have := (perm_keys h hS).length_eq
  rw [List.length_map] at this
  omega
theorem ord_len (h : IV w0 B w s) {ss R : List Int} (hS : ss.Nodup ∧ ∀ x, x ∈ ss ↔ ∃ p ∈ s.came, p.1 = x) (hR : POrder.Ord s.next ss R) : R.length = s.came.length := by
  have hn : R.Nodup := hR.pw.imp fun hlt e => by rw [e] at hlt; omega
  have hp : R.Perm ss := (List.perm_ext_iff_of_nodup hn hS.1).2 hR.mem
  rw [hp.length_eq, (perm_keys h hS).length_eq, List.length_map]

set_option maxHeartbeats 8000000 in
set_option maxRecDepth 100000 in
/-- Waiting: a new row of the numbers that wait, in order. -/
theorem Waiting_calls (h : IV w0 B w s) (hs : s.came.length ≤ 1000) :
    Calls Try.prog 15 #[.pointer (some ⟨B + 2, 0, none⟩)] w fun e w' => ∃ (v : Value) (R : List Int), e = .returned v ∧ R.length = s.came.length ∧ POrder.Ord s.next (s.came.map (·.1)) R ∧ POrder.Kd.P (Kd.int .u16) 22 w' w.heap.size (fun _ => True) v R ∧ IV w0 B w' s ∧ Kp B w w' := by
  have HS := Aside0.mk hs
  have HI := Aside0.mk h.drew
  have HP := Aside0.mk (Kp.below (B := B) (below_drew (Below.refl w.heap.size w)))
  have hd2 := HI.out.cell2
  have hd1 := HI.out.cell1
  clear hs h
  go_enter Try.func15, Try.ntmps15
  go_wp2
  refine start_ (n := 12) (S := fun w' => w'.cell? ⟨B + 2, 2, none⟩ = some (.map (some B)) ∧ w'.cell? ⟨B + 2, 1, none⟩ = some (.int .u16 s.next)) (ds := []) #[false, false, false, false, false, false, false, false, false, false, false, false] (by kernel_rfl) rfl rfl ⟨hd2, hd1⟩ (fun hHeld => ?_)
  generalize w.drew = wd at HI HP hd2 hd1 hHeld ⊢
  refine pure_ (i := 0) (N := some 3) (v := ?_) (a' := ?_) #[true, false, false, false, false, false, false, false, false, false, false, false] rfl rfl (by kernel_rfl) (fun _ _ _ h => h) (Or.inl ⟨by rfl, ?_⟩) ?_ ?_
  rotate_left
  · intro w'
    go_simp
    with_reducible rfl
  rotate_left
  · simp only [Act.put, List.setIfInBounds_toArray, List.set_cons_zero, List.set_cons_succ, i64_w, i32_w]
    rfl
  refine pure_ (i := 1) (N := some 4) (v := ?_) (a' := ?_) #[true, true, false, false, false, false, false, false, false, false, false, false] rfl rfl (by kernel_rfl) (fun _ _ _ h => h) (Or.inl ⟨by rfl, ?_⟩) ?_ ?_
  rotate_left
  · intro w'
    go_simp
    with_reducible rfl
  rotate_left
  · simp only [Act.put, List.setIfInBounds_toArray, List.set_cons_zero, List.set_cons_succ, i64_w, i32_w]
    rfl
  refine pure_ (i := 2) (N := some 5) (v := ?_) (a' := ?_) #[true, true, true, false, false, false, false, false, false, false, false, false] rfl rfl (by kernel_rfl) (fun _ _ _ h => h) (Or.inl ⟨by rfl, ?_⟩) ?_ ?_
  rotate_left
  · intro w'
    go_simp
    with_reducible rfl
  rotate_left
  · simp only [Act.put, List.setIfInBounds_toArray, List.set_cons_zero, List.set_cons_succ, i64_w, i32_w]
    rfl
  refine pure_ (i := 6) (N := some 9) (v := ?_) (a' := ?_) #[true, true, true, false, false, false, true, false, false, false, false, false] rfl rfl (by kernel_rfl) (fun _ _ _ h => h) (Or.inl ⟨by rfl, ?_⟩) ?_ ?_
  rotate_left
  · intro w'
    go_simp
    with_reducible rfl
  rotate_left
  · simp only [Act.put, List.setIfInBounds_toArray, List.set_cons_zero, List.set_cons_succ, i64_w, i32_w]
    rfl
  refine pure_ (i := 7) (N := some 10) (v := ?_) (a' := ?_) #[true, true, true, false, false, false, true, true, false, false, false, false] rfl rfl (by kernel_rfl) (fun _ _ _ h => h) (Or.inl ⟨by rfl, ?_⟩) ?_ ?_
  rotate_left
  · intro w'
    go_simp
    with_reducible rfl
  rotate_left
  · simp only [Act.put, List.setIfInBounds_toArray, List.set_cons_zero, List.set_cons_succ, i64_w, i32_w]
    rfl
  refine pure_ (i := 8) (N := some 11) (v := ?_) (a' := ?_) #[true, true, true, false, false, false, true, true, true, false, false, false] rfl rfl (by kernel_rfl) (fun _ _ _ h => h) (Or.inl ⟨by rfl, ?_⟩) ?_ ?_
  rotate_left
  · intro w'
    go_simp
    with_reducible rfl
  rotate_left
  · simp only [Act.put, List.setIfInBounds_toArray, List.set_cons_zero, List.set_cons_succ, i64_w, i32_w]
    rfl
  refine take_ (i := 3) (N := some 6) (v := ?_) (a' := ?_) #[true, true, true, true, false, false, true, true, true, false, false, false] rfl rfl (by kernel_rfl) (fun _ _ _ h => h) (Or.inl ⟨by rfl, ?_⟩) hHeld ?_ ?_
  rotate_left
  · rintro w' ⟨s0, s1⟩
    go_simp
    with_reducible rfl
  rotate_left
  · simp only [Act.put, List.setIfInBounds_toArray, List.set_cons_zero, List.set_cons_succ, i64_w, i32_w]
    rfl
  refine take_ (i := 9) (N := some 12) (v := ?_) (a' := ?_) #[true, true, true, true, false, false, true, true, true, true, false, false] rfl rfl (by kernel_rfl) (fun _ _ _ h => h) (Or.inl ⟨by rfl, ?_⟩) hHeld ?_ ?_
  rotate_left
  · rintro w' ⟨s0, s1⟩
    go_simp
    with_reducible rfl
  rotate_left
  · simp only [Act.put, List.setIfInBounds_toArray, List.set_cons_zero, List.set_cons_succ, i64_w, i32_w]
    rfl
  refine one_ (i := 4) (N := some 7) #[true, true, true, true, true, false, true, true, true, true, false, false] rfl rfl (by kernel_rfl) (by decide) (fun K hK => ?_)
  refine goes_ Try.func22 (by kernel_rfl) rfl #[.map (some B)] (by rfl) rfl rfl (by simp only [List.map_toArray, List.map_cons, List.map_nil]; rfl) ?_
  with_reducible refine (PKeys.Keys_calls (some B) wd).mono ?_
  rintro e w1 ⟨rfl, rfl⟩
  refine ⟨_, rfl, ?_⟩
  have HI1 := Aside0.mk (HI.out.alloc (.cells #[.map (some B)] 55))
  have HP1 := Aside0.mk (HP.out.trans (Kp.below (below_alloc (Below.refl _ _) (.cells #[.map (some B)] 55))))
  have hbm := blk_new wd (.cells #[.map (some B)] 55)
  have HM := Aside0.mk ((blk_cell hbm 0).trans rfl : (wd.alloc (.cells #[.map (some B)] 55)).cell? ⟨wd.heap.size, 0, none⟩ = some (.map (some B)))
  have HBl := Aside0.mk (blk_lt hbm)
  have hd2 := HI1.out.cell2
  have hd1 := HI1.out.cell1
  clear HI HP hbm
  refine hK.out _ _ ⟨hd2, hd1⟩ (fun hHeld => ?_)
  clear hK K
  refine norm_ (a' := ?_) ?_ ?_
  rotate_left
  · show Act.put _ (some 7) _ = _
    simp only [Act.put, List.setIfInBounds_toArray, List.set_cons_zero, List.set_cons_succ, i64_w, i32_w]
    rfl
  refine one_ (i := 5) (N := some 8) #[true, true, true, true, true, true, true, true, true, true, false, false] rfl rfl (by kernel_rfl) (by decide) (fun K hK => ?_)
  refine goes_ Try.func21 (by kernel_rfl) rfl #[.func (.func 34) #[] #[.pointer (some ⟨wd.heap.size, 0, none⟩)]] (by rfl) rfl rfl (by simp only [List.map_toArray, List.map_cons, List.map_nil]; rfl) ?_
  with_reducible refine (PKeys.Collect_calls HI1.out HS.out wd.heap.size HBl.out HM.out).mono ?_
  rintro e w2 ⟨v, ss, rfl, hS, hO, hB⟩
  refine ⟨_, rfl, ?_⟩
  have HI2 := Aside0.mk (HI1.out.grow hB)
  have HP2 := Aside0.mk (HP1.out.trans (Kp.below hB))
  have HSS := Aside0.mk hS
  obtain ⟨A, c, rfl, hc, hC⟩ := Kd.R_reads (Kd.R_of_own (enc := Value.int .u16) (h1 := fun _ => rfl) (ok := fun _ => True) hO (fun _ _ => trivial))
  have HCC := Aside0.mk (And.intro hc (show Kd.C (Kd.int .u16) w2 A ss.length ss from hC))
  obtain ⟨R, hR, hOrd⟩ := POrder.Order_f ss s.next (in16 HI2.out hS) (few HI2.out HS.out hS)
  have HR := Aside0.mk hR
  have HOrd := Aside0.mk hOrd
  have hd2 := HI2.out.cell2
  have hd1 := HI2.out.cell1
  clear HI1 HP1 HM HBl hS hO hB hc hC hR hOrd
  refine hK.out _ _ ⟨hd2, hd1⟩ (fun hHeld => ?_)
  clear hK K
  refine norm_ (a' := ?_) ?_ ?_
  rotate_left
  · show Act.put _ (some 8) _ = _
    simp only [Act.put, List.setIfInBounds_toArray, List.set_cons_zero, List.set_cons_succ, i64_w, i32_w]
    rfl
  refine one_ (i := 10) (N := some 13) #[true, true, true, true, true, true, true, true, true, true, true, false] rfl rfl (by kernel_rfl) (by decide) (fun K hK => ?_)
  refine goes_ Try.func20 (by kernel_rfl) rfl #[.slice A ss.length c, .int .u16 s.next] (by rfl) rfl rfl (by simp only [List.map_toArray, List.map_cons, List.map_nil]; rfl) ?_
  with_reducible refine (POrder.turn_Order.calls A c ss s.next R _ HCC.out.2 HCC.out.1 HR.out).mono ?_
  rintro e w3 ⟨v3, rfl, hP, hB⟩
  refine ⟨_, rfl, ?_⟩
  have HI3 := Aside0.mk (HI2.out.grow hB)
  have HP3 := Aside0.mk (HP2.out.trans (Kp.below hB))
  have HPP := Aside0.mk (POrder.Kd.P_lower hP HP2.out.1)
  have hd2 := HI3.out.cell2
  have hd1 := HI3.out.cell1
  clear HI2 HP2 HCC HR hP hB
  refine hK.out _ _ ⟨hd2, hd1⟩ (fun hHeld => ?_)
  clear hK K
  refine norm_ (a' := ?_) ?_ ?_
  rotate_left
  · show Act.put _ (some 13) _ = _
    simp only [Act.put, List.setIfInBounds_toArray, List.set_cons_zero, List.set_cons_succ, i64_w, i32_w]
    rfl
  refine pure_ (i := 11) (N := some 2) (v := ?_) (a' := ?_) #[true, true, true, true, true, true, true, true, true, true, true, true] rfl rfl (by kernel_rfl) (fun _ _ _ h => h) (Or.inl ⟨by rfl, ?_⟩) ?_ ?_
  rotate_left
  · intro w'
    go_simp
    with_reducible rfl
  rotate_left
  · simp only [Act.put, List.setIfInBounds_toArray, List.set_cons_zero, List.set_cons_succ, i64_w, i32_w]
    rfl
  refine done_ (by kernel_rfl) ?_
  go_wp2
  go_ret
  refine ⟨v3, R, rfl, ord_len HI3.out HSS.out HOrd.out, ⟨HOrd.out.pw, fun x => ?_⟩, HPP.out, HI3.out, HP3.out⟩
  rw [HOrd.out.mem x, HSS.out.2 x, List.mem_map]
end Go.Proofs.Ytjigeblechiffaa.PIntake
