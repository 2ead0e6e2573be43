/- The fixed fact ahead of each law of the intake: the document's examples. -/
import Derived.Test.YtjigeblechiffaaIn6
import Derived.Lib.SlBytesConst
namespace Go.Proofs.Ytjigeblechiffaa.PIntake
open Go.RowKit Go.Proofs.YtjigeblechiffaaW.PrintWords Go.Proofs.YtjigeblechiffaaW.PrintLast Go.Proofs.YtjigeblechiffaaW.PrintMore
attribute [local go_sem] max2_int min2_int max_two min_two max_three min_three max_four min_four   -- for this text's walks alone
set_option linter.unusedVariables false
set_option linter.unusedSimpArgs false
variable {w0 w w1 : World} {B : Nat} {s : St}
theorem C_one {w : World} {g : Nat} {a : Int} {t : TypeId} {fz : Nat × Nat} (h : w.heap[g]? = some (.cells #[.int .u8 a] t fz)) : Kd.C kb w (some ⟨g, 0, none⟩) ([a] : List Int).length [a] := by
  refine ⟨rfl, by simp, fun _ => ⟨_, rfl, fun j p hp => ?_⟩⟩
  cases j with
  | succ j => simp at hp
  | zero =>
    simp only [List.getElem?_cons_zero, Option.some.injEq] at hp
    subst hp
    refine ⟨[.int .u8 a], rfl, rfl, fun i u hu => ?_⟩
    cases i with
    | succ i => simp at hu
    | zero =>
      simp only [List.getElem?_cons_zero, Option.some.injEq] at hu
      subst hu
      exact (cell_of_row w g 0 _ t fz h).trans rfl
theorem C_two {w : World} {g : Nat} {a b : Int} {t : TypeId} (h : w.heap[g]? = some (.cells #[.int .u8 a, .int .u8 b] t (0, 0))) : Kd.C kb w (some ⟨g, 0, none⟩) ([a, b] : List Int).length [a, b] := by
  refine ⟨rfl, by simp, fun _ => ⟨_, rfl, fun j p hp => ?_⟩⟩
  have hj : j < 2 := by
    have := (List.getElem?_eq_some_iff.1 hp).1
    simpa using this
  have hcell : ∀ (u : Value), #[Value.int .u8 a, .int .u8 b][j]? = some u → w.cell? ⟨g, j, none⟩ = some u := fun u hu => (blk_cell h j).trans hu
  refine ⟨[.int .u8 p], rfl, rfl, fun i u hu => ?_⟩
  cases i with
  | succ i => simp at hu
  | zero =>
    simp only [List.getElem?_cons_zero, Option.some.injEq] at hu
    subst hu
    have : (Addr.add ⟨g, 0, none⟩ (j * kb.sz + 0)) = ⟨g, j, none⟩ := by simp [Addr.add, kb, Kd.int, Kd.scalar]; omega
    rw [this]
    refine hcell _ ?_
    rcases j with _ | _ | j
    · simp at hp; subst hp; rfl
    · simp at hp; subst hp; rfl
    · omega
theorem Take_to (h : IV w0 B w s) (x : Int) (hx16 : 0 ≤ x ∧ x < 65536) (A : Option Addr) (c : Nat) (d : List Int) (hc : d.length ≤ c) (hD : Kd.C kb w A d.length d) {s' : Option Nat → St} {r : Int} (ht : ∀ t, takeF s x (d, t) = (s' t, r)) :
    Calls Try.prog 11 #[.pointer (some ⟨B + 2, 0, none⟩), .int .u16 x, .slice A d.length c] w fun e w' => ∃ t : Option Nat, e = .returned (.int .i64 r) ∧ (∀ k, t = some k → w.heap.size ≤ k) ∧ IV w0 B w' (s' t) ∧ Kp B w w' := by
  have := Take_calls h x hx16 A c d hc hD
  simp only [ht] at this
  exact this
theorem Take_nil (h : IV w0 B w s) (x : Int) (hx16 : 0 ≤ x ∧ x < 65536) {s' : Option Nat → St} {r : Int} (ht : ∀ t, takeF s x ([], t) = (s' t, r)) :
    Calls Try.prog 11 #[.pointer (some ⟨B + 2, 0, none⟩), .int .u16 x, .slice none 0 0] w fun e w' => ∃ t : Option Nat, e = .returned (.int .i64 r) ∧ (∀ k, t = some k → w.heap.size ≤ k) ∧ IV w0 B w' (s' t) ∧ Kp B w w' := Take_to h x hx16 none 0 [] (Nat.le_refl _) (Kd.C_nil _ _) ht

theorem ta1 (t : Option Nat) : takeF ⟨4, 65535, [], []⟩ 0 ([98], t) = (⟨4, 65535, [(0, ([98], t))], []⟩, 0) := rfl
theorem ta2 (u t : Option Nat) : takeF ⟨4, 65535, [(0, ([98], u))], []⟩ 65535 ([], t) = (⟨4, 1, [], [([], t), ([98], u)]⟩, 0) := rfl
theorem ta3 (u u' t : Option Nat) : takeF ⟨4, 1, [], [([], u'), ([98], u)]⟩ 65535 ([], t) = (⟨4, 1, [], [([], u'), ([98], u)]⟩, 2) := rfl
theorem ta4 (u u' t : Option Nat) : takeF ⟨4, 1, [], [([], u'), ([98], u)]⟩ 9 ([], t) = (⟨4, 1, [], [([], u'), ([98], u)]⟩, 40) := rfl

set_option maxHeartbeats 4000000 in
set_option maxRecDepth 100000 in
theorem awake_calls (w : World) : Calls Try.prog 9 #[] w fun e w' => e = .returned (.bool true) ∧ Below w.heap.size w w' := by
  have HB := Aside0.mk (Below.refl w.heap.size w)
  have hcv : ∀ w : World, (convert 31 31 (.slice (some ⟨w.heap.size, 0, none⟩) 1 1)).run Try.prog (w.alloc (.cells #[.int .u8 98] 5)) = .ok (.slice (some ⟨w.heap.size, 0, none⟩) 1 1) (w.alloc (.cells #[.int .u8 98] 5 (1, 2))) := fun w => Lib.run_convert_bytes_const w 31 5 #[.int .u8 98] 1 1 Try.underlying31 Try.underlying5
  go_enter Try.func9, Try.ntmps9
  go_wp2_with (first
    | (go_at_call 10; refine (New_ok HB.out 4 65535 (by decide) (by decide)).mono ?_; rintro e w1 ⟨rfl, hI⟩; have HI0 := Aside0.mk hI; clear hI HB)
    | (go_at_call 11; refine (Take_to (HI0.out.alloc _) 0 (by decide) _ 1 [98] (by simp) (C_one (blk_new _ (.cells #[.int .u8 98] 5 (1, 2)))) ta1).mono ?_; rintro e w2 ⟨u1, rfl, _, hI, _⟩; have HI1 := Aside0.mk hI; clear hI HI0)
    | (go_at_call 11; refine (Take_nil HI1.out 65535 (by decide) (ta2 u1)).mono ?_; rintro e w3 ⟨u2, rfl, _, hI, _⟩; have HI2 := Aside0.mk hI; clear hI HI1)
    | (go_at_call 13; refine (Ready_calls HI2.out).mono ?_; rintro e w4 ⟨rfl, rfl⟩)
    | (go_at_call 14; refine (Next_calls HI2.out).mono ?_; rintro e w4 ⟨rfl, rfl⟩)
    | (go_at_call 11; refine (Take_nil HI2.out 65535 (by decide) (ta3 u1 u2)).mono ?_; rintro e w5 ⟨_, rfl, _, hI, _⟩; have HI3 := Aside0.mk hI; clear hI HI2)
    | (go_at_call 11; refine (Take_nil HI3.out 9 (by decide) (ta4 u1 u2)).mono ?_; rintro e w6 ⟨_, rfl, _, hI, _⟩; have HI4 := Aside0.mk hI; clear hI HI3))
  go_ret
  exact ⟨rfl, HI4.out.below⟩

/-! ### lists of numbers and what stands at them -/
section
variable {α : Type} {x y : Int}
theorem at_app_none : ∀ {l : List (Int × α)} {v : α}, at_ x l = none → at_ x (l ++ [(y, v)]) = if x = y then some v else none
  | [], _, _ => by simp [at_]
  | (k, a) :: l, v, h => by
    by_cases hx : x = k
    · simp [at_, hx] at h
    · simp only [at_, hx, if_false] at h
      simp only [List.cons_append, at_, hx, if_false, at_app_none h]
theorem at_app_some : ∀ {l : List (Int × α)} {v a : α}, at_ x l = some a → at_ x (l ++ [(y, v)]) = some a
  | [], _, _, h => by cases h
  | (k, b) :: l, v, a, h => by
    by_cases hx : x = k
    · simpa [at_, hx] using h
    · simp only [at_, hx, if_false] at h
      simp only [List.cons_append, at_, hx, if_false, at_app_some h]
theorem at_cut_ne : ∀ {l : List (Int × α)}, x ≠ y → at_ x (cut y l) = at_ x l
  | [], _ => rfl
  | (k, b) :: l, h => by
    by_cases hy : y = k
    · subst hy
      simp [cut, at_, h]
    · by_cases hx : x = k
      · simp [cut, hy, at_, hx]
      · simp [cut, hy, at_, hx, at_cut_ne h]
theorem mem_cut {p : Int × α} : ∀ {l : List (Int × α)}, p ∈ cut y l → p ∈ l
  | [], h => h
  | (k, b) :: l, h => by
    by_cases hy : y = k
    · simp only [cut, hy, if_true] at h
      exact List.mem_cons_of_mem _ h
    · simp only [cut, hy, if_false, List.mem_cons] at h
      rcases h with h | h
      · simp [h]
      · exact List.mem_cons_of_mem _ (mem_cut h)
theorem at_mem {v : α} : ∀ {l : List (Int × α)}, at_ x l = some v → (x, v) ∈ l
  | [], h => by cases h
  | (k, b) :: l, h => by
    by_cases hx : x = k
    · simp only [at_, hx, if_true, Option.some.injEq] at h
      simp [hx, h]
    · simp only [at_, hx, if_false] at h
      exact List.mem_cons_of_mem _ (at_mem h)
theorem at_none_mem : ∀ {l : List (Int × α)}, at_ x l = none → ∀ p ∈ l, p.1 ≠ x
  | [], _, p, hp => by cases hp
  | (k, b) :: l, h, p, hp => by
    by_cases hx : x = k
    · simp [at_, hx] at h
    · simp only [at_, hx, if_false] at h
      rcases List.mem_cons.1 hp with rfl | hp
      · exact fun e => hx e.symm
      · exact at_none_mem h p hp
end
theorem within_iff (x lo n : Int) : within x lo n = decide ((x - lo) % 65536 < n) := by rw [within, u16_wrap]
end Go.Proofs.Ytjigeblechiffaa.PIntake
