/- Answers that come for all fuel from some on. Plain Lean, no program. -/
namespace Go.Proofs.PlainEvt
def Evt {α : Type} (F : Nat → Option α) (r : α) : Prop := ∃ K, ∀ k, K ≤ k → F k = some r
variable {α β : Type} {F G : Nat → Option α} {r : α}
theorem Evt.succ (h : ∀ k, F (k + 1) = G k) (e : Evt G r) : Evt F r := by
  obtain ⟨K, hK⟩ := e
  refine ⟨K + 1, fun k hk => ?_⟩
  obtain ⟨j, rfl⟩ : ∃ j, k = j + 1 := ⟨k - 1, by omega⟩
  rw [h, hK j (by omega)]
theorem Evt.of_eq (h : ∀ k, F k = G k) (e : Evt G r) : Evt F r := by
  obtain ⟨K, hK⟩ := e
  exact ⟨K, fun k hk => by rw [h, hK k hk]⟩
theorem Evt.pure (r : α) : Evt (fun _ => some r) r := ⟨0, fun _ _ => rfl⟩
theorem Evt.const {o : Option α} (h : o = some r) : Evt (fun _ => o) r := ⟨0, fun _ _ => h⟩
theorem Evt.bind {H : Nat → Option β} {a : β} {C : Nat → β → Option α} (e : Evt H a) (e' : Evt (fun k => C k a) r) : Evt (fun k => (H k).bind (C k)) r := by
  obtain ⟨K, hK⟩ := e
  obtain ⟨L, hL⟩ := e'
  refine ⟨K + L, fun k hk => ?_⟩
  show (H k).bind (C k) = some r
  rw [hK k (by omega)]
  exact hL k (by omega)
theorem Evt.yes {c : Prop} [Decidable c] (h : c) (e : Evt F r) : Evt (fun k => if c then F k else G k) r := by simpa [h] using e
theorem Evt.no {c : Prop} [Decidable c] (h : ¬ c) (e : Evt G r) : Evt (fun k => if c then F k else G k) r := by simpa [h] using e
theorem Evt.split {c : Prop} [Decidable c] (e : c → Evt F r) (e' : ¬ c → Evt G r) : Evt (fun k => if c then F k else G k) r := by
  by_cases h : c
  · exact Evt.yes h (e h)
  · exact Evt.no h (e' h)
theorem Evt.get (e : Evt F r) : ∃ k, F k = some r := by
  obtain ⟨K, hK⟩ := e
  exact ⟨K, hK K (Nat.le_refl _)⟩
/-- Some answer with P comes for all fuel from some on. -/
def EvP {α : Type} (F : Nat → Option α) (P : α → Prop) : Prop := ∃ r, Evt F r ∧ P r
theorem EvP.ret {P : α → Prop} {r : α} (h : P r) : EvP (fun _ => some r) P := ⟨r, Evt.pure r, h⟩
theorem EvP.of {P : α → Prop} {r : α} (e : Evt F r) (h : P r) : EvP F P := ⟨r, e, h⟩
theorem EvP.succ {P : α → Prop} (h : ∀ k, F (k + 1) = G k) (e : EvP G P) : EvP F P := by
  obtain ⟨r, e, p⟩ := e
  exact ⟨r, Evt.succ h e, p⟩
theorem EvP.eq {P : α → Prop} (h : ∀ k, F k = G k) (e : EvP G P) : EvP F P := by
  obtain ⟨r, e, p⟩ := e
  exact ⟨r, Evt.of_eq h e, p⟩
theorem EvP.bind {H : Nat → Option β} {Q : β → Prop} {P : α → Prop} {C : Nat → β → Option α} (e : EvP H Q) (e' : ∀ a, Q a → EvP (fun k => C k a) P) : EvP (fun k => (H k).bind (C k)) P := by
  obtain ⟨a, e, q⟩ := e
  obtain ⟨r, e', p⟩ := e' a q
  exact ⟨r, Evt.bind e e', p⟩
theorem EvP.ebind {H : Nat → Option β} {a : β} {P : α → Prop} {C : Nat → β → Option α} (e : Evt H a) (e' : EvP (fun k => C k a) P) : EvP (fun k => (H k).bind (C k)) P := by
  obtain ⟨r, e', p⟩ := e'
  exact ⟨r, Evt.bind e e', p⟩
theorem EvP.obind {o : Option β} {a : β} {P : α → Prop} {C : Nat → β → Option α} (h : o = some a) (e' : EvP (fun k => C k a) P) : EvP (fun k => o.bind (C k)) P := EvP.ebind (Evt.const h) e'
theorem EvP.yes {P : α → Prop} {c : Prop} [Decidable c] (h : c) (e : EvP F P) : EvP (fun k => if c then F k else G k) P := by simpa [h] using e
theorem EvP.no {P : α → Prop} {c : Prop} [Decidable c] (h : ¬ c) (e : EvP G P) : EvP (fun k => if c then F k else G k) P := by simpa [h] using e
theorem EvP.split {P : α → Prop} {c : Prop} [Decidable c] (e : c → EvP F P) (e' : ¬ c → EvP G P) : EvP (fun k => if c then F k else G k) P := by
  by_cases h : c
  · exact EvP.yes h (e h)
  · exact EvP.no h (e' h)
theorem EvP.mono {P Q : α → Prop} (e : EvP F P) (h : ∀ r, P r → Q r) : EvP F Q := by
  obtain ⟨r, e, p⟩ := e
  exact ⟨r, e, h r p⟩
theorem EvP.get {P : α → Prop} (e : EvP F P) : ∃ k r, F k = some r ∧ P r := by
  obtain ⟨r, e, p⟩ := e
  obtain ⟨k, h⟩ := e.get
  exact ⟨k, r, h, p⟩
/-- An answer at one fuel that more fuel doesn't change. -/
theorem Evt.mono {n : Nat} {r : α} (h0 : F n = some r) (h : ∀ k r, F k = some r → F (k + 1) = some r) : Evt F r := by
  refine ⟨n, fun k hk => ?_⟩
  obtain ⟨d, rfl⟩ : ∃ d, k = n + d := ⟨k - n, by omega⟩
  clear hk
  induction d with
  | zero => exact h0
  | succ d ih => exact h _ _ ih
end Go.Proofs.PlainEvt
