/- How data that come in are read, with the bound on what a row's bytes weigh. -/
import Derived.SizedLaws
import Derived.Deep.Strs
import Derived.Test.YtjigeblechiffaaOpen
set_option linter.unusedVariables false
set_option linter.unusedSimpArgs false
namespace Go.Proofs.YtjigeblechiffaaOpen
open Go.RowKit Go.Deep Go.Proofs.YtjigeblechiffaaW.PrintWords
def OpensW (P : Program) (t : TypeId) {α : Type} (d : Kd α) (Ok : α → Prop) : Prop :=
  ∀ {H : Type} (enc : TypeId × Value → H) (w : World) (sp : Nat → Bool) (held : Bool) (fuel : Nat) (cs : List Value) (x : DataW H × List MemPlace), DataW.trod enc P w 0 sp held fuel t cs = some x → (∀ n ∈ DataW.weights P t x.1, n ≤ reachBytes) → ∃ a, d.K w a cs ∧ Ok a
variable {P : Program} {t e : TypeId}
theorem opensW_of {α : Type} {d : Kd α} {Ok : α → Prop} (h : Opens P t d Ok) : OpensW P t d Ok := fun enc w sp held fuel cs x hx _ => h enc w sp held fuel cs x hx
theorem weights_all_mem {H : Type} {P : Program} {e : TypeId} {d : DataW H} : ∀ {l : List (DataW H)}, d ∈ l → ∀ n ∈ d.weights P e, n ∈ DataW.weightsAll P e l
  | [], h, _, _ => by cases h
  | a :: l, h, n, hn => by
    simp only [DataW.weightsAll, List.mem_append]
    rcases List.mem_cons.1 h with rfl | h
    · exact .inl hn
    · exact .inr (weights_all_mem h n hn)
theorem opensW_slice {α : Type} {d : Kd α} {Ok : α → Prop} (h : P.underlying t = some (.slice e)) (hs : P.cellsOf e = d.sz) (he : OpensW P e d Ok) : OpensW P t (Kd.slice e d) (fun l => l.length ≤ maxLen ∧ l.length * P.bytesOf e ≤ reachBytes ∧ ∀ x ∈ l, Ok x) := by
  intro H enc w sp held fuel cs x hx hw
  rcases open_slice h hx with ⟨rfl, _⟩ | ⟨a, len, cap, m, n, D, Pl, rfl, _, hl, hm, hmm, hxe, hel⟩
  · exact ⟨[], ⟨none, 0, rfl, Nat.le_refl _, rfl, by simp, fun hp => absurd hp (by simp)⟩, by simp, by simp, fun x hx => by simp at hx⟩
  · have hlm : len ≤ m := by rw [hmm]; split <;> omega
    subst hxe
    have hwt : DataW.weights P t (DataW.slice ((List.range len).map D) ((List.range (m - len)).map fun j => D (len + j))) =
        (((List.range len).map D).length + ((List.range (m - len)).map fun j => D (len + j)).length) * P.bytesOf e :: (DataW.weightsAll P e ((List.range len).map D) ++ DataW.weightsAll P e ((List.range (m - len)).map fun j => D (len + j))) := by
      simp only [DataW.weights, h]
    simp only at hw
    rw [hwt] at hw
    obtain ⟨l, hll, hlp⟩ := list_of len (fun i (b : α) => Ok b ∧ ∃ c, c.length = d.sz ∧ d.K w b c ∧ ∀ j u, c[j]? = some u → w.cell? (a.add (i * d.sz + j)) = some u) (fun i hi => by
      obtain ⟨cs', h1, h2⟩ := hel i (by omega)
      obtain ⟨b, hb1, hb2⟩ := he enc w sp held n cs' _ h2 (fun k hk => hw k (List.mem_cons_of_mem _ (List.mem_append_left _ (weights_all_mem (List.mem_map.2 ⟨i, List.mem_range.2 hi, rfl⟩) k hk))))
      refine ⟨b, hb2, cs', d.K_len hb1, hb1, fun j u hu => ?_⟩
      obtain ⟨_, hlen, hcell⟩ := World.cells?_some h1
      rw [hs] at hcell hlen
      have hj : j < d.sz := by
        rcases Nat.lt_or_ge j cs'.length with h3 | h3
        · omega
        · rw [List.getElem?_eq_none h3] at hu; cases hu
      have := hcell j hj
      rw [hu] at this
      rwa [Addr.add_add] at this)
    refine ⟨l, ⟨some a, cap, by rw [hll], by omega, rfl, by unfold maxLen at hm; omega, fun _ => ⟨a, rfl, fun j p hj => ?_⟩⟩, by omega, ?_, fun x hx => ?_⟩
    · obtain ⟨_, c, h1, h2, h3⟩ := hlp j p hj
      exact ⟨c, h1, h2, h3⟩
    · have := hw _ List.mem_cons_self
      rw [List.length_map, List.length_range] at this
      rw [hll]
      exact Nat.le_trans (Nat.mul_le_mul_right _ (Nat.le_add_right _ _)) this
    · obtain ⟨i, hi, rfl⟩ := List.getElem_of_mem hx
      exact (hlp i _ (List.getElem?_eq_getElem hi)).1
theorem opensW_struct3 {α β γ δ : Type} {d1 : Kd α} {d2 : Kd β} {d3 : Kd γ} {O1 : α → Prop} {O2 : β → Prop} {O3 : γ → Prop} {f1 f2 f3 : Field} (f : δ → α × β × γ) (g : α × β × γ → δ) (hfg : ∀ x, f (g x) = x) (h : P.underlying t = some (.struct #[f1, f2, f3]))
    (h1 : f1.offset = 0) (h2 : f2.offset = d1.sz) (h3 : f3.offset = d1.sz + d2.sz) (c1 : P.cellsOf f1.type = d1.sz) (c2 : P.cellsOf f2.type = d2.sz) (c3 : P.cellsOf f3.type = d3.sz) (ct : P.cellsOf t = d1.sz + d2.sz + d3.sz) (o1 : OpensW P f1.type d1 O1) (o2 : OpensW P f2.type d2 O2) (o3 : OpensW P f3.type d3 O3) :
    OpensW P t (Kd.iso (Kd.pair d1 (Kd.pair d2 d3)) f) (fun x => O1 (f x).1 ∧ O2 (f x).2.1 ∧ O3 (f x).2.2) := by
  intro H enc w sp held fuel cs x hx hw
  obtain ⟨x1, x2, x3, n, rfl, hlen, e1, e2, e3⟩ := Go.Deep.trod_struct3 h hx
  have hwt : DataW.weights P t (DataW.agg [x1.1, x2.1, x3.1]) = x1.1.weights P f1.type ++ (x2.1.weights P f2.type ++ (x3.1.weights P f3.type ++ [])) := by
    simp only [DataW.weights, h, List.map_cons, List.map_nil, DataW.weightsEach]
  simp only at hw
  rw [hwt] at hw
  rw [h1, c1] at e1
  rw [h2, c2] at e2
  rw [h3, c3] at e3
  obtain ⟨a, k1, oa⟩ := o1 enc w sp held n _ _ e1 (fun n hn => hw n (List.mem_append_left _ hn))
  obtain ⟨b, k2, ob⟩ := o2 enc w sp held n _ _ e2 (fun n hn => hw n (List.mem_append_right _ (List.mem_append_left _ hn)))
  obtain ⟨c, k3, oc⟩ := o3 enc w sp held n _ _ e3 (fun n hn => hw n (List.mem_append_right _ (List.mem_append_right _ (List.mem_append_left _ hn))))
  refine ⟨g (a, b, c), ?_, by rw [hfg]; exact oa, by rw [hfg]; exact ob, by rw [hfg]; exact oc⟩
  show (Kd.pair d1 (Kd.pair d2 d3)).K w (f (g (a, b, c))) cs
  rw [hfg]
  refine ⟨cs.take d1.sz, cs.drop d1.sz, (List.take_append_drop _ _).symm, by simpa using k1, (cs.drop d1.sz).take d2.sz, (cs.drop d1.sz).drop d2.sz, (List.take_append_drop _ _).symm, k2, ?_⟩
  rw [List.take_of_length_le (l := cs.drop (d1.sz + d2.sz)) (by rw [List.length_drop]; omega)] at k3
  rwa [List.drop_drop]
theorem arg_sliceW {α : Type} {d : Kd α} {Ok : α → Prop} {H : Type} {enc : TypeId × Value → H} {w : World} {sp : Nat → Bool} {held : Bool} {v : Value} {x : DataW H} {p : List MemPlace} (hu : P.underlying t = some (.slice e)) (hs : P.cellsOf e = d.sz) (o : OpensW P e d Ok)
    {r : Reach} {b : Nat} (hv : Value.okWide P w r b t v) (h : DataW.Trod enc P w 0 sp held t v x p) {ts : List TypeId} {ds : List (DataW H)} {j : Nat}
    (hsz : (DataW.weightsEach P ts ds).all (· ≤ reachBytes) = true) (ht : ts[j]? = some t) (hd : ds[j]? = some x) : ∃ A l c, v = .slice A l.length c ∧ l.length ≤ c ∧ d.C w A l.length l ∧ ∀ x ∈ l, Ok x := by
  obtain ⟨a, len, cap, rfl⟩ := Go.WideShapes.okWide_slice hu hv
  obtain ⟨fuel, hf⟩ := h
  obtain ⟨l, ⟨A, c, hc, h1, h2⟩, h3, _, h4⟩ := opensW_slice hu hs o enc w sp held fuel _ _ hf (fun n hn => by simpa using List.all_eq_true.1 hsz n (DataW.weights_mem_each ht hd n hn))
  simp [Value.cells] at hc
  obtain ⟨rfl, rfl, rfl⟩ := hc
  exact ⟨_, l, _, rfl, h1, h2, h4⟩
end Go.Proofs.YtjigeblechiffaaOpen
