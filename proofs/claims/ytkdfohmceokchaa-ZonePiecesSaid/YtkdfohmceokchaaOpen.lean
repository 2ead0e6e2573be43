/- How data that come in are read as the print's kinds: over any program. -/
import Derived.RowKit
import Derived.ProofKit
import Derived.OpenShut
import Derived.Deep.Slices
import Derived.Test.YtkdfohmceokchaaVWords
set_option linter.unusedVariables false
set_option linter.unusedSimpArgs false
namespace Go.Proofs.YtkdfohmceokchaaOpen
open Go.RowKit Go.Deep Go.Proofs.YtkdfohmceokchaaW.PrintWords
/-- Whatever can be read as data of type t is of kind d, and Ok. -/
def Opens (P : Program) (t : TypeId) {α : Type} (d : Kd α) (Ok : α → Prop) : Prop :=
  ∀ {H : Type} (enc : TypeId × Value → H) (w : World) (sp : Nat → Bool) (held : Bool) (fuel : Nat) (cs : List Value) (x : DataW H × List MemPlace), DataW.trod enc P w 0 sp held fuel t cs = some x → ∃ a, d.K w a cs ∧ Ok a
variable {P : Program} {t e : TypeId}
theorem opens_int {k : IntKind} (h : P.underlying t = some (.int k)) : Opens P t (Kd.int k) (fun a => (Lit.int k a).wf = true) := by
  intro H enc w sp held fuel cs x hx
  obtain ⟨n, rfl, _, hw⟩ := DataW.trod_int h hx
  exact ⟨n, rfl, hw⟩
theorem opens_bool (h : P.underlying t = some .bool) : Opens P t Kd.bool (fun _ => True) := by
  intro H enc w sp held fuel cs x hx
  obtain ⟨b, rfl, _⟩ := DataW.trod_bool h hx
  exact ⟨b, rfl, trivial⟩
theorem opens_string (h : P.underlying t = some .string) : Opens P t Kd.string (fun s => s.size ≤ maxLen) := by
  intro H enc w sp held fuel cs x hx
  obtain ⟨s, rfl, _, hs⟩ := DataW.trod_string h hx
  exact ⟨s, rfl, hs⟩
theorem opens_mono {α : Type} {d : Kd α} {Ok Ok' : α → Prop} (h : Opens P t d Ok) (ho : ∀ a, Ok a → Ok' a) : Opens P t d Ok' := by
  intro H enc w sp held fuel cs x hx
  obtain ⟨a, h1, h2⟩ := h enc w sp held fuel cs x hx
  exact ⟨a, h1, ho a h2⟩
theorem list_of {α : Type} (n : Nat) (p : Nat → α → Prop) (h : ∀ i, i < n → ∃ a, p i a) : ∃ l : List α, l.length = n ∧ ∀ i a, l[i]? = some a → p i a := by
  induction n with
  | zero => exact ⟨[], rfl, fun i a h => by simp at h⟩
  | succ n ih =>
    obtain ⟨l, hl, hp⟩ := ih (fun i hi => h i (by omega))
    obtain ⟨a, ha⟩ := h n (by omega)
    refine ⟨l ++ [a], by simp [hl], fun i b hb => ?_⟩
    rcases Nat.lt_or_ge i l.length with hlt | hge
    · rw [List.getElem?_append_left hlt] at hb
      exact hp i b hb
    · rw [List.getElem?_append_right hge] at hb
      have : i = n := by
        rcases Nat.eq_or_lt_of_le hge with h1 | h1
        · omega
        · rw [List.getElem?_eq_none (by simp; omega)] at hb; cases hb
      subst this
      rw [hl, Nat.sub_self] at hb
      simp at hb
      subst hb
      exact ha
theorem opens_slice {α : Type} {d : Kd α} {Ok : α → Prop} (h : P.underlying t = some (.slice e)) (hs : P.cellsOf e = d.sz) (he : Opens P e d Ok) : Opens P t (Kd.slice e d) (fun l => l.length ≤ maxLen ∧ ∀ x ∈ l, Ok x) := by
  intro H enc w sp held fuel cs x hx
  rcases open_slice h hx with ⟨rfl, _⟩ | ⟨a, len, cap, m, n, D, Pl, rfl, _, hl, hm, hmm, _, hel⟩
  · exact ⟨[], ⟨none, 0, rfl, Nat.le_refl _, rfl, by simp, fun hp => absurd hp (by simp)⟩, by simp, fun x hx => by simp at hx⟩
  · have hlm : len ≤ m := by rw [hmm]; split <;> omega
    obtain ⟨l, hll, hlp⟩ := list_of len (fun i (b : α) => Ok b ∧ ∃ c, c.length = d.sz ∧ d.K w b c ∧ ∀ j u, c[j]? = some u → w.cell? (a.add (i * d.sz + j)) = some u) (fun i hi => by
      obtain ⟨cs', h1, h2⟩ := hel i (by omega)
      obtain ⟨b, hb1, hb2⟩ := he enc w sp held n cs' _ h2
      refine ⟨b, hb2, cs', d.K_len hb1, hb1, fun j u hu => ?_⟩
      obtain ⟨_, hlen, hcell⟩ := World.cells?_some h1
      rw [hs] at hcell hlen
      have hj : j < d.sz := by
        rcases Nat.lt_or_ge j cs'.length with h3 | h3
        · omega
        · rw [List.getElem?_eq_none h3] at hu; cases hu
      have := hcell j hj
      rw [hu] at this
      rwa [Addr.add_add] at this)
    refine ⟨l, ⟨some a, cap, by rw [hll], by omega, rfl, by unfold maxLen at hm; omega, fun _ => ⟨a, rfl, fun j p hj => ?_⟩⟩, by omega, fun x hx => ?_⟩
    · obtain ⟨_, c, h1, h2, h3⟩ := hlp j p hj
      exact ⟨c, h1, h2, h3⟩
    · obtain ⟨i, hi, rfl⟩ := List.getElem_of_mem hx
      exact (hlp i _ (List.getElem?_eq_getElem hi)).1
theorem opens_struct2 {α β γ : Type} {d1 : Kd α} {d2 : Kd β} {O1 : α → Prop} {O2 : β → Prop} {f1 f2 : Field} (f : γ → α × β) (g : α × β → γ) (hfg : ∀ x, f (g x) = x) (h : P.underlying t = some (.struct #[f1, f2]))
    (h1 : f1.offset = 0) (h2 : f2.offset = d1.sz) (c1 : P.cellsOf f1.type = d1.sz) (c2 : P.cellsOf f2.type = d2.sz) (ct : P.cellsOf t = d1.sz + d2.sz) (o1 : Opens P f1.type d1 O1) (o2 : Opens P f2.type d2 O2) :
    Opens P t (Kd.iso (Kd.pair d1 d2) f) (fun x => O1 (f x).1 ∧ O2 (f x).2) := by
  intro H enc w sp held fuel cs x hx
  obtain ⟨xs, n, _, _, hlen, hxs, hf⟩ := DataW.trod_struct h hx
  have hl2 : xs.length = 2 := by simpa using hxs
  obtain ⟨x1, x2, rfl⟩ : ∃ x1 x2, xs = [x1, x2] := by
    match xs, hl2 with
    | [a, b], _ => exact ⟨a, b, rfl⟩
  have e1 := hf 0 f1 rfl
  have e2 := hf 1 f2 rfl
  rw [h1, c1] at e1
  rw [h2, c2] at e2
  obtain ⟨a, k1, oa⟩ := o1 enc w sp held n _ _ e1
  obtain ⟨b, k2, ob⟩ := o2 enc w sp held n _ _ e2
  refine ⟨g (a, b), ?_, by rw [hfg]; exact oa, by rw [hfg]; exact ob⟩
  show (Kd.pair d1 d2).K w (f (g (a, b))) cs
  rw [hfg]
  refine ⟨_, _, ?_, k1, k2⟩
  rw [List.drop_zero, List.take_of_length_le (l := cs.drop d1.sz) (by rw [List.length_drop]; omega), List.take_append_drop]
theorem opens_struct3 {α β γ δ : Type} {d1 : Kd α} {d2 : Kd β} {d3 : Kd γ} {O1 : α → Prop} {O2 : β → Prop} {O3 : γ → Prop} {f1 f2 f3 : Field} (f : δ → α × β × γ) (g : α × β × γ → δ) (hfg : ∀ x, f (g x) = x) (h : P.underlying t = some (.struct #[f1, f2, f3]))
    (h1 : f1.offset = 0) (h2 : f2.offset = d1.sz) (h3 : f3.offset = d1.sz + d2.sz) (c1 : P.cellsOf f1.type = d1.sz) (c2 : P.cellsOf f2.type = d2.sz) (c3 : P.cellsOf f3.type = d3.sz) (ct : P.cellsOf t = d1.sz + d2.sz + d3.sz) (o1 : Opens P f1.type d1 O1) (o2 : Opens P f2.type d2 O2) (o3 : Opens P f3.type d3 O3) :
    Opens P t (Kd.iso (Kd.pair d1 (Kd.pair d2 d3)) f) (fun x => O1 (f x).1 ∧ O2 (f x).2.1 ∧ O3 (f x).2.2) := by
  intro H enc w sp held fuel cs x hx
  obtain ⟨xs, n, _, _, hlen, hxs, hf⟩ := DataW.trod_struct h hx
  have hl2 : xs.length = 3 := by simpa using hxs
  obtain ⟨x1, x2, x3, rfl⟩ : ∃ x1 x2 x3, xs = [x1, x2, x3] := by
    match xs, hl2 with
    | [a, b, c], _ => exact ⟨a, b, c, rfl⟩
  have e1 := hf 0 f1 rfl
  have e2 := hf 1 f2 rfl
  have e3 := hf 2 f3 rfl
  rw [h1, c1] at e1
  rw [h2, c2] at e2
  rw [h3, c3] at e3
  obtain ⟨a, k1, oa⟩ := o1 enc w sp held n _ _ e1
  obtain ⟨b, k2, ob⟩ := o2 enc w sp held n _ _ e2
  obtain ⟨c, k3, oc⟩ := o3 enc w sp held n _ _ e3
  refine ⟨g (a, b, c), ?_, by rw [hfg]; exact oa, by rw [hfg]; exact ob, by rw [hfg]; exact oc⟩
  show (Kd.pair d1 (Kd.pair d2 d3)).K w (f (g (a, b, c))) cs
  rw [hfg]
  refine ⟨cs.take d1.sz, cs.drop d1.sz, (List.take_append_drop _ _).symm, by simpa using k1, (cs.drop d1.sz).take d2.sz, (cs.drop d1.sz).drop d2.sz, (List.take_append_drop _ _).symm, k2, ?_⟩
  rw [List.take_of_length_le (l := cs.drop (d1.sz + d2.sz)) (by rw [List.length_drop]; omega)] at k3
  rwa [List.drop_drop]
theorem opens_array2 {α γ : Type} {d : Kd α} {O : α → Prop} (f : γ → α × α) (g : α × α → γ) (hfg : ∀ x, f (g x) = x) (h : P.underlying t = some (.array 2 e)) (c : P.cellsOf e = d.sz) (ct : P.cellsOf t = d.sz + d.sz) (o : Opens P e d O) :
    Opens P t (Kd.iso (Kd.pair d d) f) (fun x => O (f x).1 ∧ O (f x).2) := by
  intro H enc w sp held fuel cs x hx
  obtain ⟨xs, n, _, _, hlen, hxs, hf⟩ := DataW.trod_array h hx
  obtain ⟨x1, x2, rfl⟩ : ∃ x1 x2, xs = [x1, x2] := by
    match xs, hxs with
    | [a, b], _ => exact ⟨a, b, rfl⟩
  have e1 := hf 0 (by omega)
  have e2 := hf 1 (by omega)
  rw [c] at e1 e2
  obtain ⟨a, k1, oa⟩ := o enc w sp held n _ _ e1
  obtain ⟨b, k2, ob⟩ := o enc w sp held n _ _ e2
  refine ⟨g (a, b), ?_, by rw [hfg]; exact oa, by rw [hfg]; exact ob⟩
  show (Kd.pair d d).K w (f (g (a, b))) cs
  rw [hfg]
  refine ⟨_, _, ?_, k1, k2⟩
  rw [Nat.zero_mul, Nat.one_mul, List.drop_zero, List.take_of_length_le (l := cs.drop d.sz) (by rw [List.length_drop]; omega), List.take_append_drop]
theorem arg_open {α : Type} {d : Kd α} {Ok : α → Prop} {H : Type} {enc : TypeId × Value → H} {w : World} {sp : Nat → Bool} {held : Bool} {v : Value} {x : DataW H} {p : List MemPlace} (o : Opens P t d Ok) (h : DataW.Trod enc P w 0 sp held t v x p) : ∃ a, d.K w a v.cells.toList ∧ Ok a := by
  obtain ⟨fuel, hf⟩ := h
  exact o enc w sp held fuel _ _ hf
theorem arg_slice {α : Type} {d : Kd α} {Ok : α → Prop} {H : Type} {enc : TypeId × Value → H} {w : World} {sp : Nat → Bool} {held : Bool} {v : Value} {x : DataW H} {p : List MemPlace} (hu : P.underlying t = some (.slice e)) (hs : P.cellsOf e = d.sz) (o : Opens P e d Ok)
    {r : Reach} {b : Nat} (hv : Value.okWide P w r b t v) (h : DataW.Trod enc P w 0 sp held t v x p) : ∃ A l c, v = .slice A l.length c ∧ l.length ≤ c ∧ d.C w A l.length l ∧ l.length ≤ maxLen ∧ ∀ x ∈ l, Ok x := by
  obtain ⟨a, len, cap, rfl⟩ := Go.WideShapes.okWide_slice hu hv
  obtain ⟨l, ⟨A, c, hc, h1, h2⟩, h3, h4⟩ := arg_open (opens_slice hu hs o) h
  simp [Value.cells] at hc
  obtain ⟨rfl, rfl, rfl⟩ := hc
  exact ⟨_, l, _, rfl, h1, h2, h3, h4⟩
theorem arg_agg {r : Reach} {b : Nat} {w : World} {v : Value} {fs : Array Field} (hu : P.underlying t = some (.struct fs)) (hv : Value.okWide P w r b t v) {cs : List Value} (hc : v.cells.toList = cs) : v = .agg cs.toArray := by
  obtain ⟨c, rfl, _⟩ := Go.WideShapes.okWide_struct hu hv
  subst hc
  simp [Value.cells]
theorem arg_arr {r : Reach} {b n : Nat} {w : World} {v : Value} (hu : P.underlying t = some (.array n e)) (hv : Value.okWide P w r b t v) {cs : List Value} (hc : v.cells.toList = cs) : v = .agg cs.toArray := by
  unfold Value.okWide at hv
  rw [hu] at hv
  obtain ⟨c, rfl, _⟩ := hv
  subst hc
  simp [Value.cells]
theorem opens_array3 {α γ : Type} {d : Kd α} {O : α → Prop} (f : γ → α × α × α) (g : α × α × α → γ) (hfg : ∀ x, f (g x) = x) (h : P.underlying t = some (.array 3 e)) (c : P.cellsOf e = d.sz) (ct : P.cellsOf t = d.sz + d.sz + d.sz) (o : Opens P e d O) :
    Opens P t (Kd.iso (Kd.pair d (Kd.pair d d)) f) (fun x => O (f x).1 ∧ O (f x).2.1 ∧ O (f x).2.2) := by
  intro H enc w sp held fuel cs x hx
  obtain ⟨xs, n, _, _, hlen, hxs, hf⟩ := DataW.trod_array h hx
  obtain ⟨x1, x2, x3, rfl⟩ : ∃ x1 x2 x3, xs = [x1, x2, x3] := by
    match xs, hxs with
    | [a, b, c], _ => exact ⟨a, b, c, rfl⟩
  have e1 := hf 0 (by omega)
  have e2 := hf 1 (by omega)
  have e3 := hf 2 (by omega)
  rw [c] at e1 e2 e3
  obtain ⟨a, k1, oa⟩ := o enc w sp held n _ _ e1
  obtain ⟨b, k2, ob⟩ := o enc w sp held n _ _ e2
  obtain ⟨z, k3, oz⟩ := o enc w sp held n _ _ e3
  refine ⟨g (a, b, z), ?_, by rw [hfg]; exact oa, by rw [hfg]; exact ob, by rw [hfg]; exact oz⟩
  show (Kd.pair d (Kd.pair d d)).K w (f (g (a, b, z))) cs
  rw [hfg]
  rw [Nat.zero_mul, List.drop_zero] at k1
  rw [Nat.one_mul] at k2
  rw [List.take_of_length_le (l := cs.drop (2 * d.sz)) (by rw [List.length_drop]; omega), Nat.two_mul] at k3
  refine ⟨cs.take d.sz, cs.drop d.sz, (List.take_append_drop _ _).symm, k1, (cs.drop d.sz).take d.sz, (cs.drop d.sz).drop d.sz, (List.take_append_drop _ _).symm, k2, ?_⟩
  rwa [List.drop_drop]
theorem opens_struct5 {α β γ δ ε ζ : Type} {d1 : Kd α} {d2 : Kd β} {d3 : Kd γ} {d4 : Kd δ} {d5 : Kd ε} {O1 : α → Prop} {O2 : β → Prop} {O3 : γ → Prop} {O4 : δ → Prop} {O5 : ε → Prop} {f1 f2 f3 f4 f5 : Field} (f : ζ → α × β × γ × δ × ε) (g : α × β × γ × δ × ε → ζ) (hfg : ∀ x, f (g x) = x) (h : P.underlying t = some (.struct #[f1, f2, f3, f4, f5]))
    (h1 : f1.offset = 0) (h2 : f2.offset = d1.sz) (h3 : f3.offset = d1.sz + d2.sz) (h4 : f4.offset = d1.sz + d2.sz + d3.sz) (h5 : f5.offset = d1.sz + d2.sz + d3.sz + d4.sz) (c1 : P.cellsOf f1.type = d1.sz) (c2 : P.cellsOf f2.type = d2.sz) (c3 : P.cellsOf f3.type = d3.sz) (c4 : P.cellsOf f4.type = d4.sz) (c5 : P.cellsOf f5.type = d5.sz)
    (ct : P.cellsOf t = d1.sz + d2.sz + d3.sz + d4.sz + d5.sz) (o1 : Opens P f1.type d1 O1) (o2 : Opens P f2.type d2 O2) (o3 : Opens P f3.type d3 O3) (o4 : Opens P f4.type d4 O4) (o5 : Opens P f5.type d5 O5) :
    Opens P t (Kd.iso (Kd.pair d1 (Kd.pair d2 (Kd.pair d3 (Kd.pair d4 d5)))) f) (fun x => O1 (f x).1 ∧ O2 (f x).2.1 ∧ O3 (f x).2.2.1 ∧ O4 (f x).2.2.2.1 ∧ O5 (f x).2.2.2.2) := by
  intro H enc w sp held fuel cs x hx
  obtain ⟨xs, n, _, _, hlen, hxs, hf⟩ := DataW.trod_struct h hx
  have hl2 : xs.length = 5 := by simpa using hxs
  obtain ⟨x1, x2, x3, x4, x5, rfl⟩ : ∃ x1 x2 x3 x4 x5, xs = [x1, x2, x3, x4, x5] := by
    match xs, hl2 with
    | [a, b, c, d, e], _ => exact ⟨a, b, c, d, e, rfl⟩
  have e1 := hf 0 f1 rfl
  have e2 := hf 1 f2 rfl
  have e3 := hf 2 f3 rfl
  have e4 := hf 3 f4 rfl
  have e5 := hf 4 f5 rfl
  rw [h1, c1] at e1
  rw [h2, c2] at e2
  rw [h3, c3] at e3
  rw [h4, c4] at e4
  rw [h5, c5] at e5
  obtain ⟨a, k1, oa⟩ := o1 enc w sp held n _ _ e1
  obtain ⟨b, k2, ob⟩ := o2 enc w sp held n _ _ e2
  obtain ⟨c, k3, oc⟩ := o3 enc w sp held n _ _ e3
  obtain ⟨d, k4, od⟩ := o4 enc w sp held n _ _ e4
  obtain ⟨e, k5, oe⟩ := o5 enc w sp held n _ _ e5
  refine ⟨g (a, b, c, d, e), ?_, by rw [hfg]; exact oa, by rw [hfg]; exact ob, by rw [hfg]; exact oc, by rw [hfg]; exact od, by rw [hfg]; exact oe⟩
  show (Kd.pair d1 (Kd.pair d2 (Kd.pair d3 (Kd.pair d4 d5)))).K w (f (g (a, b, c, d, e))) cs
  rw [hfg]
  rw [List.take_of_length_le (l := cs.drop (d1.sz + d2.sz + d3.sz + d4.sz)) (by rw [List.length_drop]; omega)] at k5
  refine ⟨cs.take d1.sz, cs.drop d1.sz, (List.take_append_drop _ _).symm, by simpa using k1, (cs.drop d1.sz).take d2.sz, (cs.drop d1.sz).drop d2.sz, (List.take_append_drop _ _).symm, k2, ((cs.drop d1.sz).drop d2.sz).take d3.sz, ((cs.drop d1.sz).drop d2.sz).drop d3.sz, (List.take_append_drop _ _).symm, ?_, (((cs.drop d1.sz).drop d2.sz).drop d3.sz).take d4.sz, (((cs.drop d1.sz).drop d2.sz).drop d3.sz).drop d4.sz, (List.take_append_drop _ _).symm, ?_, ?_⟩
  · simpa only [List.drop_drop, Nat.add_assoc] using k3
  · simpa only [List.drop_drop, Nat.add_assoc] using k4
  · simpa only [List.drop_drop, Nat.add_assoc] using k5
/-- An array of numbers that comes in: any length. -/
theorem arg_nums {k : IntKind} {n : Nat} {H : Type} {enc : TypeId × Value → H} {w : World} {sp : Nat → Bool} {held : Bool} {v : Value} {x : DataW H} {p : List MemPlace} (h : P.underlying t = some (.array n e)) (he : P.underlying e = some (.int k)) (c : P.cellsOf e = 1) (ct : P.cellsOf t = n)
    (ht : DataW.Trod enc P w 0 sp held t v x p) : ∃ l : List Int, l.length = n ∧ v.cells.toList = l.map (Value.int k) ∧ ∀ a ∈ l, (Lit.int k a).wf = true := by
  obtain ⟨fuel, hx⟩ := ht
  obtain ⟨xs, m, _, _, hlen, hxs, hf⟩ := DataW.trod_array h hx
  have hlen2 : v.cells.toList.length = n := by omega
  obtain ⟨l, hl, hp⟩ := list_of n (fun i (a : Int) => (Lit.int k a).wf = true ∧ v.cells.toList[i]? = some (.int k a)) (fun i hi => by
    have hi2 : i < xs.length := by omega
    have e1 := (hf i hi).trans (List.getElem?_eq_getElem hi2)
    obtain ⟨a, e2, e3⟩ := opens_int he enc w sp held m _ _ e1
    refine ⟨a, e3, ?_⟩
    have e4 := congrArg (fun z => z[0]?) e2
    rw [c, Nat.mul_one] at e4
    simpa [List.getElem?_take, List.getElem?_drop] using e4)
  refine ⟨l, hl, ?_, fun a ha => ?_⟩
  · apply List.ext_getElem?
    intro i
    rw [List.getElem?_map]
    rcases Nat.lt_or_ge i l.length with hi | hi
    · rw [List.getElem?_eq_getElem hi, (hp i _ (List.getElem?_eq_getElem hi)).2]
      rfl
    · rw [List.getElem?_eq_none hi, List.getElem?_eq_none (by omega)]
      rfl
  · obtain ⟨i, hi, rfl⟩ := List.getElem_of_mem ha
    exact (hp i _ (List.getElem?_eq_getElem hi)).1
end Go.Proofs.YtkdfohmceokchaaOpen
