/- What the walks of an intake want from the machine: a region whose first step is a select of one case with a default, and maps whose keys are numbers of 16 bits. -/
import Derived.Conc.LoneSelect
import Derived.Conc.LoneSelectN
import Derived.MapKept

namespace Go.Proofs.Ytjigeblechiffaa
open Go Go.Conc

section
variable {P : Program} {b : Frame} {a : Act} {k : List Item} {cs : List Frame} {w w' : World}

theorem stepG_comm0 {ops : Array Oper} {i : Nat} {rest : List Nat} {o : Oper} {cases : Array CommCase} {blocking : Bool} {shape : CommShape} {w' : World} (ho : ops[i]? = some o) (hw : Region.wanted o (yielded ops a.tmps) = true)
    (hr : (execOp a.eval o).run P w = .ok (.comm cases blocking shape) w') :
    ∃ es, stepG P true (G (b.at a (.inRegion ops (i :: rest) :: k)) cs) w = .comm (G (b.at a (.inRegion ops (i :: rest) :: k)) cs) cases blocking shape w' es := by
  by_cases hk : b.kind = .early
  · refine ⟨seen P b.fn #[], ?_⟩
    rw [stepG_oper ho hw]
    simp [stepG.apply, hr, G, Frame.at, hk, GStep.after]
  · exact ⟨_, stepG_comm ho hw hk hr⟩

theorem finish0 (ops : Array Oper) (i : Nat) (rest : List Nat) (v : Value) (o : Oper) (ho : ops[i]? = some o) :
    (b.at a (.inRegion ops (i :: rest) :: k)).finish v = b.at (a.put o.dst v) (.inRegion ops rest :: k) := by rw [Frame.finish_at, ho]; rfl

/-- A region whose first step is a select of one case: what the machine answers is handed on. -/
theorem wp_sel {id : Nat} {ops : Array Oper} {rest : List Nat} {o : Oper} {cases : Array CommCase} {v : Value} {Q : Exit → Act → World → Prop}
    (hl : List.range ops.size = 0 :: rest) (ho : ops[0]? = some o) (hw : Region.wanted o (yielded ops a.tmps) = true) (hr : (execOp a.eval o).run P w = .ok (.comm cases false .select) w)
    (hs : ∀ (fr : Frame) (cs : List Frame) (es : Array Event), stepG P true (G fr cs) w = .comm (G fr cs) cases false .select w es → step P (solo (G fr cs) w) = .next (solo (G (fr.finish v) cs) w'))
    (h : wpOps P ops Q rest (a.put o.dst v) w') : (Code.region id ops false).wp P Q a w := by
  intro b k cs
  obtain ⟨e, a', w'', q, r⟩ := wp_ops _ _ _ h b k cs
  obtain ⟨es, he⟩ := stepG_comm0 (b := b) (k := k) (cs := cs) (rest := rest) ho hw hr
  have := hs _ cs es he
  rw [finish0 ops 0 rest v o ho] at this
  refine ⟨e, a', w'', q, .of_steps (.head step_region (.head ?_ (.refl _ _))) r⟩
  rw [hl]
  exact this
end

/-! ### maps whose keys are numbers of 16 bits -/
/-- The map's entries: numbers and values, in the order in which they stand. -/
def Ent (es : Array MapEntry) (M : List (Int × Value)) : Prop := es.toList.map (fun e => (e.key, e.val)) = M.map (fun p => (Value.int .u16 p.1, p.2))

/-- The map without the first entry of this number. -/
def cut {α : Type} (x : Int) : List (Int × α) → List (Int × α)
  | [] => []
  | p :: l => if x = p.1 then l else p :: cut x l

/-- What stands at this number. -/
def at_ {α : Type} (x : Int) : List (Int × α) → Option α
  | [] => none
  | p :: l => if x = p.1 then some p.2 else at_ x l

theorem find_u16 (x : Int) : ∀ (es : List MapEntry) (M : List (Int × Value)) (i : Nat), es.map (fun e => (e.key, e.val)) = M.map (fun p => (Value.int .u16 p.1, p.2)) →
    (at_ x M = none ∧ Instr.findNow (.int .u16) (.int .u16 x) es i = some none) ∨ ∃ (j : Nat) (v : Value), at_ x M = some v ∧ j < es.length ∧ Instr.findNow (.int .u16) (.int .u16 x) es i = some (some (i + j, v)) ∧ (es.eraseIdx j).map (fun e => (e.key, e.val)) = (cut x M).map (fun p => (Value.int .u16 p.1, p.2))
  | [], [], i, _ => .inl ⟨rfl, rfl⟩
  | [], _ :: _, _, h => by simp at h
  | _ :: _, [], _, h => by simp at h
  | e :: es, (k, v) :: M, i, h => by
    simp only [List.map_cons, List.cons.injEq, Prod.mk.injEq] at h
    obtain ⟨⟨h1, h2⟩, h3⟩ := h
    by_cases hx : x = k
    · subst hx
      refine .inr ⟨0, v, by simp [at_], by simp, ?_, ?_⟩
      · simp [Instr.findNow, Instr.sameNow, h1, h2]
      · simp [cut, h3]
    · have hb : (x == k) = false := by simpa using hx
      rcases find_u16 x es M (i + 1) h3 with ⟨a, b⟩ | ⟨j, w, a, b, c, d⟩
      · refine .inl ⟨by simp [at_, hx, a], ?_⟩
        simp only [Instr.findNow, Instr.sameNow, h1, if_true, hb, b]
      · refine .inr ⟨j + 1, w, by simp [at_, hx, a], by simp; omega, ?_, ?_⟩
        · simp only [Instr.findNow, Instr.sameNow, h1]
          simp only [if_true, hb, c, Nat.add_assoc, Nat.add_comm 1 j]
        · simp [cut, hx, d, h1, h2]

section
variable {P : Program} {w : World} {t k e : TypeId} {m clock : Nat} {es : Array MapEntry} {M : List (Int × Value)} {x : Int}
theorem check_u16 (hk : P.underlying k = some (.int .u16)) (em : Bool) : (Instr.checkKey em 10000 k (.int .u16 x)).run P w = .ok () w := by
  rw [show (10000 : Nat) = 9999 + 1 from rfl, Instr.checkKey]
  simp [run_underlying hk]

theorem findKey_u16 (hk : P.underlying k = some (.int .u16)) (hE : Ent es M) :
    (at_ x M = none ∧ (Instr.findKey k (.int .u16 x) es.toList).run P w = .ok none w) ∨ ∃ (j : Nat) (v : Value), at_ x M = some v ∧ j < es.size ∧ (Instr.findKey k (.int .u16 x) es.toList).run P w = .ok (some (j, v)) w ∧ Ent (es.eraseIdxIfInBounds j) (cut x M) := by
  rcases find_u16 x es.toList M 0 hE with ⟨a, b⟩ | ⟨j, v, a, b, c, d⟩
  · exact .inl ⟨a, by simp [Instr.findKey, run_underlying hk, b]⟩
  · refine .inr ⟨j, v, a, by simpa using b, by simp [Instr.findKey, run_underlying hk, c], ?_⟩
    have hj : j < es.size := by simpa using b
    simp only [Ent, Array.eraseIdxIfInBounds, hj, dif_pos, Array.toList_eraseIdx]
    exact d

theorem run_lookup_u16 (ht : P.underlying t = some (.map k e)) (hk : P.underlying k = some (.int .u16)) {z : Value} (hz : (zeroValue e).run P w = .ok z w) (hb : w.heap[m]? = some (.map es clock)) (hE : Ent es M) :
    (Instr.lookup t (.map (some m)) (.int .u16 x) true).run P w = .ok (.tuple #[(at_ x M).getD z, .bool (at_ x M).isSome]) w := by
  rcases findKey_u16 (P := P) (w := w) (x := x) hk hE with ⟨a, b⟩ | ⟨j, v, a, _, b, _⟩
  · simp [Instr.lookup, run_underlying ht, MapKept.run_getObj_map hb, check_u16 hk, b, hz, a]
  · simp [Instr.lookup, run_underlying ht, MapKept.run_getObj_map hb, check_u16 hk, b, a]

theorem run_mapUpdate_u16 (ht : P.underlying t = some (.map k e)) (hk : P.underlying k = some (.int .u16)) (hb : w.heap[m]? = some (.map es clock)) (hE : Ent es M) (hn : at_ x M = none) (v : Value) :
    (Instr.mapUpdate t (.map (some m)) (.int .u16 x) v).run P w = .ok () { w with heap := w.heap.setIfInBounds m (.map (es.push { key := .int .u16 x, val := v, born := clock }) (clock + 1)) } := by
  rcases findKey_u16 (P := P) (w := w) (x := x) hk hE with ⟨a, b⟩ | ⟨j, v, a, _, b, _⟩
  · simp [Instr.mapUpdate, run_underlying ht, MapKept.run_getObj_map hb, check_u16 hk, b, MapKept.run_setObj_map _ hb]
  · rw [hn] at a; cases a

theorem Ent.push (hE : Ent es M) (v : Value) (n : Nat) : Ent (es.push { key := .int .u16 x, val := v, born := n }) (M ++ [(x, v)]) := by
  simp only [Ent, Array.toList_push, List.map_append, List.map_cons, List.map_nil] at hE ⊢
  rw [hE]

theorem run_delete_u16 {ty : TypeId} (ht : P.underlying t = some (.map k e)) (hk : P.underlying k = some (.int .u16)) (hb : w.heap[m]? = some (.map es clock)) (hE : Ent es M) :
    ∃ es', Ent es' (cut x M) ∧ es'.toList.Sublist es.toList ∧ (Builtin.delete_ #[t, k] ty #[.map (some m), .int .u16 x]).run P w = .ok (.tuple #[]) { w with heap := w.heap.setIfInBounds m (.map es' clock) } := by
  rcases findKey_u16 (P := P) (w := w) (x := x) hk hE with ⟨a, b⟩ | ⟨j, v, a, hj, b, d⟩
  · refine ⟨es, ?_, List.Sublist.refl _, by simp [Builtin.delete_, run_underlying ht, MapKept.run_getObj_map hb, check_u16 hk, b, MapKept.run_setObj_map _ hb]⟩
    have : ∀ M : List (Int × Value), at_ x M = none → cut x M = M := by
      intro M
      induction M with
      | nil => intro; rfl
      | cons p M ih =>
        intro h
        by_cases hx : x = p.1
        · simp [at_, hx] at h
        · simp only [at_, hx, if_false] at h
          simp [cut, hx, ih h]
    rw [this M a]; exact hE
  · refine ⟨_, d, ?_, by simp [Builtin.delete_, run_underlying ht, MapKept.run_getObj_map hb, check_u16 hk, b, MapKept.run_setObj_map _ hb]⟩
    simp only [Array.eraseIdxIfInBounds, hj, dif_pos, Array.toList_eraseIdx]
    exact List.eraseIdx_sublist _ _
end
end Go.Proofs.Ytjigeblechiffaa
