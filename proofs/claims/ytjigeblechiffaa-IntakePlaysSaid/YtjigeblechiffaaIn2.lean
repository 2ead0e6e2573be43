/- An intake in memory, and its small functions: New, Ready, Next, Get. -/
import Derived.Test.YtjigeblechiffaaIn1
import Derived.Test.YtjigeblechiffaaBase
import Derived.MapKept
namespace Go.Proofs.Ytjigeblechiffaa.PIntake
open Go.RowKit Go.Proofs.YtjigeblechiffaaW.PrintWords Go.Proofs.YtjigeblechiffaaW.PrintLast Go.Proofs.YtjigeblechiffaaW.PrintMore
attribute [local go_sem] max2_int min2_int max_two min_two max_three min_three max_four min_four   -- for this text's walks alone
set_option linter.unusedVariables false
set_option linter.unusedSimpArgs false

/-- A piece: its bytes, and the block where they lie (none: the nil slice). -/
abbrev P := List Int × Option Nat
/-- An intake, by what it holds. -/
structure St where
  window : Int
  next : Int
  came : List (Int × P)
  queue : List P

def Rel2 {α β : Type} (R : α → β → Prop) : List α → List β → Prop
  | [], [] => True
  | a :: l, b :: m => R a b ∧ Rel2 R l m
  | _, _ => False
theorem Rel2.mono {α β : Type} {R S : α → β → Prop} (h : ∀ a b, R a b → S a b) : ∀ {l : List α} {m : List β}, Rel2 R l m → Rel2 S l m
  | [], [], _ => trivial
  | _ :: _, _ :: _, ⟨p, q⟩ => ⟨h _ _ p, Rel2.mono h q⟩
  | [], _ :: _, x => x.elim
  | _ :: _, [], x => x.elim
theorem Rel2.len {α β : Type} {R : α → β → Prop} : ∀ {l : List α} {m : List β}, Rel2 R l m → l.length = m.length
  | [], [], _ => rfl
  | _ :: _, _ :: _, ⟨_, q⟩ => by simp [Rel2.len q]
  | [], _ :: _, x => x.elim
  | _ :: _, [], x => x.elim
theorem Rel2.snoc {α β : Type} {R : α → β → Prop} {a : α} {b : β} (h : R a b) : ∀ {l : List α} {m : List β}, Rel2 R l m → Rel2 R (l ++ [a]) (m ++ [b])
  | [], [], _ => ⟨h, trivial⟩
  | _ :: _, _ :: _, ⟨p, q⟩ => ⟨p, Rel2.snoc h q⟩
  | [], _ :: _, x => x.elim
  | _ :: _, [], x => x.elim

abbrev kb : Kd Int := Kd.int .u8
/-- A piece in memory: a row of its own behind the intake's own blocks. -/
def RV (B : Nat) (w : World) (v : Value) (p : P) : Prop := w.ownsRow (B + 3) 5 1 v p.1.length (p.1.map (Value.int .u8)) ∧ v.ownBlock = p.2
theorem RV.below {B : Nat} {w w1 : World} {v : Value} {xs : P} (h : RV B w v xs) (hb : Below w.heap.size w w1) : RV B w1 v xs := ⟨pw_own_below h.1 hb, h.2⟩
theorem RV.keepFar {B g : Nat} {w w1 : World} {v : Value} {xs : P} (h : RV B w v xs) (hk : KeepBut w w1 g none) (hg : xs.2 ≠ some g) : RV B w1 v xs :=
  ⟨hk.own h.1 (by rw [h.2]; exact hg) (by cases v.ownBlock <;> simp), h.2⟩
theorem RV.base {B : Nat} {w : World} {v : Value} {xs : P} (h : RV B w v xs) {k : Nat} (hk : xs.2 = some k) : B + 3 ≤ k ∧ k < w.heap.size :=
  ⟨own_base h.1 k (h.2.trans hk), own_lt h.1 k (h.2.trans hk)⟩
theorem RV.keep {B g : Nat} {w w1 : World} {v : Value} {xs : P} (h : RV B w v xs) (hk : KeepBut w w1 g none) (hg : g ≤ B + 2) : RV B w1 v xs :=
  h.keepFar hk (fun e => by have := (h.base e).1; omega)

/-- The map's entries as a map's stand: each born once, ahead of the clock; each key once, a number of 16 bits. -/
def Stm (es : Array MapEntry) (clock : Nat) : Prop := MapKept.Stamped es clock ∧ ∀ e ∈ es.toList, ∃ x, e.key = .int .u16 x ∧ 0 ≤ x ∧ x < 65536
theorem Stm.push {es : Array MapEntry} {clock : Nat} {M : List (Int × Value)} {x : Int} (h : Stm es clock) (hE : Ent es M) (hn : at_ x M = none) (hx : 0 ≤ x ∧ x < 65536) (v : Value) :
    Stm (es.push { key := .int .u16 x, val := v, born := clock }) (clock + 1) := by
  obtain ⟨⟨h1, h2, h3⟩, h4⟩ := h
  have hk : ∀ e ∈ es.toList, e.key ≠ .int .u16 x := fun e he hh => by
    have : (e.key, e.val) ∈ M.map (fun p => (Value.int .u16 p.1, p.2)) := by rw [← hE]; exact List.mem_map_of_mem he
    obtain ⟨p, hp, hq⟩ := List.mem_map.1 this
    have h5 : Value.int .u16 p.1 = e.key := congrArg Prod.fst hq
    rw [hh] at h5
    injection h5 with _ h5
    subst h5
    have : ∀ (M : List (Int × Value)), p ∈ M → at_ p.1 M ≠ none := by
      intro M
      induction M with
      | nil => intro h; cases h
      | cons q M ih =>
        intro h
        by_cases hq : p.1 = q.1
        · simp [at_, hq]
        · simp only [at_, hq, if_false]
          exact ih ((List.mem_cons.1 h).resolve_left (fun e => hq (by rw [e])))
    exact this M hp hn
  refine ⟨⟨?_, ?_, ?_⟩, ?_⟩
  · intro e he
    rw [Array.toList_push, List.mem_append, List.mem_singleton] at he
    rcases he with he | rfl
    · have := h1 e he; omega
    · simp
  · rw [Array.toList_push, List.map_append, List.nodup_append]
    refine ⟨h2, by simp, fun a ha b hb e => ?_⟩
    simp only [List.map_cons, List.map_nil, List.mem_singleton] at hb
    obtain ⟨q, hq, rfl⟩ := List.mem_map.1 ha
    have := h1 q hq
    omega
  · rw [Array.toList_push, List.map_append, List.nodup_append]
    refine ⟨h3, by simp, fun a ha b hb e => ?_⟩
    simp only [List.map_cons, List.map_nil, List.mem_singleton] at hb
    obtain ⟨q, hq, rfl⟩ := List.mem_map.1 ha
    exact hk q hq (e.trans hb)
  · intro e he
    rw [Array.toList_push, List.mem_append, List.mem_singleton] at he
    rcases he with he | rfl
    · exact h4 e he
    · exact ⟨x, rfl, hx⟩
theorem Stm.sub {es es' : Array MapEntry} {clock : Nat} (h : Stm es clock) (hs : es'.toList.Sublist es.toList) : Stm es' clock :=
  ⟨⟨fun e he => h.1.1 e (hs.subset he), h.1.2.1.sublist (hs.map _), h.1.2.2.sublist (hs.map _)⟩, fun e he => h.2 e (hs.subset he)⟩

/-- The intake whose map stands at B, whose channel at B + 1, whose struct at B + 2. -/
structure IV (w0 : World) (B : Nat) (w : World) (s : St) : Prop where
  lo : w0.heap.size ≤ B
  below : Below w0.heap.size w0 w
  win : 1 ≤ s.window ∧ s.window ≤ 64
  nxt : 0 ≤ s.next ∧ s.next < 65536
  str : w.heap[B + 2]? = some (.cells #[.int .i64 s.window, .int .u16 s.next, .map (some B), .chan (some (B + 1))] 58 (0, 0))
  stm : ∀ es clock, w.heap[B]? = some (.map es clock) → Stm es clock
  mp : ∃ es clock vs, w.heap[B]? = some (.map es clock) ∧ Ent es vs ∧ Rel2 (fun p q => p.1 = q.1 ∧ RV B w p.2 q.2) vs s.came
  ch : ∃ buf snt rcv, w.heap[B + 1]? = some (.chan (2 * s.window).toNat buf false snt rcv false) ∧ Rel2 (RV B w) buf.toList s.queue
  full : (s.queue.length : Int) ≤ 2 * s.window

/-- What the intake's blocks leave as it is. -/
def Kp (B : Nat) (w w' : World) : Prop := w.heap.size ≤ w'.heap.size ∧ ∀ k, k < w.heap.size → k < B ∨ B + 2 < k → w'.heap[k]? = w.heap[k]?
theorem Kp.refl (B : Nat) (w : World) : Kp B w w := ⟨Nat.le_refl _, fun _ _ _ => rfl⟩
theorem Kp.trans {B : Nat} {w w1 w2 : World} (h : Kp B w w1) (k : Kp B w1 w2) : Kp B w w2 :=
  ⟨Nat.le_trans h.1 k.1, fun i hi hb => (k.2 i (Nat.lt_of_lt_of_le hi h.1) hb).trans (h.2 i hi hb)⟩
theorem Kp.below {B : Nat} {w w1 : World} (h : Below w.heap.size w w1) : Kp B w w1 := ⟨h.size, fun k hk _ => h.block k hk⟩
theorem Kp.keep {B g : Nat} {w w1 : World} (h : KeepBut w w1 g none) (hg : B ≤ g ∧ g ≤ B + 2) : Kp B w w1 := ⟨h.1, fun k hk hb => h.2 k hk (by omega) (by simp)⟩
variable {w0 w w1 : World} {B : Nat} {s : St}
theorem IV.grow (h : IV w0 B w s) (hb : Below w.heap.size w w1) : IV w0 B w1 s where
  lo := h.lo
  below := below_then h.below h.below.size hb
  win := h.win
  nxt := h.nxt
  str := blk_below h.str hb
  stm := fun es cl he => by
    obtain ⟨es', cl', _, a, _⟩ := h.mp
    have := (blk_below a hb).symm.trans he
    exact h.stm es cl (a.trans this)
  mp := let ⟨es, cl, vs, a, b, c⟩ := h.mp; ⟨es, cl, vs, blk_below a hb, b, c.mono fun _ _ ⟨p, q⟩ => ⟨p, q.below hb⟩⟩
  ch := let ⟨b, s, r, a, c⟩ := h.ch; ⟨b, s, r, blk_below a hb, c.mono fun _ _ q => q.below hb⟩
  full := h.full
theorem IV.stm_same (h : IV w0 B w s) (he : ∀ o, w.heap[B]? = some o → w1.heap[B]? = some o) : ∀ es cl, w1.heap[B]? = some (.map es cl) → Stm es cl := by
  obtain ⟨es', cl', _, a, _⟩ := h.mp
  intro es cl hh
  rw [he _ a] at hh
  cases hh
  exact h.stm _ _ a
theorem IV.drewN (h : IV w0 B w s) (n : Nat) : IV w0 B (w.drewN n) s := h.grow (pw_below_drewN (Below.refl _ _) n)
theorem IV.drew (h : IV w0 B w s) : IV w0 B w.drew s := h.grow (below_drew (Below.refl _ _))
theorem IV.alloc (h : IV w0 B w s) (o : Obj) : IV w0 B (w.alloc o) s := h.grow (below_alloc (Below.refl _ _) o)
theorem IV.len (h : IV w0 B w s) (n : Nat) : (Builtin.len_ #[56] 3 #[.chan (some (B + 1))]).run Try.prog (w.drewN n) = .ok (.int .i64 (s.queue.length : Int)) (w.drewN n) := by
  obtain ⟨b, x, r, a, c⟩ := h.ch
  have := Go.Conc.run_len_chan (P := Try.prog) (w := w.drewN n) 56 3 Try.underlying56 (blk_drewN a n)
  rw [this]
  have hl := c.len
  rw [Array.length_toList] at hl
  rw [← hl]
  rfl
theorem IV.cell0 (h : IV w0 B w s) : w.cell? ⟨B + 2, 0, none⟩ = some (.int .i64 s.window) := (blk_cell h.str 0).trans rfl
theorem IV.cell1 (h : IV w0 B w s) : w.cell? ⟨B + 2, 1, none⟩ = some (.int .u16 s.next) := (blk_cell h.str 1).trans rfl
theorem IV.cell2 (h : IV w0 B w s) : w.cell? ⟨B + 2, 2, none⟩ = some (.map (some B)) := (blk_cell h.str 2).trans rfl
theorem IV.cell3 (h : IV w0 B w s) : w.cell? ⟨B + 2, 3, none⟩ = some (.chan (some (B + 1))) := (blk_cell h.str 3).trans rfl

set_option maxHeartbeats 4000000 in
set_option maxRecDepth 100000 in
theorem Ready_calls (h : IV w0 B w s) : Calls Try.prog 13 #[.pointer (some ⟨B + 2, 0, none⟩)] w fun e w' => e = .returned (.int .i64 (s.queue.length : Int)) ∧ w' = w := by
  have h3 := h.cell3
  have hl : (Builtin.len_ #[56] 3 #[.chan (some (B + 1))]).run Try.prog w = .ok (.int .i64 (s.queue.length : Int)) w := h.len 0
  clear h
  go_enter Try.func13, Try.ntmps13
  go_wp2
  go_ret
  exact ⟨rfl, rfl⟩

set_option maxHeartbeats 4000000 in
set_option maxRecDepth 100000 in
theorem Next_calls (h : IV w0 B w s) : Calls Try.prog 14 #[.pointer (some ⟨B + 2, 0, none⟩)] w fun e w' => e = .returned (.int .u16 s.next) ∧ w' = w := by
  have h1 := h.cell1
  clear h
  go_enter Try.func14, Try.ntmps14
  go_wp2
  go_ret
  exact ⟨rfl, rfl⟩

/-- What Get gives, and what is left. -/
def getF (s : St) : Option P × St := match s.queue with | [] => (none, s) | r :: q => (some r, { s with queue := q })
theorem below_chan {w0 w : World} {B : Nat} (h : Below w0.heap.size w0 w) (hB : w0.heap.size ≤ B) (cap : Nat) (buf : Array Value) (cl : Bool) (s r : Nat) (tm : Bool) : Below w0.heap.size w0 (w.setChan B cap buf cl s r tm) := Go.Conc.below_setChan h hB cap buf cl s r tm
theorem keep_obj (w : World) (g : Nat) (o : Obj) : KeepBut w { w with heap := w.heap.setIfInBounds g o } g none := by
  refine ⟨by simp, fun i hi hg _ => ?_⟩
  simp only
  rw [Array.getElem?_setIfInBounds_ne (Ne.symm hg)]
theorem obj_self {w : World} {g : Nat} {o' : Obj} (hb : w.heap[g]? = some o') (o : Obj) : ({ w with heap := w.heap.setIfInBounds g o } : World).heap[g]? = some o := by
  have := (Array.getElem?_eq_some_iff.1 hb).1
  simp [this]
theorem obj_far {w : World} {g k : Nat} {o' : Obj} (hb : w.heap[k]? = some o') (o : Obj) (hk : k ≠ g) : ({ w with heap := w.heap.setIfInBounds g o } : World).heap[k]? = some o' := by
  simp only
  rw [Array.getElem?_setIfInBounds_ne (Ne.symm hk)]; exact hb

theorem IV.pop (h : IV w0 B w s) {r : P} {q : List P} (hq : s.queue = r :: q) :
    ∃ buf snt rcv v, w.heap[B + 1]? = some (.chan (2 * s.window).toNat buf false snt rcv false) ∧ 0 < buf.size ∧ buf.getD 0 undef = v ∧ RV B w v r ∧
      IV w0 B (w.setChan (B + 1) (2 * s.window).toNat (buf.extract 1 buf.size) false snt (rcv + 1) false) { s with queue := q } ∧ RV B (w.setChan (B + 1) (2 * s.window).toNat (buf.extract 1 buf.size) false snt (rcv + 1) false) v r ∧ Kp B w (w.setChan (B + 1) (2 * s.window).toNat (buf.extract 1 buf.size) false snt (rcv + 1) false) := by
  obtain ⟨⟨buf⟩, snt, rcv, hc, hr⟩ := h.ch
  cases buf with
  | nil => rw [hq] at hr; exact hr.elim
  | cons v buf =>
    rw [hq] at hr
    obtain ⟨hv, hr⟩ := hr
    have hk := keep_obj w (B + 1) (.chan (2 * s.window).toNat (((v :: buf).toArray).extract 1 (v :: buf).toArray.size) false snt (rcv + 1) false)
    refine ⟨_, snt, rcv, v, hc, by simp, rfl, hv, ⟨h.lo, below_chan h.below (by have := h.lo; omega) _ _ _ _ _ _, h.win, h.nxt, obj_far h.str _ (by omega), h.stm_same (fun o ho => obj_far ho _ (by omega)), ?_, ?_, ?_⟩, hv.keep hk (by omega), Kp.keep hk (by omega)⟩
    · obtain ⟨es, cl, vs, a, b, c⟩ := h.mp
      exact ⟨es, cl, vs, obj_far a _ (by omega), b, c.mono fun _ _ ⟨p, q⟩ => ⟨p, q.keep hk (by omega)⟩⟩
    · exact ⟨_, snt, rcv + 1, obj_self hc _, by have := Rel2.mono (fun _ _ q => RV.keep q hk (by omega)) hr; simpa [World.setChan] using this⟩
    · have := h.full
      rw [hq] at this
      simp only [List.length_cons] at this ⊢
      omega


/-! ### what stands in memory, and what it says: the map's entries -/
section
variable {R : Value → P → Prop} {x : Int}
def Ev (R : Value → P → Prop) (p : Int × Value) (q : Int × P) : Prop := p.1 = q.1 ∧ R p.2 q.2
theorem rel_at : ∀ {vs : List (Int × Value)} {cs : List (Int × P)}, Rel2 (fun p q => p.1 = q.1 ∧ R p.2 q.2) vs cs → (at_ x vs = none ∧ at_ x cs = none) ∨ ∃ v r, at_ x vs = some v ∧ at_ x cs = some r ∧ R v r
  | [], [], _ => .inl ⟨rfl, rfl⟩
  | [], _ :: _, h => h.elim
  | _ :: _, [], h => h.elim
  | (k, v) :: vs, (k', r) :: cs, ⟨⟨h1, h2⟩, h3⟩ => by
    have h1 : k = k' := h1
    subst h1
    by_cases hx : x = k
    · exact .inr ⟨v, r, by simp [at_, hx], by simp [at_, hx], h2⟩
    · simpa [at_, hx] using rel_at h3
theorem rel_cut : ∀ {vs : List (Int × Value)} {cs : List (Int × P)}, Rel2 (fun p q => p.1 = q.1 ∧ R p.2 q.2) vs cs → Rel2 (fun p q => p.1 = q.1 ∧ R p.2 q.2) (cut x vs) (cut x cs)
  | [], [], _ => trivial
  | [], _ :: _, h => h.elim
  | _ :: _, [], h => h.elim
  | (k, v) :: vs, (k', r) :: cs, ⟨⟨h1, h2⟩, h3⟩ => by
    have h1 : k = k' := h1
    subst h1
    by_cases hx : x = k
    · simpa [cut, hx] using h3
    · simpa [cut, hx] using ⟨⟨rfl, h2⟩, rel_cut h3⟩
end
theorem cut_len {α : Type} {x : Int} : ∀ {l : List (Int × α)} {r : α}, at_ x l = some r → (cut x l).length + 1 = l.length
  | [], _, h => by cases h
  | (k, v) :: l, r, h => by
    by_cases hx : x = k
    · simp [cut, hx]
    · simp only [at_, hx, if_false] at h
      simp [cut, hx, cut_len h]

theorem zero31 (w : World) : (zeroValue 31).run Try.prog w = .ok (.slice none 0 0) w := by
  have h : (Try.prog.info? 31).map (·.zero) = some (some (.slice none 0 0)) := by kernel_rfl
  obtain ⟨i, hi, hz⟩ := Option.map_eq_some_iff.1 h
  simp [zeroValue, typeInfo, hi, hz]

/-- What the map says at a number. -/
theorem IV.look (h : IV w0 B w s) (x : Int) : ∃ v, (∀ n, (Instr.lookup 55 (.map (some B)) (.int .u16 x) true).run Try.prog (w.drewN n) = .ok (.tuple #[v, .bool (at_ x s.came).isSome]) (w.drewN n)) ∧ ∀ r, at_ x s.came = some r → RV B w v r := by
  obtain ⟨es, cl, vs, a, b, c⟩ := h.mp
  have hl := fun n => run_lookup_u16 (P := Try.prog) (x := x) Try.underlying55 Try.underlying22 (zero31 (w.drewN n)) (blk_drewN a n) b
  rcases rel_at (x := x) c with ⟨h1, h2⟩ | ⟨v, r, h1, h2, h3⟩
  · refine ⟨.slice none 0 0, fun n => ?_, fun r hr => by rw [h2] at hr; cases hr⟩
    rw [hl n, h1, h2]; rfl
  · refine ⟨v, fun n => ?_, fun r' hr => by rw [h2] at hr; cases hr; exact h3⟩
    rw [hl n, h1, h2]; rfl

/-- A piece is put into the map. -/
theorem IV.put (h : IV w0 B w s) {x : Int} (hx16 : 0 ≤ x ∧ x < 65536) (hx : at_ x s.came = none) {v : Value} {d : P} (hv : RV B w v d) :
    ∃ w1, (Instr.mapUpdate 55 (.map (some B)) (.int .u16 x) v).run Try.prog w = .ok () w1 ∧ IV w0 B w1 { s with came := s.came ++ [(x, d)] } ∧ Kp B w w1 := by
  obtain ⟨es, cl, vs, a, b, c⟩ := h.mp
  have hn : at_ x vs = none := by
    rcases rel_at (x := x) c with ⟨h1, _⟩ | ⟨_, _, _, h2, _⟩
    · exact h1
    · rw [hx] at h2; cases h2
  have hk := fun o => keep_obj w B o
  refine ⟨_, run_mapUpdate_u16 Try.underlying55 Try.underlying22 a b hn v, ⟨h.lo, ?_, h.win, h.nxt, obj_far h.str _ (by omega), (fun es' cl' he => by have e2 := (obj_self a _).symm.trans he; cases e2; exact (h.stm _ _ a).push b hn hx16 v), ⟨_, _, _, obj_self a _, b.push v cl, Rel2.snoc ⟨rfl, hv.keep (hk _) (by omega)⟩ (c.mono fun _ _ ⟨p, q⟩ => ⟨p, q.keep (hk _) (by omega)⟩)⟩, ?_, h.full⟩, Kp.keep (hk _) (by omega)⟩
  · refine h.below.trans ⟨rfl, rfl, rfl, by simp, fun k hk' => ?_⟩
    simp only
    rw [Array.getElem?_setIfInBounds_ne (by have := h.lo; omega)]
  · obtain ⟨bf, sn, rc, e, f⟩ := h.ch
    exact ⟨bf, sn, rc, obj_far e _ (by omega), f.mono fun _ _ q => q.keep (hk _) (by omega)⟩

/-- A piece is sent. -/
theorem IV.send (h : IV w0 B w s) {v : Value} {r : P} (hv : RV B w v r) (hf : (s.queue.length : Int) < 2 * s.window) :
    ∃ buf snt rcv, w.heap[B + 1]? = some (.chan (2 * s.window).toNat buf false snt rcv false) ∧ buf.size < (2 * s.window).toNat ∧
      IV w0 B (w.setChan (B + 1) (2 * s.window).toNat (buf.push v) false (snt + 1) rcv false) { s with queue := s.queue ++ [r] } ∧ Kp B w (w.setChan (B + 1) (2 * s.window).toNat (buf.push v) false (snt + 1) rcv false) := by
  obtain ⟨buf, snt, rcv, hc, hr⟩ := h.ch
  have hk := keep_obj w (B + 1) (.chan (2 * s.window).toNat (buf.push v) false (snt + 1) rcv false)
  have hl := hr.len
  rw [Array.length_toList] at hl
  refine ⟨buf, snt, rcv, hc, by omega, ⟨h.lo, below_chan h.below (by have := h.lo; omega) _ _ _ _ _ _, h.win, h.nxt, obj_far h.str _ (by omega), h.stm_same (fun o ho => obj_far ho _ (by omega)), ?_, ?_, by simp; omega⟩, Kp.keep hk (by omega)⟩
  · obtain ⟨es, cl, vs, a, b, c⟩ := h.mp
    exact ⟨es, cl, vs, obj_far a _ (by omega), b, c.mono fun _ _ ⟨p, q⟩ => ⟨p, q.keep hk (by omega)⟩⟩
  · refine ⟨_, snt + 1, rcv, obj_self hc _, ?_⟩
    rw [Array.toList_push]
    exact Rel2.snoc (hv.keep hk (by omega)) (hr.mono fun _ _ q => q.keep hk (by omega))

/-- A piece is taken out of the map. -/
theorem IV.del (h : IV w0 B w s) (x : Int) :
    ∃ w1, (Builtin.delete_ #[55, 22] 0 #[.map (some B), .int .u16 x]).run Try.prog w = .ok (.tuple #[]) w1 ∧ IV w0 B w1 { s with came := cut x s.came } ∧ Kp B w w1 := by
  obtain ⟨es, cl, vs, a, b, c⟩ := h.mp
  obtain ⟨es', hE, hsub, hrun⟩ := run_delete_u16 (P := Try.prog) (ty := 0) (x := x) Try.underlying55 Try.underlying22 a b
  have hk := fun o => keep_obj w B o
  refine ⟨_, hrun, ⟨h.lo, ?_, h.win, h.nxt, obj_far h.str _ (by omega), (fun es2 cl2 he => by have e2 := (obj_self a _).symm.trans he; cases e2; exact (h.stm _ _ a).sub hsub), ⟨_, _, _, obj_self a _, hE, rel_cut (c.mono fun _ _ ⟨p, q⟩ => ⟨p, q.keep (hk _) (by omega)⟩)⟩, ?_, h.full⟩, Kp.keep (hk _) (by omega)⟩
  · refine h.below.trans ⟨rfl, rfl, rfl, by simp, fun k hk' => ?_⟩
    simp only
    rw [Array.getElem?_setIfInBounds_ne (by have := h.lo; omega)]
  · obtain ⟨bf, sn, rc, e, f⟩ := h.ch
    exact ⟨bf, sn, rc, obj_far e _ (by omega), f.mono fun _ _ q => q.keep (hk _) (by omega)⟩

/-- The next number. -/
theorem IV.step (h : IV w0 B w s) {y : Int} (hy : 0 ≤ y ∧ y < 65536) : IV w0 B (w.setCell ⟨B + 2, 1, none⟩ (.int .u16 y)) { s with next := y } ∧ Kp B w (w.setCell ⟨B + 2, 1, none⟩ (.int .u16 y)) := by
  have hk : KeepBut w (w.setCell ⟨B + 2, 1, none⟩ (.int .u16 y)) (B + 2) none := (KeepBut.refl w (B + 2) none).set_ 1 _
  have hf : ∀ {k : Nat} {o : Obj}, w.heap[k]? = some o → k ≠ B + 2 → (w.setCell ⟨B + 2, 1, none⟩ (.int .u16 y)).heap[k]? = some o := fun ho hne => hk.blk ho hne (by simp)
  refine ⟨⟨h.lo, below_set h.below (by have := h.lo; omega), h.win, hy, ?_, h.stm_same (fun o ho => hf ho (by omega)), ?_, ?_, h.full⟩, Kp.keep hk (by omega)⟩
  · exact blk_set h.str 1 (.int .u16 y)
  · obtain ⟨es, cl, vs, a, b, c⟩ := h.mp
    exact ⟨es, cl, vs, hf a (by omega), b, c.mono fun _ _ ⟨p, q⟩ => ⟨p, q.keep hk (by omega)⟩⟩
  · obtain ⟨bf, sn, rc, e, f⟩ := h.ch
    exact ⟨bf, sn, rc, hf e (by omega), f.mono fun _ _ q => q.keep hk (by omega)⟩
end Go.Proofs.Ytjigeblechiffaa.PIntake
