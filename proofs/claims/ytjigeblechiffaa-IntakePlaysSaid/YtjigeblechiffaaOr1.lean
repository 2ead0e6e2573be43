-- Written by a program of this session (wip/oprint): after the pattern of the kit's print, which does not take this law.
import Derived.Test.YtjigeblechiffaaOr0
namespace Go.Proofs.Ytjigeblechiffaa.POrder
open Go.RowKit Go.Proofs.YtjigeblechiffaaW.PrintWords Go.Proofs.YtjigeblechiffaaW.PrintLast Go.Proofs.YtjigeblechiffaaW.PrintMore
attribute [local go_sem] max2_int min2_int max_two min_two max_three min_three max_four min_four   -- for this text's walks alone
set_option linter.unusedVariables false
set_option linter.unusedSimpArgs false


/-! ### turn_Within: function 18 -/
def turn_Within.f (a0 : Int) (a1 : Int) (a2 : Int) : Option (Bool) := some (decide ((wrap64 (IntKind.u16.wrap (a0 - a1))) < a2))
set_option maxHeartbeats 8000000 in
set_option maxRecDepth 100000 in
theorem turn_Within.calls (a0 : Int) (a1 : Int) (a2 : Int) (r : Bool) (w : World) (h : turn_Within.f a0 a1 a2 = some r) :
    Calls Try.prog 18 #[.int .u16 a0, .int .u16 a1, .int .i64 a2] w fun e w' => e = .returned (.bool r) ∧ Drawn0 w w' := by
  have H : (some (decide ((wrap64 (IntKind.u16.wrap (a0 - a1))) < a2))) = some r := h
  clear h
  obtain rfl := Option.some.inj H
  go_enter Try.func18, Try.ntmps18
  go_wp2
  go_ret
  exact ⟨by first | rfl | (simp; done) | (simp [*]; done), by repeat (first | exact Drawn0.refl _ | apply Drawn0.step)⟩

/-! ### slices_Clone_byte_byte: function 19, given -/
def slices_Clone_byte_byte.f (l0 : List Int) : Option (List Int) := if l0.length * 1 ≤ 140737488355328 then some l0 else none
set_option maxHeartbeats 1000000 in
set_option maxRecDepth 100000 in
theorem slices_Clone_byte_byte.calls (A0 : Option Addr) (c0 : Nat) (l0 : List Int) (r : List Int) (w : World) (hr0 : Kd.C (Kd.int .u8) w A0 l0.length l0) (hc0 : l0.length ≤ c0) (h : slices_Clone_byte_byte.f l0 = some r) :
    Calls Try.prog 19 #[.slice A0 l0.length c0] w fun e w' => ∃ v0_ : Value, e = .returned (v0_) ∧ Kd.R (Kd.int .u8) 5 w' w.heap.size (fun _ => True) v0_ r ∧ Below w.heap.size w w' := by
  unfold slices_Clone_byte_byte.f at h
  split at h
  · rename_i hb
    obtain rfl := Option.some.inj h
    clear h
    have q : ∀ (w : World) (a : Option Addr) (n c n' c' : Nat), (binOp .eql 31 (.slice a n c) (.slice none n' c')).run Try.prog w = .ok (.bool a.isNone) w := fun w a n c n' c' => Lib.run_eql_slice_nil w _ _ a n c n' c' Try.underlying31
    have HR0 := Aside0.mk hr0
    have HL := Aside0.mk hb
    clear hb
    cases A0 with
    | none =>
      have hl : l0 = [] := by
        rcases Nat.eq_zero_or_pos l0.length with h0 | h0
        · exact List.eq_nil_of_length_eq_zero h0
        · obtain ⟨ad, hx, _⟩ := hr0.2.2 h0
          cases hx
      subst hl
      clear hr0
      go_enter Try.func19, Try.ntmps19
      go_wp2
      go_ret
      exact ⟨_, rfl, Kd.R_nil _ _ _ _ _, Below.refl _ _⟩
    | some ad =>
      clear hr0
      go_enter Try.func19, Try.ntmps19
      go_wp2_with (first | ((with_reducible refine gate_builtin (b := .append) (xs := #[.tmp 5, .tmp 6]) rfl ?_); at_builtin; refine Kd.R_append_rows (Kd.int .u8) (w0 := w) w.heap.size rfl (.tmp 5) (.tmp 6) 31 5 (.int .u8 0) 1 rfl Try.underlying31 info5 rfl (by decide) (by omega) (.slice (some ⟨w.heap.size, 0, none⟩) 0 0) [] l0 _ _ _ (fun _ => True) (fun _ => False) rfl rfl ?aO ?aR (fun _ _ h => h) (fun _ h => h.elim) ?aF ?aB ?aS ?aL ?_))
      case aO => exact ⟨fun _ _ => trivial, [], by simpa using World.ownsRow_made w #[] 0 (Nat.le_refl _) (Nat.zero_le _) (by simp), Reps.none _ _⟩
      case aR => exact Kd.C_below HR0.out (below_alloc (Below.refl _ _) _)
      case aF => exact (fun _ _ => trivial)
      case aB => exact below_alloc (Below.refl _ _) _
      case aS => simp
      case aL => have := HL.out; simpa using this
      intro v1 w1 ho hb hg hat
      go_wp2
      go_ret
      exact ⟨_, rfl, by simpa using Kd.R_mono ho (fun _ _ => trivial), hb⟩
  · cases h





/-! ### slices_Clone_uint16_uint16: function 27, given -/
def slices_Clone_uint16_uint16.f (l0 : List Int) : Option (List Int) := if l0.length * 2 ≤ 140737488355328 then some l0 else none
set_option maxHeartbeats 1000000 in
set_option maxRecDepth 100000 in
theorem slices_Clone_uint16_uint16.calls (A0 : Option Addr) (c0 : Nat) (l0 : List Int) (r : List Int) (w : World) (hr0 : Kd.C (Kd.int .u16) w A0 l0.length l0) (hc0 : l0.length ≤ c0) (h : slices_Clone_uint16_uint16.f l0 = some r) :
    Calls Try.prog 27 #[.slice A0 l0.length c0] w fun e w' => ∃ v0_ : Value, e = .returned (v0_) ∧ Kd.R (Kd.int .u16) 22 w' w.heap.size (fun _ => True) v0_ r ∧ Below w.heap.size w w' := by
  unfold slices_Clone_uint16_uint16.f at h
  split at h
  · rename_i hb
    obtain rfl := Option.some.inj h
    clear h
    have q : ∀ (w : World) (a : Option Addr) (n c n' c' : Nat), (binOp .eql 38 (.slice a n c) (.slice none n' c')).run Try.prog w = .ok (.bool a.isNone) w := fun w a n c n' c' => Lib.run_eql_slice_nil w _ _ a n c n' c' Try.underlying38
    have HR0 := Aside0.mk hr0
    have HL := Aside0.mk hb
    clear hb
    cases A0 with
    | none =>
      have hl : l0 = [] := by
        rcases Nat.eq_zero_or_pos l0.length with h0 | h0
        · exact List.eq_nil_of_length_eq_zero h0
        · obtain ⟨ad, hx, _⟩ := hr0.2.2 h0
          cases hx
      subst hl
      clear hr0
      go_enter Try.func27, Try.ntmps27
      go_wp2
      go_ret
      exact ⟨_, rfl, Kd.R_nil _ _ _ _ _, Below.refl _ _⟩
    | some ad =>
      clear hr0
      go_enter Try.func27, Try.ntmps27
      go_wp2_with (first | ((with_reducible refine gate_builtin (b := .append) (xs := #[.tmp 5, .tmp 6]) rfl ?_); at_builtin; refine Kd.R_append_rows (Kd.int .u16) (w0 := w) w.heap.size rfl (.tmp 5) (.tmp 6) 38 22 (.int .u16 0) 2 rfl Try.underlying38 info22 rfl (by decide) (by omega) (.slice (some ⟨w.heap.size, 0, none⟩) 0 0) [] l0 _ _ _ (fun _ => True) (fun _ => False) rfl rfl ?aO ?aR (fun _ _ h => h) (fun _ h => h.elim) ?aF ?aB ?aS ?aL ?_))
      case aO => exact ⟨fun _ _ => trivial, [], by simpa using World.ownsRow_made w #[] 0 (Nat.le_refl _) (Nat.zero_le _) (by simp), Reps.none _ _⟩
      case aR => exact Kd.C_below HR0.out (below_alloc (Below.refl _ _) _)
      case aF => exact (fun _ _ => trivial)
      case aB => exact below_alloc (Below.refl _ _) _
      case aS => simp
      case aL => have := HL.out; simpa using this
      intro v1 w1 ho hb hg hat
      go_wp2
      go_ret
      exact ⟨_, rfl, by simpa using Kd.R_mono ho (fun _ _ => trivial), hb⟩
  · cases h

/-! ### turn_Order: function 20, given -/
abbrev U16 := Fin 65536
def encU (x : U16) : Value := .int .u16 (x.val : Int)
def cfU (lo : Int) (x y : U16) : Int := Lib.compareInt (IntKind.u16.wrap ((x.val : Int) - lo)) (IntKind.u16.wrap ((y.val : Int) - lo))
theorem wrapU (n : Int) : IntKind.u16.wrap n = n % 65536 := by simp [IntKind.wrap, IntKind.bits, IntKind.signed]
theorem ltU (lo : Int) (x y : U16) : Go.Proofs.ltOf (cfU lo) x y = decide (((x.val : Int) - lo) % 65536 < ((y.val : Int) - lo) % 65536) := by
  unfold Go.Proofs.ltOf cfU Lib.compareInt
  rw [wrapU, wrapU]
  generalize ((x.val : Int) - lo) % 65536 = a
  generalize ((y.val : Int) - lo) % 65536 = b
  by_cases h1 : a < b
  · simp [h1]
  · by_cases h2 : b < a <;> simp [h1, h2]
theorem swoU (lo : Int) : Go.Sort.SWO (Go.Proofs.ltOf (cfU lo)) where
  irrefl x := by rw [ltU]; simp
  trans x y z h1 h2 := by rw [ltU] at *; simp at *; omega
  ntrans x y z h1 h2 := by rw [ltU] at *; simp at *; omega
theorem totU (lo : Int) (x y : U16) (h1 : Go.Proofs.ltOf (cfU lo) x y = false) (h2 : Go.Proofs.ltOf (cfU lo) y x = false) : x = y := by
  rw [ltU] at *
  simp at *
  have hx := x.isLt
  have hy := y.isLt
  apply Fin.ext
  omega
/-- What Order answers: numbers once each, from lo on. -/
def sortU (lo : Int) (d : Array U16) : Array U16 := (d.toList.mergeSort fun x y => !(Go.Proofs.ltOf (cfU lo)) y x).toArray
def orderU (lo : Int) (d : Array U16) : List U16 := Lib.compactUpTo (sortU lo d) (sortU lo d).size
def toU (l : List Int) : Array U16 := (l.map fun x => Fin.ofNat 65536 x.toNat).toArray
def turn_Order.f (l0 : List Int) (a1 : Int) : Option (List Int) := if (l0.all fun x => decide (0 ≤ x) && decide (x < 65536)) = true ∧ l0.length * 2 ≤ 140737488355328 then some ((orderU a1 (toU l0)).map fun x => (x.val : Int)) else none
set_option maxHeartbeats 1000000 in
theorem turn_Order_compare (x y : Int) (W : World) : Calls Try.prog 30 #[.int .u16 x, .int .u16 y] W fun e w' => e = .returned (.int .i64 (Lib.compareInt x y)) ∧ w' = W := by
  unfold Lib.compareInt
  by_cases h1 : x < y
  · have h1' : ¬ (y < x) := by omega
    rw [if_pos h1]
    go_enter Try.func30, Try.ntmps30
    go_wp2
    go_ret
    exact ⟨rfl, rfl⟩
  · by_cases h2 : y < x
    · rw [if_neg h1, if_pos h2]
      go_enter Try.func30, Try.ntmps30
      go_wp2
      go_ret
      exact ⟨rfl, rfl⟩
    · rw [if_neg h1, if_neg h2]
      go_enter Try.func30, Try.ntmps30
      go_wp2
      go_ret
      exact ⟨rfl, rfl⟩
set_option maxHeartbeats 1000000 in
theorem turn_Order_lit (lo x y : Int) (B : Nat) (W : World) (hc : W.cell? ⟨B, 0, none⟩ = some (.int .u16 lo)) :
    Calls Try.prog 29 #[.int .u16 x, .int .u16 y, .pointer (some ⟨B, 0, none⟩)] W fun e w' => e = .returned (.int .i64 (Lib.compareInt (IntKind.u16.wrap (x - lo)) (IntKind.u16.wrap (y - lo)))) ∧ ∃ q, w' = W.drewN q := by
  have hcon := turn_Order_compare
  go_enter Try.func29, Try.ntmps29
  go_wp2_with (go_at_call 30; refine (hcon _ _ _).mono ?_; rintro e w' ⟨rfl, rfl⟩)
  go_ret
  exact ⟨rfl, 0, rfl⟩
theorem eqU (P : Program) (T : Nat) : Go.Proofs.EqlAt P T encU (fun x y => decide (x = y)) := ⟨fun x y w => by
    have h : ((x.val : Int) = (y.val : Int)) ↔ x = y := by rw [Int.natCast_inj, Fin.ext_iff]
    have := (Go.Proofs.EqlAt.intD P T .u16).1 (x.val : Int) (y.val : Int) w
    simp only [h] at this
    exact this, fun op a b x y w => (Go.Proofs.EqlAt.intD P T .u16).2 op a b (x.val : Int) (y.val : Int) w⟩
theorem neU (P : Program) (T : Nat) : Go.Proofs.NeqAt P T encU (fun x y => decide (x = y)) := ⟨fun x y w => by
    have h : ((x.val : Int) = (y.val : Int)) ↔ x = y := by rw [Int.natCast_inj, Fin.ext_iff]
    have := (Go.Proofs.NeqAt.intD P T .u16).1 (x.val : Int) (y.val : Int) w
    simp only [h] at this
    exact this, fun op a b x y w => (Go.Proofs.NeqAt.intD P T .u16).2 op a b (x.val : Int) (y.val : Int) w⟩
/-- A row of the call's own, cut to its length: its block may be longer. -/
def Cut (w : World) (base E : Nat) (v : Value) (xs : List Value) : Prop :=
  (∃ A c, v = .slice A 0 c ∧ xs = [] ∧ ∀ a, A = some a → base ≤ a.block ∧ a.block < w.heap.size) ∨
  ∃ g cap cur, v = .slice (some ⟨g, 0, none⟩) xs.length cap ∧ base ≤ g ∧ w.heap[g]? = some (.cells cur E (0, 0)) ∧ xs.length ≤ cap ∧ cap ≤ cur.size ∧ cur.size ≤ maxLen ∧ cur.toList.take xs.length = xs
/-! a row of 16 bits' numbers of the call's own that has been cut to its length, in the words of the print's rows -/
def Kd.P (_d : Kd Int) (e : Nat) (w : World) (base : Nat) (ok : Nat → Prop) (v : Value) (xs : List Int) : Prop := (∀ k, v.ownBlock = some k → ok k) ∧ Cut w base e v (xs.map (Value.int .u16))
section
variable {d : Kd Int} {e base b' n c cap g : Nat} {w w1 W : World} {ok ok' : Nat → Prop} {u v : Value} {xs : List Int} {A : Option Addr}
theorem Kd.P_lt (h : Kd.P d e w base ok v xs) : ∀ k, v.ownBlock = some k → k < w.heap.size := by
  intro k hk
  rcases h.2 with ⟨A, c, rfl, _, hA⟩ | ⟨g, cap, cur, rfl, hg, hh, _⟩
  · cases A with
    | none => cases hk
    | some a => injection hk with hk; exact hk ▸ (hA a rfl).2
  · injection hk with hk; exact hk ▸ blk_lt hh
theorem Kd.P_base (h : Kd.P d e w base ok v xs) : ∀ k, v.ownBlock = some k → base ≤ k := by
  intro k hk
  rcases h.2 with ⟨A, c, rfl, _, hA⟩ | ⟨g, cap, cur, rfl, hg, hh, _⟩
  · cases A with
    | none => cases hk
    | some a => injection hk with hk; exact hk ▸ (hA a rfl).1
  · injection hk with hk; exact hk ▸ hg
theorem Kd.P_mono (h : Kd.P d e w base ok v xs) (hok : ∀ k, ok k → ok' k) : Kd.P d e w base ok' v xs := ⟨fun k hk => hok k (h.1 k hk), h.2⟩
theorem Kd.P_lower (h : Kd.P d e w base ok v xs) (hb : b' ≤ base) : Kd.P d e w b' ok v xs := by
  refine ⟨h.1, ?_⟩
  rcases h.2 with ⟨A, c, rfl, h0, hA⟩ | ⟨g, cap, cur, rfl, hg, r⟩
  · exact .inl ⟨A, c, rfl, h0, fun a ha => ⟨Nat.le_trans hb (hA a ha).1, (hA a ha).2⟩⟩
  · exact .inr ⟨g, cap, cur, rfl, Nat.le_trans hb hg, r⟩
theorem Kd.P_step (h : Kd.P d e w base ok v xs) (hm : ∀ k, ok k → k < w.heap.size → w1.heap[k]? = w.heap[k]?) : Kd.P d e w1 base ok v xs := by
  refine ⟨h.1, ?_⟩
  have hlt := Kd.P_lt h
  have h0 := h.1
  rcases h.2 with ⟨A, c, rfl, h2, hA⟩ | ⟨g, cap, cur, rfl, hg, hh, r⟩
  · refine .inl ⟨A, c, rfl, h2, fun a ha => ⟨(hA a ha).1, ?_⟩⟩
    subst ha
    have h3 := hlt a.block rfl
    have h4 := hm a.block (h0 _ rfl) h3
    rw [Array.getElem?_eq_getElem h3] at h4
    exact (Array.getElem?_eq_some_iff.1 h4).1
  · exact .inr ⟨g, cap, cur, rfl, hg, (hm g (h0 g rfl) (hlt g rfl)).trans hh, r⟩
theorem Kd.P_below (h : Kd.P d e w base ok v xs) (hb : Below w.heap.size w w1) : Kd.P d e w1 base ok v xs := Kd.P_step h (fun k _ hk => hb.block k hk)
theorem Kd.P_alloc (h : Kd.P d e w base ok v xs) (o : Obj) : Kd.P d e (w.alloc o) base ok v xs := Kd.P_below h (below_alloc (Below.refl _ _) o)
theorem Kd.P_drew (h : Kd.P d e w base ok v xs) : Kd.P d e w.drew base ok v xs := Kd.P_below h (below_drew (Below.refl _ _))
theorem Kd.P_drewN (h : Kd.P d e w base ok v xs) (m : Nat) : Kd.P d e (w.drewN m) base ok v xs := Kd.P_below h (pw_below_drewN (Below.refl _ _) m)
theorem Kd.P_new' (h : Kd.P d e w1 W.heap.size ok v xs) (hlt : ∀ k, u.ownBlock = some k → k < W.heap.size) : Kd.P d e w1 W.heap.size (fun k => ok k ∧ some k ≠ u.ownBlock) v xs :=
  ⟨fun k hk => ⟨h.1 k hk, fun hu => by have := hlt k hu.symm; have := Kd.P_base h k hk; omega⟩, h.2⟩
theorem Kd.P_elder' (hu : Kd.P d e W base ok u xs) (hbase : ∀ k, v.ownBlock = some k → W.heap.size ≤ k) (hb : Below W.heap.size W w1) : Kd.P d e w1 base (fun k => ok k ∧ some k ≠ v.ownBlock) u xs := by
  have h := Kd.P_below hu hb
  exact ⟨fun k hk => ⟨h.1 k hk, fun hv => by have := hbase k hv.symm; have := Kd.P_lt hu k hk; omega⟩, h.2⟩
theorem Kd.P_slice (h : Kd.P d e w base ok v xs) : ∃ A c, v = .slice A xs.length c := by
  rcases h.2 with ⟨A, c, rfl, h0, _⟩ | ⟨g, cap, cur, rfl, _⟩
  · obtain rfl : xs = [] := List.map_eq_nil_iff.mp h0
    exact ⟨A, c, rfl⟩
  · exact ⟨_, cap, by rw [List.length_map]⟩
theorem Kd.P_form (h : Kd.P d e w base ok v xs) (hp : 0 < xs.length) : ∃ g cap, v = .slice (some ⟨g, 0, none⟩) xs.length cap ∧ base ≤ g ∧ g < w.heap.size ∧ ∃ cells, w.heap[g]? = some (.cells cells e (0, 0)) := by
  rcases h.2 with ⟨A, c, rfl, h0, _⟩ | ⟨g, cap, cur, rfl, hg, hh, _⟩
  · obtain rfl : xs = [] := List.map_eq_nil_iff.mp h0
    simp at hp
  · exact ⟨g, cap, by rw [List.length_map], hg, blk_lt hh, cur, hh⟩
theorem Kd.P_reads' (h : Kd.P d e w base ok (.slice A n c) xs) : n = xs.length ∧ n ≤ c ∧ Kd.C (Kd.int .u16) w A xs.length xs := by
  rcases h.2 with ⟨A', c', he, h0, _⟩ | ⟨g, cap, cur, he, hg, hh, h1, h2, h3, h4⟩
  · obtain rfl : xs = [] := List.map_eq_nil_iff.mp h0
    injection he with _ he _
    subst he
    exact ⟨rfl, Nat.zero_le _, rfl, by simp, fun h => absurd h (by simp)⟩
  · rw [List.length_map] at he h1 h4
    injection he with e1 e2 e3
    subst e1; subst e2; subst e3
    unfold maxLen at h3
    refine ⟨rfl, h1, rfl, by omega, fun _ => ⟨_, rfl, fun j p hj => ⟨[.int .u16 p], rfl, rfl, fun i u hu => ?_⟩⟩⟩
    rcases i with _ | i
    · simp only [List.getElem?_cons_zero, Option.some.injEq] at hu
      subst hu
      rw [add_plain, blk_cell hh]
      have hjl := (List.getElem?_eq_some_iff.1 hj).1
      have h5 : (cur.toList.take xs.length)[j]? = (xs.map (Value.int .u16))[j]? := by rw [h4]
      rw [List.getElem?_take, if_pos hjl, Array.getElem?_toList, List.getElem?_map, hj] at h5
      simpa [Kd.int, Kd.scalar] using h5
    · simp at hu
theorem Kd.P_celln (_z : Int) (h : Kd.P (Kd.int .u16) e W base ok (.slice (some ⟨g, 0, none⟩) n cap) xs) (i : Int) (h0 : 0 ≤ i) (hi : i < n) : W.cell? ⟨g, i.toNat, none⟩ = some (.int .u16 (rd xs i)) ∧ W.frozen? ⟨g, i.toNat, none⟩ = false := by
  obtain ⟨hn, _, hC⟩ := Kd.P_reads' h
  subst hn
  rcases h.2 with ⟨A', c', he, h2, _⟩ | ⟨g', cap', cur, he, hg, hh, h1, h2, h3, h4⟩
  · obtain rfl : xs = [] := List.map_eq_nil_iff.mp h2
    simp at hi
    omega
  · rw [List.length_map] at he h1 h4
    injection he with e1 e2 e3
    injection e1 with e1
    injection e1 with e1
    subst e1
    refine ⟨?_, blk_frozen hh _⟩
    rw [blk_cell hh]
    have hjl : i.toNat < xs.length := by omega
    have h5 : (cur.toList.take xs.length)[i.toNat]? = (xs.map (Value.int .u16))[i.toNat]? := by rw [h4]
    rw [List.getElem?_take, if_pos hjl, Array.getElem?_toList, List.getElem?_map, List.getElem?_eq_getElem hjl] at h5
    rw [h5]
    simp [rd, List.getElem?_eq_getElem hjl]
theorem Kd.P_putg (h : Kd.P (Kd.int .u16) e W base ok (.slice (some ⟨g, 0, none⟩) n cap) xs) (i : Int) (x : Int) : Kd.P (Kd.int .u16) e (W.setCell ⟨g, i.toNat, none⟩ (.int .u16 x)) base ok (.slice (some ⟨g, 0, none⟩) n cap) (xs.set i.toNat x) ∧ W.grownBy (W.setCell ⟨g, i.toNat, none⟩ (.int .u16 x)) (some g) := by
  have hsz : (W.setCell ⟨g, i.toNat, none⟩ (.int .u16 x)).heap.size = W.heap.size := by simp [World.setCell]
  refine ⟨⟨h.1, ?_⟩, ⟨rfl, rfl, rfl, by rw [hsz]; exact Nat.le_refl _, fun k hk hne => Below.heap_setCell W ⟨g, i.toNat, none⟩ _ k (fun e => hne (by rw [e]))⟩⟩
  rcases h.2 with ⟨A', c', he, h2, hA⟩ | ⟨g', cap', cur, he, hg, hh, h1, h2, h3, h4⟩
  · obtain rfl : xs = [] := List.map_eq_nil_iff.mp h2
    exact .inl ⟨A', c', he, rfl, fun a ha => ⟨(hA a ha).1, by rw [hsz]; exact (hA a ha).2⟩⟩
  · have e1 := he
    injection e1 with e1 e2 e3
    injection e1 with e1
    injection e1 with e1
    subst e1
    rw [List.length_map] at he h1 h4
    refine .inr ⟨g, cap', cur.setIfInBounds i.toNat (.int .u16 x), by rw [List.length_map, List.length_set]; exact he, hg, blk_set hh _ _, by rw [List.length_map, List.length_set]; exact h1, by simpa using h2, by simpa using h3, ?_⟩
    rw [List.length_map, List.length_set, Array.toList_setIfInBounds, List.take_set, h4, List.map_set]
end
set_option maxHeartbeats 1000000 in
theorem turn_Order_short (p : Option Addr) (c : Nat) (W : World) : Calls Try.prog 32 #[.slice p 0 c] W fun e w' => e = .returned (.slice p 0 c) ∧ w' = W := by
  go_enter Try.func32, Try.ntmps32
  go_wp2
  go_ret
  exact ⟨rfl, rfl⟩
set_option maxHeartbeats 1000000 in
theorem turn_Order_clip (p : Option Addr) (n c : Nat) (hn : n ≤ c) (hc : c ≤ maxLen) (hp : p = none → c = 0) (W : World) : Calls Try.prog 31 #[.slice p n c] W fun e w' => e = .returned (.slice p n n) ∧ w' = W := by
  unfold maxLen at hc
  go_enter Try.func31, Try.ntmps31
  go_wp2
  go_ret
  exact ⟨rfl, rfl⟩
theorem encs_toU (l : List Int) (h : (l.all fun x => decide (0 ≤ x) && decide (x < 65536)) = true) : l.map (Value.int .u16) = (toU l).toList.map encU := by
  simp only [toU, List.map_map]
  apply List.map_congr_left
  intro x hx
  have := List.all_eq_true.mp h x hx
  simp at this
  simp only [Function.comp_apply, encU, Fin.ofNat]
  congr 1
  omega
theorem own_grow {w : World} {base e n : Nat} {v : Value} {xs : List Value} {os : Array Obj} (h : w.ownsRow base e 1 v n xs) : (Go.Sort.grow w os).ownsRow base e 1 v n xs :=
  own_move h (fun k hk => Go.Sort.heap_grow_old w os (own_lt h k hk))
theorem below_grow_ {B : Nat} {w0 w : World} {os : Array Obj} (h : Below B w0 w) (hB : B ≤ w.heap.size) : Below B w0 (Go.Sort.grow w os) :=
  h.trans ⟨rfl, rfl, rfl, by simp [Go.Sort.grow], fun k hk => Go.Sort.heap_grow_old w os (by omega)⟩
set_option maxHeartbeats 2000000 in
set_option maxRecDepth 100000 in
theorem turn_Order.own (A0 : Option Addr) (c0 : Nat) (l0 : List Int) (lo : Int) (w : World) (hr0 : Kd.C (Kd.int .u16) w A0 l0.length l0) (hc0 : l0.length ≤ c0)
    (hall : (l0.all fun x => decide (0 ≤ x) && decide (x < 65536)) = true) (hlen : l0.length * 2 ≤ 140737488355328) :
    Calls Try.prog 20 #[.slice A0 l0.length c0, .int .u16 lo] w fun e w' => ∃ v0_ : Value, e = .returned v0_ ∧ Cut w' w.heap.size 22 v0_ ((orderU lo (toU l0)).map encU) ∧ Below w.heap.size w w' := by
  have HR0 := Aside0.mk hr0
  have HC0 := Aside0.mk hc0
  have HA := Aside0.mk hall
  have HL := Aside0.mk hlen
  have HB := Aside0.mk (Below.refl w.heap.size w)
  have hf : slices_Clone_uint16_uint16.f l0 = some l0 := by unfold slices_Clone_uint16_uint16.f; rw [if_pos hlen]
  have HF := Aside0.mk hf
  clear hr0 hc0 hall hlen hf
  go_enter Try.func20, Try.ntmps20
  go_wp2_with (first | ((with_reducible refine gate_dst (N := 3) rfl ?_); refine box_event ?hg (N := 3) ?hd (cs := #[.int .u16 lo]) (t := 22) ?hr ?_; (case hd => rfl); (case hg => rfl); (case hr => first | (go_simp; done) | (go_simp; rfl)); intro gb hg w5 hbox hb; have n0_ := Aside0.mk (below_step (by repeat (first | (with_reducible first | exact HB.out | apply below_alloc | apply pw_below_drewN | apply below_drew1) | exact HB.out)) hb); have n1_ := Aside0.mk (hbox); clear HB; have HB := n0_; have BK := n1_; clear n0_ n1_; clear hb hbox hg) | fail)
  refine (slices_Clone_uint16_uint16.calls A0 c0 l0 l0 _ (Kd.C_below HR0.out HB.out) HC0.out HF.out).mono ?_
  rintro e w1 ⟨v0, rfl, ho, hb⟩
  have hz : w.heap.size ≤ w5.heap.size := HB.out.size
  have hown : w1.ownsRow w.heap.size 22 1 v0 l0.length ((toU l0).toList.map encU) := by rw [← encs_toU l0 HA.out]; exact own_weaken (Kd.own_of_R ho) hz
  have hBK : w1.heap[gb]? = some (.cells #[.int .u16 lo] 22 (0, 0)) := blk_below BK.out hb
  have hbase : ∀ k, v0.ownBlock = some k → k ≠ gb := fun k hk e => by
    have h1 := Kd.R_base ho k hk
    have h2 := blk_lt BK.out
    omega
  have hB1 : Below w.heap.size w w1 := below_step HB.out hb
  have hz1 : w.heap.size ≤ w1.heap.size := hB1.size
  clear ho hb BK HB HF HR0 HC0 hz
  by_cases he : l0 = []
  · subst he
    obtain ⟨A, c, rfl, hA, hc, hAc⟩ : ∃ A c, v0 = .slice A 0 c ∧ (∀ a, A = some a → w.heap.size ≤ a.block ∧ a.block < w1.heap.size) ∧ c ≤ maxLen ∧ (A = none → c = 0) := by
      rcases hown.2 with ⟨rfl, _⟩ | ⟨g, cap, cur, rfl, h1, h2, h3, h4, _⟩
      · exact ⟨none, 0, rfl, (fun a h => by cases h), Nat.zero_le _, fun _ => rfl⟩
      · exact ⟨_, cap, rfl, (fun a h => by cases h; exact ⟨h1, blk_lt h2⟩), h4, fun h => by cases h⟩
    have e0 : orderU lo (toU []) = [] := by simp [orderU, sortU, toU, Lib.compactUpTo]
    have HA2 := Aside0.mk hA
    have HE := Aside0.mk e0
    have HB1 := Aside0.mk hB1
    have HAc := Aside0.mk hAc
    clear hA e0 hB1 hown hbase hBK hAc
    go_wp2_with (first | (go_at_call 28; refine (Try.slices_SortFunc_none (α := U16) _ _ _ _).mono ?_; rintro e w' ⟨rfl, rfl⟩) | (go_at_call 32; refine (turn_Order_short _ _ _).mono ?_; rintro e w' ⟨rfl, rfl⟩) | (go_at_call 31; refine (turn_Order_clip _ 0 _ (Nat.zero_le _) hc HAc.out _).mono ?_; rintro e w' ⟨rfl, rfl⟩))
    go_ret
    exact ⟨_, rfl, by rw [HE.out]; exact .inl ⟨A, 0, rfl, rfl, HA2.out⟩, HB1.out⟩
  · have hpos : 0 < l0.length := by
      rcases Nat.eq_zero_or_pos l0.length with h | h
      · exact absurd (List.eq_nil_of_length_eq_zero h) he
      · exact h
    have hne : v0 ≠ .slice none 0 0 := by
      rintro rfl
      rcases hown.2 with ⟨_, h0⟩ | ⟨g, cap, cur, h1, _⟩
      · omega
      · cases h1
    obtain ⟨g, cap, rfl, hg0, hglt, hn, hm, hzl, hH⟩ := Lib.holds_of_ownsRow hown hne
    have hgb : g ≠ gb := hbase g rfl
    have hsz : (toU l0).size = l0.length := by simp [toU]
    have hss : (sortU lo (toU l0)).size = l0.length := by simp [sortU, toU]
    rw [Array.toArray_toList] at hH
    have hlen := HL.out
    have eg : ∀ args w, (callFunc 29 args).run Try.prog w = .ok (.enter 29 args) w := enters_of Try.func29 (by kernel_rfl) rfl
    have hcmp : Go.Proofs.CmpReads Try.prog 29 #[.pointer (some ⟨gb, 0, none⟩)] encU (cfU lo) g 0 (toU l0).size w1 := by
      intro m os dk _ x y
      refine turn_Order_lit lo (x.val : Int) (y.val : Int) gb _ ?_
      have hlt := blk_lt hBK
      unfold Go.Proofs.sortWorld
      rw [Go.Sort.cell?_grow _ _ _ (by simpa using hlt), Go.Sort.cell?_putRow_other _ _ _ _ _ _ (.inl (fun e => hgb e.symm)), Go.Sort.cell?_ahead]
      exact blk_cell hBK 0
    have hS := Try.slices_SortFunc_total encU (fun _ => rfl) (cfU lo) (swoU lo) 29 #[.pointer (some ⟨gb, 0, none⟩)] g 0 cap (toU l0) w1 eg hcmp.lays hH hglt (by omega) (totU lo)
    rw [hsz] at hS
    have HS := Aside0.mk hS
    have HO := Aside0.mk hown
    have HH := Aside0.mk hH
    have HB1 := Aside0.mk hB1
    have HN := Aside0.mk hss
    clear hS hown hH hB1 hss hcmp eg hsz hBK hbase he hne hzl HA HL
    go_wp2_with fail
    refine HS.out.mono ?_
    rintro e w2 ⟨rfl, n, os, hw2⟩
    clear HS
    have hown2 : w2.ownsRow w.heap.size 22 1 (.slice (some ⟨g, 0, none⟩) l0.length cap) l0.length ((sortU lo (toU l0)).toList.map encU) := by
      have := Lib.ownsRow_putRow (q := n) (k := l0.length) (ys := (sortU lo (toU l0)).toList) HO.out (by rw [Array.length_toList]; exact HN.out) (Nat.le_refl _)
      rw [List.take_of_length_le (by rw [Array.length_toList]; exact Nat.le_of_eq HN.out), Array.toArray_toList] at this
      rw [hw2]
      exact own_grow this
    have hB2 : Below w.heap.size w w2 := by
      rw [hw2]
      exact below_grow_ (Lib.below_putRow HB1.out hg0) (by rw [Go.Sort.size_putRow]; exact hz1)
    have hH2 : Go.Sort.Holds encU w2 g 0 (sortU lo (toU l0)) := by
      rw [hw2]
      exact Go.Proofs.holds_sortWorld _ _ _ _ _ (toU l0) _ _ hglt HH.out (HN.out.trans (by simp [toU]))
    have v23 : ∀ w, (zeroValue 22).run Try.prog w = .ok (encU 0) w := fun w => by kernel_rfl
    have hC := Try.slices_Compact encU (fun _ => rfl) (eqU _ _) (neU _ _) 0 v23 g 0 cap (sortU lo (toU l0)) w2 hH2 (by rw [HN.out]; omega) (by rw [HN.out]; omega)
    rw [HN.out] at hC
    have hml : (Lib.compactUpTo (sortU lo (toU l0)) l0.length).length ≤ l0.length := by
      unfold Lib.compactUpTo
      rw [List.length_map]
      exact Nat.le_trans (List.length_filter_le _ _) (by simp)
    have hoo : orderU lo (toU l0) = Lib.compactUpTo (sortU lo (toU l0)) l0.length := by unfold orderU; rw [HN.out]
    generalize Lib.compactUpTo (sortU lo (toU l0)) l0.length = M at hC hml hoo
    have HOO := Aside0.mk hoo
    have HC := Aside0.mk hC
    have HO2 := Aside0.mk hown2
    have HB2 := Aside0.mk hB2
    clear hC hown2 hB2 hH2 v23 hw2 HO HH HB1 hoo
    have hzz := HB2.out.size
    go_wp2_with fail
    refine HC.out.mono ?_
    rintro e w3 ⟨rfl, q, hw3⟩
    clear HC
    have hown3 : w3.ownsRow w.heap.size 22 1 (.slice (some ⟨g, 0, none⟩) M.length cap) M.length (M.map encU) := by
      have := Lib.ownsRow_putRow (q := q) (k := M.length) (ys := M ++ List.replicate (l0.length - M.length) 0) HO2.out (by simp; omega) hml
      rw [List.take_left'] at this
      · rw [hw3]; exact this
      · rfl
    have hB3 : Below w.heap.size w w3 := by rw [hw3]; exact Lib.below_putRow HB2.out hg0
    have HO3 := Aside0.mk hown3
    have HB3 := Aside0.mk hB3
    clear hown3 hB3 hw3 HO2 HB2
    have hmc : M.length ≤ cap := by omega
    go_wp2_with (go_at_call 31; refine (turn_Order_clip _ _ _ hmc hm (fun h => by cases h) _).mono ?_; rintro e w' ⟨rfl, rfl⟩)
    go_ret
    refine ⟨_, rfl, ?_, HB3.out⟩
    rw [HOO.out]
    rcases HO3.out.2 with ⟨h0, _⟩ | ⟨g', cap', cur, h0, h1, h2, h3, h4, h5, h6⟩
    · cases h0
    · injection h0 with h7 _ h8
      injection h7 with h7
      injection h7 with h7
      subst h7 h8
      exact .inr ⟨g, M.length, cur, by rw [List.length_map]; rfl, h1, h2, by rw [List.length_map]; exact Nat.le_refl _, by omega, by omega, by rw [List.length_map]; simpa using h6⟩
theorem turn_Order.calls (A0 : Option Addr) (c0 : Nat) (l0 : List Int) (a1 : Int) (r : List Int) (w : World) (hr0 : Kd.C (Kd.int .u16) w A0 l0.length l0) (hc0 : l0.length ≤ c0) (h : turn_Order.f l0 a1 = some r) :
    Calls Try.prog 20 #[.slice A0 l0.length c0, .int .u16 a1] w fun e w' => ∃ v0_ : Value, e = .returned (v0_) ∧ Kd.P (Kd.int .u16) 22 w' w.heap.size (fun _ => True) v0_ r ∧ Below w.heap.size w w' := by
  unfold turn_Order.f at h
  split at h
  · rename_i hh
    obtain rfl := Option.some.inj h
    refine (turn_Order.own A0 c0 l0 a1 w hr0 hc0 hh.1 hh.2).mono ?_
    rintro e w' ⟨v, rfl, hcut, hb⟩
    refine ⟨v, rfl, ⟨fun _ _ => trivial, ?_⟩, hb⟩
    rw [List.map_map]
    exact hcut
  · cases h






end Go.Proofs.Ytjigeblechiffaa.POrder
