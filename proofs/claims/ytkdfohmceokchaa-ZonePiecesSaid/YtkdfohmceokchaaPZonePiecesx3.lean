-- Written by a program of this session (wip/oprint): after the pattern of the kit's print, which does not take this law. -- trimmed
import Derived.Test.YtkdfohmceokchaaPZonePiecesx0
namespace Go.Proofs.Ytkdfohmceokchaa.PZonePieces
open Go.RowKit Go.Proofs.YtkdfohmceokchaaW.PrintWords Go.Proofs.YtkdfohmceokchaaW.PrintLast Go.Proofs.YtkdfohmceokchaaW.PrintMore
attribute [local go_sem] max2_int min2_int max_two min_two max_three min_three max_four min_four   -- for this text's walks alone
set_option linter.unusedVariables false
set_option linter.unusedSimpArgs false

/-! ### stillageref01_Ints: function 18 -/
def stillageref01_Ints.l0 : Nat → List Int → List Int → Int → Int → Option (Bool)
 | 0, _, _, _, _ => none
 | k + 1, x0, x1, x12, x13 => if x13 < x12 then (if 0 ≤ x13 then (if x13 < (x0.length : Int) then (if x13 < (x1.length : Int) then (if (rd x0 x13) = (rd x1 x13) then (stillageref01_Ints.l0 k x0 x1 x12 (wrap64 (x13 + 1))) else (some false)) else (none)) else (none)) else (none)) else (some true)
def stillageref01_Ints.f (k : Nat) (l0 : List Int) (l1 : List Int) : Option (Bool) := if (l0.length : Int) = (l1.length : Int) then (stillageref01_Ints.l0 k l0 l1 (l0.length : Int) 0) else (some false)
theorem stillageref01_Ints.mono_l : ∀ k, (∀ y0 y1 y2 y3, LeO (stillageref01_Ints.l0 k y0 y1 y2 y3) (stillageref01_Ints.l0 (k + 1) y0 y1 y2 y3))
 | 0 => fun _ _ _ _ r h => by simp [stillageref01_Ints.l0] at h
 | k + 1 => by
  have ih0 := stillageref01_Ints.mono_l k
  ·intro y0 y1 y2 y3
   unfold stillageref01_Ints.l0
   repeat' first
   | (with_reducible exact ih0 _ _ _ _)
   | (with_reducible exact LeO.refl _)
   | (with_reducible exact LeO.none _)
   | (with_reducible refine LeO.ite ?_ ?_)
   | (with_reducible refine LeO.bind ?_ (fun _ => ?_))
   | exact ih0 _ _ _ _
   | exact LeO.none _
   | refine LeO.ite ?_ ?_
   | refine LeO.bind ?_ (fun _ => ?_)
theorem stillageref01_Ints.mono : ∀ a0 a1 k, LeO (stillageref01_Ints.f k a0 a1) (stillageref01_Ints.f (k + 1) a0 a1) := by
 intro a0 a1 k
 have ih0 := stillageref01_Ints.mono_l k
 unfold stillageref01_Ints.f
 repeat' first
   | (with_reducible exact ih0 _ _ _ _)
   | (with_reducible exact LeO.refl _)
   | (with_reducible exact LeO.none _)
   | (with_reducible refine LeO.ite ?_ ?_)
   | (with_reducible refine LeO.bind ?_ (fun _ => ?_))
   | exact ih0 _ _ _ _
   | exact LeO.none _
   | refine LeO.ite ?_ ?_
   | refine LeO.bind ?_ (fun _ => ?_)
set_option maxHeartbeats 8000000 in
set_option maxRecDepth 100000 in
theorem stillageref01_Ints.calls (k : Nat) (A0 : Option Addr) (c0 : Nat) (l0 : List Int) (A1 : Option Addr) (c1 : Nat) (l1 : List Int) (r : Bool) (w : World) (hr0 : Kd.C (Kd.int .i64) w A0 l0.length l0) (hc0 : l0.length ≤ c0) (hr1 : Kd.C (Kd.int .i64) w A1 l1.length l1) (hc1 : l1.length ≤ c1) (h : stillageref01_Ints.f k l0 l1 = some r) :
  Calls Try.prog 18 #[.slice A0 l0.length c0, .slice A1 l1.length c1] w fun e w' => e = .returned (.bool r) ∧ Drawn0 w w' := by
 have HR0 := Aside0.mk hr0
 have HC0 := Aside0.mk hc0
 clear hr0 hc0
 have HR1 := Aside0.mk hr1
 have HC1 := Aside0.mk hc1
 clear hr1 hc1
 have H : (if (l0.length : Int) = (l1.length : Int) then (stillageref01_Ints.l0 k l0 l1 (l0.length : Int) 0) else (some false)) = some r := h
 clear h
 by_cases c3 : (l0.length : Int) = (l1.length : Int)
 ·rw [if_pos c3] at H
  have c3b0 : ((l0.length : Int) == (l1.length : Int)) = true := beq_iff_eq.mpr c3
  have c3b1 : ((l0.length : Int) != (l1.length : Int)) = false := bne_eq_false_iff_eq.mpr c3
  have c3b2 : (l0.length == l1.length) = true := by first | simpa using c3 | (simp at c3 ⊢; omega)
  clear c3
  have H' := Aside0.mk H
  clear H
  go_enter Try.func18, Try.ntmps18
  go_wp2
  repeat (go_quiet (fail); try go_wp2)
  go_loopg [13] k (fun kq v13 w' => ∃ (x13_1 : Int), v13 = .int .i64 x13_1 ∧ Aside0 (stillageref01_Ints.l0 kq l0 l1 (l0.length : Int) x13_1 = some r) ∧ Aside0 (kq ≤ k) ∧ Drawn0 w w')
  case atStart => exact ⟨(0), (by first | rfl | (simp; done) | (simp [*]; done)), H', ⟨Nat.le_refl _⟩, by repeat (first | exact Drawn0.refl _ | apply Drawn0.step)⟩
  case round =>
   clear H'
   try clear c1
   try clear p2
   try clear c3
   try clear c3b0
   try clear c3b1
   try clear c3b2
   obtain ⟨x13_1, rfl, HA, HK1, ⟨m1, rfl⟩⟩ := hrel
   cases gk with
   | zero => exact absurd HA.out (by simp [stillageref01_Ints.l0])
   | succ k1 =>
    have H := HA.out
    clear HA
    simp only [stillageref01_Ints.l0] at H
    by_cases c4 : x13_1 < (l0.length : Int)
    ·rw [if_pos c4] at H
     have c4b0 : decide (x13_1 < (l0.length : Int)) = true := decide_eq_true c4
     clear c4
     by_cases c5 : 0 ≤ x13_1
     ·rw [if_pos c5] at H
      have c5b0 : decide (0 ≤ x13_1) = true := decide_eq_true c5
      clear c5
      by_cases c6 : x13_1 < (l0.length : Int)
      ·rw [if_pos c6] at H
       have c6b0 : decide (x13_1 < (l0.length : Int)) = true := decide_eq_true c6
       clear c6
       by_cases c7 : x13_1 < (l1.length : Int)
       ·rw [if_pos c7] at H
        have c7b0 : decide (x13_1 < (l1.length : Int)) = true := decide_eq_true c7
        clear c7
        by_cases c8 : (rd l0 x13_1) = (rd l1 x13_1)
        ·rw [if_pos c8] at H
         have c8b0 : ((rd l0 x13_1) == (rd l1 x13_1)) = true := beq_iff_eq.mpr c8
         have c8b1 : ((rd l0 x13_1) != (rd l1 x13_1)) = false := bne_eq_false_iff_eq.mpr c8
         clear c8
         have H' := Aside0.mk H
         clear H
         have p101 : 0 ≤ (x13_1 : Int) := of_decide_eq_true (by first | (with_reducible assumption) | assumption)
         have q101 : x13_1 < (l0.length : Int) := of_decide_eq_true (by first | (with_reducible assumption) | assumption)
         obtain ⟨ad101, e101, hx101_0⟩ := Kd.at_int HR0.out x13_1 p101 q101
         cases e101
         replace p101 := eq_true p101
         replace q101 := eq_true q101
         have p102 : 0 ≤ (x13_1 : Int) := of_decide_eq_true (by first | (with_reducible assumption) | assumption)
         have q102 : x13_1 < (l1.length : Int) := of_decide_eq_true (by first | (with_reducible assumption) | assumption)
         obtain ⟨ad102, e102, hx102_0⟩ := Kd.at_int HR1.out x13_1 p102 q102
         cases e102
         replace p102 := eq_true p102
         replace q102 := eq_true q102
         go_wp2
         repeat (go_quiet (fail); try go_wp2)
         go_roundg k1
         case measure => have := HK1.out; omega
         case rel => exact ⟨(wrap64 (x13_1 + 1)), (by first | rfl | (simp; done) | (simp [*]; done)), H', ⟨by have := HK1.out; omega⟩, by repeat (first | exact Drawn0.refl _ | apply Drawn0.step)⟩
        ·rw [if_neg c8] at H
         have c8b0 : ((rd l0 x13_1) == (rd l1 x13_1)) = false := beq_eq_false_iff_ne.mpr c8
         have c8b1 : ((rd l0 x13_1) != (rd l1 x13_1)) = true := bne_iff_ne.mpr c8
         obtain rfl := Option.some.inj H
         have p101 : 0 ≤ (x13_1 : Int) := of_decide_eq_true (by first | (with_reducible assumption) | assumption)
         have q101 : x13_1 < (l0.length : Int) := of_decide_eq_true (by first | (with_reducible assumption) | assumption)
         obtain ⟨ad101, e101, hx101_0⟩ := Kd.at_int HR0.out x13_1 p101 q101
         cases e101
         replace p101 := eq_true p101
         replace q101 := eq_true q101
         have p102 : 0 ≤ (x13_1 : Int) := of_decide_eq_true (by first | (with_reducible assumption) | assumption)
         have q102 : x13_1 < (l1.length : Int) := of_decide_eq_true (by first | (with_reducible assumption) | assumption)
         obtain ⟨ad102, e102, hx102_0⟩ := Kd.at_int HR1.out x13_1 p102 q102
         cases e102
         replace p102 := eq_true p102
         replace q102 := eq_true q102
         go_wp2
         repeat (go_quiet (fail); try go_wp2)
         go_ret
         exact ⟨by first | rfl | (simp; done) | (simp [*]; done), by repeat (first | exact Drawn0.refl _ | apply Drawn0.step)⟩
       ·rw [if_neg c7] at H
        exact absurd H (by simp)
      ·rw [if_neg c6] at H
       exact absurd H (by simp)
     ·rw [if_neg c5] at H
      exact absurd H (by simp)
    ·rw [if_neg c4] at H
     have c4b0 : decide (x13_1 < (l0.length : Int)) = false := decide_eq_false c4
     clear c4
     obtain rfl := Option.some.inj H
     go_wp2
     repeat (go_quiet (fail); try go_wp2)
     go_ret
     exact ⟨by first | rfl | (simp; done) | (simp [*]; done), by repeat (first | exact Drawn0.refl _ | apply Drawn0.step)⟩
 ·rw [if_neg c3] at H
  have c3b0 : ((l0.length : Int) == (l1.length : Int)) = false := beq_eq_false_iff_ne.mpr c3
  have c3b1 : ((l0.length : Int) != (l1.length : Int)) = true := bne_iff_ne.mpr c3
  have c3b2 : (l0.length == l1.length) = false := by first | simpa using c3 | (simp at c3 ⊢; omega)
  obtain rfl := Option.some.inj H
  go_enter Try.func18, Try.ntmps18
  go_wp2
  repeat (go_quiet (fail); try go_wp2)
  go_ret
  exact ⟨by first | rfl | (simp; done) | (simp [*]; done), by repeat (first | exact Drawn0.refl _ | apply Drawn0.step)⟩

/-! ### slices_Clone_int_int: function 37, given -/
def slices_Clone_int_int.f (l0 : List Int) : Option (List Int) := if l0.length * 8 ≤ 140737488355328 then some l0 else none
set_option maxHeartbeats 1000000 in
set_option maxRecDepth 100000 in
theorem slices_Clone_int_int.calls (A0 : Option Addr) (c0 : Nat) (l0 : List Int) (r : List Int) (w : World) (hr0 : Kd.C (Kd.int .i64) w A0 l0.length l0) (hc0 : l0.length ≤ c0) (h : slices_Clone_int_int.f l0 = some r) :
  Calls Try.prog 37 #[.slice A0 l0.length c0] w fun e w' => ∃ v0_ : Value, e = .returned (v0_) ∧ Kd.R (Kd.int .i64) 3 w' w.heap.size (fun _ => True) v0_ r ∧ Below w.heap.size w w' := by
 unfold slices_Clone_int_int.f at h
 split at h
 ·rename_i hb
  obtain rfl := Option.some.inj h
  clear h
  have q : ∀ (w : World) (a : Option Addr) (n c n' c' : Nat), (binOp .eql 26 (.slice a n c) (.slice none n' c')).run Try.prog w = .ok (.bool a.isNone) w := fun w a n c n' c' => Lib.run_eql_slice_nil w _ _ a n c n' c' Try.underlying26
  have HR0 := Aside0.mk hr0
  have HL := Aside0.mk hb
  clear hb
  cases A0 with
  | none =>
   have hl : l0 = [] := by
    rcases Nat.eq_zero_or_pos l0.length with h0 | h0
    ·exact List.eq_nil_of_length_eq_zero h0
    ·obtain ⟨ad, hx, _⟩ := hr0.2.2 h0
     cases hx
   subst hl
   clear hr0
   go_enter Try.func37, Try.ntmps37
   go_wp2
   go_ret
   exact ⟨_, rfl, Kd.R_nil _ _ _ _ _, Below.refl _ _⟩
  | some ad =>
   clear hr0
   go_enter Try.func37, Try.ntmps37
   go_wp2_with (first | ((with_reducible refine gate_builtin (b := .append) (xs := #[.tmp 5, .tmp 6]) rfl ?_); at_builtin; refine Kd.R_append_rows (Kd.int .i64) (w0 := w) w.heap.size rfl (.tmp 5) (.tmp 6) 26 3 (.int .i64 0) 8 rfl Try.underlying26 info3 rfl (by decide) (by omega) (.slice (some ⟨w.heap.size, 0, none⟩) 0 0) [] l0 _ _ _ (fun _ => True) (fun _ => False) rfl rfl ?aO ?aR (fun _ _ h => h) (fun _ h => h.elim) ?aF ?aB ?aS ?aL ?_))
   case aO => exact ⟨fun _ _ => trivial, [], by simpa using World.ownsRow_made w #[] 0 (Nat.le_refl _) (Nat.zero_le _) (by simp), Reps.none _ _⟩
   case aR => exact Kd.C_below HR0.out (below_alloc (Below.refl _ _) _)
   case aF => exact (fun _ _ => trivial)
   case aB => exact below_alloc (Below.refl _ _) _
   case aS => simp
   case aL => have := HL.out; simpa using this
   intro v1 w1 ho hb hg hat
   go_wp2
   go_ret
   exact ⟨_, rfl, by simpa using Kd.R_mono ho (fun _ _ => trivial), hb⟩
 ·cases h

/-! ### zone_Order: function 21, given -/
/-- A row of the call's own, cut to its length: its block may be longer. -/
def Cut (w : World) (base E : Nat) (v : Value) (xs : List Value) : Prop :=
 (∃ A c, v = .slice A 0 c ∧ xs = [] ∧ ∀ a, A = some a → base ≤ a.block ∧ a.block < w.heap.size) ∨
 ∃ g cap cur, v = .slice (some ⟨g, 0, none⟩) xs.length cap ∧ base ≤ g ∧ w.heap[g]? = some (.cells cur E (0, 0)) ∧ xs.length ≤ cap ∧ cap ≤ cur.size ∧ cur.size ≤ maxLen ∧ cur.toList.take xs.length = xs
/-! a row of numbers of the call's own that has been cut to its length, in the words of the print's rows -/
def Kd.P (_d : Kd Int) (e : Nat) (w : World) (base : Nat) (ok : Nat → Prop) (v : Value) (xs : List Int) : Prop := (∀ k, v.ownBlock = some k → ok k) ∧ Cut w base e v (xs.map (Value.int .i64))
section
variable {d : Kd Int} {e base b' n c cap g : Nat} {w w1 W : World} {ok ok' : Nat → Prop} {u v : Value} {xs : List Int} {A : Option Addr}
theorem Kd.P_lt (h : Kd.P d e w base ok v xs) : ∀ k, v.ownBlock = some k → k < w.heap.size := by
 intro k hk
 rcases h.2 with ⟨A, c, rfl, _, hA⟩ | ⟨g, cap, cur, rfl, hg, hh, _⟩
 ·cases A with
  | none => cases hk
  | some a => injection hk with hk; exact hk ▸ (hA a rfl).2
 ·injection hk with hk; exact hk ▸ blk_lt hh
theorem Kd.P_base (h : Kd.P d e w base ok v xs) : ∀ k, v.ownBlock = some k → base ≤ k := by
 intro k hk
 rcases h.2 with ⟨A, c, rfl, _, hA⟩ | ⟨g, cap, cur, rfl, hg, hh, _⟩
 ·cases A with
  | none => cases hk
  | some a => injection hk with hk; exact hk ▸ (hA a rfl).1
 ·injection hk with hk; exact hk ▸ hg
theorem Kd.P_mono (h : Kd.P d e w base ok v xs) (hok : ∀ k, ok k → ok' k) : Kd.P d e w base ok' v xs := ⟨fun k hk => hok k (h.1 k hk), h.2⟩
theorem Kd.P_lower (h : Kd.P d e w base ok v xs) (hb : b' ≤ base) : Kd.P d e w b' ok v xs := by
 refine ⟨h.1, ?_⟩
 rcases h.2 with ⟨A, c, rfl, h0, hA⟩ | ⟨g, cap, cur, rfl, hg, r⟩
 ·exact .inl ⟨A, c, rfl, h0, fun a ha => ⟨Nat.le_trans hb (hA a ha).1, (hA a ha).2⟩⟩
 ·exact .inr ⟨g, cap, cur, rfl, Nat.le_trans hb hg, r⟩
theorem Kd.P_step (h : Kd.P d e w base ok v xs) (hm : ∀ k, ok k → k < w.heap.size → w1.heap[k]? = w.heap[k]?) : Kd.P d e w1 base ok v xs := by
 refine ⟨h.1, ?_⟩
 have hlt := Kd.P_lt h
 have h0 := h.1
 rcases h.2 with ⟨A, c, rfl, h2, hA⟩ | ⟨g, cap, cur, rfl, hg, hh, r⟩
 ·refine .inl ⟨A, c, rfl, h2, fun a ha => ⟨(hA a ha).1, ?_⟩⟩
  subst ha
  have h3 := hlt a.block rfl
  have h4 := hm a.block (h0 _ rfl) h3
  rw [Array.getElem?_eq_getElem h3] at h4
  exact (Array.getElem?_eq_some_iff.1 h4).1
 ·exact .inr ⟨g, cap, cur, rfl, hg, (hm g (h0 g rfl) (hlt g rfl)).trans hh, r⟩
theorem Kd.P_below (h : Kd.P d e w base ok v xs) (hb : Below w.heap.size w w1) : Kd.P d e w1 base ok v xs := Kd.P_step h (fun k _ hk => hb.block k hk)
theorem Kd.P_alloc (h : Kd.P d e w base ok v xs) (o : Obj) : Kd.P d e (w.alloc o) base ok v xs := Kd.P_below h (below_alloc (Below.refl _ _) o)
theorem Kd.P_drew (h : Kd.P d e w base ok v xs) : Kd.P d e w.drew base ok v xs := Kd.P_below h (below_drew (Below.refl _ _))
theorem Kd.P_drewN (h : Kd.P d e w base ok v xs) (m : Nat) : Kd.P d e (w.drewN m) base ok v xs := Kd.P_below h (pw_below_drewN (Below.refl _ _) m)
theorem Kd.P_new' (h : Kd.P d e w1 W.heap.size ok v xs) (hlt : ∀ k, u.ownBlock = some k → k < W.heap.size) : Kd.P d e w1 W.heap.size (fun k => ok k ∧ some k ≠ u.ownBlock) v xs :=
 ⟨fun k hk => ⟨h.1 k hk, fun hu => by have := hlt k hu.symm; have := Kd.P_base h k hk; omega⟩, h.2⟩
theorem Kd.P_elder' (hu : Kd.P d e W base ok u xs) (hbase : ∀ k, v.ownBlock = some k → W.heap.size ≤ k) (hb : Below W.heap.size W w1) : Kd.P d e w1 base (fun k => ok k ∧ some k ≠ v.ownBlock) u xs := by
 have h := Kd.P_below hu hb
 exact ⟨fun k hk => ⟨h.1 k hk, fun hv => by have := hbase k hv.symm; have := Kd.P_lt hu k hk; omega⟩, h.2⟩
theorem Kd.P_slice (h : Kd.P d e w base ok v xs) : ∃ A c, v = .slice A xs.length c := by
 rcases h.2 with ⟨A, c, rfl, h0, _⟩ | ⟨g, cap, cur, rfl, _⟩
 ·obtain rfl : xs = [] := List.map_eq_nil_iff.mp h0
  exact ⟨A, c, rfl⟩
 ·exact ⟨_, cap, by rw [List.length_map]⟩
theorem Kd.P_form (h : Kd.P d e w base ok v xs) (hp : 0 < xs.length) : ∃ g cap, v = .slice (some ⟨g, 0, none⟩) xs.length cap ∧ base ≤ g ∧ g < w.heap.size ∧ ∃ cells, w.heap[g]? = some (.cells cells e (0, 0)) := by
 rcases h.2 with ⟨A, c, rfl, h0, _⟩ | ⟨g, cap, cur, rfl, hg, hh, _⟩
 ·obtain rfl : xs = [] := List.map_eq_nil_iff.mp h0
  simp at hp
 ·exact ⟨g, cap, by rw [List.length_map], hg, blk_lt hh, cur, hh⟩
theorem Kd.P_reads' (h : Kd.P d e w base ok (.slice A n c) xs) : n = xs.length ∧ n ≤ c ∧ Kd.C (Kd.int .i64) w A xs.length xs := by
 rcases h.2 with ⟨A', c', he, h0, _⟩ | ⟨g, cap, cur, he, hg, hh, h1, h2, h3, h4⟩
 ·obtain rfl : xs = [] := List.map_eq_nil_iff.mp h0
  injection he with _ he _
  subst he
  exact ⟨rfl, Nat.zero_le _, rfl, by simp, fun h => absurd h (by simp)⟩
 ·rw [List.length_map] at he h1 h4
  injection he with e1 e2 e3
  subst e1; subst e2; subst e3
  unfold maxLen at h3
  refine ⟨rfl, h1, rfl, by omega, fun _ => ⟨_, rfl, fun j p hj => ⟨[.int .i64 p], rfl, rfl, fun i u hu => ?_⟩⟩⟩
  rcases i with _ | i
  ·simp only [List.getElem?_cons_zero, Option.some.injEq] at hu
   subst hu
   rw [add_plain, blk_cell hh]
   have hjl := (List.getElem?_eq_some_iff.1 hj).1
   have h5 : (cur.toList.take xs.length)[j]? = (xs.map (Value.int .i64))[j]? := by rw [h4]
   rw [List.getElem?_take, if_pos hjl, Array.getElem?_toList, List.getElem?_map, hj] at h5
   simpa [Kd.int, Kd.scalar] using h5
  ·simp at hu
theorem Kd.P_celln (_z : Int) (h : Kd.P (Kd.int .i64) e W base ok (.slice (some ⟨g, 0, none⟩) n cap) xs) (i : Int) (h0 : 0 ≤ i) (hi : i < n) : W.cell? ⟨g, i.toNat, none⟩ = some (.int .i64 (rd xs i)) ∧ W.frozen? ⟨g, i.toNat, none⟩ = false := by
 obtain ⟨hn, _, hC⟩ := Kd.P_reads' h
 subst hn
 rcases h.2 with ⟨A', c', he, h2, _⟩ | ⟨g', cap', cur, he, hg, hh, h1, h2, h3, h4⟩
 ·obtain rfl : xs = [] := List.map_eq_nil_iff.mp h2
  simp at hi
  omega
 ·rw [List.length_map] at he h1 h4
  injection he with e1 e2 e3
  injection e1 with e1
  injection e1 with e1
  subst e1
  refine ⟨?_, blk_frozen hh _⟩
  rw [blk_cell hh]
  have hjl : i.toNat < xs.length := by omega
  have h5 : (cur.toList.take xs.length)[i.toNat]? = (xs.map (Value.int .i64))[i.toNat]? := by rw [h4]
  rw [List.getElem?_take, if_pos hjl, Array.getElem?_toList, List.getElem?_map, List.getElem?_eq_getElem hjl] at h5
  rw [h5]
  simp [rd, List.getElem?_eq_getElem hjl]
theorem Kd.P_putg (h : Kd.P (Kd.int .i64) e W base ok (.slice (some ⟨g, 0, none⟩) n cap) xs) (i : Int) (x : Int) : Kd.P (Kd.int .i64) e (W.setCell ⟨g, i.toNat, none⟩ (.int .i64 x)) base ok (.slice (some ⟨g, 0, none⟩) n cap) (xs.set i.toNat x) ∧ W.grownBy (W.setCell ⟨g, i.toNat, none⟩ (.int .i64 x)) (some g) := by
 have hsz : (W.setCell ⟨g, i.toNat, none⟩ (.int .i64 x)).heap.size = W.heap.size := by simp [World.setCell]
 refine ⟨⟨h.1, ?_⟩, ⟨rfl, rfl, rfl, by rw [hsz]; exact Nat.le_refl _, fun k hk hne => Below.heap_setCell W ⟨g, i.toNat, none⟩ _ k (fun e => hne (by rw [e]))⟩⟩
 rcases h.2 with ⟨A', c', he, h2, hA⟩ | ⟨g', cap', cur, he, hg, hh, h1, h2, h3, h4⟩
 ·obtain rfl : xs = [] := List.map_eq_nil_iff.mp h2
  exact .inl ⟨A', c', he, rfl, fun a ha => ⟨(hA a ha).1, by rw [hsz]; exact (hA a ha).2⟩⟩
 ·have e1 := he
  injection e1 with e1 e2 e3
  injection e1 with e1
  injection e1 with e1
  subst e1
  rw [List.length_map] at he h1 h4
  refine .inr ⟨g, cap', cur.setIfInBounds i.toNat (.int .i64 x), by rw [List.length_map, List.length_set]; exact he, hg, blk_set hh _ _, by rw [List.length_map, List.length_set]; exact h1, by simpa using h2, by simpa using h3, ?_⟩
  rw [List.length_map, List.length_set, Array.toList_setIfInBounds, List.take_set, h4, List.map_set]
end
def badZ (z : Int) : Bool := decide (z < 0) || decide (z ≥ 8)
def sortZ (l : List Int) : List Int := l.mergeSort fun x y => decide (x ≤ y)
def orderZ (l : List Int) : List Int := Lib.compactUpTo (sortZ l).toArray (sortZ l).toArray.size
def zone_Order.f (l0 : List Int) : Option (List Int × Int) := if l0.length * 8 ≤ 140737488355328 then (if l0.any badZ = true then some ([], 1) else some (orderZ l0, 0)) else none
set_option maxHeartbeats 2000000 in
theorem ints_idx (A1 : Option Addr) (c1 : Nat) (l1 : List Int) (w : World) (g : Nat) (eg : ∀ args w, (callFunc g args).run Try.prog w = .ok (.enter g args) w) (p : Int → Bool) (hr1 : Kd.C (Kd.int .i64) w A1 l1.length l1)
  (hp : ∀ (x : Int) (q : Nat), Calls Try.prog g #[.int .i64 x] (w.drewN q) fun e w' => e = .returned (.bool (p x)) ∧ ∃ q', w' = (w.drewN q).drewN q') :
  Calls Try.prog 49 #[.slice A1 l1.length c1, .func (.func g) #[] #[]] w fun e w' => (∃ i : Int, e = .returned (.int .i64 i) ∧ decide (i ≥ 0) = l1.any p) ∧ ∃ q, w' = w.drewN q := by
 have hlen : l1.length ≤ 9223372036854775807 := hr1.2.1
 have HR1 := Aside0.mk hr1
 have HP := Aside0.mk hp
 clear hr1 hp
 go_enter Try.func49, Try.ntmps49
 go_wp2
 go_loopg [5, 8] l1.length (fun gg _ s8 wr => ∃ kk q : Nat, kk ≤ l1.length ∧ l1.length - kk ≤ gg ∧ s8 = .int .i64 kk ∧ wr = w.drewN q ∧ Aside0 ((l1.take kk).any p = false))
 case atStart => exact ⟨0, 0, Nat.zero_le _, by omega, rfl, rfl, ⟨by simp⟩⟩
 case round =>
  obtain ⟨kk, q, hkk, hg, rfl, rfl, A⟩ := hrel
  by_cases hlt : kk < l1.length
  ·have hltz : (kk : Int) < (l1.length : Int) := by omega
   obtain ⟨ad, ead, hx⟩ := Kd.at_int HR1.out (kk : Int) (by omega) hltz
   cases ead
   have hxy : rd l1 (kk : Int) = l1[kk] := by simp [rd, List.getElem?_eq_getElem hlt]
   have T : l1.take (kk + 1) = l1.take kk ++ [l1[kk]] := by rw [List.take_succ_eq_append_getElem hlt]
   rw [hxy] at hx
   simp only [Int.toNat_natCast] at hx
   have hall : l1.any p = ((l1.take (kk + 1)).any p || (l1.drop (kk + 1)).any p) := by rw [← List.any_append, List.take_append_drop]
   have hcall := HP.out l1[kk]
   have HW := Aside0.mk (show wrap64 ((kk : Int) + 1) = ((kk + 1 : Nat) : Int) by unfold wrap64; omega)
   cases hq : p l1[kk] with
   | true =>
    rw [hq] at hcall
    have hr : l1.any p = true := by rw [hall, T, List.any_append]; simp [hq]
    generalize l1[kk] = y at hx hcall
    clear T hall hxy hq
    go_wp2_with (go_at_fn g; refine (hcall _).mono ?_; rintro e w' ⟨rfl, q', rfl⟩)
    go_ret
    exact ⟨⟨(kk : Int), rfl, by first | omega | (rw [hr]; exact decide_eq_true (by omega)) | (simp [hr]; done)⟩, _, rfl⟩
   | false =>
    rw [hq] at hcall
    have hr : (l1.take (kk + 1)).any p = false := by rw [T, List.any_append, A.out]; simp [hq]
    generalize l1[kk] = y at hx hcall
    clear T hall hxy hq
    go_wp2_with (go_at_fn g; refine (hcall _).mono ?_; rintro e w' ⟨rfl, q', rfl⟩)
    go_roundg (l1.length - (kk + 1))
    case measure => omega
    case rel => exact ⟨kk + 1, _, by omega, by omega, (by first | exact congrArg _ HW.out | rfl | (simp; done)), rfl, ⟨hr⟩⟩
  ·have hltz : ¬ (kk : Int) < (l1.length : Int) := by omega
   have : kk = l1.length := by omega
   subst this
   have hr := A.out
   rw [List.take_length] at hr
   go_wp2
   go_ret
   exact ⟨⟨-1, rfl, by first | omega | (rw [hr]; rfl) | (simp [hr]; done)⟩, q, rfl⟩
set_option maxHeartbeats 1000000 in
theorem ints_any (A1 : Option Addr) (c1 : Nat) (l1 : List Int) (w : World) (g : Nat) (eg : ∀ args w, (callFunc g args).run Try.prog w = .ok (.enter g args) w) (p : Int → Bool) (hr1 : Kd.C (Kd.int .i64) w A1 l1.length l1)
  (hp : ∀ (x : Int) (q : Nat), Calls Try.prog g #[.int .i64 x] (w.drewN q) fun e w' => e = .returned (.bool (p x)) ∧ ∃ q', w' = (w.drewN q).drewN q') :
  Calls Try.prog 35 #[.slice A1 l1.length c1, .func (.func g) #[] #[]] w fun e w' => e = .returned (.bool (l1.any p)) ∧ ∃ q, w' = w.drewN q := by
 have HI := Aside0.mk (ints_idx A1 c1 l1 w g eg p hr1 hp)
 clear hr1 hp
 go_enter Try.func35, Try.ntmps35
 go_wp2_with (go_at_call 49; refine HI.out.mono ?_; rintro e w' ⟨⟨i, rfl, hi⟩, q, rfl⟩; have hi := Aside0.mk hi)
 go_ret
 exact ⟨by rw [← hi.out]; rfl, q, rfl⟩
set_option maxHeartbeats 1000000 in
theorem bad_any (x : Int) (W : World) : Calls Try.prog 36 #[.int .i64 x] W fun e w' => e = .returned (.bool (badZ x)) ∧ ∃ q, w' = W.drewN q := by
 by_cases h1 : x < 0 <;> by_cases h2 : x ≥ 8
 all_goals
  go_enter Try.func36, Try.ntmps36
  go_wp2
  all_goals first | (exfalso; omega) | (go_ret; exact ⟨by simp [badZ, h1, h2], 0, rfl⟩)
/-- slices.ContainsFunc with bad, at a row that reads. -/
theorem bads_any (A : Option Addr) (c : Nat) (l : List Int) (w : World) (hr : Kd.C (Kd.int .i64) w A l.length l) :
  Calls Try.prog 35 #[.slice A l.length c, .func (.func 36) #[] #[]] w fun e w' => e = .returned (.bool (l.any badZ)) ∧ ∃ q, w' = w.drewN q :=
 ints_any A c l w 36 (enters_of Try.func36 (by kernel_rfl) rfl) badZ hr (fun x q => bad_any x _)
theorem own_grow {w : World} {base e n : Nat} {v : Value} {xs : List Value} {os : Array Obj} (h : w.ownsRow base e 1 v n xs) : (Go.Sort.grow w os).ownsRow base e 1 v n xs :=
 own_move h (fun k hk => Go.Sort.heap_grow_old w os (own_lt h k hk))
theorem below_grow_ {B : Nat} {w0 w : World} {os : Array Obj} (h : Below B w0 w) (hB : B ≤ w.heap.size) : Below B w0 (Go.Sort.grow w os) :=
 h.trans ⟨rfl, rfl, rfl, by simp [Go.Sort.grow], fun k hk => Go.Sort.heap_grow_old w os (by omega)⟩
set_option maxHeartbeats 1000000 in
theorem zone_Order_short (p : Option Addr) (c : Nat) (W : World) : Calls Try.prog 39 #[.slice p 0 c] W fun e w' => e = .returned (.slice p 0 c) ∧ w' = W := by
 go_enter Try.func39, Try.ntmps39
 go_wp2
 go_ret
 exact ⟨rfl, rfl⟩
set_option maxHeartbeats 1000000 in
theorem zone_Order_clip (p : Option Addr) (n c : Nat) (hn : n ≤ c) (hc : c ≤ maxLen) (hp : p = none → c = 0) (W : World) : Calls Try.prog 32 #[.slice p n c] W fun e w' => e = .returned (.slice p n n) ∧ w' = W := by
 unfold maxLen at hc
 go_enter Try.func32, Try.ntmps32
 go_wp2
 go_ret
 exact ⟨rfl, rfl⟩
set_option maxHeartbeats 2000000 in
set_option maxRecDepth 100000 in
theorem zone_Order_bad (A0 : Option Addr) (c0 : Nat) (l0 : List Int) (w : World) (hr0 : Kd.C (Kd.int .i64) w A0 l0.length l0) (hb : l0.any badZ = true) :
  Calls Try.prog 21 #[.slice A0 l0.length c0] w fun e w' => e = .returned (.tuple #[.slice none 0 0, .int .i64 1]) ∧ Below w.heap.size w w' := by
 have hC := bads_any A0 c0 l0 w hr0
 rw [hb] at hC
 have HC := Aside0.mk hC
 clear hC hr0 hb
 go_enter Try.func21, Try.ntmps21
 go_wp2_with (go_at_call 35; refine HC.out.mono ?_; rintro e w' ⟨rfl, q, rfl⟩)
 go_ret2
 exact ⟨rfl, pw_below_drewN (Below.refl _ _) _⟩
set_option maxHeartbeats 2000000 in
set_option maxRecDepth 100000 in
theorem zone_Order_good (A0 : Option Addr) (c0 : Nat) (l0 : List Int) (w : World) (hr0 : Kd.C (Kd.int .i64) w A0 l0.length l0) (hc0 : l0.length ≤ c0) (hb : l0.any badZ = false) (hlen : l0.length * 8 ≤ 140737488355328) :
  Calls Try.prog 21 #[.slice A0 l0.length c0] w fun e w' => ∃ v0_ : Value, e = .returned (.tuple #[v0_, .int .i64 0]) ∧ Cut w' w.heap.size 3 v0_ ((orderZ l0).map (Value.int .i64)) ∧ Below w.heap.size w w' := by
 have hC := bads_any A0 c0 l0 w hr0
 rw [hb] at hC
 have HC := Aside0.mk hC
 have hf : slices_Clone_int_int.f l0 = some l0 := by unfold slices_Clone_int_int.f; rw [if_pos hlen]
 have HCl := Aside0.mk (fun q : Nat => slices_Clone_int_int.calls A0 c0 l0 l0 (w.drewN q) (Kd.C_drewN hr0 q) hc0 hf)
 clear hC hr0 hb hf
 have HL := Aside0.mk hlen
 go_enter Try.func21, Try.ntmps21
 go_wp2_with (first | (go_at_call 35; refine HC.out.mono ?_; rintro e w' ⟨rfl, q, rfl⟩) | fail)
 refine (HCl.out _).mono ?_
 rintro e w1 ⟨v0, rfl, ho, hb⟩
 have hown : w1.ownsRow w.heap.size 3 1 v0 l0.length (l0.map (Value.int .i64)) := Kd.own_of_R ho
 have hB1 : Below w.heap.size w w1 := (pw_below_drewN (Below.refl _ _) q).trans hb
 have hz1 : w.heap.size ≤ w1.heap.size := hB1.size
 clear ho hb HC HCl
 by_cases he : l0 = []
 ·subst he
  obtain ⟨A, c, rfl, hA, hc, hAc⟩ : ∃ A c, v0 = .slice A 0 c ∧ (∀ a, A = some a → w.heap.size ≤ a.block ∧ a.block < w1.heap.size) ∧ c ≤ maxLen ∧ (A = none → c = 0) := by
   rcases hown.2 with ⟨rfl, _⟩ | ⟨g, cap, cur, rfl, h1, h2, h3, h4, _⟩
   ·exact ⟨none, 0, rfl, (fun a h => by cases h), Nat.zero_le _, fun _ => rfl⟩
   ·exact ⟨_, cap, rfl, (fun a h => by cases h; exact ⟨h1, blk_lt h2⟩), h4, fun h => by cases h⟩
  have e0 : orderZ [] = [] := by simp [orderZ, sortZ, Lib.compactUpTo]
  have HA2 := Aside0.mk hA
  have HE := Aside0.mk e0
  have HB1 := Aside0.mk hB1
  have HAc := Aside0.mk hAc
  have HSn := Aside0.mk (fun W : World => Try.slices_Sort_int_none A c W)
  clear hA e0 hB1 hown hAc
  go_wp2_with (first | (go_at_call 38; refine (HSn.out _).mono ?_; rintro e w' ⟨rfl, rfl⟩) | (go_at_call 39; refine (zone_Order_short _ _ _).mono ?_; rintro e w' ⟨rfl, rfl⟩) | (go_at_call 32; refine (zone_Order_clip _ 0 _ (Nat.zero_le _) hc HAc.out _).mono ?_; rintro e w' ⟨rfl, rfl⟩))
  go_ret2
  exact ⟨_, rfl, by rw [HE.out]; exact .inl ⟨A, 0, rfl, rfl, HA2.out⟩, HB1.out⟩
 ·have hpos : 0 < l0.length := by
   rcases Nat.eq_zero_or_pos l0.length with h | h
   ·exact absurd (List.eq_nil_of_length_eq_zero h) he
   ·exact h
  have hne : v0 ≠ .slice none 0 0 := by
   rintro rfl
   rcases hown.2 with ⟨_, h0⟩ | ⟨g, cap, cur, h1, _⟩
   ·omega
   ·cases h1
  obtain ⟨g, cap, rfl, hg0, hglt, hn, hm, hzl, hH⟩ := Lib.holds_of_ownsRow hown hne
  have hss : (sortZ l0).length = l0.length := by simp [sortZ]
  have hlen := HL.out
  have hS := Try.slices_Sort_int g 0 cap l0 w1 hH hglt (by omega)
  have HS := Aside0.mk hS
  have HO := Aside0.mk hown
  have HH := Aside0.mk hH
  have HB1 := Aside0.mk hB1
  have HN := Aside0.mk hss
  clear hS hown hH hB1 hss he hne hzl HL
  go_wp2_with fail
  refine HS.out.mono ?_
  rintro e w2 ⟨rfl, n, os, hw2⟩
  clear HS
  have hown2 : w2.ownsRow w.heap.size 3 1 (.slice (some ⟨g, 0, none⟩) l0.length cap) l0.length ((sortZ l0).map (Value.int .i64)) := by
   have := Lib.ownsRow_putRow (q := n) (k := l0.length) (ys := sortZ l0) HO.out HN.out (Nat.le_refl _)
   rw [List.take_of_length_le (Nat.le_of_eq HN.out)] at this
   rw [hw2]
   exact own_grow this
  have hB2 : Below w.heap.size w w2 := by
   rw [hw2]
   exact below_grow_ (Lib.below_putRow HB1.out hg0) (by rw [Go.Sort.size_putRow]; exact hz1)
  have hH2 : Go.Sort.Holds (Value.int .i64) w2 g 0 (sortZ l0).toArray := by
   rw [hw2]
   exact Go.Proofs.holds_sortWorld _ _ _ _ _ l0.toArray _ _ hglt HH.out (by simp [sortZ])
  have v23 : ∀ w, (zeroValue 3).run Try.prog w = .ok (.int .i64 0) w := fun w => by kernel_rfl
  have hN2 : (sortZ l0).toArray.size = l0.length := by simpa using HN.out
  have hC := Try.slices_Compact (Value.int .i64) (fun _ => rfl) (.intD _ _ _) (.intD _ _ _) 0 v23 g 0 cap (sortZ l0).toArray w2 hH2 (by rw [hN2]; omega) (by rw [hN2]; omega)
  rw [hN2] at hC
  have hml : (Lib.compactUpTo (sortZ l0).toArray l0.length).length ≤ l0.length := by
   unfold Lib.compactUpTo
   rw [List.length_map]
   exact Nat.le_trans (List.length_filter_le _ _) (by simp)
  have hoo : orderZ l0 = Lib.compactUpTo (sortZ l0).toArray l0.length := by unfold orderZ; rw [hN2]
  generalize Lib.compactUpTo (sortZ l0).toArray l0.length = M at hC hml hoo
  have HOO := Aside0.mk hoo
  have HC := Aside0.mk hC
  have HO2 := Aside0.mk hown2
  have HB2 := Aside0.mk hB2
  clear hC hown2 hB2 hH2 v23 hw2 HO HH HB1 hoo hN2
  have hzz := HB2.out.size
  go_wp2_with fail
  refine HC.out.mono ?_
  rintro e w3 ⟨rfl, q2, hw3⟩
  clear HC
  have hown3 : w3.ownsRow w.heap.size 3 1 (.slice (some ⟨g, 0, none⟩) M.length cap) M.length (M.map (Value.int .i64)) := by
   have := Lib.ownsRow_putRow (q := q2) (k := M.length) (ys := M ++ List.replicate (l0.length - M.length) 0) HO2.out (by simp; omega) hml
   rw [List.take_left'] at this
   ·rw [hw3]; exact this
   ·rfl
  have hB3 : Below w.heap.size w w3 := by rw [hw3]; exact Lib.below_putRow HB2.out hg0
  have HO3 := Aside0.mk hown3
  have HB3 := Aside0.mk hB3
  clear hown3 hB3 hw3 HO2 HB2
  have hmc : M.length ≤ cap := by omega
  go_wp2_with (go_at_call 32; refine (zone_Order_clip _ _ _ hmc hm (fun h => by cases h) _).mono ?_; rintro e w' ⟨rfl, rfl⟩)
  go_ret2
  refine ⟨_, rfl, ?_, HB3.out⟩
  rw [HOO.out]
  rcases HO3.out.2 with ⟨h0, _⟩ | ⟨g', cap', cur, h0, h1, h2, h3, h4, h5, h6⟩
  ·cases h0
  ·injection h0 with h7 _ h8
   injection h7 with h7
   injection h7 with h7
   subst h7 h8
   exact .inr ⟨g, M.length, cur, by rw [List.length_map]; rfl, h1, h2, by rw [List.length_map]; exact Nat.le_refl _, by omega, by omega, by rw [List.length_map]; simpa using h6⟩
theorem zone_Order.calls (A0 : Option Addr) (c0 : Nat) (l0 : List Int) (r1 : List Int) (r2 : Int) (w : World) (hr0 : Kd.C (Kd.int .i64) w A0 l0.length l0) (hc0 : l0.length ≤ c0) (h : zone_Order.f l0 = some (r1, r2)) :
  Calls Try.prog 21 #[.slice A0 l0.length c0] w fun e w' => ∃ v0_ : Value, e = .returned (.tuple #[v0_, .int .i64 r2]) ∧ Kd.P (Kd.int .i64) 3 w' w.heap.size (fun _ => True) v0_ r1 ∧ Below w.heap.size w w' := by
 unfold zone_Order.f at h
 split at h
 ·rename_i hh
  split at h
  ·rename_i hb
   injection h with h
   injection h with h1 h2
   subst h1 h2
   refine (zone_Order_bad A0 c0 l0 w hr0 hb).mono ?_
   rintro e w' ⟨rfl, hbel⟩
   exact ⟨_, rfl, ⟨fun k hk => trivial, .inl ⟨none, 0, rfl, rfl, fun a ha => by cases ha⟩⟩, hbel⟩
  ·rename_i hb
   injection h with h
   injection h with h1 h2
   subst h1 h2
   refine (zone_Order_good A0 c0 l0 w hr0 hc0 (by simpa using hb) hh).mono ?_
   rintro e w' ⟨v, rfl, hcut, hbel⟩
   exact ⟨v, rfl, ⟨fun _ _ => trivial, hcut⟩, hbel⟩
 ·cases h

/-! ### slices_Index_int_int: function 44 -/
def slices_Index_int_int.l0 : Nat → List Int → Int → Int → Int → Option (Int)
 | 0, _, _, _, _ => none
 | k + 1, x0, x1, x7, x8 => if x8 < x7 then (if 0 ≤ x8 then (if x8 < (x0.length : Int) then (if x1 = (rd x0 x8) then (some x8) else (slices_Index_int_int.l0 k x0 x1 x7 (wrap64 (x8 + 1)))) else (none)) else (none)) else (some (-1))
def slices_Index_int_int.f (k : Nat) (l0 : List Int) (a1 : Int) : Option (Int) := slices_Index_int_int.l0 k l0 a1 (l0.length : Int) 0
theorem slices_Index_int_int.mono_l : ∀ k, (∀ y0 y1 y2 y3, LeO (slices_Index_int_int.l0 k y0 y1 y2 y3) (slices_Index_int_int.l0 (k + 1) y0 y1 y2 y3))
 | 0 => fun _ _ _ _ r h => by simp [slices_Index_int_int.l0] at h
 | k + 1 => by
  have ih0 := slices_Index_int_int.mono_l k
  ·intro y0 y1 y2 y3
   unfold slices_Index_int_int.l0
   repeat' first
   | (with_reducible exact ih0 _ _ _ _)
   | (with_reducible exact LeO.refl _)
   | (with_reducible exact LeO.none _)
   | (with_reducible refine LeO.ite ?_ ?_)
   | (with_reducible refine LeO.bind ?_ (fun _ => ?_))
   | exact ih0 _ _ _ _
   | exact LeO.none _
   | refine LeO.ite ?_ ?_
   | refine LeO.bind ?_ (fun _ => ?_)
theorem slices_Index_int_int.mono : ∀ a0 a1 k, LeO (slices_Index_int_int.f k a0 a1) (slices_Index_int_int.f (k + 1) a0 a1) := by
 intro a0 a1 k
 have ih0 := slices_Index_int_int.mono_l k
 unfold slices_Index_int_int.f
 repeat' first
   | (with_reducible exact ih0 _ _ _ _)
   | (with_reducible exact LeO.refl _)
   | (with_reducible exact LeO.none _)
   | (with_reducible refine LeO.ite ?_ ?_)
   | (with_reducible refine LeO.bind ?_ (fun _ => ?_))
   | exact ih0 _ _ _ _
   | exact LeO.none _
   | refine LeO.ite ?_ ?_
   | refine LeO.bind ?_ (fun _ => ?_)
set_option maxHeartbeats 8000000 in
set_option maxRecDepth 100000 in
theorem slices_Index_int_int.calls (k : Nat) (A0 : Option Addr) (c0 : Nat) (l0 : List Int) (a1 : Int) (r : Int) (w : World) (hr0 : Kd.C (Kd.int .i64) w A0 l0.length l0) (hc0 : l0.length ≤ c0) (h : slices_Index_int_int.f k l0 a1 = some r) :
  Calls Try.prog 44 #[.slice A0 l0.length c0, .int .i64 a1] w fun e w' => e = .returned (.int .i64 r) ∧ Drawn0 w w' := by
 have HR0 := Aside0.mk hr0
 have HC0 := Aside0.mk hc0
 clear hr0 hc0
 have H : (slices_Index_int_int.l0 k l0 a1 (l0.length : Int) 0) = some r := h
 clear h
 have H' := Aside0.mk H
 clear H
 go_enter Try.func44, Try.ntmps44
 go_wp2
 go_loopg [8] k (fun kq v8 w' => ∃ (x8_1 : Int), v8 = .int .i64 x8_1 ∧ Aside0 (slices_Index_int_int.l0 kq l0 a1 (l0.length : Int) x8_1 = some r) ∧ Aside0 (kq ≤ k) ∧ Drawn0 w w')
 case atStart => exact ⟨(0), (by first | rfl | (simp; done) | (simp [*]; done)), H', ⟨Nat.le_refl _⟩, by repeat (first | exact Drawn0.refl _ | apply Drawn0.step)⟩
 case round =>
  clear H'
  try clear p2
  obtain ⟨x8_1, rfl, HA, HK1, ⟨m1, rfl⟩⟩ := hrel
  cases gk with
  | zero => exact absurd HA.out (by simp [slices_Index_int_int.l0])
  | succ k1 =>
   have H := HA.out
   clear HA
   simp only [slices_Index_int_int.l0] at H
   by_cases c3 : x8_1 < (l0.length : Int)
   ·rw [if_pos c3] at H
    have c3b0 : decide (x8_1 < (l0.length : Int)) = true := decide_eq_true c3
    clear c3
    by_cases c4 : 0 ≤ x8_1
    ·rw [if_pos c4] at H
     have c4b0 : decide (0 ≤ x8_1) = true := decide_eq_true c4
     clear c4
     by_cases c5 : x8_1 < (l0.length : Int)
     ·rw [if_pos c5] at H
      have c5b0 : decide (x8_1 < (l0.length : Int)) = true := decide_eq_true c5
      clear c5
      by_cases c6 : a1 = (rd l0 x8_1)
      ·rw [if_pos c6] at H
       have c6b0 : (a1 == (rd l0 x8_1)) = true := beq_iff_eq.mpr c6
       have c6b1 : (a1 != (rd l0 x8_1)) = false := bne_eq_false_iff_eq.mpr c6
       clear c6
       obtain rfl := Option.some.inj H
       have p103 : 0 ≤ (x8_1 : Int) := of_decide_eq_true (by first | (with_reducible assumption) | assumption)
       have q103 : x8_1 < (l0.length : Int) := of_decide_eq_true (by first | (with_reducible assumption) | assumption)
       obtain ⟨ad103, e103, hx103_0⟩ := Kd.at_int HR0.out x8_1 p103 q103
       cases e103
       replace p103 := eq_true p103
       replace q103 := eq_true q103
       go_wp2
       go_ret
       exact ⟨by first | rfl | (simp; done) | (simp [*]; done), by repeat (first | exact Drawn0.refl _ | apply Drawn0.step)⟩
      ·rw [if_neg c6] at H
       have c6b0 : (a1 == (rd l0 x8_1)) = false := beq_eq_false_iff_ne.mpr c6
       have c6b1 : (a1 != (rd l0 x8_1)) = true := bne_iff_ne.mpr c6
       have H' := Aside0.mk H
       clear H
       have p103 : 0 ≤ (x8_1 : Int) := of_decide_eq_true (by first | (with_reducible assumption) | assumption)
       have q103 : x8_1 < (l0.length : Int) := of_decide_eq_true (by first | (with_reducible assumption) | assumption)
       obtain ⟨ad103, e103, hx103_0⟩ := Kd.at_int HR0.out x8_1 p103 q103
       cases e103
       replace p103 := eq_true p103
       replace q103 := eq_true q103
       go_wp2
       go_roundg k1
       case measure => have := HK1.out; omega
       case rel => exact ⟨(wrap64 (x8_1 + 1)), (by first | rfl | (simp; done) | (simp [*]; done)), H', ⟨by have := HK1.out; omega⟩, by repeat (first | exact Drawn0.refl _ | apply Drawn0.step)⟩
     ·rw [if_neg c5] at H
      exact absurd H (by simp)
    ·rw [if_neg c4] at H
     exact absurd H (by simp)
   ·rw [if_neg c3] at H
    have c3b0 : decide (x8_1 < (l0.length : Int)) = false := decide_eq_false c3
    clear c3
    obtain rfl := Option.some.inj H
    go_wp2
    go_ret
    exact ⟨by first | rfl | (simp; done) | (simp [*]; done), by repeat (first | exact Drawn0.refl _ | apply Drawn0.step)⟩

/-! ### slices_Contains_int_int: function 43 -/
def slices_Contains_int_int.f (k : Nat) (l0 : List Int) (a1 : Int) : Option (Bool) := (slices_Index_int_int.f k l0 a1).bind fun t104 => (some (decide (t104 ≥ 0)))
theorem slices_Contains_int_int.mono : ∀ a0 a1 k, LeO (slices_Contains_int_int.f k a0 a1) (slices_Contains_int_int.f (k + 1) a0 a1) := by
 intro a0 a1 k
 unfold slices_Contains_int_int.f
 repeat' first
   | (with_reducible exact slices_Index_int_int.mono _ _ _)
   | (with_reducible exact LeO.refl _)
   | (with_reducible exact LeO.none _)
   | (with_reducible refine LeO.ite ?_ ?_)
   | (with_reducible refine LeO.bind ?_ (fun _ => ?_))
   | exact slices_Index_int_int.mono _ _ _
   | exact LeO.none _
   | refine LeO.ite ?_ ?_
   | refine LeO.bind ?_ (fun _ => ?_)
set_option maxHeartbeats 8000000 in
set_option maxRecDepth 100000 in
theorem slices_Contains_int_int.calls (k : Nat) (A0 : Option Addr) (c0 : Nat) (l0 : List Int) (a1 : Int) (r : Bool) (w : World) (hr0 : Kd.C (Kd.int .i64) w A0 l0.length l0) (hc0 : l0.length ≤ c0) (h : slices_Contains_int_int.f k l0 a1 = some r) :
  Calls Try.prog 43 #[.slice A0 l0.length c0, .int .i64 a1] w fun e w' => e = .returned (.bool r) ∧ Drawn0 w w' := by
 have HR0 := Aside0.mk hr0
 have HC0 := Aside0.mk hc0
 clear hr0 hc0
 have H : ((slices_Index_int_int.f k l0 a1).bind fun t104 => (some (decide (t104 ≥ 0)))) = some r := h
 clear h
 replace H := Option.bind_eq_some_iff.mp H
 obtain ⟨t104, A30, H⟩ := H
 replace H : (some (decide (t104 ≥ 0))) = some r := H
 have A3 := Aside0.mk A30
 clear A30
 obtain rfl := Option.some.inj H
 go_enter Try.func43, Try.ntmps43
 go_wp2_with (first | ((with_reducible refine gate_callee (f := 44) rfl ?_); refine goesL_ (some 7) rfl rfl Try.func44 (by kernel_rfl) rfl #[.slice A0 l0.length c0, .int .i64 a1] rfl (by (try simp only [List.map_toArray, List.map_cons, List.map_nil]); first | done | rfl | (simp only [List.length_drop, List.length_take]; rfl)) ?_; (with_reducible refine (slices_Index_int_int.calls k _ _ l0 a1 t104 _ ?side1 ?side2 A3.out).mono ?_); (case side1 => repeat (first | exact HR0.out | (with_reducible refine Kd.C_alloc ?_ _) | (with_reducible refine Kd.C_drewN ?_ _) | (with_reducible refine Kd.C_drew ?_))); (case side2 => exact HC0.out); rintro e w' ⟨rfl, ⟨nd, rfl⟩⟩; refine ⟨_, rfl, ?_⟩))
 go_ret
 exact ⟨by first | rfl | (simp; done) | (simp [*]; done), by repeat (first | exact Drawn0.refl _ | apply Drawn0.step)⟩

end Go.Proofs.Ytkdfohmceokchaa.PZonePieces
