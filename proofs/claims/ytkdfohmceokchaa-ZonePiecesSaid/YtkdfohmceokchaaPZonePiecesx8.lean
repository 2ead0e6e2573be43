-- Written by a program of this session (wip/oprint): after the pattern of the kit's print, which does not take this law. -- trimmed
import Derived.Test.YtkdfohmceokchaaPZonePiecesx0
import Derived.Test.YtkdfohmceokchaaPZonePiecesx7
namespace Go.Proofs.Ytkdfohmceokchaa.PZonePieces
open Go.RowKit Go.Proofs.YtkdfohmceokchaaW.PrintWords Go.Proofs.YtkdfohmceokchaaW.PrintLast Go.Proofs.YtkdfohmceokchaaW.PrintMore
attribute [local go_sem] max2_int min2_int max_two min_two max_three min_three max_four min_four   -- for this text's walks alone
set_option linter.unusedVariables false
set_option linter.unusedSimpArgs false

/-! ### zone_Pieces: function 12, given -/
/-! the pieces of a path; in memory: a row of headers, each of a row of its own -/
def zsnoc (out : List (List Int)) (d : Int) : List (List Int) := out.set (out.length - 1) (out.getD (out.length - 1) [] ++ [d])
def zcut (zf : Int → Option Int) : List Int → Int → List (List Int) → Option (Option (List (List Int)))
 | [], _, out => some (some out)
 | d :: r, last, out => (zf d).bind fun z => if z < 0 then some none else if z = last then zcut zf r last (zsnoc out d) else zcut zf r z (zsnoc (out ++ [[]]) d)
def zend : Option (List (List Int)) → List (List Int) × Int
 | none => ([], 1)
 | some o => (o, 0)
abbrev Hd := Option Addr × Nat × Nat
def encHd (x : Hd) : Value := .slice x.1 x.2.1 x.2.2
def kH : Kd Hd := Kd.scalar encHd (fun _ => rfl)
/-- The same, cut to its length. -/
def hclip (x : Hd) : Hd := (x.1, x.2.1, x.2.1)
theorem hclip_own (x : Hd) : (encHd (hclip x)).ownBlock = (encHd x).ownBlock := by
 obtain ⟨A, n, c⟩ := x
 cases A <;> rfl
/-- hs: the inner rows' headers as they were made; cur: as they stand now. -/
structure ZP (w : World) (base : Nat) (v : Value) (hs cur : List Hd) (ps : List (List Int)) : Prop where
 outer : kH.R 26 w base (fun _ => True) v cur
 lc : cur.length = hs.length
 lp : hs.length = ps.length
 inner : ∀ (j : Nat) (h : Hd) (p : List Int), hs[j]? = some h → ps[j]? = some p → w.ownsRow base 3 1 (encHd h) p.length (p.map (Value.int .i64))
 out : ∀ (j : Nat) (h : Hd), hs[j]? = some h → ∀ k, (encHd h).ownBlock = some k → v.ownBlock ≠ some k
 ap : ∀ (i j : Nat) (a b : Hd), hs[i]? = some a → hs[j]? = some b → i ≠ j → ∀ k, (encHd a).ownBlock = some k → (encHd b).ownBlock ≠ some k
theorem ZP.nil (w : World) (base : Nat) : ZP w base (.slice none 0 0) [] [] [] :=
 ⟨Kd.R_nil _ _ _ _ _, rfl, rfl, fun j h p hj => by simp at hj, fun j h hj => by simp at hj, fun i j a b hi => by simp at hi⟩
theorem ZP.own {w : World} {base : Nat} {v : Value} {hs cur : List Hd} {ps : List (List Int)} (h : ZP w base v hs cur ps) : w.ownsRow base 26 1 v cur.length (encs encHd cur) := Kd.own_of_R h.outer
/-- What leaves all its rows. -/
theorem ZP.step {w w1 : World} {base : Nat} {v : Value} {hs cur : List Hd} {ps : List (List Int)} (h : ZP w base v hs cur ps) (hm : ∀ k, k < w.heap.size → w1.heap[k]? = w.heap[k]?) : ZP w1 base v hs cur ps :=
 ⟨Kd.R_step h.outer (fun k _ hk => hm k hk), h.lc, h.lp, fun j a p ha hp => own_move (h.inner j a p ha hp) (fun k hk => hm k (own_lt (h.inner j a p ha hp) k hk)), h.out, h.ap⟩
theorem ZP.below {w w1 : World} {base : Nat} {v : Value} {hs cur : List Hd} {ps : List (List Int)} (h : ZP w base v hs cur ps) (hb : Below w.heap.size w w1) : ZP w1 base v hs cur ps := h.step (fun k hk => hb.block k hk)
theorem get_snoc {α : Type} {l : List α} {a b : α} {j : Nat} (h : (l ++ [a])[j]? = some b) : (j < l.length ∧ l[j]? = some b) ∨ (j = l.length ∧ b = a) := by
 rcases Nat.lt_or_ge j l.length with hlt | hge
 ·rw [List.getElem?_append_left hlt] at h; exact .inl ⟨hlt, h⟩
 ·rw [List.getElem?_append_right hge] at h
  rcases Nat.eq_or_lt_of_le hge with e | e
  ·rw [← e, Nat.sub_self] at h; simp at h; exact .inr ⟨e.symm, h.symm⟩
  ·rw [List.getElem?_eq_none (by simp; omega)] at h; cases h
/-- A new piece, empty yet. -/
theorem ZP.open_ {W w1 : World} {base : Nat} {v v1 : Value} {hs : List Hd} {ps : List (List Int)} (h : ZP W base v hs hs ps) (hr : kH.R 26 w1 base (fun _ => True) v1 (hs ++ [(none, 0, 0)])) (hg : W.grownBy w1 v.ownBlock)
  (hat : v1.ownBlock = v.ownBlock ∨ ∃ b, v1.ownBlock = some b ∧ W.heap.size ≤ b) : ZP w1 base v1 (hs ++ [(none, 0, 0)]) (hs ++ [(none, 0, 0)]) (ps ++ [[]]) := by
 refine ⟨hr, rfl, by simp [h.lp], fun j a p ha hp => ?_, fun j a ha k hk => ?_, fun i j a b ha hb hne k hk => ?_⟩
 ·rcases get_snoc ha with ⟨hj, ha⟩ | ⟨hj, rfl⟩
  ·rcases get_snoc hp with ⟨_, hp⟩ | ⟨hj2, _⟩
   ·have ho := h.inner j a p ha hp
    exact own_move ho (fun k hk => hg.block k (own_lt ho k hk) (fun e => h.out j a ha k hk e.symm))
   ·rw [h.lp] at hj; omega
  ·rcases get_snoc hp with ⟨hj2, _⟩ | ⟨_, rfl⟩
   ·rw [h.lp] at hj; omega
   ·exact own_nil _ _ _ _
 ·rcases get_snoc ha with ⟨hj, ha⟩ | ⟨hj, rfl⟩
  ·rcases hat with e | ⟨b, e, hb⟩
   ·rw [e]; exact h.out j a ha k hk
   ·rw [e]
    have hp : j < ps.length := by rw [← h.lp]; exact hj
    have := own_lt (h.inner j a _ ha (List.getElem?_eq_getElem hp)) k hk
    intro e2
    injection e2 with e2
    omega
  ·cases hk
 ·rcases get_snoc ha with ⟨hi, ha⟩ | ⟨hi, rfl⟩
  ·rcases get_snoc hb with ⟨hj, hb⟩ | ⟨hj, rfl⟩
   ·exact h.ap i j a b ha hb hne k hk
   ·intro e; cases e
  ·cases hk
theorem get_set {α : Type} {l : List α} {a b : α} {i j : Nat} (h : (l.set i a)[j]? = some b) : (j ≠ i ∧ l[j]? = some b) ∨ (j = i ∧ b = a) := by
 by_cases e : i = j
 ·subst e
  rw [List.getElem?_set] at h
  split at h
  ·split at h
   ·exact .inr ⟨rfl, by injection h with h; exact h.symm⟩
   ·cases h
  ·exact absurd rfl ‹_›
 ·rw [List.getElem?_set_ne e] at h
  exact .inl ⟨fun e2 => e e2.symm, h⟩
/-- One more in a piece: what it is now is in place. -/
theorem ZP.put {W w2 : World} {base : Nat} {G cap i : Nat} {hs : List Hd} {ps : List (List Int)} {a h2 : Hd} {p : List Int} {d : Int}
  (h : ZP W base (.slice (some ⟨G, 0, none⟩) hs.length cap) hs hs ps) (ha : hs[i]? = some a) (hp : ps[i]? = some p) (hr : (Kd.int .i64).R 3 w2 base (fun _ => True) (encHd h2) (p ++ [d])) (hg : W.grownBy w2 (encHd a).ownBlock)
  (hat : (encHd h2).ownBlock = (encHd a).ownBlock ∨ ∃ b, (encHd h2).ownBlock = some b ∧ W.heap.size ≤ b) :
  ZP (w2.setCell ⟨G, i, none⟩ (encHd h2)) base (.slice (some ⟨G, 0, none⟩) hs.length cap) (hs.set i h2) (hs.set i h2) (ps.set i (p ++ [d])) := by
 have hGl : G < W.heap.size := own_lt h.own G rfl
 have hil : i < hs.length := (List.getElem?_eq_some_iff.1 ha).1
 have hGa : (encHd a).ownBlock ≠ some G := fun e => h.out i a ha G e rfl
 have hG2 : (encHd h2).ownBlock ≠ some G := by
  rcases hat with e | ⟨b, e, hb⟩
  ·rw [e]; exact hGa
  ·rw [e]; intro e2; injection e2 with e2; omega
 have hO : kH.R 26 w2 base (fun _ => True) (.slice (some ⟨G, 0, none⟩) hs.length cap) hs :=
  Kd.R_of_own (own_move h.own (fun k hk => by
   have : G = k := by simpa [Value.ownBlock] using hk
   subst this
   exact hg.block _ hGl (fun e => hGa e.symm))) (fun _ _ => trivial)
 have hO2 := (Kd.R_putg hO (i : Int) h2).1
 rw [Int.toNat_natCast] at hO2
 refine ⟨hO2, rfl, by rw [List.length_set, List.length_set]; exact h.lp, fun j b q hb hq => ?_, fun j b hb k hk => ?_, fun j j' b b' hb hb' hne k hk => ?_⟩
 ·rcases get_set hb with ⟨hj, hb⟩ | ⟨hj, rfl⟩
  ·rcases get_set hq with ⟨_, hq⟩ | ⟨hj2, _⟩
   ·have ho := h.inner j b q hb hq
    have h1 := own_move ho (fun k hk => hg.block k (own_lt ho k hk) (fun e => h.ap i j a b ha hb (fun e2 => hj e2.symm) k e.symm hk))
    exact own_move h1 (fun k hk => Below.heap_setCell w2 _ _ k (fun e => h.out j b hb k hk (by show some G = some k; rw [show G = k from e.symm])))
   ·exact absurd hj2 hj
  ·rcases get_set hq with ⟨hj2, _⟩ | ⟨_, rfl⟩
   ·exact absurd hj hj2
   ·have ho := Kd.own_of_R hr
    exact own_move ho (fun k hk => Below.heap_setCell w2 _ _ k (fun e => hG2 (hk.trans (by rw [show k = G from e]))))
 ·rcases get_set hb with ⟨hj, hb⟩ | ⟨hj, rfl⟩
  ·exact h.out j b hb k hk
  ·intro e
   exact hG2 (hk.trans e.symm)
 ·have fresh : ∀ {x : Nat} {b : Hd}, hs[x]? = some b → ∀ k, (encHd b).ownBlock = some k → k < W.heap.size := fun {x b} hb k hk => by
   have hx : x < ps.length := by rw [← h.lp]; exact (List.getElem?_eq_some_iff.1 hb).1
   exact own_lt (h.inner x b _ hb (List.getElem?_eq_getElem hx)) k hk
  rcases get_set hb with ⟨hj, hb1⟩ | ⟨hj, e1⟩
  ·rcases get_set hb' with ⟨hj', hb2⟩ | ⟨hj', e2⟩
   ·exact h.ap j j' b b' hb1 hb2 hne k hk
   ·rw [e2]
    rcases hat with e | ⟨b2, e, hb3⟩
    ·rw [e]; exact h.ap j i b a hb1 ha hj k hk
    ·rw [e]
     intro e3
     injection e3 with e3
     have := fresh hb1 k hk
     omega
  ·rw [e1] at hk
   rcases get_set hb' with ⟨hj', hb2⟩ | ⟨hj', e2⟩
   ·rcases hat with e | ⟨b2, e, hb3⟩
    ·rw [e] at hk; exact h.ap i j' a b' ha hb2 (fun e3 => hj' e3.symm) k hk
    ·intro e3
     have := fresh hb2 k e3
     rw [e] at hk
     injection hk with hk
     omega
   ·exact absurd (hj.trans hj'.symm) hne
/-- A header is cut. -/
theorem ZP.clip {W : World} {base : Nat} {G cap i : Nat} {hs cur : List Hd} {ps : List (List Int)} {a : Hd} (h : ZP W base (.slice (some ⟨G, 0, none⟩) cur.length cap) hs cur ps) :
  ZP (W.setCell ⟨G, i, none⟩ (encHd a)) base (.slice (some ⟨G, 0, none⟩) cur.length cap) hs (cur.set i a) ps := by
 have hO2 := (Kd.R_putg h.outer (i : Int) a).1
 rw [Int.toNat_natCast] at hO2
 refine ⟨hO2, by rw [List.length_set]; exact h.lc, h.lp, fun j b q hb hq => ?_, h.out, h.ap⟩
 exact own_move (h.inner j b q hb hq) (fun k hk => Below.heap_setCell W _ _ k (fun e => h.out j b hb k hk (by show some G = some k; rw [show G = k from e.symm])))
theorem ZP.lower {w : World} {base b0 : Nat} {v : Value} {hs cur : List Hd} {ps : List (List Int)} (h : ZP w base v hs cur ps) (hb : b0 ≤ base) : ZP w b0 v hs cur ps :=
 ⟨Kd.R_lower h.outer hb, h.lc, h.lp, fun j a p ha hp => own_weaken (h.inner j a p ha hp) hb, h.out, h.ap⟩
theorem ZP.toN {w : World} {base b0 : Nat} {v : Value} {hs : List Hd} {ps : List (List Int)} (h : ZP w base v hs (hs.map hclip) ps) (hb : b0 ≤ base) : Kd.N (Kd.slice 3 (Kd.int .i64)) 26 w b0 (fun k => b0 ≤ k) v ps := by
 have hO := own_weaken h.own hb
 refine ⟨fun k hk => own_base hO k hk, (hs.map hclip).map (fun x => [encHd x]), by simp [h.lp], ⟨fun k hk => hk.symm, encs encHd (hs.map hclip), ?_, ?_, fun j p hj => ?_⟩, fun j x c hx hc => ?_⟩
 ·have h3 : w.ownsRow b0 26 1 v ((hs.map hclip).map (fun x => [encHd x])).length (encs encHd (hs.map hclip)) := by simpa using hO
  exact h3
 ·show (encs encHd (hs.map hclip)).length = _ * 1
  simp [encs]
 ·have h1 := (Kd.reps_scalar (enc := encHd) (hs.map hclip)).2
  rw [List.getElem?_map] at hj
  obtain ⟨y, hy, rfl⟩ := Option.map_eq_some_iff.1 hj
  have h2 := h1 j y hy
  have h4 : ((encs encHd (hs.map hclip)).drop (j * 1)).take 1 = [encHd y] := h2
  refine ⟨h4, by show (((encs encHd (hs.map hclip)).drop (j * 1)).take 1).length = 1; rw [h4]; rfl, fun u hu => ?_⟩
  rw [show List.take (Kd.raw (Kd.slice 3 (Kd.int IntKind.i64)).sz).sz (List.drop (j * (Kd.raw (Kd.slice 3 (Kd.int IntKind.i64)).sz).sz) (encs encHd (hs.map hclip))) = [encHd y] from h4] at hu
  simp at hu
  subst hu
  rfl
 ·rw [List.getElem?_map, List.getElem?_map] at hc
  obtain ⟨y, hy, rfl⟩ := Option.map_eq_some_iff.1 hc
  obtain ⟨z, hz, rfl⟩ := Option.map_eq_some_iff.1 hy
  intro W' hW
  have ho := h.inner j z x hz hx
  have ho2 : W'.ownsRow base 3 1 (encHd z) x.length (x.map (Value.int .i64)) := own_move ho (fun k hk => hW k ⟨Nat.le_trans hb (own_base ho k hk), fun e => h.out j z hz k hk e.symm⟩ (own_lt ho k hk))
  obtain ⟨A, c, hv, _, hC⟩ := Kd.R_reads (Kd.R_of_own (enc := Value.int .i64) (h1 := fun _ => rfl) (ok := fun _ => True) ho2 (fun _ _ => trivial))
  obtain ⟨A1, n1, c1⟩ := z
  injection hv with e1 e2 e3
  subst e1 e2 e3
  exact ⟨A1, x.length, rfl, Nat.le_refl _, hC⟩
theorem zone_Pieces_clip (p : Option Addr) (n c : Nat) (hn : n ≤ c) (hc : c ≤ maxLen) (hp : p = none → c = 0) (W : World) : Calls Try.prog 32 #[.slice p n c] W fun e w' => e = .returned (.slice p n n) ∧ w' = W := by
 unfold maxLen at hc
 go_enter Try.func32, Try.ntmps32
 go_wp2
 go_ret
 exact ⟨rfl, rfl⟩
def zone_Pieces.f (l0_0 : List S46) (l0_1 : List S43) (l1 : List Int) : Option (List (List Int) × Int) :=
 if l1.length * 24 + 24 ≤ 140737488355328 then (zcut (zone_zoneOf.f l0_0 l0_1) l1 (-1) []).map zend else none
theorem zcut_get {zf : Int → Option Int} {d : Int} {r : List Int} {last : Int} {out : List (List Int)} {o : Option (List (List Int))} (h : zcut zf (d :: r) last out = some o) :
  ∃ z, zf d = some z ∧ (if z < 0 then some none else if z = last then zcut zf r last (zsnoc out d) else zcut zf r z (zsnoc (out ++ [[]]) d)) = some o := by
 rw [zcut] at h
 obtain ⟨z, h1, h2⟩ := Option.bind_eq_some_iff.mp h
 exact ⟨z, h1, h2⟩
theorem rd_at (l : List Int) (i : Nat) (h : i < l.length) : rd l (i : Int) = l[i] := by simp [rd, List.getElem?_eq_getElem h]
theorem z_w {x : Int} (h : -9223372036854775808 ≤ x ∧ x < 9223372036854775808) : wrap64 x = x := by unfold wrap64; omega
/-- Where the cutting stands: i of the path's numbers are done. -/
structure ZS (zf : Int → Option Int) (l : List Int) (i kq : Nat) (last : Int) (n : Nat) (ps : List (List Int)) (o : Option (List (List Int))) : Prop where
 le : i ≤ l.length
 fuel : l.length - i < kq
 pn : n = ps.length
 few : ps.length ≤ i
 small : ∀ p ∈ ps, p.length ≤ i
 some_ : ps = [] → last < 0
 cut : zcut zf (l.drop i) last ps = some o
theorem ZS.snoc {zf : Int → Option Int} {l : List Int} {i kq nn n2 : Nat} {last last' d : Int} {n : Nat} {ps ps' : List (List Int)} {p : List Int} {o : Option (List (List Int))} (h : ZS zf l i kq last n ps o) (hi : i < l.length) (hf : ps'.length ≤ i + 1) (hs : ∀ p ∈ ps', p.length ≤ i)
  (hnn : ps'.length = nn + 1) (hp : ps'[nn]? = some p) (hn2 : n2 = ps'.length) (hc : zcut zf (l.drop (i + 1)) last' (zsnoc ps' d) = some o) : ZS zf l (i + 1) (kq - 1) last' n2 (ps'.set nn (p ++ [d])) o := by
 have hk := h.fuel
 refine ⟨hi, by omega, by rw [List.length_set]; exact hn2, by rw [List.length_set]; exact hf, fun q hq => ?_, fun e => ?_, ?_⟩
 ·rcases List.mem_or_eq_of_mem_set hq with hq | rfl
  ·have := hs q hq; omega
  ·rw [List.length_append, List.length_singleton]
   have := hs p (List.mem_of_getElem? hp)
   omega
 ·have := congrArg List.length e
  rw [List.length_set, hnn] at this
  cases this
 ·unfold zsnoc at hc
  rw [hnn, Nat.add_sub_cancel, List.getD_eq_getElem?_getD, hp] at hc
  exact hc
/-- The second loop: i headers are cut. -/
def ccur (hs : List Hd) (i : Nat) : List Hd := (hs.map hclip).take i ++ hs.drop i
theorem ccur_len (hs : List Hd) (i : Nat) (hi : i ≤ hs.length) : (ccur hs i).length = hs.length := by simp [ccur]; omega
theorem ccur_zero (hs : List Hd) : ccur hs 0 = hs := by simp [ccur]
theorem ccur_all (hs : List Hd) : ccur hs hs.length = hs.map hclip := by
 unfold ccur
 rw [List.drop_length, List.append_nil, List.take_of_length_le (by simp)]
theorem ccur_at (hs : List Hd) (i : Nat) (hi : i < hs.length) : (ccur hs i).getD i (none, 0, 0) = hs[i] := by
 simp [ccur, List.getD_eq_getElem?_getD, List.getElem?_append, List.getElem?_drop, Nat.min_eq_left (Nat.le_of_lt hi), List.getElem?_eq_getElem hi]
theorem ccur_set (hs : List Hd) (i : Nat) (hi : i < hs.length) : (ccur hs i).set i (hclip hs[i]) = ccur hs (i + 1) := by
 apply List.ext_getElem?
 intro j
 unfold ccur
 rw [List.getElem?_set]
 have hl : ((hs.map hclip).take i ++ hs.drop i).length = hs.length := by simp; omega
 rw [hl]
 simp only [List.getElem?_append, List.getElem?_take, List.getElem?_drop, List.length_take, List.length_map, Nat.min_eq_left (Nat.le_of_lt hi), Nat.min_eq_left hi, List.getElem?_map]
 by_cases h1 : i = j
 ·subst h1
  simp [hi, List.getElem?_eq_getElem hi]
 ·rw [if_neg h1]
  by_cases h2 : j < i
  ·simp [h2, show j < i + 1 by omega]
  ·have h3 : ¬ j < i + 1 := by omega
   rw [if_neg h2, if_neg h3]
   congr 1
   omega
set_option maxHeartbeats 8000000 in
set_option maxRecDepth 100000 in
theorem zone_Pieces.callsZ (A0_0 : Option Addr) (c0_0 : Nat) (l0_0 : List (S46)) (A0_1 : Option Addr) (c0_1 : Nat) (l0_1 : List (S43)) (A1 : Option Addr) (c1 : Nat) (l1 : List Int) (r1 : List (List Int)) (r2 : Int) (w : World) (hr0_0 : Kd.C k46 w A0_0 l0_0.length l0_0) (hc0_0 : l0_0.length ≤ c0_0) (hr0_1 : Kd.C k43 w A0_1 l0_1.length l0_1) (hc0_1 : l0_1.length ≤ c0_1) (hr1 : Kd.C (Kd.int .i64) w A1 l1.length l1) (hc1 : l1.length ≤ c1) (h : zone_Pieces.f l0_0 l0_1 l1 = some (r1, r2)) :
  Calls Try.prog 12 #[.agg #[.slice A0_0 l0_0.length c0_0, .slice A0_1 l0_1.length c0_1], .slice A1 l1.length c1] w fun e w' => ∃ (v0_ : Value) (hs : List Hd), e = .returned (.tuple #[v0_, .int .i64 r2]) ∧ ZP w' w.heap.size v0_ hs (hs.map hclip) r1 ∧ Below w.heap.size w w' := by
 have hu25 := Try.underlying25
 unfold zone_Pieces.f at h
 by_cases hl : l1.length * 24 + 24 ≤ 140737488355328
 ·rw [if_pos hl] at h
  obtain ⟨o, ho, he⟩ := Option.map_eq_some_iff.1 h
  obtain ⟨rfl, rfl⟩ : r1 = (zend o).1 ∧ r2 = (zend o).2 := by rw [he]; exact ⟨rfl, rfl⟩
  clear he
  have HL := Aside0.mk hl
  have HO := Aside0.mk ho
  have H0 := Aside0.mk (And.intro hr0_0 hc0_0)
  have H1 := Aside0.mk (And.intro hr0_1 hc0_1)
  have H2 := Aside0.mk hr1
  clear h hl ho hr0_0 hc0_0 hr0_1 hc0_1 hr1 hc1
  go_enter Try.func12, Try.ntmps12
  go_upto_region 1 with fail
  have HBa := Aside0.mk (below_alloc (Below.refl w.heap.size w) (.cells #[.slice A0_0 l0_0.length c0_0, .slice A0_1 l0_1.length c0_1] 25))
  have HKa := Aside0.mk (blk_new w (.cells #[.slice A0_0 l0_0.length c0_0, .slice A0_1 l0_1.length c0_1] 25))
  generalize w.alloc (.cells #[.slice A0_0 l0_0.length c0_0, .slice A0_1 l0_1.length c0_1] 25) = wa at HBa HKa ⊢
  have HG := Aside0.mk (HBa.out.size)
  generalize w.heap.size = g3 at HKa ⊢
  go_wp2
  go_loopg [6, 7, 14] (l1.length + 1) (fun kq v6 v7 v14 wr => ∃ (i : Nat) (last : Int) (hs : List Hd) (ps : List (List Int)), v7 = .int .i64 last ∧ v14 = .int .i64 (i : Int) ∧ Aside0 (Below wa.heap.size wa wr) ∧ Aside0 (ZP wr wa.heap.size v6 hs hs ps) ∧ Aside0 (ZS (zone_zoneOf.f l0_0 l0_1) l1 i kq last hs.length ps o))
  case atStart => exact ⟨0, -1, [], [], rfl, rfl, ⟨Below.refl _ _⟩, ⟨ZP.nil _ _⟩, ⟨⟨by omega, by omega, rfl, by simp, fun p hp => by simp at hp, fun _ => by decide, HO.out⟩⟩⟩
  case round =>
   clear HO
   obtain ⟨i, last, hs, ps, rfl, rfl, HB, HZ, HS⟩ := hrel
   by_cases hi : i < l1.length
   ·have hcut := HS.out.cut
    rw [List.drop_eq_getElem_cons hi] at hcut
    obtain ⟨z, hz, hc⟩ := zcut_get hcut
    have HBw := Aside0.mk (below_weaken HBa.out HBa.out.size HB.out)
    obtain ⟨ad, cs, e0, _, hcs, hx⟩ := Kd.C_get (Kd.C_below H2.out HBw.out) (0 : Int) (i : Int) (Int.natCast_nonneg i) (Int.ofNat_lt.2 hi)
    subst e0
    have hcs : cs = [.int .i64 (l1.getD i 0)] := by rw [Int.toNat_natCast] at hcs; exact hcs
    subst hcs
    have hx : wr.cell? (ad.add i) = some (.int .i64 l1[i]) := by
     have := hx 0 _ rfl
     rw [Int.toNat_natCast] at this
     simpa [List.getD_eq_getElem?_getD, List.getElem?_eq_getElem hi, Kd.int, Kd.scalar] using this
    have hb0 : wr.cell? ⟨g3, 0, none⟩ = some (.slice A0_0 l0_0.length c0_0) := (blk_cell (blk_below HKa.out HB.out) 0).trans rfl
    have hb1 : wr.cell? ⟨g3, 1, none⟩ = some (.slice A0_1 l0_1.length c0_1) := (blk_cell (blk_below HKa.out HB.out) 1).trans rfl
    have q1 := eq_true (Int.natCast_nonneg i)
    have q2 := eq_true (Int.ofNat_lt.2 hi : (i : Int) < (l1.length : Int))
    have d2 := decide_eq_true (Int.ofNat_lt.2 hi : (i : Int) < (l1.length : Int))
    have HIL := Aside0.mk hi
    have HZZ := Aside0.mk hz
    obtain ⟨d, hd⟩ : ∃ d, d = l1[i] := ⟨_, rfl⟩
    have HD := Aside0.mk hd
    rw [← hd] at hx hc
    have HCC := Aside0.mk hc
    clear hcut hz hc hd
    go_upto_region 7 with (go_at_call 31; refine (zone_zoneOf.calls _ _ l0_0 _ _ l0_1 d z wr (Kd.C_below H0.out.1 HBw.out) H0.out.2 (Kd.C_below H1.out.1 HBw.out) H1.out.2 (by rw [HD.out]; exact HZZ.out)).mono ?_; rintro e w2 ⟨rfl, hb⟩; have HZ2 := Aside0.mk (HZ.out.below hb); have HB2 := Aside0.mk (below_step HB.out hb); clear hb)
    clear HB HZ hb0 hb1 hx q1 q2 d2 HBw
    have HB := HB2
    have HZ := HZ2
    clear HB2 HZ2
    by_cases hz0 : z < 0
    ·have g1 := eq_true hz0
     have g2 := decide_eq_true hz0
     have HO := Aside0.mk hz0
     clear hz0
     go_wp2
     go_ret2
     have h9 := HCC.out
     rw [if_pos HO.out] at h9
     injection h9 with h9
     subst h9
     exact ⟨_, [], rfl, ZP.nil _ _, below_weaken HBa.out HBa.out.size HB.out⟩
    ·have g1 := eq_false hz0
     have g2 := decide_eq_false hz0
     have HC1 := Aside0.mk (show (if z = last then zcut (zone_zoneOf.f l0_0 l0_1) (l1.drop (i + 1)) last (zsnoc ps d) else zcut (zone_zoneOf.f l0_0 l0_1) (l1.drop (i + 1)) z (zsnoc (ps ++ [[]]) d)) = some o by have := HCC.out; rwa [if_neg hz0] at this)
     have HZ0 := Aside0.mk hz0
     clear hz0 HCC
     by_cases hzl : z = last
     ·subst hzl
      have HC2 := Aside0.mk (show zcut (zone_zoneOf.f l0_0 l0_1) (l1.drop (i + 1)) z (zsnoc ps d) = some o by have := HC1.out; rwa [if_pos rfl] at this)
      have HNE := Aside0.mk (show ps ≠ [] from fun e => HZ0.out (HS.out.some_ e))
      have HSM := Aside0.mk (And.intro (show ps.length ≤ i + 1 from Nat.le_succ_of_le HS.out.few) HS.out.small)
      clear HC1
      have hn0 : 0 < (hs).length := HZ.out.lp.symm ▸ List.length_pos_iff.2 HNE.out
      obtain ⟨G, cap, rfl, _, hGl, _⟩ := Kd.R_form HZ.out.outer hn0
      obtain ⟨nn, hnn⟩ : ∃ nn, (hs).length = nn + 1 := ⟨(hs).length - 1, by omega⟩
      have hnp : nn < (ps).length := by have := HZ.out.lp; omega
      have hnh : nn < (hs).length := by omega
      obtain ⟨p, hp⟩ : ∃ p, (ps)[nn]? = some p := ⟨_, List.getElem?_eq_getElem hnp⟩
      obtain ⟨a, ha⟩ : ∃ a, (hs)[nn]? = some a := ⟨_, List.getElem?_eq_getElem hnh⟩
      have hrow := Kd.R_of_own (enc := Value.int .i64) (h1 := fun _ => rfl) (ok := fun _ => True) (HZ.out.inner nn a p ha hp) (fun _ _ => trivial)
      obtain ⟨A2, c2, hv2, _, _⟩ := Kd.R_reads hrow
      obtain ⟨hcG, hfG⟩ := Kd.R_celln ((none, 0, 0) : Hd) HZ.out.outer (nn : Int) (Int.natCast_nonneg nn) (by omega)
      rw [Int.toNat_natCast] at hcG hfG
      rw [show rdOf ((none, 0, 0) : Hd) (hs) (nn : Int) = a from by unfold rdOf; rw [Int.toNat_natCast, List.getD_eq_getElem?_getD, ha]; rfl, hv2] at hcG
      rw [hv2] at hrow
      have HROW := Aside0.mk hrow
      have HA := Aside0.mk (And.intro ha (And.intro hp hv2))
      have HNN := Aside0.mk hnn
      have hw1 : wrap64 (((hs).length : Int) - 1) = (nn : Int) := by rw [z_w (by have := HZ.out.lp; have := HSM.out.1; have := HL.out; omega)]; omega
      have hq1 := eq_true (Int.natCast_nonneg nn)
      have hq2 := eq_true (Int.ofNat_lt.2 hnh : (nn : Int) < ((hs).length : Int))
      have HGL := Aside0.mk hGl
      have HNP := Aside0.mk hnp
      clear hn0 hnn hnp hnh ha hp hrow hv2 hGl
      generalize hlen : (hs).length = nh at hcG hfG hw1 hq1 hq2 ⊢
      have HLEN := Aside0.mk hlen
      clear hlen
      go_upto_region 13 with ((with_reducible refine gate_builtin (b := .append) (xs := #[.tmp 39, .tmp 41]) rfl ?_); at_builtin; refine Kd.R_append (Kd.int .i64) (w0 := wa) wa.heap.size rfl (.tmp 39) (.tmp 41) 26 3 (.int .i64 0) 8 rfl Try.underlying26 info3 rfl (by decide) (by omega) (.slice A2 p.length c2) p d [.int .i64 d] (fun _ => True) (fun _ => False) rfl rfl ?aP (fun _ hk => hk.elim) (fun _ _ => trivial) HROW.out HB.out HB.out.size ?aL ?_; (case aP => exact rfl); (case aL => have := HSM.out.2 p (List.mem_of_getElem? HA.out.2.1); have := HL.out; have := HIL.out; omega); intro v2 w3 ho hb hg hat; obtain ⟨A3, c3, rfl⟩ := Kd.R_slice ho; rw [List.length_append, List.length_singleton] at ho hat; have HA3 := Aside0.mk (And.intro ho (And.intro hg hat)); have HB3 := Aside0.mk hb; have hGa := HZ.out.out nn a HA.out.1; clear hb ho hat; have hcG3 := (World.cell?_of_block (a := ⟨G, nn, none⟩) (hg.block G HGL.out (fun e => by rw [HA.out.2.2] at hGa; exact hGa G e.symm rfl))).trans hcG; have hfG3 := (World.frozen?_of_block (a := ⟨G, nn, none⟩) (hg.block G HGL.out (fun e => by rw [HA.out.2.2] at hGa; exact hGa G e.symm rfl))).trans hfG; clear hg hGa hcG hfG)
      have hput := HZ.out.put (h2 := (A3, p.length + 1, c3)) (d := d) HA.out.1 HA.out.2.1 HA3.out.1 (by rw [HA.out.2.2]; exact HA3.out.2.1) (by rw [HA.out.2.2]; exact HA3.out.2.2)
      rw [HLEN.out] at hput
      change ZP (w3.setCell ⟨G, nn, none⟩ (.slice A3 (p.length + 1) c3)) _ _ _ _ _ at hput
      have HZ4 := Aside0.mk hput
      have HB4 := Aside0.mk (HB3.out.setCell (p := ⟨G, nn, none⟩) (own_base HZ.out.own G rfl) (.slice A3 (p.length + 1) c3))
      generalize w3.setCell ⟨G, nn, none⟩ (.slice A3 (p.length + 1) c3) = w4 at HZ4 HB4 ⊢
      have HS4 := Aside0.mk (HS.out.snoc (n2 := ((hs).set nn (A3, p.length + 1, c3)).length) HIL.out HSM.out.1 HSM.out.2 (HZ.out.lp.symm.trans HNN.out) HA.out.2.1 (by rw [List.length_set]; exact HZ.out.lp) HC2.out)
      have hii : wrap64 ((i : Int) + 1) = ((i + 1 : Nat) : Int) := by rw [z_w (by have := HIL.out; have := HL.out; omega)]; omega
      clear hput hcG3 hfG3 HA3 HB3
      go_wp2
      go_roundg (gk - 1)
      case measure => have := HS.out.fuel; have := HIL.out; omega
      case rel => exact ⟨i + 1, z, _, _, rfl, congrArg (Value.int .i64) (by first | exact hii | exact (Int.natCast_succ i).symm | (simp; done)), HB4, HZ4, HS4⟩
     ·have hzb : (z == last) = false := beq_eq_false_iff_ne.mpr hzl
      have hzc : (z != last) = true := bne_iff_ne.mpr hzl
      have HC2 := Aside0.mk (show zcut (zone_zoneOf.f l0_0 l0_1) (l1.drop (i + 1)) z (zsnoc (ps ++ [[]]) d) = some o by have := HC1.out; rwa [if_neg hzl] at this)
      have HNE := Aside0.mk (show ps ++ [[]] ≠ [] by simp)
      have HSM := Aside0.mk (show (ps ++ [[]]).length ≤ i + 1 ∧ ∀ p ∈ ps ++ [[]], p.length ≤ i from ⟨by have := HS.out.few; simp; exact this, fun p hp => by
       rcases List.mem_append.1 hp with hp | hp
       ·exact HS.out.small p hp
       ·obtain rfl : p = [] := by simpa using hp
        exact Nat.zero_le _⟩)
      clear HC1 hzl
      go_upto_region 12 with ((with_reducible refine gate_builtin (b := .append) (xs := #[.tmp 26, .tmp 27]) rfl ?_); at_builtin; refine Kd.R_append kH (w0 := wa) wa.heap.size rfl (.tmp 26) (.tmp 27) 30 26 (.slice none 0 0) 24 rfl Try.underlying30 info26 rfl (by decide) (by omega) _ hs ((none, 0, 0) : Hd) [.slice none 0 0] (fun _ => True) (fun _ => False) rfl rfl ?aP (fun _ hk => hk.elim) (fun _ _ => trivial) HZ.out.outer HB.out HB.out.size ?aL ?_; (case aP => exact rfl); (case aL => have := HS.out.pn; have := HS.out.few; have := HL.out; have := HIL.out; omega); intro v2 w3 ho hb hg hat; have HZ3 := Aside0.mk (HZ.out.open_ ho hg hat); have HB3 := Aside0.mk hb; clear hb ho hat hg)
      clear HB HZ hzb hzc
      have HB := HB3
      have HZ := HZ3
      clear HB3 HZ3
      have hn0 : 0 < ((hs ++ [((none, 0, 0) : Hd)])).length := HZ.out.lp.symm ▸ List.length_pos_iff.2 HNE.out
      obtain ⟨G, cap, rfl, _, hGl, _⟩ := Kd.R_form HZ.out.outer hn0
      obtain ⟨nn, hnn⟩ : ∃ nn, ((hs ++ [((none, 0, 0) : Hd)])).length = nn + 1 := ⟨((hs ++ [((none, 0, 0) : Hd)])).length - 1, by omega⟩
      have hnp : nn < ((ps ++ [[]])).length := by have := HZ.out.lp; omega
      have hnh : nn < ((hs ++ [((none, 0, 0) : Hd)])).length := by omega
      obtain ⟨p, hp⟩ : ∃ p, ((ps ++ [[]]))[nn]? = some p := ⟨_, List.getElem?_eq_getElem hnp⟩
      obtain ⟨a, ha⟩ : ∃ a, ((hs ++ [((none, 0, 0) : Hd)]))[nn]? = some a := ⟨_, List.getElem?_eq_getElem hnh⟩
      have hrow := Kd.R_of_own (enc := Value.int .i64) (h1 := fun _ => rfl) (ok := fun _ => True) (HZ.out.inner nn a p ha hp) (fun _ _ => trivial)
      obtain ⟨A2, c2, hv2, _, _⟩ := Kd.R_reads hrow
      obtain ⟨hcG, hfG⟩ := Kd.R_celln ((none, 0, 0) : Hd) HZ.out.outer (nn : Int) (Int.natCast_nonneg nn) (by omega)
      rw [Int.toNat_natCast] at hcG hfG
      rw [show rdOf ((none, 0, 0) : Hd) ((hs ++ [((none, 0, 0) : Hd)])) (nn : Int) = a from by unfold rdOf; rw [Int.toNat_natCast, List.getD_eq_getElem?_getD, ha]; rfl, hv2] at hcG
      rw [hv2] at hrow
      have HROW := Aside0.mk hrow
      have HA := Aside0.mk (And.intro ha (And.intro hp hv2))
      have HNN := Aside0.mk hnn
      have hw1 : wrap64 ((((hs ++ [((none, 0, 0) : Hd)])).length : Int) - 1) = (nn : Int) := by rw [z_w (by have := HZ.out.lp; have := HSM.out.1; have := HL.out; omega)]; omega
      have hq1 := eq_true (Int.natCast_nonneg nn)
      have hq2 := eq_true (Int.ofNat_lt.2 hnh : (nn : Int) < (((hs ++ [((none, 0, 0) : Hd)])).length : Int))
      have HGL := Aside0.mk hGl
      have HNP := Aside0.mk hnp
      clear hn0 hnn hnp hnh ha hp hrow hv2 hGl
      generalize hlen : ((hs ++ [((none, 0, 0) : Hd)])).length = nh at hcG hfG hw1 hq1 hq2 ⊢
      have HLEN := Aside0.mk hlen
      clear hlen
      go_upto_region 13 with ((with_reducible refine gate_builtin (b := .append) (xs := #[.tmp 39, .tmp 41]) rfl ?_); at_builtin; refine Kd.R_append (Kd.int .i64) (w0 := wa) wa.heap.size rfl (.tmp 39) (.tmp 41) 26 3 (.int .i64 0) 8 rfl Try.underlying26 info3 rfl (by decide) (by omega) (.slice A2 p.length c2) p d [.int .i64 d] (fun _ => True) (fun _ => False) rfl rfl ?aP (fun _ hk => hk.elim) (fun _ _ => trivial) HROW.out HB.out HB.out.size ?aL ?_; (case aP => exact rfl); (case aL => have := HSM.out.2 p (List.mem_of_getElem? HA.out.2.1); have := HL.out; have := HIL.out; omega); intro v2 w3 ho hb hg hat; obtain ⟨A3, c3, rfl⟩ := Kd.R_slice ho; rw [List.length_append, List.length_singleton] at ho hat; have HA3 := Aside0.mk (And.intro ho (And.intro hg hat)); have HB3 := Aside0.mk hb; have hGa := HZ.out.out nn a HA.out.1; clear hb ho hat; have hcG3 := (World.cell?_of_block (a := ⟨G, nn, none⟩) (hg.block G HGL.out (fun e => by rw [HA.out.2.2] at hGa; exact hGa G e.symm rfl))).trans hcG; have hfG3 := (World.frozen?_of_block (a := ⟨G, nn, none⟩) (hg.block G HGL.out (fun e => by rw [HA.out.2.2] at hGa; exact hGa G e.symm rfl))).trans hfG; clear hg hGa hcG hfG)
      have hput := HZ.out.put (h2 := (A3, p.length + 1, c3)) (d := d) HA.out.1 HA.out.2.1 HA3.out.1 (by rw [HA.out.2.2]; exact HA3.out.2.1) (by rw [HA.out.2.2]; exact HA3.out.2.2)
      rw [HLEN.out] at hput
      change ZP (w3.setCell ⟨G, nn, none⟩ (.slice A3 (p.length + 1) c3)) _ _ _ _ _ at hput
      have HZ4 := Aside0.mk hput
      have HB4 := Aside0.mk (HB3.out.setCell (p := ⟨G, nn, none⟩) (own_base HZ.out.own G rfl) (.slice A3 (p.length + 1) c3))
      generalize w3.setCell ⟨G, nn, none⟩ (.slice A3 (p.length + 1) c3) = w4 at HZ4 HB4 ⊢
      have HS4 := Aside0.mk (HS.out.snoc (n2 := (((hs ++ [((none, 0, 0) : Hd)])).set nn (A3, p.length + 1, c3)).length) HIL.out HSM.out.1 HSM.out.2 (HZ.out.lp.symm.trans HNN.out) HA.out.2.1 (by rw [List.length_set]; exact HZ.out.lp) HC2.out)
      have hii : wrap64 ((i : Int) + 1) = ((i + 1 : Nat) : Int) := by rw [z_w (by have := HIL.out; have := HL.out; omega)]; omega
      clear hput hcG3 hfG3 HA3 HB3
      go_wp2
      go_roundg (gk - 1)
      case measure => have := HS.out.fuel; have := HIL.out; omega
      case rel => exact ⟨i + 1, z, _, _, rfl, congrArg (Value.int .i64) (by first | exact hii | exact (Int.natCast_succ i).symm | (simp; done)), HB4, HZ4, HS4⟩
   ·have hcut := HS.out.cut
    rw [List.drop_eq_nil_of_le (by omega), zcut] at hcut
    obtain rfl := Option.some.inj hcut
    have HLE := Aside0.mk (show hs.length * 24 ≤ 140737488355328 by have := HS.out.pn; have := HS.out.few; have := HS.out.le; have := HL.out; omega)
    obtain ⟨A6, c6, rfl⟩ := Kd.R_slice HZ.out.outer
    have d2 : decide ((i : Int) < (l1.length : Int)) = false := decide_eq_false (by omega)
    have q2 := eq_false (show ¬ (i : Int) < (l1.length : Int) by omega)
    clear hi hcut HS
    generalize (i : Int) = κ at d2 q2 ⊢
    go_wp2
    have HZ0 : Aside0 (ZP wr wa.heap.size (.slice A6 hs.length c6) hs (ccur hs 0) ps) := by rw [ccur_zero]; exact HZ
    go_loopg [47] (hs.length + 1) (fun kq v47 wr => ∃ (j : Nat), v47 = .int .i64 (j : Int) ∧ Aside0 (Below wa.heap.size wa wr) ∧ Aside0 (ZP wr wa.heap.size (.slice A6 hs.length c6) hs (ccur hs j) ps) ∧ Aside0 (j ≤ hs.length ∧ hs.length - j < kq))
    case atStart => exact ⟨0, rfl, HB, HZ0, ⟨by omega⟩⟩
    case round =>
     clear HB HZ0 HZ d2 q2
     obtain ⟨j, rfl, HB, HZ, HJ⟩ := hrel
     by_cases hj : j < hs.length
     ·have q1 := eq_true (Int.natCast_nonneg j)
      have q2 := eq_true (Int.ofNat_lt.2 hj : (j : Int) < (hs.length : Int))
      have d2 := decide_eq_true (Int.ofNat_lt.2 hj : (j : Int) < (hs.length : Int))
      have hcl := ccur_len hs j (Nat.le_of_lt hj)
      obtain ⟨G, cap, hv, _, _, _⟩ := Kd.R_form HZ.out.outer (by rw [hcl]; omega)
      injection hv with hA hlen2 hcap
      subst hA hcap
      clear hlen2
      obtain ⟨hcG, hfG⟩ := Kd.R_celln ((none, 0, 0) : Hd) HZ.out.outer (j : Int) (Int.natCast_nonneg j) (by omega)
      rw [Int.toNat_natCast] at hcG hfG
      rw [show rdOf ((none, 0, 0) : Hd) (ccur hs j) (j : Int) = hs[j] from by unfold rdOf; rw [Int.toNat_natCast]; exact ccur_at hs j hj] at hcG
      have hset := ccur_set hs j hj
      have hjp : j < ps.length := by rw [← HZ.out.lp]; exact hj
      have hin := HZ.out.inner j hs[j] ps[j] (List.getElem?_eq_getElem hj) (List.getElem?_eq_getElem hjp)
      obtain ⟨a, ha⟩ : ∃ a, a = hs[j] := ⟨_, rfl⟩
      rw [← ha] at hcG hset hin
      obtain ⟨A2, n2, c2⟩ := a
      have hok : n2 ≤ c2 ∧ c2 ≤ maxLen ∧ (A2 = none → c2 = 0) := by
       rcases hin.2 with ⟨e, _⟩ | ⟨g, cap, cur, e, _, _, h1, h2, _⟩
       ·injection e with e1 e2 e3
        subst e1 e2 e3
        exact ⟨Nat.le_refl _, Nat.zero_le _, fun _ => rfl⟩
       ·injection e with e1 e2 e3
        subst e1 e2 e3
        exact ⟨h1, h2, fun e => by cases e⟩
      have hcG : wr.cell? ⟨G, j, none⟩ = some (.slice A2 n2 c2) := hcG
      have HOK := Aside0.mk hok
      have HSET := Aside0.mk hset
      have HJ2 := Aside0.mk hj
      have HCL := Aside0.mk hcl
      have hjj : wrap64 ((j : Int) + 1) = ((j + 1 : Nat) : Int) := by rw [z_w (by have := HLE.out; omega)]; omega
      clear hcl hset hjp hin ha hok hj
      go_upto_region 18 with (go_at_call 32; refine (zone_Pieces_clip A2 n2 c2 HOK.out.1 HOK.out.2.1 HOK.out.2.2 wr).mono ?_; rintro e w9 ⟨rfl, rfl⟩)
      have hz4 := HZ.out
      rw [← HCL.out] at hz4
      have hz5 := hz4.clip (i := j) (a := hclip (A2, n2, c2))
      rw [HSET.out, HCL.out] at hz5
      have HZ5 := Aside0.mk (show ZP (w9.setCell ⟨G, j, none⟩ (.slice A2 n2 n2)) wa.heap.size (.slice (some ⟨G, 0, none⟩) hs.length c6) hs (ccur hs (j + 1)) ps from hz5)
      have HB5 := Aside0.mk (HB.out.setCell (p := ⟨G, j, none⟩) (own_base HZ.out.own G rfl) (.slice A2 n2 n2))
      generalize w9.setCell ⟨G, j, none⟩ (.slice A2 n2 n2) = w8 at HZ5 HB5 ⊢
      clear hz4 hz5 hcG hfG HSET
      go_wp2
      go_roundg (gk - 1)
      case measure => have := HJ.out.2; have := HJ2.out; omega
      case rel => exact ⟨j + 1, congrArg (Value.int .i64) (by first | exact hjj | exact (Int.natCast_succ j).symm | (simp; done)), HB5, HZ5, ⟨by have := HJ.out.2; have := HJ2.out; omega⟩⟩
     ·have he : j = hs.length := by have := HJ.out.1; omega
      have hz9 := HZ.out
      rw [he, ccur_all] at hz9
      have HZ9 := Aside0.mk hz9
      have HBw := Aside0.mk (below_weaken HBa.out HBa.out.size HB.out)
      have d2 : decide ((j : Int) < (hs.length : Int)) = false := decide_eq_false (by omega)
      have q2 := eq_false (show ¬ (j : Int) < (hs.length : Int) by omega)
      clear hj he hz9 HZ HJ HB
      generalize (j : Int) = κ2 at d2 q2 ⊢
      go_wp2
      go_ret2
      exact ⟨_, _, rfl, HZ9.out.lower HBa.out.size, HBw.out⟩
 ·rw [if_neg hl] at h
  cases h
theorem zone_Pieces.calls (A0_0 : Option Addr) (c0_0 : Nat) (l0_0 : List (S46)) (A0_1 : Option Addr) (c0_1 : Nat) (l0_1 : List (S43)) (A1 : Option Addr) (c1 : Nat) (l1 : List Int) (r1 : List (List Int)) (r2 : Int) (w : World) (hr0_0 : Kd.C k46 w A0_0 l0_0.length l0_0) (hc0_0 : l0_0.length ≤ c0_0) (hr0_1 : Kd.C k43 w A0_1 l0_1.length l0_1) (hc0_1 : l0_1.length ≤ c0_1) (hr1 : Kd.C (Kd.int .i64) w A1 l1.length l1) (hc1 : l1.length ≤ c1) (h : zone_Pieces.f l0_0 l0_1 l1 = some (r1, r2)) :
  Calls Try.prog 12 #[.agg #[.slice A0_0 l0_0.length c0_0, .slice A0_1 l0_1.length c0_1], .slice A1 l1.length c1] w fun e w' => ∃ v0_ : Value, e = .returned (.tuple #[v0_, .int .i64 r2]) ∧ Kd.N (Kd.slice 3 (Kd.int .i64)) 26 w' w.heap.size (fun k => w.heap.size ≤ k) v0_ r1 ∧ Below w.heap.size w w' := by
 refine (zone_Pieces.callsZ A0_0 c0_0 l0_0 A0_1 c0_1 l0_1 A1 c1 l1 r1 r2 w hr0_0 hc0_0 hr0_1 hc0_1 hr1 hc1 h).mono ?_
 rintro e w' ⟨v, hs, rfl, hz, hb⟩
 exact ⟨v, rfl, hz.toN (Nat.le_refl _), hb⟩

/-! ### zone_Zones: function 13 -/
def zone_Zones.l0 : Nat → Int → List Int → List (List Int) → Int → Int → List (S46) → List (S43) → Option (List Int × Int)
 | 0, _, _, _, _, _, _, _ => none
 | k + 1, x7, x8, x17, x18, x19, x173000, x173001 => if x19 < x18 then (if 0 ≤ x19 then (if x19 < (x17.length : Int) then (if 0 < ((rd_L1 x17 x19).length : Int) then ((zone_zoneOf.f x173000 x173001 (rd (rd_L1 x17 x19) 0)).bind fun t179 => (if x8.length < 17592186044416 then (zone_Zones.l0 k x7 (x8 ++ [t179]) x17 x18 (wrap64 (x19 + 1)) x173000 x173001) else (none))) else (none)) else (none)) else (none)) else (some (x8, x7))
def zone_Zones.f (k : Nat) (l0_0 : List (S46)) (l0_1 : List (S43)) (l1 : List Int) : Option (List Int × Int) := (zone_Pieces.f l0_0 l0_1 l1).bind fun bt173 => (zone_Zones.l0 k bt173.2 ([] : List Int) bt173.1 (bt173.1.length : Int) 0 l0_0 l0_1)
theorem zone_Zones.mono_l : ∀ k, (∀ y0 y1 y2 y3 y4 y5 y6, LeO (zone_Zones.l0 k y0 y1 y2 y3 y4 y5 y6) (zone_Zones.l0 (k + 1) y0 y1 y2 y3 y4 y5 y6))
 | 0 => fun _ _ _ _ _ _ _ r h => by simp [zone_Zones.l0] at h
 | k + 1 => by
  have ih0 := zone_Zones.mono_l k
  ·intro y0 y1 y2 y3 y4 y5 y6
   unfold zone_Zones.l0
   repeat' first
   | (with_reducible exact ih0 _ _ _ _ _ _ _)
   | (with_reducible exact LeO.refl _)
   | (with_reducible exact LeO.none _)
   | (with_reducible refine LeO.ite ?_ ?_)
   | (with_reducible refine LeO.bind ?_ (fun _ => ?_))
   | exact ih0 _ _ _ _ _ _ _
   | exact LeO.none _
   | refine LeO.ite ?_ ?_
   | refine LeO.bind ?_ (fun _ => ?_)
theorem zone_Zones.mono : ∀ a0 a1 a2 k, LeO (zone_Zones.f k a0 a1 a2) (zone_Zones.f (k + 1) a0 a1 a2) := by
 intro a0 a1 a2 k
 have ih0 := zone_Zones.mono_l k
 unfold zone_Zones.f
 repeat' first
   | (with_reducible exact ih0 _ _ _ _ _ _ _)
   | (with_reducible exact LeO.refl _)
   | (with_reducible exact LeO.none _)
   | (with_reducible refine LeO.ite ?_ ?_)
   | (with_reducible refine LeO.bind ?_ (fun _ => ?_))
   | exact ih0 _ _ _ _ _ _ _
   | exact LeO.none _
   | refine LeO.ite ?_ ?_
   | refine LeO.bind ?_ (fun _ => ?_)
def zone_Zones.T6 : Bool × List (List Nat × List Nat) := (true, [([], []), ([], []), ([], []), ([2], [2]), ([3], [3]), ([1, 4], [1, 4]), ([5], [5]), ([0, 6, 5], [0, 6]), ([7, 7, 0, 1, 2, 3, 4, 5, 6, 7], [0, 7])])
def zone_Zones.B6 : List Nat := [0, 0, 0, 4, 12, 30, 62, 127, 255]
theorem zone_Zones.tab6 : rtab .any (opsOf Try.f13 6) = zone_Zones.T6 := by kernel_rfl
theorem zone_Zones.bits6 : waitsOk zone_Zones.T6.2 zone_Zones.B6 = true := by kernel_rfl
set_option maxHeartbeats 8000000 in
set_option maxRecDepth 100000 in
theorem zone_Zones.calls (k : Nat) (A0_0 : Option Addr) (c0_0 : Nat) (l0_0 : List (S46)) (A0_1 : Option Addr) (c0_1 : Nat) (l0_1 : List (S43)) (A1 : Option Addr) (c1 : Nat) (l1 : List Int) (r1 : List Int) (r2 : Int) (w : World) (hr0_0 : Kd.C k46 w A0_0 l0_0.length l0_0) (hc0_0 : l0_0.length ≤ c0_0) (hr0_1 : Kd.C k43 w A0_1 l0_1.length l0_1) (hc0_1 : l0_1.length ≤ c0_1) (hr1 : Kd.C (Kd.int .i64) w A1 l1.length l1) (hc1 : l1.length ≤ c1) (h : zone_Zones.f k l0_0 l0_1 l1 = some (r1, r2)) :
  Calls Try.prog 13 #[.agg #[.slice A0_0 l0_0.length c0_0, .slice A0_1 l0_1.length c0_1], .slice A1 l1.length c1] w fun e w' => ∃ v0_ : Value, e = .returned (.tuple #[v0_, .int .i64 r2]) ∧ Kd.R (Kd.int .i64) 3 w' w.heap.size (fun _ => True) v0_ r1 ∧ Below w.heap.size w w' := by
 have hu25 := Try.underlying25
 have HR0_0 := Aside0.mk hr0_0
 have HC0_0 := Aside0.mk hc0_0
 clear hr0_0 hc0_0
 have HR0_1 := Aside0.mk hr0_1
 have HC0_1 := Aside0.mk hc0_1
 clear hr0_1 hc0_1
 have HR1 := Aside0.mk hr1
 have HC1 := Aside0.mk hc1
 clear hr1 hc1
 have HB := Aside0.mk (Below.refl w.heap.size w)
 have H : ((zone_Pieces.f l0_0 l0_1 l1).bind fun bt173 => (zone_Zones.l0 k bt173.2 ([] : List Int) bt173.1 (bt173.1.length : Int) 0 l0_0 l0_1)) = some (r1, r2) := h
 clear h
 replace H := Option.bind_eq_some_iff.mp H
 obtain ⟨⟨t173, t176⟩, A30, H⟩ := H
 replace H : (zone_Zones.l0 k t176 ([] : List Int) t173 (t173.length : Int) 0 l0_0 l0_1) = some (r1, r2) := H
 have A3 := Aside0.mk A30
 clear A30
 have H' := Aside0.mk H
 clear H
 go_enter Try.func13, Try.ntmps13
 go_wp2_with (first | ((with_reducible refine gate_dst (N := 2) rfl ?_); refine box_event ?hg (N := 2) ?hd (cs := #[.slice A0_0 l0_0.length c0_0, .slice A0_1 l0_1.length c0_1]) (t := 25) ?hr ?_; (case hd => rfl); (case hg => rfl); (case hr => first | (go_simp; done) | (go_simp; rfl)); intro gb172 hg w4 hbox hb; have n0_ := Aside0.mk (below_step (by repeat (first | (with_reducible first | exact HB.out | apply below_alloc | apply pw_below_drewN | apply below_drew1) | exact HB.out)) hb); have n1_ := Aside0.mk (hbox); have n2_ := Aside0.mk ((by rw [hg]; exact (below_size (by repeat (first | (with_reducible first | exact HB.out | apply below_alloc | apply pw_below_drewN | apply below_drew1) | exact HB.out))) : w.heap.size ≤ gb172)); have n3_ := Aside0.mk ((by rw [hg]; exact (below_size (by repeat (first | (with_reducible first | exact HB.out | apply below_alloc | apply pw_below_drewN | apply below_drew1) | exact HB.out))) : w.heap.size ≤ gb172)); clear HB; have HB := n0_; have BK172 := n1_; have GW172 := n2_; have GE172 := n3_; clear n0_ n1_ n2_ n3_; clear hb hbox hg; have hcz5_0 : w4.cell? ⟨gb172, 0, none⟩ = some (.slice A0_0 l0_0.length c0_0) := (blk_cell BK172.out 0).trans rfl; have hcz5_1 : w4.cell? ⟨gb172, 1, none⟩ = some (.slice A0_1 l0_1.length c0_1) := (blk_cell BK172.out 1).trans rfl; have hfz5_0 := blk_frozen BK172.out 0; have hfz5_1 := blk_frozen BK172.out 1) | ((with_reducible refine gate_callee (f := 12) rfl ?_); refine goesL_ (some 14) rfl rfl Try.func12 (by kernel_rfl) rfl #[.agg #[.slice A0_0 l0_0.length c0_0, .slice A0_1 l0_1.length c0_1], .slice A1 l1.length c1] rfl (by (try simp only [List.map_toArray, List.map_cons, List.map_nil]); first | done | rfl | (simp only [List.length_drop, List.length_take]; rfl)) ?_; (with_reducible refine (zone_Pieces.calls _ _ l0_0 _ _ l0_1 _ _ l1 t173 t176 _ ?side1 ?side2 ?side3 ?side4 ?side5 ?side6 A3.out).mono ?_); (case side1 => repeat (first | exact (Kd.C_below HR0_0.out HB.out) | (with_reducible refine Kd.C_alloc ?_ _) | (with_reducible refine Kd.C_drewN ?_ _) | (with_reducible refine Kd.C_drew ?_))); (case side2 => exact HC0_0.out); (case side3 => repeat (first | exact (Kd.C_below HR0_1.out HB.out) | (with_reducible refine Kd.C_alloc ?_ _) | (with_reducible refine Kd.C_drewN ?_ _) | (with_reducible refine Kd.C_drew ?_))); (case side4 => exact HC0_1.out); (case side5 => repeat (first | exact (Kd.C_below HR1.out HB.out) | (with_reducible refine Kd.C_alloc ?_ _) | (with_reducible refine Kd.C_drewN ?_ _) | (with_reducible refine Kd.C_drew ?_))); (case side6 => exact HC1.out); rintro e w6 ⟨v174, rfl, ho0, hb⟩; refine ⟨_, rfl, ?_⟩; have n0_ := Aside0.mk (Kd.N_lower (Kd.N_mono (ok' := fun k_ => k_ ≠ gb172) ho0 (fun k_ hk_ => (Kd.freshB (g := gb172) (o := .cells #[.slice A0_0 l0_0.length c0_0, .slice A0_1 l0_1.length c0_1] 25 (0, 0)) (by (with_reducible repeat (first | refine blk_drewN ?_ _ | refine blk_drew ?_ | refine blk_alloc ?_ _)); exact BK172.out) k_ hk_))) (below_size (by repeat (first | (with_reducible first | exact HB.out | apply below_alloc | apply pw_below_drewN | apply below_drew1 | refine below_set ?_ GE172.out) | exact HB.out)))); have n1_ := Aside0.mk (blk_below (g := gb172) (o := .cells #[.slice A0_0 l0_0.length c0_0, .slice A0_1 l0_1.length c0_1] 25 (0, 0)) (by (with_reducible repeat (first | refine blk_drewN ?_ _ | refine blk_drew ?_ | refine blk_alloc ?_ _)); exact BK172.out) hb); have n2_ := Aside0.mk (below_step (by repeat (first | (with_reducible first | exact HB.out | apply below_alloc | apply pw_below_drewN | apply below_drew1 | refine below_set ?_ GE172.out) | exact HB.out)) hb); clear BK172; clear HB; have HO175 := n0_; have BK172 := n1_; have HB := n2_; clear n0_ n1_ n2_; (try clear hb); (try clear hb2); (try clear hk); (try clear hi); (try clear ho0); obtain ⟨Ao7, co7, eo7⟩ := Kd.N_slice HO175.out; subst eo7))
 go_loopg [8, 19] k (fun kq v8 v19 w' => ∃ (x8_1 : List Int) (x19_1 : Int), v19 = .int .i64 x19_1 ∧ Aside0 (zone_Zones.l0 kq t176 x8_1 t173 (t173.length : Int) x19_1 l0_0 l0_1 = some (r1, r2)) ∧ Aside0 (kq ≤ k) ∧ Aside0 (Kd.R (Kd.int .i64) 3 w' w.heap.size (fun _ => True) v8 x8_1) ∧ Aside0 (Kd.N (Kd.slice 3 (Kd.int .i64)) 26 w' w.heap.size (fun k_ => some k_ ≠ (v8 : Value).ownBlock ∧ k_ ≠ gb172) (.slice Ao7 t173.length co7) t173) ∧ Aside0 (w'.heap[gb172]? = some (.cells #[(.slice A0_0 l0_0.length c0_0), (.slice A0_1 l0_1.length c0_1)] 25 (0, 0))) ∧ Aside0 (Below w.heap.size w w'))
 case atStart => exact ⟨(([] : List Int)), (0), (by first | rfl | (simp; done) | (simp [*]; done)), H', ⟨Nat.le_refl _⟩, ⟨by first | exact Kd.R_nil _ _ _ _ _ | exact Kd.N_nil _ _ _ _ _ | exact Kd.V_nil _ _ _ _ _ | exact Kd.Q_nil _ _ _ _ _ | exact Kd.S_nil _ _ _ _ _⟩, ⟨by (with_reducible repeat (first | apply Kd.N_alloc | apply Kd.N_drewN | apply Kd.N_drew)); exact Kd.N_mono HO175.out (fun _ hk => ⟨(by simp [Value.ownBlock]), hk⟩)⟩, ⟨by (with_reducible repeat (first | refine blk_drewN ?_ _ | refine blk_drew ?_ | refine blk_alloc ?_ _)); exact BK172.out⟩, ⟨by repeat (first | (with_reducible first | exact HB.out | apply below_alloc | apply pw_below_drewN | apply below_drew1 | refine below_set ?_ GE172.out) | exact HB.out)⟩⟩
 case round =>
  clear H'
  try clear c1
  try clear p2
  try clear hcz5_0
  try clear hcz5_1
  try clear hfz5_0
  try clear hfz5_1
  obtain ⟨x8_1, x19_1, rfl, HA, HK1, HO_8, HO_17, BK172, HB⟩ := hrel
  cases gk with
  | zero => exact absurd HA.out (by simp [zone_Zones.l0])
  | succ k1 =>
   have H := HA.out
   clear HA
   simp only [zone_Zones.l0] at H
   by_cases c8 : x19_1 < (t173.length : Int)
   ·rw [if_pos c8] at H
    have c8b0 : decide (x19_1 < (t173.length : Int)) = true := decide_eq_true c8
    clear c8
    by_cases c9 : 0 ≤ x19_1
    ·rw [if_pos c9] at H
     have c9b0 : decide (0 ≤ x19_1) = true := decide_eq_true c9
     clear c9
     by_cases c10 : x19_1 < (t173.length : Int)
     ·rw [if_pos c10] at H
      have c10b0 : decide (x19_1 < (t173.length : Int)) = true := decide_eq_true c10
      clear c10
      by_cases c11 : 0 < ((rd_L1 t173 x19_1).length : Int)
      ·rw [if_pos c11] at H
       have c11b0 : decide (0 < ((rd_L1 t173 x19_1).length : Int)) = true := decide_eq_true c11
       have c11b1 : decide (0 < (rd_L1 t173 x19_1).length) = true := decide_eq_true (by omega)
       clear c11
       replace H := Option.bind_eq_some_iff.mp H
       obtain ⟨t179, A120, H⟩ := H
       replace H : (if x8_1.length < 17592186044416 then (zone_Zones.l0 k1 t176 (x8_1 ++ [t179]) t173 (t173.length : Int) (wrap64 (x19_1 + 1)) l0_0 l0_1) else (none)) = some (r1, r2) := H
       have A12 := Aside0.mk A120
       clear A120
       by_cases c13 : x8_1.length < 17592186044416
       ·rw [if_pos c13] at H
        have LMc13 := Aside0.mk c13
        clear c13
        obtain ⟨y180, hy180⟩ : ∃ y_ : List Int, y_ = (x8_1 ++ [t179]) := ⟨_, rfl⟩
        replace H : (zone_Zones.l0 k1 t176 y180 t173 (t173.length : Int) (wrap64 (x19_1 + 1)) l0_0 l0_1) = some (r1, r2) := by first | (rw [hy180]; with_reducible exact H) | (have H2_ := (Option.bind_some _ _).symm.trans H; rw [hy180]; with_reducible exact H2_) | (have H2_ := (Option.bind_some _ _).symm.trans H; with_reducible exact H2_) | with_reducible exact H | (rw [hy180]; exact H) | exact H
        have Ny180 := Aside0.mk hy180
        clear hy180
        have H' := Aside0.mk H
        clear H
        have p177 : 0 ≤ (x19_1 : Int) := of_decide_eq_true (by first | (with_reducible assumption) | assumption)
        have q177 : x19_1 < (t173.length : Int) := of_decide_eq_true (by first | (with_reducible assumption) | assumption)
        obtain ⟨ad177, A177_0, c177_0, e177, hx177_0, hl177_0, hi177_0⟩ := at_L1 (Kd.N_reads' HO_17.out).2.2 x19_1 p177 q177
        cases e177
        obtain ⟨ce177, hce177, hMe177, hcc177⟩ := Kd.N_get HO_17.out [] x19_1 p177 (by first | exact q177 | exact of_decide_eq_true (by first | (with_reducible assumption) | assumption) | (have e_ := (Kd.N_reads' HO_17.out).1; omega))
        obtain ⟨ua177_0, uc177_0, rfl, ul177_0, ge177_0⟩ := Kd.FK_slice_open hMe177
        have hv177_0 := hcc177 0 _ rfl
        rw [Nat.add_zero, show ((Kd.slice 3 (Kd.int .i64))).sz = 1 from rfl, Nat.mul_one] at hv177_0
        replace hv177_0 := Option.some.inj (hv177_0.symm.trans hx177_0)
        injection hv177_0 with hva_ hvn_ hvc_
        rw [hva_] at ge177_0
        rw [hvc_] at ul177_0
        have HL177_0 := Aside0.mk (show Kd.V (Kd.int .i64) 3 _ w.heap.size _ _ (rd_L1 t173 x19_1) from Kd.V_mk ul177_0 ge177_0)
        clear hva_ hvn_ hvc_ ge177_0 ul177_0
        clear hcc177 hce177
        have HR177_0 := Aside0.mk hi177_0
        have HC177_0 := Aside0.mk hl177_0
        clear hi177_0 hl177_0
        replace p177 := eq_true p177
        replace q177 := eq_true q177
        try go_wp2
        have n0_ := Aside0.mk (Kd.R_drew HO_8.out)
        have n1_ := Aside0.mk (Kd.N_drew HO_17.out)
        have n2_ := Aside0.mk (Kd.V_drew HL177_0.out)
        have n3_ := Aside0.mk (blk_drew BK172.out)
        have n4_ := Aside0.mk (Kd.C_drew HR177_0.out)
        have n5_ := Aside0.mk (below_drew1 HB.out)
        clear HO_8
        clear HO_17
        clear HL177_0
        clear BK172
        clear HR177_0
        clear HB
        have HO_8 := n0_
        have HO_17 := n1_
        have HL177_0 := n2_
        have BK172 := n3_
        have HR177_0 := n4_
        have HB := n5_
        clear n0_ n1_ n2_ n3_ n4_ n5_
        have p178 : 0 ≤ (0 : Int) := (by omega)
        have q178 : 0 < ((rd_L1 t173 x19_1).length : Int) := of_decide_eq_true (by first | (with_reducible assumption) | assumption)
        obtain ⟨ad178, e178, hx178_0⟩ := Kd.at_int (by repeat (first | (with_reducible exact HR177_0.out) | (with_reducible refine Kd.C_alloc ?_ _) | (with_reducible refine Kd.C_drewN ?_ _) | (with_reducible refine Kd.C_drew ?_) | exact HR177_0.out)) 0 p178 q178
        cases e178
        have qi178 : (0 < (rd_L1 t173 x19_1).length) = True := eq_true (by omega)
        (try rw [show ((0 : Int)).toNat = 0 from rfl] at hx178_0)
        (try rw [Addr.add_zero'] at hx178_0)
        replace p178 := eq_true p178
        replace q178 := eq_true q178
        refine start_ (n := 9) (S := fun w' => w'.cell? ⟨gb172, 0, none⟩ = some (.slice A0_0 l0_0.length c0_0) ∧ w'.cell? ⟨gb172, 1, none⟩ = some (.slice A0_1 l0_1.length c0_1) ∧ w'.cell? ad178 = some (.int .i64 (rd (rd_L1 t173 x19_1) 0))) (ds := [6, 7]) #[false, false, false, false, false, false, false, false, false] (by kernel_rfl) rfl rfl ⟨(blk_cell BK172.out 0).trans rfl, (blk_cell BK172.out 1).trans rfl, hx178_0⟩ (fun hHeld => ?_); refine with_tabW zone_Zones.tab6 zone_Zones.bits6 (fun HT_ HW_ => ?_)
        generalize wr.drew = w14 at HO_8 HO_17 HL177_0 BK172 HR177_0 HB hx178_0 hHeld ⊢
        refine pure_ (i := 0) (N := some 23) (v := ?_) (a' := ?_) #[true, false, false, false, false, false, false, false, false] rfl rfl (any_of HT_.out (by kernel_rfl)) (fun _ _ _ h => h) (Or.inl ⟨by rfl, ?_⟩) ?_ ?_
        rotate_left
        ·intro w'
         go_simp
         with_reducible rfl
        rotate_left
        ·simp only [Act.put, List.setIfInBounds_toArray, List.set_cons_zero, List.set_cons_succ, i64_w, i32_w]
         rfl
        refine pure_ (i := 2) (N := some 25) (v := ?_) (a' := ?_) #[true, false, true, false, false, false, false, false, false] rfl rfl (any_of HT_.out (by kernel_rfl)) (fun _ _ _ h => h) (Or.inl ⟨by rfl, ?_⟩) ?_ ?_
        rotate_left
        ·intro w'
         go_simp
         with_reducible rfl
        rotate_left
        ·simp only [Act.put, List.setIfInBounds_toArray, List.set_cons_zero, List.set_cons_succ, i64_w, i32_w]
         rfl
        refine pure_ (i := 3) (N := some 26) (v := ?_) (a' := ?_) #[true, false, true, true, false, false, false, false, false] rfl rfl (any_of HT_.out (by kernel_rfl)) (fun _ _ _ h => h) (Or.inl ⟨by rfl, ?_⟩) ?_ ?_
        rotate_left
        ·intro w'
         go_simp
         with_reducible rfl
        rotate_left
        ·simp only [Act.put, List.setIfInBounds_toArray, List.set_cons_zero, List.set_cons_succ, i64_w, i32_w]
         rfl
        refine take_ (i := 1) (N := some 24) (v := ?_) (a' := ?_) #[true, true, true, true, false, false, false, false, false] rfl rfl (take_ofW HT_.out HW_.out (by kernel_rfl)) (fun _ _ _ h => h) (Or.inl ⟨by rfl, ?_⟩) hHeld ?_ ?_
        rotate_left
        ·rintro w' ⟨s0, s1, s2⟩
         go_simp
         with_reducible rfl
        rotate_left
        ·simp only [Act.put, List.setIfInBounds_toArray, List.set_cons_zero, List.set_cons_succ, i64_w, i32_w]
         rfl
        refine take_ (i := 4) (N := some 27) (v := ?_) (a' := ?_) #[true, true, true, true, true, false, false, false, false] rfl rfl (take_ofW HT_.out HW_.out (by kernel_rfl)) (fun _ _ _ h => h) (Or.inl ⟨by rfl, ?_⟩) hHeld ?_ ?_
        rotate_left
        ·rintro w' ⟨s0, s1, s2⟩
         go_simp
         with_reducible rfl
        rotate_left
        ·simp only [Act.put, List.setIfInBounds_toArray, List.set_cons_zero, List.set_cons_succ, i64_w, i32_w]
         rfl
        refine one_ (i := 5) (N := some 28) #[true, true, true, true, true, true, false, false, false] rfl rfl (one_of HT_.out (by kernel_rfl)) (by decide) (fun K hK => ?_)
        refine goes_ Try.func31 (by kernel_rfl) rfl #[.agg #[.slice A0_0 l0_0.length c0_0, .slice A0_1 l0_1.length c0_1], .int .i64 (rd (rd_L1 t173 x19_1) 0)] (by rfl) rfl rfl (by (try simp only [List.map_toArray, List.map_cons, List.map_nil]); first | done | rfl | (simp only [List.length_drop, List.length_take]; rfl)) ?_
        with_reducible refine (zone_zoneOf.calls _ _ l0_0 _ _ l0_1 (rd (rd_L1 t173 x19_1) 0) t179 _ ?side1 ?side2 ?side3 ?side4 A12.out).mono ?_
        (case side1 => repeat (first | exact (Kd.C_below HR0_0.out HB.out) | (with_reducible refine Kd.C_alloc ?_ _) | (with_reducible refine Kd.C_drewN ?_ _) | (with_reducible refine Kd.C_drew ?_)))
        (case side2 => exact HC0_0.out)
        (case side3 => repeat (first | exact (Kd.C_below HR0_1.out HB.out) | (with_reducible refine Kd.C_alloc ?_ _) | (with_reducible refine Kd.C_drewN ?_ _) | (with_reducible refine Kd.C_drew ?_)))
        (case side4 => exact HC0_1.out)
        rintro e w15 ⟨rfl, hb⟩
        have HS2_ := (hb.cell (World.block_lt_of_cell? _ _ (hHeld.2.2))).trans (hHeld.2.2)
        refine ⟨_, rfl, ?_⟩
        have n0_ := Aside0.mk (Kd.R_below (by (with_reducible repeat (first | apply Kd.R_alloc | apply Kd.R_drewN | apply Kd.R_drew)); exact HO_8.out) hb)
        have n1_ := Aside0.mk (Kd.N_below (by (with_reducible repeat (first | apply Kd.N_alloc | apply Kd.N_drewN | apply Kd.N_drew)); exact HO_17.out) hb)
        have n2_ := Aside0.mk (Kd.V_below (by (with_reducible repeat (first | apply Kd.V_alloc | apply Kd.V_drewN | apply Kd.V_drew)); exact HL177_0.out) hb)
        have n3_ := Aside0.mk (blk_below (g := gb172) (o := .cells #[.slice A0_0 l0_0.length c0_0, .slice A0_1 l0_1.length c0_1] 25 (0, 0)) (by (with_reducible repeat (first | refine blk_drewN ?_ _ | refine blk_drew ?_ | refine blk_alloc ?_ _)); exact BK172.out) hb)
        have n4_ := Aside0.mk (Kd.C_below (by repeat (first | (with_reducible exact HR177_0.out) | (with_reducible refine Kd.C_alloc ?_ _) | (with_reducible refine Kd.C_drewN ?_ _) | (with_reducible refine Kd.C_drew ?_) | exact HR177_0.out)) hb)
        have n5_ := Aside0.mk (below_step (by repeat (first | (with_reducible first | exact HB.out | apply below_alloc | apply pw_below_drewN | apply below_drew1 | refine below_set ?_ GE172.out) | exact HB.out)) hb)
        clear HO_8
        clear HO_17
        clear HL177_0
        clear BK172
        clear HR177_0
        clear HB
        have HO_8 := n0_
        have HO_17 := n1_
        have HL177_0 := n2_
        have BK172 := n3_
        have HR177_0 := n4_
        have HB := n5_
        clear n0_ n1_ n2_ n3_ n4_ n5_
        (try clear hb)
        (try clear hb2)
        (try clear hk)
        (try clear hi)
        refine hK.out _ _ ⟨(blk_cell BK172.out 0).trans rfl, (blk_cell BK172.out 1).trans rfl, HS2_⟩ (fun hHeld => ?_)
        clear hK K
        refine norm_ (a' := ?_) ?_ ?_
        rotate_left
        ·show Act.put _ (some 28) _ = _
         simp only [Act.put, List.setIfInBounds_toArray, List.set_cons_zero, List.set_cons_succ, i64_w, i32_w]
         rfl
        refine last_ (i := 6) (N := some 29) #[true, true, true, true, true, true, true, false, false] rfl rfl (one_of HT_.out (by kernel_rfl)) (by decide) (fun K hK => ?_)
        refine value_ (w1 := ?_) (v := ?_) (by rfl) rfl ?_ ?_
        rotate_left 2
        ·go_simp
         constructor
         ·rfl
         ·rfl
        refine hK.out _ _ ?_
        clear hK K
        refine norm_ (a' := ?_) ?_ ?_
        rotate_left
        ·show Act.put _ (some 29) _ = _
         simp only [Act.put, List.setIfInBounds_toArray, List.set_cons_zero, List.set_cons_succ, i64_w, i32_w]
         rfl
        refine last_ (i := 7) (N := some 30) #[true, true, true, true, true, true, true, true, false] rfl rfl (one_of HT_.out (by kernel_rfl)) (by decide) (fun K hK => ?_)
        refine Kd.R_append_step (Kd.int .i64) (w0 := w) w.heap.size (by rfl) (.tmp 23) (.tmp 29) 26 3 (.int .i64 0) 8 rfl Try.underlying26 info3 rfl (by decide) (by omega) u8 x8_1 t179 [.int .i64 t179] (fun _ => True) (fun _ => False) rfl rfl ?aP (fun _ hk => hk.elim) ?aF ?aO ?aB ?aS ?aL ?_
        (case aP => exact rfl)
        (case aB => exact (by repeat (first | (with_reducible first | exact HB.out | apply below_alloc | apply pw_below_drewN | apply below_drew1 | refine below_set ?_ GE172.out) | exact HB.out)))
        (case aF => exact (fun _ _ => trivial))
        (case aO => exact (by (with_reducible repeat (first | apply Kd.R_alloc | apply Kd.R_drewN | apply Kd.R_drew)); exact HO_8.out))
        (case aS => exact (below_size (by repeat (first | (with_reducible first | exact HB.out | apply below_alloc | apply pw_below_drewN | apply below_drew1 | refine below_set ?_ GE172.out) | exact HB.out))))
        (case aL => have := LMc13.out; omega)
        intro v181 w16 ho hb hg hat
        rw [← Ny180.out] at ho
        have n0_ := Aside0.mk (Kd.N_afterv (ok := (fun k_ => k_ ≠ gb172)) (by (with_reducible repeat (first | apply Kd.N_alloc | apply Kd.N_drewN | apply Kd.N_drew)); exact Kd.N_mono HO_17.out (fun _ hk => ⟨hk.2, hk.1⟩)) hg hat)
        have n1_ := Aside0.mk (blk_grown (g := gb172) (o := .cells #[.slice A0_0 l0_0.length c0_0, .slice A0_1 l0_1.length c0_1] 25 (0, 0)) (by (with_reducible repeat (first | refine blk_drewN ?_ _ | refine blk_drew ?_ | refine blk_alloc ?_ _)); exact BK172.out) hg (Kd.R_ne HO_8.out BK172.out (by decide)))
        have n2_ := Aside0.mk (Kd.V_afterv (ok := (fun k_ => some k_ ≠ (.slice (some ad177) t173.length co7 : Value).ownBlock ∧ k_ ≠ gb172)) (by (with_reducible repeat (first | apply Kd.V_alloc | apply Kd.V_drewN | apply Kd.V_drew)); exact Kd.V_mono HL177_0.out (fun _ hk => ⟨⟨hk.2, hk.1.2⟩, hk.1.1⟩)) hg hat)
        have n3_ := Aside0.mk (hb)
        have n4_ := Aside0.mk (ho)
        clear HO_17
        clear BK172
        clear HL177_0
        clear HB
        clear HO_8
        have HO_17 := n0_
        have BK172 := n1_
        have HL177_0 := n2_
        have HB := n3_
        have HO182 := n4_
        clear n0_ n1_ n2_ n3_ n4_
        clear ho hb hg hat
        refine hK.out _ _ ?_
        clear hK K
        refine norm_ (a' := ?_) ?_ ?_
        rotate_left
        ·show Act.put _ (some 30) _ = _
         simp only [Act.put, List.setIfInBounds_toArray, List.set_cons_zero, List.set_cons_succ, i64_w, i32_w]
         rfl
        refine pure_ (i := 8) (N := some 8) (v := ?_) (a' := ?_) #[true, true, true, true, true, true, true, true, true] rfl rfl (any_of HT_.out (by kernel_rfl)) (fun _ _ _ h => h) (Or.inl ⟨by rfl, ?_⟩) ?_ ?_
        rotate_left
        ·intro w'
         go_simp
         with_reducible rfl
        rotate_left
        ·simp only [Act.put, List.setIfInBounds_toArray, List.set_cons_zero, List.set_cons_succ, i64_w, i32_w]
         rfl
        refine done_ (done_of HT_.out (by kernel_rfl)) ?_
        try go_wp2
        go_roundg k1
        case measure => have := HK1.out; omega
        case rel => exact ⟨(y180), (wrap64 (x19_1 + 1)), (by first | rfl | (simp; done) | (simp [*]; done)), H', ⟨by have := HK1.out; omega⟩, ⟨by (with_reducible repeat (first | apply Kd.R_alloc | apply Kd.R_drewN | apply Kd.R_drew)); exact HO182.out⟩, ⟨by (with_reducible repeat (first | apply Kd.N_alloc | apply Kd.N_drewN | apply Kd.N_drew)); exact Kd.N_mono HO_17.out (fun _ hk => ⟨hk.2, hk.1⟩)⟩, ⟨by (with_reducible repeat (first | refine blk_drewN ?_ _ | refine blk_drew ?_ | refine blk_alloc ?_ _)); exact BK172.out⟩, ⟨by repeat (first | (with_reducible first | exact HB.out | apply below_alloc | apply pw_below_drewN | apply below_drew1 | refine below_set ?_ GE172.out) | exact HB.out)⟩⟩
       ·rw [if_neg c13] at H
        exact absurd H (by simp)
      ·rw [if_neg c11] at H
       exact absurd H (by simp)
     ·rw [if_neg c10] at H
      exact absurd H (by simp)
    ·rw [if_neg c9] at H
     exact absurd H (by simp)
   ·rw [if_neg c8] at H
    have c8b0 : decide (x19_1 < (t173.length : Int)) = false := decide_eq_false c8
    clear c8
    simp only [Option.some.injEq, Prod.mk.injEq] at H
    obtain ⟨rfl, rfl⟩ := H
    go_wp2
    go_ret2
    exact ⟨_, by first | rfl | (simp [errW_none, errW_some] <;> rfl) | (simp [*, errW_none, errW_some] <;> rfl), by (with_reducible repeat (first | apply Kd.R_alloc | apply Kd.R_drewN | apply Kd.R_drew)); exact HO_8.out, by repeat (first | (with_reducible first | exact HB.out | apply below_alloc | apply pw_below_drewN | apply below_drew1 | refine below_set ?_ GE172.out) | exact HB.out)⟩

/-! ### stillageref09_Zone: function 16 -/
def stillageref09_Zone.f (l0_0 : List (S46)) (l0_1 : List (S43)) (a1 : Int) : Option (Int) := if a1 < 1 then (some (-1)) else (if a1 > (l0_1.length : Int) then (some (-1)) else (if 0 ≤ (wrap64 (a1 - 1)) then (if (wrap64 (a1 - 1)) < (l0_1.length : Int) then (if 0 ≤ ((rd_T43 l0_1 (wrap64 (a1 - 1))).f1) then (if ((rd_T43 l0_1 (wrap64 (a1 - 1))).f1) < (l0_0.length : Int) then (some ((rd_T46 l0_0 ((rd_T43 l0_1 (wrap64 (a1 - 1))).f1)).f2)) else (none)) else (none)) else (none)) else (none)))
set_option maxHeartbeats 8000000 in
set_option maxRecDepth 100000 in
theorem stillageref09_Zone.calls (A0_0 : Option Addr) (c0_0 : Nat) (l0_0 : List (S46)) (A0_1 : Option Addr) (c0_1 : Nat) (l0_1 : List (S43)) (a1 : Int) (r : Int) (w : World) (hr0_0 : Kd.C k46 w A0_0 l0_0.length l0_0) (hc0_0 : l0_0.length ≤ c0_0) (hr0_1 : Kd.C k43 w A0_1 l0_1.length l0_1) (hc0_1 : l0_1.length ≤ c0_1) (h : stillageref09_Zone.f l0_0 l0_1 a1 = some r) :
  Calls Try.prog 16 #[.agg #[.slice A0_0 l0_0.length c0_0, .slice A0_1 l0_1.length c0_1], .int .i64 a1] w fun e w' => e = .returned (.int .i64 r) ∧ Below w.heap.size w w' := by
 have hu25 := Try.underlying25
 have HR0_0 := Aside0.mk hr0_0
 have HC0_0 := Aside0.mk hc0_0
 clear hr0_0 hc0_0
 have HR0_1 := Aside0.mk hr0_1
 have HC0_1 := Aside0.mk hc0_1
 clear hr0_1 hc0_1
 have HB := Aside0.mk (Below.refl w.heap.size w)
 have H : (if a1 < 1 then (some (-1)) else (if a1 > (l0_1.length : Int) then (some (-1)) else (if 0 ≤ (wrap64 (a1 - 1)) then (if (wrap64 (a1 - 1)) < (l0_1.length : Int) then (if 0 ≤ ((rd_T43 l0_1 (wrap64 (a1 - 1))).f1) then (if ((rd_T43 l0_1 (wrap64 (a1 - 1))).f1) < (l0_0.length : Int) then (some ((rd_T46 l0_0 ((rd_T43 l0_1 (wrap64 (a1 - 1))).f1)).f2)) else (none)) else (none)) else (none)) else (none)))) = some r := h
 clear h
 by_cases c3 : a1 < 1
 ·rw [if_pos c3] at H
  have c3b0 : decide (a1 < 1) = true := decide_eq_true c3
  clear c3
  obtain rfl := Option.some.inj H
  go_enter Try.func16, Try.ntmps16
  go_wp2_with (first | ((with_reducible refine gate_dst (N := 2) rfl ?_); (try (refine gate_guard (by rfl) ?_; dsimp only)); refine box_event ?hg (N := 2) ?hd (cs := #[.slice A0_0 l0_0.length c0_0, .slice A0_1 l0_1.length c0_1]) (t := 25) ?hr ?_; (case hd => rfl); (case hg => rfl); (case hr => first | (go_simp; done) | (go_simp; rfl)); intro gb183 hg w4 hbox hb; have n0_ := Aside0.mk (below_step (by repeat (first | (with_reducible first | exact HB.out | apply below_alloc | apply pw_below_drewN | apply below_drew1) | exact HB.out)) hb); have n1_ := Aside0.mk (hbox); have n2_ := Aside0.mk ((by rw [hg]; exact (below_size (by repeat (first | (with_reducible first | exact HB.out | apply below_alloc | apply pw_below_drewN | apply below_drew1) | exact HB.out))) : w.heap.size ≤ gb183)); have n3_ := Aside0.mk ((by rw [hg]; exact (below_size (by repeat (first | (with_reducible first | exact HB.out | apply below_alloc | apply pw_below_drewN | apply below_drew1) | exact HB.out))) : w.heap.size ≤ gb183)); clear HB; have HB := n0_; have BK183 := n1_; have GW183 := n2_; have GE183 := n3_; clear n0_ n1_ n2_ n3_; clear hb hbox hg))
  repeat (go_quiet (first | ((with_reducible refine gate_dst (N := 2) rfl ?_); (try (refine gate_guard (by rfl) ?_; dsimp only)); refine box_event ?hg (N := 2) ?hd (cs := #[.slice A0_0 l0_0.length c0_0, .slice A0_1 l0_1.length c0_1]) (t := 25) ?hr ?_; (case hd => rfl); (case hg => rfl); (case hr => first | (go_simp; done) | (go_simp; rfl)); intro gb183 hg w4 hbox hb; have n0_ := Aside0.mk (below_step (by repeat (first | (with_reducible first | exact HB.out | apply below_alloc | apply pw_below_drewN | apply below_drew1) | exact HB.out)) hb); have n1_ := Aside0.mk (hbox); have n2_ := Aside0.mk ((by rw [hg]; exact (below_size (by repeat (first | (with_reducible first | exact HB.out | apply below_alloc | apply pw_below_drewN | apply below_drew1) | exact HB.out))) : w.heap.size ≤ gb183)); have n3_ := Aside0.mk ((by rw [hg]; exact (below_size (by repeat (first | (with_reducible first | exact HB.out | apply below_alloc | apply pw_below_drewN | apply below_drew1) | exact HB.out))) : w.heap.size ≤ gb183)); clear HB; have HB := n0_; have BK183 := n1_; have GW183 := n2_; have GE183 := n3_; clear n0_ n1_ n2_ n3_; clear hb hbox hg)); try go_wp2_with (first | ((with_reducible refine gate_dst (N := 2) rfl ?_); (try (refine gate_guard (by rfl) ?_; dsimp only)); refine box_event ?hg (N := 2) ?hd (cs := #[.slice A0_0 l0_0.length c0_0, .slice A0_1 l0_1.length c0_1]) (t := 25) ?hr ?_; (case hd => rfl); (case hg => rfl); (case hr => first | (go_simp; done) | (go_simp; rfl)); intro gb183 hg w4 hbox hb; have n0_ := Aside0.mk (below_step (by repeat (first | (with_reducible first | exact HB.out | apply below_alloc | apply pw_below_drewN | apply below_drew1) | exact HB.out)) hb); have n1_ := Aside0.mk (hbox); have n2_ := Aside0.mk ((by rw [hg]; exact (below_size (by repeat (first | (with_reducible first | exact HB.out | apply below_alloc | apply pw_below_drewN | apply below_drew1) | exact HB.out))) : w.heap.size ≤ gb183)); have n3_ := Aside0.mk ((by rw [hg]; exact (below_size (by repeat (first | (with_reducible first | exact HB.out | apply below_alloc | apply pw_below_drewN | apply below_drew1) | exact HB.out))) : w.heap.size ≤ gb183)); clear HB; have HB := n0_; have BK183 := n1_; have GW183 := n2_; have GE183 := n3_; clear n0_ n1_ n2_ n3_; clear hb hbox hg)))
  go_ret
  exact ⟨by first | rfl | (simp [errW_none, errW_some] <;> rfl) | (simp [*, errW_none, errW_some] <;> rfl), by repeat (first | (with_reducible first | exact HB.out | apply below_alloc | apply pw_below_drewN | apply below_drew1 | refine below_set ?_ GE183.out) | exact HB.out)⟩
 ·rw [if_neg c3] at H
  have c3b0 : decide (a1 < 1) = false := decide_eq_false c3
  clear c3
  by_cases c5 : a1 > (l0_1.length : Int)
  ·rw [if_pos c5] at H
   have c5b0 : decide ((l0_1.length : Int) < a1) = true := decide_eq_true c5
   clear c5
   obtain rfl := Option.some.inj H
   go_enter Try.func16, Try.ntmps16
   go_wp2_with (first | ((with_reducible refine gate_dst (N := 2) rfl ?_); (try (refine gate_guard (by rfl) ?_; dsimp only)); refine box_event ?hg (N := 2) ?hd (cs := #[.slice A0_0 l0_0.length c0_0, .slice A0_1 l0_1.length c0_1]) (t := 25) ?hr ?_; (case hd => rfl); (case hg => rfl); (case hr => first | (go_simp; done) | (go_simp; rfl)); intro gb183 hg w6 hbox hb; have n0_ := Aside0.mk (below_step (by repeat (first | (with_reducible first | exact HB.out | apply below_alloc | apply pw_below_drewN | apply below_drew1) | exact HB.out)) hb); have n1_ := Aside0.mk (hbox); have n2_ := Aside0.mk ((by rw [hg]; exact (below_size (by repeat (first | (with_reducible first | exact HB.out | apply below_alloc | apply pw_below_drewN | apply below_drew1) | exact HB.out))) : w.heap.size ≤ gb183)); have n3_ := Aside0.mk ((by rw [hg]; exact (below_size (by repeat (first | (with_reducible first | exact HB.out | apply below_alloc | apply pw_below_drewN | apply below_drew1) | exact HB.out))) : w.heap.size ≤ gb183)); clear HB; have HB := n0_; have BK183 := n1_; have GW183 := n2_; have GE183 := n3_; clear n0_ n1_ n2_ n3_; clear hb hbox hg; have hcz7_0 : w6.cell? ⟨gb183, 0, none⟩ = some (.slice A0_0 l0_0.length c0_0) := (blk_cell BK183.out 0).trans rfl; have hcz7_1 : w6.cell? ⟨gb183, 1, none⟩ = some (.slice A0_1 l0_1.length c0_1) := (blk_cell BK183.out 1).trans rfl; have hfz7_0 := blk_frozen BK183.out 0; have hfz7_1 := blk_frozen BK183.out 1))
   repeat (go_quiet (first | ((with_reducible refine gate_dst (N := 2) rfl ?_); (try (refine gate_guard (by rfl) ?_; dsimp only)); refine box_event ?hg (N := 2) ?hd (cs := #[.slice A0_0 l0_0.length c0_0, .slice A0_1 l0_1.length c0_1]) (t := 25) ?hr ?_; (case hd => rfl); (case hg => rfl); (case hr => first | (go_simp; done) | (go_simp; rfl)); intro gb183 hg w6 hbox hb; have n0_ := Aside0.mk (below_step (by repeat (first | (with_reducible first | exact HB.out | apply below_alloc | apply pw_below_drewN | apply below_drew1) | exact HB.out)) hb); have n1_ := Aside0.mk (hbox); have n2_ := Aside0.mk ((by rw [hg]; exact (below_size (by repeat (first | (with_reducible first | exact HB.out | apply below_alloc | apply pw_below_drewN | apply below_drew1) | exact HB.out))) : w.heap.size ≤ gb183)); have n3_ := Aside0.mk ((by rw [hg]; exact (below_size (by repeat (first | (with_reducible first | exact HB.out | apply below_alloc | apply pw_below_drewN | apply below_drew1) | exact HB.out))) : w.heap.size ≤ gb183)); clear HB; have HB := n0_; have BK183 := n1_; have GW183 := n2_; have GE183 := n3_; clear n0_ n1_ n2_ n3_; clear hb hbox hg; have hcz7_0 : w6.cell? ⟨gb183, 0, none⟩ = some (.slice A0_0 l0_0.length c0_0) := (blk_cell BK183.out 0).trans rfl; have hcz7_1 : w6.cell? ⟨gb183, 1, none⟩ = some (.slice A0_1 l0_1.length c0_1) := (blk_cell BK183.out 1).trans rfl; have hfz7_0 := blk_frozen BK183.out 0; have hfz7_1 := blk_frozen BK183.out 1)); try go_wp2_with (first | ((with_reducible refine gate_dst (N := 2) rfl ?_); (try (refine gate_guard (by rfl) ?_; dsimp only)); refine box_event ?hg (N := 2) ?hd (cs := #[.slice A0_0 l0_0.length c0_0, .slice A0_1 l0_1.length c0_1]) (t := 25) ?hr ?_; (case hd => rfl); (case hg => rfl); (case hr => first | (go_simp; done) | (go_simp; rfl)); intro gb183 hg w6 hbox hb; have n0_ := Aside0.mk (below_step (by repeat (first | (with_reducible first | exact HB.out | apply below_alloc | apply pw_below_drewN | apply below_drew1) | exact HB.out)) hb); have n1_ := Aside0.mk (hbox); have n2_ := Aside0.mk ((by rw [hg]; exact (below_size (by repeat (first | (with_reducible first | exact HB.out | apply below_alloc | apply pw_below_drewN | apply below_drew1) | exact HB.out))) : w.heap.size ≤ gb183)); have n3_ := Aside0.mk ((by rw [hg]; exact (below_size (by repeat (first | (with_reducible first | exact HB.out | apply below_alloc | apply pw_below_drewN | apply below_drew1) | exact HB.out))) : w.heap.size ≤ gb183)); clear HB; have HB := n0_; have BK183 := n1_; have GW183 := n2_; have GE183 := n3_; clear n0_ n1_ n2_ n3_; clear hb hbox hg; have hcz7_0 : w6.cell? ⟨gb183, 0, none⟩ = some (.slice A0_0 l0_0.length c0_0) := (blk_cell BK183.out 0).trans rfl; have hcz7_1 : w6.cell? ⟨gb183, 1, none⟩ = some (.slice A0_1 l0_1.length c0_1) := (blk_cell BK183.out 1).trans rfl; have hfz7_0 := blk_frozen BK183.out 0; have hfz7_1 := blk_frozen BK183.out 1)))
   go_ret
   exact ⟨by first | rfl | (simp [errW_none, errW_some] <;> rfl) | (simp [*, errW_none, errW_some] <;> rfl), by repeat (first | (with_reducible first | exact HB.out | apply below_alloc | apply pw_below_drewN | apply below_drew1 | refine below_set ?_ GE183.out) | exact HB.out)⟩
  ·rw [if_neg c5] at H
   have c5b0 : decide ((l0_1.length : Int) < a1) = false := decide_eq_false c5
   clear c5
   obtain ⟨ji8, hji8⟩ : ∃ j_ : Int, (wrap64 (a1 - 1)) = j_ := ⟨_, rfl⟩
   replace H : (if 0 ≤ (ji8) then (if (ji8) < (l0_1.length : Int) then (if 0 ≤ ((rd_T43 l0_1 (ji8)).f1) then (if ((rd_T43 l0_1 (ji8)).f1) < (l0_0.length : Int) then (some ((rd_T46 l0_0 ((rd_T43 l0_1 (ji8)).f1)).f2)) else (none)) else (none)) else (none)) else (none)) = some r := by first | (rw [hji8] at H; exact H) | (simp only [hji8] at H ⊢; exact H)
   have hji8w : (IntKind.i64.wrap (a1 - 1)) = ji8 := (i64_w _).trans hji8
   by_cases c9 : 0 ≤ (ji8)
   ·rw [if_pos c9] at H
    have c9b0 : decide (0 ≤ (ji8)) = true := decide_eq_true c9
    clear c9
    by_cases c10 : (ji8) < (l0_1.length : Int)
    ·rw [if_pos c10] at H
     have c10b0 : decide ((ji8) < (l0_1.length : Int)) = true := decide_eq_true c10
     clear c10
     by_cases c11 : 0 ≤ ((rd_T43 l0_1 (ji8)).f1)
     ·rw [if_pos c11] at H
      have c11b0 : decide (0 ≤ ((rd_T43 l0_1 (ji8)).f1)) = true := decide_eq_true c11
      clear c11
      by_cases c12 : ((rd_T43 l0_1 (ji8)).f1) < (l0_0.length : Int)
      ·rw [if_pos c12] at H
       have c12b0 : decide (((rd_T43 l0_1 (ji8)).f1) < (l0_0.length : Int)) = true := decide_eq_true c12
       clear c12
       obtain rfl := Option.some.inj H
       go_enter Try.func16, Try.ntmps16
       go_wp2_with (first | ((with_reducible refine gate_dst (N := 2) rfl ?_); (try (refine gate_guard (by rfl) ?_; dsimp only)); refine box_event ?hg (N := 2) ?hd (cs := #[.slice A0_0 l0_0.length c0_0, .slice A0_1 l0_1.length c0_1]) (t := 25) ?hr ?_; (case hd => rfl); (case hg => rfl); (case hr => first | (go_simp; done) | (go_simp; rfl)); intro gb183 hg w13 hbox hb; have n0_ := Aside0.mk (below_step (by repeat (first | (with_reducible first | exact HB.out | apply below_alloc | apply pw_below_drewN | apply below_drew1) | exact HB.out)) hb); have n1_ := Aside0.mk (hbox); have n2_ := Aside0.mk ((by rw [hg]; exact (below_size (by repeat (first | (with_reducible first | exact HB.out | apply below_alloc | apply pw_below_drewN | apply below_drew1) | exact HB.out))) : w.heap.size ≤ gb183)); have n3_ := Aside0.mk ((by rw [hg]; exact (below_size (by repeat (first | (with_reducible first | exact HB.out | apply below_alloc | apply pw_below_drewN | apply below_drew1) | exact HB.out))) : w.heap.size ≤ gb183)); clear HB; have HB := n0_; have BK183 := n1_; have GW183 := n2_; have GE183 := n3_; clear n0_ n1_ n2_ n3_; clear hb hbox hg; have hcz14_0 : w13.cell? ⟨gb183, 0, none⟩ = some (.slice A0_0 l0_0.length c0_0) := (blk_cell BK183.out 0).trans rfl; have hcz14_1 : w13.cell? ⟨gb183, 1, none⟩ = some (.slice A0_1 l0_1.length c0_1) := (blk_cell BK183.out 1).trans rfl; have hfz14_0 := blk_frozen BK183.out 0; have hfz14_1 := blk_frozen BK183.out 1; have p184 : 0 ≤ ((ji8) : Int) := of_decide_eq_true (by first | (with_reducible assumption) | assumption); have q184 : (ji8) < (l0_1.length : Int) := of_decide_eq_true (by first | (with_reducible assumption) | assumption); obtain ⟨ad184, e184, hx184_0, hx184_1⟩ := at_T43 HR0_1.out (ji8) p184 q184; cases e184; replace hx184_0 := (HB.out.cell (World.block_lt_of_cell? w _ hx184_0)).trans hx184_0; replace hx184_1 := (HB.out.cell (World.block_lt_of_cell? w _ hx184_1)).trans hx184_1; replace p184 := eq_true p184; replace q184 := eq_true q184; have p185 : 0 ≤ (((rd_T43 l0_1 (ji8)).f1) : Int) := of_decide_eq_true (by first | (with_reducible assumption) | assumption); have q185 : ((rd_T43 l0_1 (ji8)).f1) < (l0_0.length : Int) := of_decide_eq_true (by first | (with_reducible assumption) | assumption); obtain ⟨ad185, e185, hx185_0, hx185_1, hx185_2⟩ := at_T46 HR0_0.out ((rd_T43 l0_1 (ji8)).f1) p185 q185; cases e185; replace hx185_0 := (HB.out.cell (World.block_lt_of_cell? w _ hx185_0)).trans hx185_0; replace hx185_1 := (HB.out.cell (World.block_lt_of_cell? w _ hx185_1)).trans hx185_1; replace hx185_2 := (HB.out.cell (World.block_lt_of_cell? w _ hx185_2)).trans hx185_2; replace p185 := eq_true p185; replace q185 := eq_true q185))
       repeat (go_quiet (first | ((with_reducible refine gate_dst (N := 2) rfl ?_); (try (refine gate_guard (by rfl) ?_; dsimp only)); refine box_event ?hg (N := 2) ?hd (cs := #[.slice A0_0 l0_0.length c0_0, .slice A0_1 l0_1.length c0_1]) (t := 25) ?hr ?_; (case hd => rfl); (case hg => rfl); (case hr => first | (go_simp; done) | (go_simp; rfl)); intro gb183 hg w13 hbox hb; have n0_ := Aside0.mk (below_step (by repeat (first | (with_reducible first | exact HB.out | apply below_alloc | apply pw_below_drewN | apply below_drew1) | exact HB.out)) hb); have n1_ := Aside0.mk (hbox); have n2_ := Aside0.mk ((by rw [hg]; exact (below_size (by repeat (first | (with_reducible first | exact HB.out | apply below_alloc | apply pw_below_drewN | apply below_drew1) | exact HB.out))) : w.heap.size ≤ gb183)); have n3_ := Aside0.mk ((by rw [hg]; exact (below_size (by repeat (first | (with_reducible first | exact HB.out | apply below_alloc | apply pw_below_drewN | apply below_drew1) | exact HB.out))) : w.heap.size ≤ gb183)); clear HB; have HB := n0_; have BK183 := n1_; have GW183 := n2_; have GE183 := n3_; clear n0_ n1_ n2_ n3_; clear hb hbox hg; have hcz14_0 : w13.cell? ⟨gb183, 0, none⟩ = some (.slice A0_0 l0_0.length c0_0) := (blk_cell BK183.out 0).trans rfl; have hcz14_1 : w13.cell? ⟨gb183, 1, none⟩ = some (.slice A0_1 l0_1.length c0_1) := (blk_cell BK183.out 1).trans rfl; have hfz14_0 := blk_frozen BK183.out 0; have hfz14_1 := blk_frozen BK183.out 1; have p184 : 0 ≤ ((ji8) : Int) := of_decide_eq_true (by first | (with_reducible assumption) | assumption); have q184 : (ji8) < (l0_1.length : Int) := of_decide_eq_true (by first | (with_reducible assumption) | assumption); obtain ⟨ad184, e184, hx184_0, hx184_1⟩ := at_T43 HR0_1.out (ji8) p184 q184; cases e184; replace hx184_0 := (HB.out.cell (World.block_lt_of_cell? w _ hx184_0)).trans hx184_0; replace hx184_1 := (HB.out.cell (World.block_lt_of_cell? w _ hx184_1)).trans hx184_1; replace p184 := eq_true p184; replace q184 := eq_true q184; have p185 : 0 ≤ (((rd_T43 l0_1 (ji8)).f1) : Int) := of_decide_eq_true (by first | (with_reducible assumption) | assumption); have q185 : ((rd_T43 l0_1 (ji8)).f1) < (l0_0.length : Int) := of_decide_eq_true (by first | (with_reducible assumption) | assumption); obtain ⟨ad185, e185, hx185_0, hx185_1, hx185_2⟩ := at_T46 HR0_0.out ((rd_T43 l0_1 (ji8)).f1) p185 q185; cases e185; replace hx185_0 := (HB.out.cell (World.block_lt_of_cell? w _ hx185_0)).trans hx185_0; replace hx185_1 := (HB.out.cell (World.block_lt_of_cell? w _ hx185_1)).trans hx185_1; replace hx185_2 := (HB.out.cell (World.block_lt_of_cell? w _ hx185_2)).trans hx185_2; replace p185 := eq_true p185; replace q185 := eq_true q185)); try go_wp2_with (first | ((with_reducible refine gate_dst (N := 2) rfl ?_); (try (refine gate_guard (by rfl) ?_; dsimp only)); refine box_event ?hg (N := 2) ?hd (cs := #[.slice A0_0 l0_0.length c0_0, .slice A0_1 l0_1.length c0_1]) (t := 25) ?hr ?_; (case hd => rfl); (case hg => rfl); (case hr => first | (go_simp; done) | (go_simp; rfl)); intro gb183 hg w13 hbox hb; have n0_ := Aside0.mk (below_step (by repeat (first | (with_reducible first | exact HB.out | apply below_alloc | apply pw_below_drewN | apply below_drew1) | exact HB.out)) hb); have n1_ := Aside0.mk (hbox); have n2_ := Aside0.mk ((by rw [hg]; exact (below_size (by repeat (first | (with_reducible first | exact HB.out | apply below_alloc | apply pw_below_drewN | apply below_drew1) | exact HB.out))) : w.heap.size ≤ gb183)); have n3_ := Aside0.mk ((by rw [hg]; exact (below_size (by repeat (first | (with_reducible first | exact HB.out | apply below_alloc | apply pw_below_drewN | apply below_drew1) | exact HB.out))) : w.heap.size ≤ gb183)); clear HB; have HB := n0_; have BK183 := n1_; have GW183 := n2_; have GE183 := n3_; clear n0_ n1_ n2_ n3_; clear hb hbox hg; have hcz14_0 : w13.cell? ⟨gb183, 0, none⟩ = some (.slice A0_0 l0_0.length c0_0) := (blk_cell BK183.out 0).trans rfl; have hcz14_1 : w13.cell? ⟨gb183, 1, none⟩ = some (.slice A0_1 l0_1.length c0_1) := (blk_cell BK183.out 1).trans rfl; have hfz14_0 := blk_frozen BK183.out 0; have hfz14_1 := blk_frozen BK183.out 1; have p184 : 0 ≤ ((ji8) : Int) := of_decide_eq_true (by first | (with_reducible assumption) | assumption); have q184 : (ji8) < (l0_1.length : Int) := of_decide_eq_true (by first | (with_reducible assumption) | assumption); obtain ⟨ad184, e184, hx184_0, hx184_1⟩ := at_T43 HR0_1.out (ji8) p184 q184; cases e184; replace hx184_0 := (HB.out.cell (World.block_lt_of_cell? w _ hx184_0)).trans hx184_0; replace hx184_1 := (HB.out.cell (World.block_lt_of_cell? w _ hx184_1)).trans hx184_1; replace p184 := eq_true p184; replace q184 := eq_true q184; have p185 : 0 ≤ (((rd_T43 l0_1 (ji8)).f1) : Int) := of_decide_eq_true (by first | (with_reducible assumption) | assumption); have q185 : ((rd_T43 l0_1 (ji8)).f1) < (l0_0.length : Int) := of_decide_eq_true (by first | (with_reducible assumption) | assumption); obtain ⟨ad185, e185, hx185_0, hx185_1, hx185_2⟩ := at_T46 HR0_0.out ((rd_T43 l0_1 (ji8)).f1) p185 q185; cases e185; replace hx185_0 := (HB.out.cell (World.block_lt_of_cell? w _ hx185_0)).trans hx185_0; replace hx185_1 := (HB.out.cell (World.block_lt_of_cell? w _ hx185_1)).trans hx185_1; replace hx185_2 := (HB.out.cell (World.block_lt_of_cell? w _ hx185_2)).trans hx185_2; replace p185 := eq_true p185; replace q185 := eq_true q185)))
       go_ret
       exact ⟨by first | rfl | (simp [errW_none, errW_some] <;> rfl) | (simp only [← hji8]; first | rfl | (simp [errW_none, errW_some] <;> rfl)) | (simp [*, errW_none, errW_some] <;> rfl), by repeat (first | (with_reducible first | exact HB.out | apply below_alloc | apply pw_below_drewN | apply below_drew1 | refine below_set ?_ GE183.out) | exact HB.out)⟩
      ·rw [if_neg c12] at H
       exact absurd H (by simp)
     ·rw [if_neg c11] at H
      exact absurd H (by simp)
    ·rw [if_neg c10] at H
     exact absurd H (by simp)
   ·rw [if_neg c9] at H
    exact absurd H (by simp)

end Go.Proofs.Ytkdfohmceokchaa.PZonePieces
