/- The reference's answers in plain words: Dist, at, Same, Order, Waiting. -/
import Derived.Test.YtjigeblechiffaaWait
import Derived.Test.YtjigeblechiffaaEvt
import Derived.Test.YtjigeblechiffaaRf1
import Derived.Test.YtjigeblechiffaaRf2
set_option linter.unusedVariables false
set_option linter.unusedSimpArgs false
set_option maxRecDepth 10000
namespace Go.Proofs.Ytjigeblechiffaa.PRef
open Go.RowKit Go.Proofs.YtjigeblechiffaaW.PrintWords Go.Proofs.YtjigeblechiffaaW.PrintLast Go.Proofs.PlainEvt
open POrder (In16 Ord up_range up_inj up_back w16 u16_in)
theorem wsm {n : Int} (h0 : -9223372036854775808 ≤ n) (h1 : n ≤ 9223372036854775807) : wrap64 n = n := by unfold wrap64; omega
theorem wnext (i : Nat) (h : i ≤ 1000000000) : wrap64 ((i : Int) + 1) = ((i + 1 : Nat) : Int) := by rw [wsm] <;> omega
/-- Where a number stands to another. -/
def dist (n x : Int) : Int := if (x - n) % 65536 < 32768 then (x - n) % 65536 else (x - n) % 65536 - 65536
theorem Dist_e (n x : Int) (hn : In16 n) (hx : In16 x) : EvP (fun k => stillageref03_Dist.f k n x) (fun r => r = dist n x) := by
  unfold In16 at hn hx
  have e0 : wrap64 (wrap64 x - wrap64 n) = x - n := by rw [wsm (n := x) (by omega) (by omega), wsm (n := n) (by omega) (by omega), wsm (by omega) (by omega)]
  have e1 : wrap64 ((-1 : Int) * 65536) = -65536 := by unfold wrap64; omega
  have e2 : wrap64 ((0 : Int) * 65536) = 0 := by unfold wrap64; omega
  have e3 : wrap64 ((1 : Int) * 65536) = 65536 := by unfold wrap64; omega
  have e4 : wrap64 ((-1 : Int) + 1) = 0 := by unfold wrap64; omega
  have e5 : wrap64 ((0 : Int) + 1) = 1 := by unfold wrap64; omega
  have e6 : wrap64 (x - n + -65536) = x - n - 65536 := by rw [wsm (by omega) (by omega)]; omega
  have e7 : wrap64 (x - n + 0) = x - n := by rw [wsm (by omega) (by omega)]; omega
  have e8 : wrap64 (x - n + 65536) = x - n + 65536 := by rw [wsm (by omega) (by omega)]
  refine EvP.succ (fun k => stillageref03_Dist.l0.eq_2 _ _ _ k) (EvP.yes (by omega) ?_)
  have step2 : ¬ (32768 ≤ x - n) → EvP (fun k => stillageref03_Dist.l0 k n x (wrap64 (-1 + 1))) (fun r => r = dist n x) := by
    intro c
    rw [e4]
    refine EvP.succ (fun k => stillageref03_Dist.l0.eq_2 _ _ _ k) (EvP.yes (by omega) ?_)
    simp only [e0, e2, e7]
    refine EvP.split (fun c2 => EvP.yes (by omega) (EvP.ret ?_)) (fun c2 => ?_)
    · unfold dist; split <;> omega
    · rw [e5]
      refine EvP.succ (fun k => stillageref03_Dist.l0.eq_2 _ _ _ k) (EvP.yes (by omega) ?_)
      simp only [e0, e3, e8]
      refine EvP.yes (by omega) (EvP.yes (by omega) (EvP.ret ?_))
      unfold dist; split <;> omega
  simp only [e0, e1, e6]
  refine EvP.split (fun c => EvP.yes (by omega) (EvP.ret ?_)) (fun c => ?_)
  · unfold dist; split <;> omega
  · exact step2 (by omega)
/-- The place of a number among pieces; -1: none. -/
def fi (L : List S70) (x : Int) : Option Nat := L.findIdx? fun p => decide (p.f0 = x)
def atv (L : List S70) (x : Int) : Int := match fi L x with | some j => (j : Int) | none => -1
theorem rd70 (L : List S70) (i : Nat) (h : i < L.length) : rd_T70 L (i : Int) = L[i] := by simp [rd_T70, List.getD_eq_getElem?_getD, List.getElem?_eq_getElem h]
theorem at_loop (L : List S70) (x : Int) (hl : L.length ≤ 100000) (n : Nat) : ∀ i : Nat, i + n = L.length → (∀ j : Nat, j < i → (h : j < L.length) → L[j].f0 ≠ x) →
    EvP (fun k => stillageref04_at.l0 k L x (L.length : Int) (i : Int)) (fun r => r = atv L x) := by
  induction n with
  | zero =>
    intro i hi h
    refine EvP.succ (fun k => stillageref04_at.l0.eq_2 _ _ _ _ k) (EvP.no (by omega) (EvP.ret ?_))
    have : fi L x = none := by
      unfold fi
      rw [List.findIdx?_eq_none_iff]
      intro p hp
      obtain ⟨j, hj, rfl⟩ := List.getElem_of_mem hp
      exact decide_eq_false (h j (by omega) hj)
    unfold atv
    rw [this]
  | succ n ih =>
    intro i hi h
    have hil : i < L.length := by omega
    refine EvP.succ (fun k => stillageref04_at.l0.eq_2 _ _ _ _ k) (EvP.yes (by omega) (EvP.yes (by omega) (EvP.yes (by omega) ?_)))
    rw [rd70 L i hil]
    refine EvP.split (fun c => EvP.ret ?_) (fun c => ?_)
    · have : fi L x = some i := by
        unfold fi
        rw [List.findIdx?_eq_some_iff_getElem]
        exact ⟨hil, decide_eq_true c, fun j hj => by simpa using h j hj (by omega)⟩
      unfold atv
      rw [this]
    · rw [wnext i (by omega)]
      refine ih (i + 1) (by omega) (fun j hj hjl => ?_)
      by_cases e : j = i
      · subst e; exact c
      · exact h j (by omega) hjl
theorem at_e (L : List S70) (x : Int) (hl : L.length ≤ 100000) : EvP (fun k => stillageref04_at.f k L x) (fun r => r = atv L x) :=
  at_loop L x hl L.length 0 (by omega) (fun j hj => by omega)
theorem Same_loop (x y : List Int) (hl : x.length = y.length) (hm : x.length ≤ 100000) (n : Nat) : ∀ i : Nat, i + n = x.length → EvP (fun k => stillageref03_Same.l0 k x y (x.length : Int) (i : Int)) (fun r => r = true ↔ x.drop i = y.drop i) := by
  induction n with
  | zero =>
    intro i hi
    refine EvP.succ (fun k => stillageref03_Same.l0.eq_2 _ _ _ _ k) (EvP.no (by omega) (EvP.ret ?_))
    rw [List.drop_eq_nil_of_le (by omega), List.drop_eq_nil_of_le (by omega)]
    simp
  | succ n ih =>
    intro i hi
    have h1 : i < x.length := by omega
    have h2 : i < y.length := by omega
    have e1 : rd x (i : Int) = x[i] := by simp [rd, List.getElem?_eq_getElem h1]
    have e2 : rd y (i : Int) = y[i] := by simp [rd, List.getElem?_eq_getElem h2]
    refine EvP.succ (fun k => stillageref03_Same.l0.eq_2 _ _ _ _ k) (EvP.yes (by omega) (EvP.yes (by omega) (EvP.yes (by omega) (EvP.yes (by omega) (EvP.split (fun c => ?_) (fun c => EvP.ret ?_))))))
    · rw [wnext i (by omega)]
      refine (ih (i + 1) (by omega)).mono (fun r h => ?_)
      rw [h, List.drop_eq_getElem_cons h1, List.drop_eq_getElem_cons h2]
      rw [e1, e2] at c
      simp only [List.cons.injEq, c, true_and]
    · rw [List.drop_eq_getElem_cons h1, List.drop_eq_getElem_cons h2]
      rw [e1, e2] at c
      simp only [List.cons.injEq, c, false_and]
      simp
theorem Same_e (x y : List Int) (hm : x.length ≤ 100000) : EvP (fun k => stillageref03_Same.f k x y) (fun r => r = true ↔ x = y) := by
  refine EvP.split (fun c => ?_) (fun c => EvP.ret ?_)
  · exact Same_loop x y (by omega) hm x.length 0 (by omega)
  · constructor
    · intro h; cases h
    · rintro rfl
      exact absurd rfl c
theorem tm {x lo : Int} (hx : In16 x) (hl : In16 lo) : Int.tmod (wrap64 ((wrap64 ((wrap64 x) - (wrap64 lo))) + 65536)) 65536 = POrder.up lo x := by
  unfold In16 at *
  rw [wsm (n := x) (by omega) (by omega), wsm (n := lo) (by omega) (by omega), wsm (n := x - lo) (by omega) (by omega), wsm (n := x - lo + 65536) (by omega) (by omega), Int.tmod_eq_emod_of_nonneg (by omega)]
  unfold POrder.up
  omega
structure Got (lo : Int) (l out : List Int) (last : Int) : Prop where
  pw : out.Pairwise (fun x y => POrder.up lo x < POrder.up lo y)
  sub : ∀ x ∈ out, x ∈ l
  hi : ∀ x ∈ out, POrder.up lo x ≤ last
  all : ∀ x ∈ l, POrder.up lo x ≤ last → x ∈ out
  len : (out.length : Int) ≤ last + 1
theorem ROrder_loops (l : List Int) (lo : Int) (hl : ∀ x ∈ l, In16 x) (ho : In16 lo) (hn : l.length ≤ 100000) (d : Nat) : ∀ (last : Int) (out : List Int), -1 ≤ last → last < 65536 → 65536 - last ≤ d → Got lo l out last →
    EvP (fun k => stillageref03_Order.l0 k l lo out last) (fun R => Ord lo l R) := by
  induction d with
  | zero => intro last out h1 h2 h3; omega
  | succ d ih =>
    intro last out h1 h2 h3 G
    refine EvP.succ (fun k => by rw [stillageref03_Order.l0]) ?_
    have inner : ∀ (n i : Nat) (nx : Int), i + n = l.length → (nx = 65536 ∨ ∃ x ∈ l, POrder.up lo x = nx ∧ last < nx) → (∀ j : Nat, j < i → (h : j < l.length) → last < POrder.up lo l[j] → nx ≤ POrder.up lo l[j]) → nx ≤ 65536 →
        EvP (fun k => stillageref03_Order.l1 k l lo out last nx (l.length : Int) (i : Int)) (fun R => Ord lo l R) := by
      intro n
      induction n with
      | zero =>
        intro i nx hi hx hall hle
        refine EvP.succ (fun k => by rw [stillageref03_Order.l1]) (EvP.no (by omega) (EvP.split (fun c => EvP.ret ?_) (fun c => ?_)))
        · refine ⟨G.pw, fun x => ⟨G.sub x, fun hxl => ?_⟩⟩
          obtain ⟨j, hj, e⟩ := List.getElem_of_mem hxl
          have h4 := hall j (by omega) hj
          rw [e] at h4
          have := up_range lo x
          exact G.all x hxl (by omega)
        · obtain ⟨x, hxl, hxu, hxlast⟩ := hx.resolve_left c
          have hr := up_range lo x
          have hL := G.len
          have hlow : In16 lo := ho
          refine EvP.yes (by omega) ?_
          have e1 : IntKind.u16.wrap (Int.tmod (wrap64 (nx + (wrap64 lo))) 65536) = x := by
            unfold In16 at hlow
            rw [w16, wsm (n := lo) (by omega) (by omega), wsm (n := nx + lo) (by omega) (by omega), Int.tmod_eq_emod_of_nonneg (by omega), ← hxu, up_back (hl x hxl)]
            have := hl x hxl
            unfold In16 at this
            omega
          rw [e1]
          refine ih nx (out ++ [x]) (by omega) (by omega) (by omega) ⟨?_, ?_, ?_, ?_, ?_⟩
          · rw [List.pairwise_append]
            refine ⟨G.pw, by simp, fun a ha b hb => ?_⟩
            obtain rfl : b = x := by simpa using hb
            have := G.hi a ha
            omega
          · intro a ha
            rcases List.mem_append.mp ha with ha | ha
            · exact G.sub a ha
            · obtain rfl : a = x := by simpa using ha
              exact hxl
          · intro a ha
            rcases List.mem_append.mp ha with ha | ha
            · have := G.hi a ha
              omega
            · obtain rfl : a = x := by simpa using ha
              omega
          · intro a ha hau
            by_cases hlast : POrder.up lo a ≤ last
            · exact List.mem_append_left _ (G.all a ha hlast)
            · obtain ⟨j, hj, e⟩ := List.getElem_of_mem ha
              have h4 := hall j (by omega) hj
              rw [e] at h4
              have h5 := h4 (by omega)
              have : a = x := up_inj (lo := lo) (hl a ha) (hl x hxl) (by omega)
              rw [this]
              simp
          · simp
            omega
      | succ n ihn =>
        intro i nx hi hx hall hle
        have hil : i < l.length := by omega
        have hmem : l[i] ∈ l := List.getElem_mem hil
        have e1 : rd l (i : Int) = l[i] := by simp [rd, List.getElem?_eq_getElem hil]
        refine EvP.succ (fun k => by rw [stillageref03_Order.l1]) (EvP.yes (by omega) (EvP.yes (by omega) (EvP.yes (by omega) ?_)))
        rw [e1, tm (hl _ hmem) ho, wnext i (by omega)]
        have hr := up_range lo l[i]
        refine EvP.split (fun c => EvP.split (fun c2 => ?_) (fun c2 => ?_)) (fun c => ?_)
        · refine ihn (i + 1) _ (by omega) (.inr ⟨_, hmem, rfl, by omega⟩) (fun j hj hjl hu => ?_) (by omega)
          by_cases e : j = i
          · subst e; omega
          · have := hall j (by omega) hjl hu
            omega
        · refine ihn (i + 1) _ (by omega) hx (fun j hj hjl hu => ?_) hle
          by_cases e : j = i
          · subst e; omega
          · exact hall j (by omega) hjl hu
        · refine ihn (i + 1) _ (by omega) hx (fun j hj hjl hu => ?_) hle
          by_cases e : j = i
          · subst e; omega
          · exact hall j (by omega) hjl hu
    exact inner l.length 0 65536 (by omega) (.inl rfl) (fun j hj => by omega) (by omega)
theorem ROrder_e (l : List Int) (lo : Int) (hl : ∀ x ∈ l, In16 x) (ho : In16 lo) (hn : l.length ≤ 100000) : EvP (fun k => stillageref03_Order.f k l lo) (fun R => Ord lo l R) := by
  refine ROrder_loops l lo hl ho hn 65537 (-1) [] (by omega) (by omega) (by omega) ⟨by simp, by simp, by simp, fun x _ h => ?_, by simp⟩
  have := up_range lo x
  omega
theorem Waiting_loop (a b : Int) (L : List S70) (Q : List ByteArray) (hL : ∀ p ∈ L, In16 p.f0) (ho : In16 b) (hl : L.length ≤ 100000) (n : Nat) : ∀ i : Nat, i + n = L.length →
    EvP (fun k => stillageref04_Waiting.l0 k ((L.take i).map S70.f0) (L.length : Int) (i : Int) a b L Q) (fun R => Ord b (L.map S70.f0) R) := by
  induction n with
  | zero =>
    intro i hi
    refine EvP.succ (fun k => stillageref04_Waiting.l0.eq_2 _ _ _ _ _ _ _ k) (EvP.no (by omega) ?_)
    rw [List.take_of_length_le (by omega)]
    refine EvP.bind (ROrder_e (L.map S70.f0) b (fun x hx => ?_) ho (by rw [List.length_map]; exact hl)) (fun R hR => EvP.ret hR)
    obtain ⟨p, hp, rfl⟩ := List.mem_map.1 hx
    exact hL p hp
  | succ n ih =>
    intro i hi
    have hil : i < L.length := by omega
    refine EvP.succ (fun k => stillageref04_Waiting.l0.eq_2 _ _ _ _ _ _ _ k) (EvP.yes (by omega) (EvP.yes (by omega) (EvP.yes (by omega) (EvP.yes (by rw [List.length_map, List.length_take]; omega) ?_))))
    rw [rd70 L i hil, wnext i (by omega)]
    have := ih (i + 1) (by omega)
    rw [List.take_succ_eq_append_getElem hil, List.map_append] at this
    exact this
theorem Waiting_e (a b : Int) (L : List S70) (Q : List ByteArray) (hL : ∀ p ∈ L, In16 p.f0) (ho : In16 b) (hl : L.length ≤ 100000) : EvP (fun k => stillageref04_Waiting.f k a b L Q) (fun R => Ord b (L.map S70.f0) R) :=
  Waiting_loop a b L Q hL ho hl L.length 0 (by omega)
/-- The reference's Take. -/
def rDrain : Nat → Int → List S70 → List ByteArray → Int × List S70 × List ByteArray
  | 0, n, L, Q => (n, L, Q)
  | k + 1, n, L, Q => match fi L n with
    | none => (n, L, Q)
    | some j => rDrain k (IntKind.u16.wrap (n + 1)) (L.take j ++ L.drop (j + 1)) (Q ++ [(rd_T70 L (j : Int)).f1])
def rTake (W n : Int) (L : List S70) (Q : List ByteArray) (x : Int) (d : ByteArray) : (Int × List S70 × List ByteArray) × Int :=
  if d.size > 256 then ((n, L, Q), 3) else if dist n x < -W ∨ dist n x ≥ W then ((n, L, Q), 40) else if dist n x < 0 ∨ 0 ≤ atv L x then ((n, L, Q), 2)
  else if (Q.length : Int) ≥ W then ((n, L, Q), 40) else (rDrain (L.length + 2) n (L ++ [⟨x, d⟩]) Q, 0)
end Go.Proofs.Ytjigeblechiffaa.PRef
