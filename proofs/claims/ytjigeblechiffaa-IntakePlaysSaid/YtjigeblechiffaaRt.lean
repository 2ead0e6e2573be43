/- The reference's Take, walked. -/
import Derived.Test.YtjigeblechiffaaRfP
import Derived.Laws.ResultCell
namespace Go.Proofs.Ytjigeblechiffaa.PRef
open Go.RowKit Go.Proofs.YtjigeblechiffaaW.PrintWords Go.Proofs.YtjigeblechiffaaW.PrintLast Go.Proofs.YtjigeblechiffaaW.PrintMore
open POrder (In16)
attribute [local go_sem] max2_int min2_int max_two min_two max_three min_three max_four min_four   -- for this text's walks alone
set_option linter.unusedVariables false
set_option linter.unusedSimpArgs false
/-- A row that is read, in blocks from base on. -/
def Rd {α : Type} (d : Kd α) (w : World) (base : Nat) (A : Option Addr) (L : List α) : Prop := Kd.C d w A L.length L ∧ ∀ ad, A = some ad → base ≤ ad.block ∧ ad.block < w.heap.size
theorem Rd.step {α : Type} {d : Kd α} {w w1 : World} {base : Nat} {A : Option Addr} {L : List α} (hK : ∀ x cs, d.K w x cs → d.K w1 x cs) (h : Rd d w base A L) (hs : w.heap.size ≤ w1.heap.size) (hm : ∀ ad, A = some ad → w1.heap[ad.block]? = w.heap[ad.block]?) : Rd d w1 base A L := by
  obtain ⟨⟨h1, h2, h3⟩, h4⟩ := h
  refine ⟨⟨h1, h2, fun hp => ?_⟩, fun ad e => ⟨(h4 ad e).1, Nat.lt_of_lt_of_le (h4 ad e).2 hs⟩⟩
  obtain ⟨ad, e, hc⟩ := h3 hp
  refine ⟨ad, e, fun k p hk => ?_⟩
  obtain ⟨cs, hl, hK1, hu⟩ := hc k p hk
  refine ⟨cs, hl, hK _ _ hK1, fun j u hj => ?_⟩
  rw [← hu j u hj]
  have hb : (ad.add (k * d.sz + j)).block = ad.block := by unfold Addr.add; split <;> rfl
  exact World.cell?_of_block (by rw [hb]; exact hm ad e)
theorem K70 {w w1 : World} (x : S70) (cs : List Value) (h : k70.K w x cs) : k70.K w1 x cs := by rw [k70_open h]; exact k70_mk w1 x
theorem KStr {w w1 : World} (x : ByteArray) (cs : List Value) (h : Kd.string.K w x cs) : Kd.string.K w1 x cs := h
theorem Rd.below {α : Type} {d : Kd α} {w w1 : World} {base : Nat} {A : Option Addr} {L : List α} (h : Rd d w base A L) (hb : Below w.heap.size w w1) : Rd d w1 base A L :=
  ⟨Kd.C_below h.1 hb, fun ad e => ⟨(h.2 ad e).1, Nat.lt_of_lt_of_le (h.2 ad e).2 hb.size⟩⟩
theorem Rd.of_R {α : Type} {d : Kd α} {e : Nat} {w : World} {b base : Nat} {v : Value} {xs : List α} (h : d.R e w b (fun _ => True) v xs) (hb : base ≤ b) : ∃ A c, v = .slice A xs.length c ∧ xs.length ≤ c ∧ Rd d w base A xs := by
  obtain ⟨A, c, rfl, h1, h2⟩ := Kd.R_reads h
  refine ⟨A, c, rfl, h1, h2, fun ad e => ?_⟩
  subst e
  obtain ⟨inner, ho, _⟩ := h.2
  exact ⟨Nat.le_trans hb (own_base ho _ rfl), own_lt ho _ rfl⟩
theorem Rd.nil {α : Type} (d : Kd α) (w : World) (base : Nat) : Rd d w base none ([] : List α) := ⟨Kd.C_nil d w, fun ad e => by cases e⟩
theorem dist_range (n x : Int) : -32768 ≤ dist n x ∧ dist n x < 32768 := by unfold dist; split <;> omega
theorem neg64 {W : Int} (h : 1 ≤ W ∧ W ≤ 64) : wrap64 (-W) = -W := wsm (by omega) (by omega)
/-- What the call's two blocks and its rows hold. -/
structure TK (w : World) (base g g6 : Nat) (wr : World) (W n : Int) (A : Option Addr) (c : Nat) (L : List S70) (A' : Option Addr) (c' : Nat) (Q : List ByteArray) : Prop where
  bel : Below w.heap.size w wr
  ord : w.heap.size ≤ g ∧ w.heap.size ≤ g6 ∧ g6 ≠ g ∧ base ≤ w.heap.size
  b3 : wr.heap[g]? = some (.cells #[.int .i64 W, .int .u16 n, .slice A L.length c, .slice A' Q.length c'] 45 (0, 0))
  b6 : wr.heap[g6]? = some (.cells #[.int .i64 0, .int .u16 0, .slice none 0 0, .slice none 0 0] 45 (0, 0))
  r1 : Rd k70 wr base A L
  f1 : ∀ ad, A = some ad → ad.block ≠ g ∧ ad.block ≠ g6
  c1 : L.length ≤ c
  r2 : Rd Kd.string wr base A' Q
  f2 : ∀ ad, A' = some ad → ad.block ≠ g ∧ ad.block ≠ g6
  c2 : Q.length ≤ c'
section
variable {w wr w1 : World} {base g g6 : Nat} {W n : Int} {A A' : Option Addr} {c c' : Nat} {L : List S70} {Q : List ByteArray}
theorem TK.grow (h : TK w base g g6 wr W n A c L A' c' Q) (hb : Below wr.heap.size wr w1) : TK w base g g6 w1 W n A c L A' c' Q :=
  ⟨below_step h.bel hb, h.ord, blk_below h.b3 hb, blk_below h.b6 hb, h.r1.below hb, h.f1, h.c1, h.r2.below hb, h.f2, h.c2⟩
theorem TK.start (hb : base ≤ w.heap.size) (h1 : Rd k70 w base A L) (hc : L.length ≤ c) (h2 : Rd Kd.string w base A' Q) (hc' : Q.length ≤ c') :
    TK w base w.heap.size (w.heap.size + 1) ((w.alloc (.cells #[.int .i64 W, .int .u16 n, .slice A L.length c, .slice A' Q.length c'] 45)).alloc (.cells #[.int .i64 0, .int .u16 0, .slice none 0 0, .slice none 0 0] 45)) W n A c L A' c' Q := by
  have hB : Below w.heap.size w ((w.alloc (.cells #[.int .i64 W, .int .u16 n, .slice A L.length c, .slice A' Q.length c'] 45)).alloc (.cells #[.int .i64 0, .int .u16 0, .slice none 0 0, .slice none 0 0] 45)) := below_alloc (below_alloc (Below.refl _ _) _) _
  refine ⟨hB, ⟨Nat.le_refl _, by omega, by omega, hb⟩, blk_alloc (blk_new w _) _, ?_, h1.below hB, fun ad e => ?_, hc, h2.below hB, fun ad e => ?_, hc'⟩
  · have := blk_new (w.alloc (.cells #[.int .i64 W, .int .u16 n, .slice A L.length c, .slice A' Q.length c'] 45)) (.cells #[.int .i64 0, .int .u16 0, .slice none 0 0, .slice none 0 0] 45)
    simpa using this
  · have := (h1.2 ad e).2; omega
  · have := (h2.2 ad e).2; omega
theorem Rd.far {α : Type} {d : Kd α} {b : Nat} (hK : ∀ (w w1 : World) x cs, d.K w x cs → d.K w1 x cs) {A : Option Addr} {L : List α} (h : Rd d wr base A L) {k : Nat} (f : ∀ ad, A = some ad → ad.block ≠ k) (i : Nat) (v : Value) : Rd d (wr.setCell ⟨k, i, none⟩ v) base A L :=
  h.step (hK _ _) (by simp [World.setCell]; try (split <;> simp)) (fun ad e => Below.heap_setCell wr _ v _ (f ad e))
theorem TK.setN (h : TK w base g g6 wr W n A c L A' c' Q) (n' : Int) : TK w base g g6 (wr.setCell ⟨g, 1, none⟩ (.int .u16 n')) W n' A c L A' c' Q :=
  ⟨below_set h.bel h.ord.1, h.ord, blk_put h.b3 1 _ rfl, blk_far h.b6 h.ord.2.2.1 _, h.r1.far (b := 0) (fun _ _ => K70) (fun ad e => (h.f1 ad e).1) _ _, h.f1, h.c1, h.r2.far (b := 0) (fun _ _ => KStr) (fun ad e => (h.f2 ad e).1) _ _, h.f2, h.c2⟩
theorem TK.setCame (h : TK w base g g6 wr W n A c L A' c' Q) {A2 : Option Addr} {L2 : List S70} {c2 : Nat} (r : Rd k70 wr base A2 L2) (f : ∀ ad, A2 = some ad → ad.block ≠ g ∧ ad.block ≠ g6) (hc : L2.length ≤ c2) :
    TK w base g g6 (wr.setCell ⟨g, 2, none⟩ (.slice A2 L2.length c2)) W n A2 c2 L2 A' c' Q :=
  ⟨below_set h.bel h.ord.1, h.ord, blk_put h.b3 2 _ rfl, blk_far h.b6 h.ord.2.2.1 _, r.far (b := 0) (fun _ _ => K70) (fun ad e => (f ad e).1) _ _, f, hc, h.r2.far (b := 0) (fun _ _ => KStr) (fun ad e => (h.f2 ad e).1) _ _, h.f2, h.c2⟩
theorem TK.setQueue (h : TK w base g g6 wr W n A c L A' c' Q) {A2 : Option Addr} {Q2 : List ByteArray} {c2 : Nat} (r : Rd Kd.string wr base A2 Q2) (f : ∀ ad, A2 = some ad → ad.block ≠ g ∧ ad.block ≠ g6) (hc : Q2.length ≤ c2) :
    TK w base g g6 (wr.setCell ⟨g, 3, none⟩ (.slice A2 Q2.length c2)) W n A c L A2 c2 Q2 :=
  ⟨below_set h.bel h.ord.1, h.ord, blk_put h.b3 3 _ rfl, blk_far h.b6 h.ord.2.2.1 _, h.r1.far (b := 0) (fun _ _ => K70) (fun ad e => (h.f1 ad e).1) _ _, h.f1, h.c1, r.far (b := 0) (fun _ _ => KStr) (fun ad e => (f ad e).1) _ _, f, hc⟩
/-- The world that is handed back. -/
def wfin (wr : World) (g6 : Nat) (W n : Int) (A : Option Addr) (c : Nat) (L : List S70) (A' : Option Addr) (c' : Nat) (Q : List ByteArray) : World :=
  (((wr.setCell ⟨g6, 0, none⟩ (.int .i64 W)).setCell ⟨g6, 1, none⟩ (.int .u16 n)).setCell ⟨g6, 2, none⟩ (.slice A L.length c)).setCell ⟨g6, 3, none⟩ (.slice A' Q.length c')
theorem TK.fin (h : TK w base g g6 wr W n A c L A' c' Q) :
    (wfin wr g6 W n A c L A' c' Q).heap[g6]? = some (.cells #[.int .i64 W, .int .u16 n, .slice A L.length c, .slice A' Q.length c'] 45 (0, 0)) ∧
    Rd k70 (wfin wr g6 W n A c L A' c' Q) base A L ∧ Rd Kd.string (wfin wr g6 W n A c L A' c' Q) base A' Q ∧ Below w.heap.size w (wfin wr g6 W n A c L A' c' Q) :=
  ⟨blk_put (blk_put (blk_put (blk_put h.b6 0 _ rfl) 1 _ rfl) 2 _ rfl) 3 _ rfl,
   (((h.r1.far (b := 0) (fun _ _ => K70) (fun ad e => (h.f1 ad e).2) _ _).far (b := 0) (fun _ _ => K70) (fun ad e => (h.f1 ad e).2) _ _).far (b := 0) (fun _ _ => K70) (fun ad e => (h.f1 ad e).2) _ _).far (b := 0) (fun _ _ => K70) (fun ad e => (h.f1 ad e).2) _ _,
   (((h.r2.far (b := 0) (fun _ _ => KStr) (fun ad e => (h.f2 ad e).2) _ _).far (b := 0) (fun _ _ => KStr) (fun ad e => (h.f2 ad e).2) _ _).far (b := 0) (fun _ _ => KStr) (fun ad e => (h.f2 ad e).2) _ _).far (b := 0) (fun _ _ => KStr) (fun ad e => (h.f2 ad e).2) _ _,
   below_set (below_set (below_set (below_set h.bel h.ord.2.1) h.ord.2.1) h.ord.2.1) h.ord.2.1⟩
theorem TK.cell3 (h : TK w base g g6 wr W n A c L A' c' Q) : wr.cell? ⟨g, 3, none⟩ = some (.slice A' Q.length c') := (blk_cell h.b3 3).trans rfl
theorem TK.cell2 (h : TK w base g g6 wr W n A c L A' c' Q) : wr.cell? ⟨g, 2, none⟩ = some (.slice A L.length c) := (blk_cell h.b3 2).trans rfl
theorem TK.str {ad : Addr} {j : Nat} (h : TK w base g g6 wr W n (some ad) c L A' c' Q) (hj : j < L.length) : wr.cell? ⟨(ad.add (j * 2)).block, (ad.add (j * 2)).off + 1, none⟩ = some (.string (rd_T70 L (j : Int)).f1) := by
  obtain ⟨ad', e, _, h1⟩ := at_T70 h.r1.1 (j : Int) (Int.natCast_nonneg j) (Int.ofNat_lt.2 hj)
  injection e with e
  subst e
  simpa using h1
theorem blk_new2 (w : World) (o o2 : Obj) : ((w.alloc o).alloc o2).heap[w.heap.size + 1]? = some o2 := by
  have := blk_new (w.alloc o) o2
  simpa using this
theorem kstr_none0 (w : World) : Kd.string.R 9 (w.alloc (.cells #[] 9)) w.heap.size (fun _ => True) (.slice (some ⟨w.heap.size, 0, none⟩) 0 0) [] :=
  ⟨fun _ _ => trivial, [], World.ownsRow_made w #[] 0 (Nat.le_refl _) (Nat.zero_le _) (by simp), Reps.none _ _⟩
theorem kstr_none2 (w : World) (o : Obj) : Kd.string.R 9 ((w.alloc o).alloc (.cells #[] 9)) w.heap.size (fun _ => True) (.slice (some ⟨w.heap.size + 1, 0, none⟩) 0 0) [] := by
  have h := Kd.R_lower (kstr_none0 (w.alloc o)) (below_alloc (Below.refl _ _) _).size
  simpa using h
theorem str_row {w : World} {k : Nat} {b : ByteArray} (h : w.heap[k]? = some (.cells #[.string b] 9 (0, 0))) : Kd.C Kd.string w (some ⟨k, 0, none⟩) 1 [b] := by
  refine ⟨rfl, by decide, fun _ => ⟨_, rfl, fun j p hj => ?_⟩⟩
  cases j with
  | zero =>
    simp at hj
    subst hj
    refine ⟨[.string b], rfl, rfl, fun i u hi => ?_⟩
    cases i with
    | zero =>
      simp at hi
      subst hi
      exact (blk_cell h 0).trans rfl
    | succ i => simp at hi
  | succ j => simp at hj
/-- Where the reference's drain stands. -/
structure RInv (k : Nat) (n : Int) (L : List S70) (Q : List ByteArray) (R : Int × List S70 × List ByteArray) : Prop where
  nn : In16 n
  fuel : L.length < k
  few : L.length + Q.length ≤ 2001
  eq : rDrain k n L Q = R
theorem fi_lt {L : List S70} {x : Int} {j : Nat} (h : fi L x = some j) : j < L.length := by
  unfold fi at h
  exact (List.findIdx?_eq_some_iff_getElem.1 h).1
theorem RInv.stop {k : Nat} {R : Int × List S70 × List ByteArray} (h : RInv k n L Q R) (hf : fi L n = none) : R = (n, L, Q) := by
  obtain ⟨k, rfl⟩ : ∃ m, k = m + 1 := ⟨k - 1, by have := h.fuel; omega⟩
  rw [← h.eq, rDrain, hf]
theorem RInv.next {k j : Nat} {R : Int × List S70 × List ByteArray} (h : RInv k n L Q R) (hf : fi L n = some j) : RInv (k - 1) (IntKind.u16.wrap (n + 1)) (L.take j ++ L.drop (j + 1)) (Q ++ [(rd_T70 L (j : Int)).f1]) R := by
  have hj := fi_lt hf
  have hk := h.fuel
  obtain ⟨k, rfl⟩ : ∃ m, k = m + 1 := ⟨k - 1, by omega⟩
  refine ⟨?_, ?_, ?_, ?_⟩
  · rw [POrder.w16]; unfold In16; omega
  · simp; omega
  · have := h.few; simp; omega
  · have h1 := h.eq
    rw [rDrain, hf] at h1
    exact h1
/-- A new row: in none of the two blocks. -/
theorem TK.fresh {α : Type} {d : Kd α} {e : Nat} {v : Value} {xs : List α} (h : TK w base g g6 wr W n A c L A' c' Q) (hr : d.R e w1 wr.heap.size (fun _ => True) v xs) :
    ∃ A2 c2, v = .slice A2 xs.length c2 ∧ xs.length ≤ c2 ∧ Rd d w1 base A2 xs ∧ ∀ ad, A2 = some ad → ad.block ≠ g ∧ ad.block ≠ g6 := by
  have h1 := h.bel.size
  have h2 := h.ord.2.2.2
  obtain ⟨A2, c2, rfl, hc, hR⟩ := Rd.of_R (base := wr.heap.size) hr (Nat.le_refl _)
  refine ⟨A2, c2, rfl, hc, ⟨hR.1, fun ad e => ⟨by have := (hR.2 ad e).1; omega, (hR.2 ad e).2⟩⟩, fun ad e => ?_⟩
  have h3 := (hR.2 ad e).1
  have h4 := blk_lt h.b3
  have h5 := blk_lt h.b6
  constructor <;> omega
theorem k70_none (wc : World) (e : Nat) (ok : Nat → Prop) : k70.R e (wc.alloc (.cells #[] e)) wc.heap.size (fun _ => True) (.slice (some ⟨wc.heap.size, 0, none⟩) 0 0) [] :=
  ⟨fun _ _ => trivial, [], World.ownsRow_made wc #[] 0 (Nat.le_refl _) (Nat.zero_le _) (by simp), Reps.none _ _⟩
theorem kstr_none (wc : World) (e : Nat) (ok : Nat → Prop) : Kd.string.R e (wc.alloc (.cells #[] e)) wc.heap.size (fun _ => True) (.slice (some ⟨wc.heap.size, 0, none⟩) 0 0) [] :=
  ⟨fun _ _ => trivial, [], World.ownsRow_made wc #[] 0 (Nat.le_refl _) (Nat.zero_le _) (by simp), Reps.none _ _⟩
theorem part1 {ad : Addr} {j : Nat} (h : TK w base g g6 wr W n (some ad) c L A' c' Q) (hj : j < L.length) : Kd.C k70 wr (some ad) j (L.take j) := by
  have h2 := Kd.C_take h.r1.1 (Nat.le_of_lt hj)
  rwa [List.length_take, Nat.min_eq_left (Nat.le_of_lt hj)] at h2
theorem part2 {ad : Addr} {j : Nat} (h : TK w base g g6 wr W n (some ad) c L A' c' Q) (hj : j < L.length) : Kd.C k70 wr (if c = j + 1 then some ad else some (ad.add ((j + 1) * 2))) (L.length - (j + 1)) (L.drop (j + 1)) := by
  have h2 := Kd.C_drop h.r1.1 hj h.c1
  rwa [List.length_drop] at h2
theorem k70_M (W : World) (b : Nat) (ok : Nat → Prop) (x : S70) (cs : List Value) (h : k70.K W x cs) : k70.M W b ok x cs := by rw [k70_open h]; exact k70_mkM _ _ _ x
theorem results_ct {P : Program} {fn : Func} {p u : Tmp} {ty : TypeId} (hr : fn.results = #[.cell p ty, .tmp u]) (tmps : Array Value) (w : World) (g : Nat) (t : TypeId) (cs : Array Value) (d : TypeDesc)
    (hp : tmps.getD p undef = .pointer (some ⟨g, 0, none⟩)) (hg : w.heap[g]? = some (.cells cs t (0, 0))) (hu : P.underlying ty = some d) (hd : (match d with | .struct _ | .array _ _ => true | _ => false) = true) (hi : (P.info? ty).map (·.size) = some cs.size) :
    (results fn tmps).run P w = .ok (.tuple #[.agg cs, tmps.getD u undef]) w := by
  rw [results_cell_tmp hr, hp]
  simp [asAddr, Result.andThen, run_loadVar_row w g t ty cs (0, 0) d hg hu hd hi]
end
theorem info45 : (Try.prog.info? 45).map (·.size) = some 4 := by kernel_rfl
set_option maxHeartbeats 8000000 in
set_option maxRecDepth 100000 in
theorem rTake_calls (W n : Int) (A : Option Addr) (c : Nat) (L : List S70) (A' : Option Addr) (c' : Nat) (Q : List ByteArray) (x : Int) (d : ByteArray) (base : Nat) (w : World) (hW : 1 ≤ W ∧ W ≤ 64) (hn : In16 n) (hx : In16 x)
    (hl : L.length ≤ 1000) (hq : Q.length ≤ 1000) (hb : base ≤ w.heap.size) (h1 : Rd k70 w base A L) (hc : L.length ≤ c) (h2 : Rd Kd.string w base A' Q) (hc' : Q.length ≤ c') :
    Calls Try.prog 16 #[.agg #[.int .i64 W, .int .u16 n, .slice A L.length c, .slice A' Q.length c'], .int .u16 x, .string d] w fun e w' => ∃ A1 c1 A2 c2,
      e = .returned (.tuple #[.agg #[.int .i64 W, .int .u16 (rTake W n L Q x d).1.1, .slice A1 (rTake W n L Q x d).1.2.1.length c1, .slice A2 (rTake W n L Q x d).1.2.2.length c2], .int .i64 (rTake W n L Q x d).2]) ∧
      Rd k70 w' base A1 (rTake W n L Q x d).1.2.1 ∧ (rTake W n L Q x d).1.2.1.length ≤ c1 ∧ Rd Kd.string w' base A2 (rTake W n L Q x d).1.2.2 ∧ (rTake W n L Q x d).1.2.2.length ≤ c2 ∧ Below w.heap.size w w' := by
  have HW := Aside0.mk hW
  have HN := Aside0.mk hn
  have HX := Aside0.mk hx
  have HL := Aside0.mk hl
  have HQ := Aside0.mk hq
  have HB := Aside0.mk hb
  have H1 := Aside0.mk h1
  have HC := Aside0.mk hc
  have H2 := Aside0.mk h2
  have HC' := Aside0.mk hc'
  clear hW hn hx hl hq hb h1 hc h2 hc'
  have hu45 := Try.underlying45
  go_enter Try.func16, Try.ntmps16
  go_upto_region 1 with fail
  have HK := Aside0.mk (TK.start (W := W) (n := n) HB.out H1.out HC.out H2.out HC'.out)
  generalize (w.alloc (.cells #[.int .i64 W, .int .u16 n, .slice A L.length c, .slice A' Q.length c'] 45)).alloc (.cells #[.int .i64 0, .int .u16 0, .slice none 0 0, .slice none 0 0] 45) = wa at HK ⊢
  generalize hg6 : w.heap.size + 1 = g6 at HK ⊢
  generalize hg3 : w.heap.size = g at HK ⊢
  clear H1 H2 hg3 hg6 HB HC HC'
  have hz0 : wa.cell? ⟨g, 0, none⟩ = some (.int .i64 W) := (blk_cell HK.out.b3 0).trans rfl
  have hz1 : wa.cell? ⟨g, 1, none⟩ = some (.int .u16 n) := (blk_cell HK.out.b3 1).trans rfl
  have hz2 : wa.cell? ⟨g, 2, none⟩ = some (.slice A L.length c) := (blk_cell HK.out.b3 2).trans rfl
  have hz3 : wa.cell? ⟨g, 3, none⟩ = some (.slice A' Q.length c') := (blk_cell HK.out.b3 3).trans rfl
  have hzf0 := blk_frozen HK.out.b3 0
  have hzf1 := blk_frozen HK.out.b3 1
  have hzf2 := blk_frozen HK.out.b3 2
  have hzf3 := blk_frozen HK.out.b3 3
  have hy0 : wa.cell? ⟨g6, 0, none⟩ = some (.int .i64 0) := (blk_cell HK.out.b6 0).trans rfl
  have hy1 : wa.cell? ⟨g6, 1, none⟩ = some (.int .u16 0) := (blk_cell HK.out.b6 1).trans rfl
  have hy2 : wa.cell? ⟨g6, 2, none⟩ = some (.slice none 0 0) := (blk_cell HK.out.b6 2).trans rfl
  have hy3 : wa.cell? ⟨g6, 3, none⟩ = some (.slice none 0 0) := (blk_cell HK.out.b6 3).trans rfl
  have hyf0 := blk_frozen HK.out.b6 0
  have hyf1 := blk_frozen HK.out.b6 1
  have hyf2 := blk_frozen HK.out.b6 2
  have hyf3 := blk_frozen HK.out.b6 3
  by_cases hd : 256 < d.size
  · have e0 : Aside0 (rTake W n L Q x d = ((n, L, Q), 3)) := ⟨by unfold rTake; rw [if_pos hd]⟩
    have hd1 : decide ((d.size : Int) > 256) = true := decide_eq_true (by omega)
    have hd2 := eq_true (show ((256 : Int) < (d.size : Int)) by omega)
    clear hd
    go_wp2
    refine bodyPost_ret (results_ct rfl _ _ g6 45 _ _ rfl HK.out.fin.1 hu45 rfl info45) rfl ?_
    rw [e0.out]
    exact ⟨_, _, _, _, rfl, HK.out.fin.2.1, HK.out.c1, HK.out.fin.2.2.1, HK.out.c2, HK.out.fin.2.2.2⟩
  have hd1 : decide ((d.size : Int) > 256) = false := decide_eq_false (by omega)
  have hd2 := eq_false (show ¬ ((256 : Int) < (d.size : Int)) by omega)
  have HD := Aside0.mk hd
  clear hd
  obtain ⟨kd, rd, hkd, rfl⟩ := (Dist_e n x HN.out HX.out).get
  have HKD := Aside0.mk hkd
  clear hkd
  go_upto_region 4 with (go_at_call 23; refine (stillageref03_Dist.calls kd n x _ wa HKD.out).mono ?_; rintro e w2 ⟨rfl, m, rfl⟩)
  have HK2 := Aside0.mk (HK.out.grow (pw_below_drewN (Below.refl _ wa) m))
  generalize wa.drewN m = wb at HK2 ⊢
  clear hz0 hzf0 hy0 hyf0 hz1 hzf1 hy1 hyf1 hz2 hzf2 hy2 hyf2 hz3 hzf3 hy3 hyf3
  clear HK HKD hd1 hd2
  have HK := HK2
  clear HK2
  have hz0 : wb.cell? ⟨g, 0, none⟩ = some (.int .i64 W) := (blk_cell HK.out.b3 0).trans rfl
  have hz1 : wb.cell? ⟨g, 1, none⟩ = some (.int .u16 n) := (blk_cell HK.out.b3 1).trans rfl
  have hz2 : wb.cell? ⟨g, 2, none⟩ = some (.slice A L.length c) := (blk_cell HK.out.b3 2).trans rfl
  have hz3 : wb.cell? ⟨g, 3, none⟩ = some (.slice A' Q.length c') := (blk_cell HK.out.b3 3).trans rfl
  have hzf0 := blk_frozen HK.out.b3 0
  have hzf1 := blk_frozen HK.out.b3 1
  have hzf2 := blk_frozen HK.out.b3 2
  have hzf3 := blk_frozen HK.out.b3 3
  have hy0 : wb.cell? ⟨g6, 0, none⟩ = some (.int .i64 0) := (blk_cell HK.out.b6 0).trans rfl
  have hy1 : wb.cell? ⟨g6, 1, none⟩ = some (.int .u16 0) := (blk_cell HK.out.b6 1).trans rfl
  have hy2 : wb.cell? ⟨g6, 2, none⟩ = some (.slice none 0 0) := (blk_cell HK.out.b6 2).trans rfl
  have hy3 : wb.cell? ⟨g6, 3, none⟩ = some (.slice none 0 0) := (blk_cell HK.out.b6 3).trans rfl
  have hyf0 := blk_frozen HK.out.b6 0
  have hyf1 := blk_frozen HK.out.b6 1
  have hyf2 := blk_frozen HK.out.b6 2
  have hyf3 := blk_frozen HK.out.b6 3
  have hneg := neg64 HW.out
  have hdr := dist_range n x
  obtain ⟨δ, hδ⟩ : ∃ δ, δ = dist n x := ⟨_, rfl⟩
  rw [← hδ] at hdr ⊢
  have HDL := Aside0.mk hδ
  have HDR := Aside0.mk hdr
  clear hδ hdr
  by_cases hf1 : δ < -W
  · have e0 : Aside0 (rTake W n L Q x d = ((n, L, Q), 40)) := ⟨by unfold rTake; rw [if_neg HD.out, if_pos (by rw [← HDL.out]; exact .inl hf1)]⟩
    have hf2 : decide (δ < -W) = true := decide_eq_true hf1
    have hf3 := eq_true hf1
    clear hf1
    go_wp2
    refine bodyPost_ret (results_ct rfl _ _ g6 45 _ _ rfl HK.out.fin.1 hu45 rfl info45) rfl ?_
    rw [e0.out]
    exact ⟨_, _, _, _, rfl, HK.out.fin.2.1, HK.out.c1, HK.out.fin.2.2.1, HK.out.c2, HK.out.fin.2.2.2⟩
  have hf2 : decide (δ < -W) = false := decide_eq_false hf1
  have hf3 := eq_false hf1
  have HF1 := Aside0.mk hf1
  clear hf1
  by_cases hf4 : W ≤ δ
  · have e0 : Aside0 (rTake W n L Q x d = ((n, L, Q), 40)) := ⟨by unfold rTake; rw [if_neg HD.out, if_pos (by rw [← HDL.out]; exact .inr hf4)]⟩
    have hf5 : decide (W ≤ δ) = true := decide_eq_true hf4
    have hf6 := eq_true hf4
    clear hf4
    go_wp2
    refine bodyPost_ret (results_ct rfl _ _ g6 45 _ _ rfl HK.out.fin.1 hu45 rfl info45) rfl ?_
    rw [e0.out]
    exact ⟨_, _, _, _, rfl, HK.out.fin.2.1, HK.out.c1, HK.out.fin.2.2.1, HK.out.c2, HK.out.fin.2.2.2⟩
  have hf5 : decide (W ≤ δ) = false := decide_eq_false hf4
  have hf6 := eq_false hf4
  have HF4 := Aside0.mk hf4
  clear hf4
  have hno : Aside0 (¬ (dist n x < -W ∨ dist n x ≥ W)) := ⟨by rw [← HDL.out]; have := HF1.out; have := HF4.out; omega⟩
  go_upto_region 6 with fail
  clear hf2 hf3 hf5 hf6 HF1 HF4
  by_cases hf1 : δ < 0
  · have e0 : Aside0 (rTake W n L Q x d = ((n, L, Q), 2)) := ⟨by unfold rTake; rw [if_neg HD.out, if_neg hno.out, if_pos (by rw [← HDL.out]; exact .inl hf1)]⟩
    have hf2 : decide (δ < 0) = true := decide_eq_true hf1
    have hf3 := eq_true hf1
    clear hf1
    go_wp2
    refine bodyPost_ret (results_ct rfl _ _ g6 45 _ _ rfl HK.out.fin.1 hu45 rfl info45) rfl ?_
    rw [e0.out]
    exact ⟨_, _, _, _, rfl, HK.out.fin.2.1, HK.out.c1, HK.out.fin.2.2.1, HK.out.c2, HK.out.fin.2.2.2⟩
  have hf2 : decide (δ < 0) = false := decide_eq_false hf1
  have hf3 := eq_false hf1
  have HF1 := Aside0.mk hf1
  clear hf1
  obtain ⟨ka, ra, hka, rfl⟩ := (at_e L x (by have := HL.out; omega)).get
  have HKA := Aside0.mk hka
  clear hka
  by_cases hf4 : 0 ≤ atv L x
  · have e0 : Aside0 (rTake W n L Q x d = ((n, L, Q), 2)) := ⟨by unfold rTake; rw [if_neg HD.out, if_neg hno.out, if_pos (.inr hf4)]⟩
    have hf5 : decide (0 ≤ atv L x) = true := decide_eq_true hf4
    have hf6 := eq_true hf4
    clear hf4
    go_upto_region 7 with (go_at_call 24; refine (stillageref04_at.calls ka A c L x _ wb HK.out.r1.1 HK.out.c1 HKA.out).mono ?_; rintro e w2 ⟨rfl, m2, rfl⟩)
    have HK2 := Aside0.mk (HK.out.grow (pw_below_drewN (Below.refl _ wb) m2))
    generalize wb.drewN m2 = wc at HK2 ⊢
    clear hz0 hzf0 hy0 hyf0 hz1 hzf1 hy1 hyf1 hz2 hzf2 hy2 hyf2 hz3 hzf3 hy3 hyf3
    clear HK
    have HK := HK2
    clear HK2
    have hz0 : wc.cell? ⟨g, 0, none⟩ = some (.int .i64 W) := (blk_cell HK.out.b3 0).trans rfl
    have hz1 : wc.cell? ⟨g, 1, none⟩ = some (.int .u16 n) := (blk_cell HK.out.b3 1).trans rfl
    have hz2 : wc.cell? ⟨g, 2, none⟩ = some (.slice A L.length c) := (blk_cell HK.out.b3 2).trans rfl
    have hz3 : wc.cell? ⟨g, 3, none⟩ = some (.slice A' Q.length c') := (blk_cell HK.out.b3 3).trans rfl
    have hzf0 := blk_frozen HK.out.b3 0
    have hzf1 := blk_frozen HK.out.b3 1
    have hzf2 := blk_frozen HK.out.b3 2
    have hzf3 := blk_frozen HK.out.b3 3
    have hy0 : wc.cell? ⟨g6, 0, none⟩ = some (.int .i64 0) := (blk_cell HK.out.b6 0).trans rfl
    have hy1 : wc.cell? ⟨g6, 1, none⟩ = some (.int .u16 0) := (blk_cell HK.out.b6 1).trans rfl
    have hy2 : wc.cell? ⟨g6, 2, none⟩ = some (.slice none 0 0) := (blk_cell HK.out.b6 2).trans rfl
    have hy3 : wc.cell? ⟨g6, 3, none⟩ = some (.slice none 0 0) := (blk_cell HK.out.b6 3).trans rfl
    have hyf0 := blk_frozen HK.out.b6 0
    have hyf1 := blk_frozen HK.out.b6 1
    have hyf2 := blk_frozen HK.out.b6 2
    have hyf3 := blk_frozen HK.out.b6 3
    go_wp2
    refine bodyPost_ret (results_ct rfl _ _ g6 45 _ _ rfl HK.out.fin.1 hu45 rfl info45) rfl ?_
    rw [e0.out]
    exact ⟨_, _, _, _, rfl, HK.out.fin.2.1, HK.out.c1, HK.out.fin.2.2.1, HK.out.c2, HK.out.fin.2.2.2⟩
  have hf5 : decide (0 ≤ atv L x) = false := decide_eq_false hf4
  have hf6 := eq_false hf4
  have HF4 := Aside0.mk hf4
  clear hf4
  go_upto_region 8 with (go_at_call 24; refine (stillageref04_at.calls ka A c L x _ wb HK.out.r1.1 HK.out.c1 HKA.out).mono ?_; rintro e w2 ⟨rfl, m2, rfl⟩)
  have HK2 := Aside0.mk (HK.out.grow (pw_below_drewN (Below.refl _ wb) m2))
  generalize wb.drewN m2 = wc at HK2 ⊢
  clear hz0 hzf0 hy0 hyf0 hz1 hzf1 hy1 hyf1 hz2 hzf2 hy2 hyf2 hz3 hzf3 hy3 hyf3
  have hno2 : Aside0 (¬ (dist n x < 0 ∨ 0 ≤ atv L x)) := ⟨by rw [← HDL.out]; have := HF1.out; have := HF4.out; omega⟩
  clear HK HKA hf2 hf3 hf5 hf6 HF1 HF4
  have HK := HK2
  clear HK2
  have hz0 : wc.cell? ⟨g, 0, none⟩ = some (.int .i64 W) := (blk_cell HK.out.b3 0).trans rfl
  have hz1 : wc.cell? ⟨g, 1, none⟩ = some (.int .u16 n) := (blk_cell HK.out.b3 1).trans rfl
  have hz2 : wc.cell? ⟨g, 2, none⟩ = some (.slice A L.length c) := (blk_cell HK.out.b3 2).trans rfl
  have hz3 : wc.cell? ⟨g, 3, none⟩ = some (.slice A' Q.length c') := (blk_cell HK.out.b3 3).trans rfl
  have hzf0 := blk_frozen HK.out.b3 0
  have hzf1 := blk_frozen HK.out.b3 1
  have hzf2 := blk_frozen HK.out.b3 2
  have hzf3 := blk_frozen HK.out.b3 3
  have hy0 : wc.cell? ⟨g6, 0, none⟩ = some (.int .i64 0) := (blk_cell HK.out.b6 0).trans rfl
  have hy1 : wc.cell? ⟨g6, 1, none⟩ = some (.int .u16 0) := (blk_cell HK.out.b6 1).trans rfl
  have hy2 : wc.cell? ⟨g6, 2, none⟩ = some (.slice none 0 0) := (blk_cell HK.out.b6 2).trans rfl
  have hy3 : wc.cell? ⟨g6, 3, none⟩ = some (.slice none 0 0) := (blk_cell HK.out.b6 3).trans rfl
  have hyf0 := blk_frozen HK.out.b6 0
  have hyf1 := blk_frozen HK.out.b6 1
  have hyf2 := blk_frozen HK.out.b6 2
  have hyf3 := blk_frozen HK.out.b6 3
  generalize atv L x = τ
  by_cases hf4 : W ≤ (Q.length : Int)
  · have e0 : Aside0 (rTake W n L Q x d = ((n, L, Q), 40)) := ⟨by unfold rTake; rw [if_neg HD.out, if_neg hno.out, if_neg hno2.out, if_pos hf4]⟩
    have hf5 : decide (W ≤ (Q.length : Int)) = true := decide_eq_true hf4
    have hf6 := eq_true hf4
    clear hf4
    go_wp2
    refine bodyPost_ret (results_ct rfl _ _ g6 45 _ _ rfl HK.out.fin.1 hu45 rfl info45) rfl ?_
    rw [e0.out]
    exact ⟨_, _, _, _, rfl, HK.out.fin.2.1, HK.out.c1, HK.out.fin.2.2.1, HK.out.c2, HK.out.fin.2.2.2⟩
  have hf5 : decide (W ≤ (Q.length : Int)) = false := decide_eq_false hf4
  have hf6 := eq_false hf4
  have e0 : Aside0 (rTake W n L Q x d = (rDrain (L.length + 2) n (L ++ [⟨x, d⟩]) Q, 0)) := ⟨by unfold rTake; rw [if_neg HD.out, if_neg hno.out, if_neg hno2.out, if_neg hf4]⟩
  clear hf4 hno hno2 HD HDL HDR hneg
  go_upto_region 10 with fail
  have HAL := Aside0.mk (below_alloc (Below.refl wc.heap.size wc) (.cells #[] 70))
  clear hz0 hzf0 hy0 hyf0 hz1 hzf1 hy1 hyf1 hz2 hzf2 hy2 hyf2 hz3 hzf3 hy3 hyf3
  clear hf5 hf6
  have hz2 : (wc.alloc (.cells #[] 70)).cell? ⟨g, 2, none⟩ = some (.slice A L.length c) := (blk_cell (HK.out.grow HAL.out).b3 2).trans rfl
  go_upto_region 11 with (first
    | ((with_reducible refine gate_builtin (b := .append) (xs := #[.tmp 47, .tmp 49]) rfl ?_); at_builtin; refine Kd.R_append_rows k70 (Rr := k70.K (wc.alloc (.cells #[] 70))) (w0 := wc) wc.heap.size rfl (.tmp 47) (.tmp 49) 42 70 (.agg #[.int .u16 0, .string ⟨#[]⟩]) 24 rfl Try.underlying42 info70 rfl (by decide) (by omega) (.slice (some ⟨wc.heap.size, 0, none⟩) 0 0) [] L _ _ _ (fun _ => True) (fun _ => False) rfl rfl ?aO ?aR ?aM (fun _ h => h.elim) (fun _ _ => trivial) HAL.out ?aS ?aL ?_; (case aO => exact k70_none _ _ (fun _ => True)); (case aR => exact (HK.out.r1.below HAL.out).1); (case aM => exact k70_M _ _ _); (case aS => exact HAL.out.size); (case aL => have := HL.out; simp; omega); intro v1 w6 ho hb hg hat; rw [List.nil_append] at ho; have HR6 := Aside0.mk ho; have HB6 := Aside0.mk hb; clear HAL ho hb hg hat)
    | ((with_reducible refine gate_builtin (b := .append) (xs := #[.tmp 50, .tmp 54]) rfl ?_); at_builtin; refine Kd.R_append k70 (w0 := wc) wc.heap.size rfl (.tmp 50) (.tmp 54) 42 70 (.agg #[.int .u16 0, .string ⟨#[]⟩]) 24 rfl Try.underlying42 info70 rfl (by decide) (by omega) v1 L ⟨x, d⟩ [.int .u16 x, .string d] (fun _ => True) (fun _ => False) rfl rfl ?aP (fun _ hk => hk.elim) (fun _ _ => trivial) HR6.out HB6.out HB6.out.size ?aL ?_; (case aP => exact k70_mkM _ _ _ ⟨x, d⟩); (case aL => have := HL.out; omega); intro v2 w7 ho hb hg hat; have HK7 := Aside0.mk (HK.out.grow hb); clear hz2; have hz2 : w7.cell? ⟨g, 2, none⟩ = some (.slice A L.length c) := (blk_cell HK7.out.b3 2).trans rfl; have hzf2 := blk_frozen HK7.out.b3 2; obtain ⟨A7, c7, rfl, hc7, hr7, hf7⟩ := HK.out.fresh ho; have HR7 := Aside0.mk (And.intro hc7 (And.intro hr7 hf7)); clear HK HR6 HB6 ho hb hg hat hc7 hr7 hf7))
  have hk8 := HK7.out.setCame HR7.out.2.1 HR7.out.2.2 HR7.out.1
  rw [show (L ++ [(⟨x, d⟩ : S70)]).length = L.length + 1 from by simp] at hk8
  have HK8 := Aside0.mk hk8
  generalize w7.setCell ⟨g, 2, none⟩ (.slice A7 (L.length + 1) c7) = w8 at HK8 ⊢
  clear hk8
  clear HK7 HR7 hz2 hzf2
  obtain ⟨R, hR⟩ : ∃ R, R = rDrain (L.length + 2) n (L ++ [⟨x, d⟩]) Q := ⟨_, rfl⟩
  rw [← hR] at e0
  have HS : Aside0 (RInv (L.length + 2) n (L ++ [⟨x, d⟩]) Q R) := ⟨⟨HN.out, by simp, by have := HL.out; have := HQ.out; simp; omega, hR.symm⟩⟩
  clear hR
  go_loopg [9] (L.length + 2) (fun kq v9 wr => ∃ (n' : Int) (A1 : Option Addr) (c1 : Nat) (L1 : List S70) (A2 : Option Addr) (c2 : Nat) (Q1 : List ByteArray), Aside0 (TK w base g g6 wr W n' A1 c1 L1 A2 c2 Q1) ∧ Aside0 (RInv kq n' L1 Q1 R))
  case atStart => exact ⟨n, _, _, _, _, _, _, HK8, HS⟩
  case round =>
    clear HK8 HS
    obtain ⟨n', A1, c1, L1, A2, c2, Q1, HK, HS⟩ := hrel
    obtain ⟨ka1, ra1, hka1, rfl⟩ := (at_e L1 n' (by have := HS.out.few; omega)).get
    have HKA := Aside0.mk hka1
    clear hka1
    have hz0 : wr.cell? ⟨g, 0, none⟩ = some (.int .i64 W) := (blk_cell HK.out.b3 0).trans rfl
    have hz1 : wr.cell? ⟨g, 1, none⟩ = some (.int .u16 n') := (blk_cell HK.out.b3 1).trans rfl
    have hz2 : wr.cell? ⟨g, 2, none⟩ = some (.slice A1 L1.length c1) := (blk_cell HK.out.b3 2).trans rfl
    have hz3 : wr.cell? ⟨g, 3, none⟩ = some (.slice A2 Q1.length c2) := (blk_cell HK.out.b3 3).trans rfl
    have hzf0 := blk_frozen HK.out.b3 0
    have hzf1 := blk_frozen HK.out.b3 1
    have hzf2 := blk_frozen HK.out.b3 2
    have hzf3 := blk_frozen HK.out.b3 3
    have hy0 : wr.cell? ⟨g6, 0, none⟩ = some (.int .i64 0) := (blk_cell HK.out.b6 0).trans rfl
    have hy1 : wr.cell? ⟨g6, 1, none⟩ = some (.int .u16 0) := (blk_cell HK.out.b6 1).trans rfl
    have hy2 : wr.cell? ⟨g6, 2, none⟩ = some (.slice none 0 0) := (blk_cell HK.out.b6 2).trans rfl
    have hy3 : wr.cell? ⟨g6, 3, none⟩ = some (.slice none 0 0) := (blk_cell HK.out.b6 3).trans rfl
    have hyf0 := blk_frozen HK.out.b6 0
    have hyf1 := blk_frozen HK.out.b6 1
    have hyf2 := blk_frozen HK.out.b6 2
    have hyf3 := blk_frozen HK.out.b6 3
    cases hfi : fi L1 n' with
    | none =>
      have hav : atv L1 n' = -1 := by unfold atv; rw [hfi]
      have HE := Aside0.mk (HS.out.stop hfi)
      rw [hav] at HKA
      clear hfi hav
      go_upto_region 16 with (go_at_call 24; refine (stillageref04_at.calls ka1 A1 c1 L1 n' _ wr HK.out.r1.1 HK.out.c1 HKA.out).mono ?_; rintro e w9 ⟨rfl, m9, rfl⟩)
      have HK2 := Aside0.mk (HK.out.grow (pw_below_drewN (Below.refl _ wr) m9))
      generalize wr.drewN m9 = wq at HK2 ⊢
      clear hz0 hzf0 hy0 hyf0 hz1 hzf1 hy1 hyf1 hz2 hzf2 hy2 hyf2 hz3 hzf3 hy3 hyf3
      clear HK
      have HK := HK2
      clear HK2
      have hz0 : wq.cell? ⟨g, 0, none⟩ = some (.int .i64 W) := (blk_cell HK.out.b3 0).trans rfl
      have hz1 : wq.cell? ⟨g, 1, none⟩ = some (.int .u16 n') := (blk_cell HK.out.b3 1).trans rfl
      have hz2 : wq.cell? ⟨g, 2, none⟩ = some (.slice A1 L1.length c1) := (blk_cell HK.out.b3 2).trans rfl
      have hz3 : wq.cell? ⟨g, 3, none⟩ = some (.slice A2 Q1.length c2) := (blk_cell HK.out.b3 3).trans rfl
      have hzf0 := blk_frozen HK.out.b3 0
      have hzf1 := blk_frozen HK.out.b3 1
      have hzf2 := blk_frozen HK.out.b3 2
      have hzf3 := blk_frozen HK.out.b3 3
      have hy0 : wq.cell? ⟨g6, 0, none⟩ = some (.int .i64 0) := (blk_cell HK.out.b6 0).trans rfl
      have hy1 : wq.cell? ⟨g6, 1, none⟩ = some (.int .u16 0) := (blk_cell HK.out.b6 1).trans rfl
      have hy2 : wq.cell? ⟨g6, 2, none⟩ = some (.slice none 0 0) := (blk_cell HK.out.b6 2).trans rfl
      have hy3 : wq.cell? ⟨g6, 3, none⟩ = some (.slice none 0 0) := (blk_cell HK.out.b6 3).trans rfl
      have hyf0 := blk_frozen HK.out.b6 0
      have hyf1 := blk_frozen HK.out.b6 1
      have hyf2 := blk_frozen HK.out.b6 2
      have hyf3 := blk_frozen HK.out.b6 3
      go_wp2
      have e1 : rTake W n L Q x d = ((n', L1, Q1), 0) := by rw [e0.out, HE.out]
      clear e0
      have e0 := Aside0.mk e1
      refine bodyPost_ret (results_ct rfl _ _ g6 45 _ _ rfl HK.out.fin.1 hu45 rfl info45) rfl ?_
      rw [e0.out]
      exact ⟨_, _, _, _, rfl, HK.out.fin.2.1, HK.out.c1, HK.out.fin.2.2.1, HK.out.c2, HK.out.fin.2.2.2⟩
    | some j =>
      have hav : atv L1 n' = (j : Int) := by unfold atv; rw [hfi]
      have HE := Aside0.mk (HS.out.next hfi)
      rw [hav] at HKA
      have hjl : j < L1.length := fi_lt hfi
      clear hfi hav
      have hge : decide ((0 : Int) ≤ (j : Int)) = true := decide_eq_true (by omega)
      have q1 := eq_true (Int.natCast_nonneg j)
      have HJL := Aside0.mk hjl
      clear hjl
      go_upto_region 12 with (go_at_call 24; refine (stillageref04_at.calls ka1 A1 c1 L1 n' _ wr HK.out.r1.1 HK.out.c1 HKA.out).mono ?_; rintro e w9 ⟨rfl, m9, rfl⟩)
      have HK2 := Aside0.mk (HK.out.grow (pw_below_drewN (Below.refl _ wr) m9))
      generalize wr.drewN m9 = wp at HK2 ⊢
      clear hz0 hzf0 hy0 hyf0 hz1 hzf1 hy1 hyf1 hz2 hzf2 hy2 hyf2 hz3 hzf3 hy3 hyf3
      clear HK
      have HK := HK2
      clear HK2
      have hz0 : wp.cell? ⟨g, 0, none⟩ = some (.int .i64 W) := (blk_cell HK.out.b3 0).trans rfl
      have hz1 : wp.cell? ⟨g, 1, none⟩ = some (.int .u16 n') := (blk_cell HK.out.b3 1).trans rfl
      have hz2 : wp.cell? ⟨g, 2, none⟩ = some (.slice A1 L1.length c1) := (blk_cell HK.out.b3 2).trans rfl
      have hz3 : wp.cell? ⟨g, 3, none⟩ = some (.slice A2 Q1.length c2) := (blk_cell HK.out.b3 3).trans rfl
      have hzf0 := blk_frozen HK.out.b3 0
      have hzf1 := blk_frozen HK.out.b3 1
      have hzf2 := blk_frozen HK.out.b3 2
      have hzf3 := blk_frozen HK.out.b3 3
      have hy0 : wp.cell? ⟨g6, 0, none⟩ = some (.int .i64 0) := (blk_cell HK.out.b6 0).trans rfl
      have hy1 : wp.cell? ⟨g6, 1, none⟩ = some (.int .u16 0) := (blk_cell HK.out.b6 1).trans rfl
      have hy2 : wp.cell? ⟨g6, 2, none⟩ = some (.slice none 0 0) := (blk_cell HK.out.b6 2).trans rfl
      have hy3 : wp.cell? ⟨g6, 3, none⟩ = some (.slice none 0 0) := (blk_cell HK.out.b6 3).trans rfl
      have hyf0 := blk_frozen HK.out.b6 0
      have hyf1 := blk_frozen HK.out.b6 1
      have hyf2 := blk_frozen HK.out.b6 2
      have hyf3 := blk_frozen HK.out.b6 3
      go_upto_region 13 with (go_at_call 24; refine (stillageref04_at.calls ka1 A1 c1 L1 n' _ wp HK.out.r1.1 HK.out.c1 HKA.out).mono ?_; rintro e w9 ⟨rfl, m9b, rfl⟩)
      have HK2 := Aside0.mk (HK.out.grow (pw_below_drewN (Below.refl _ wp) m9b))
      generalize wp.drewN m9b = w10 at HK2 ⊢
      clear hz0 hzf0 hy0 hyf0 hz1 hzf1 hy1 hyf1 hz2 hzf2 hy2 hyf2 hz3 hzf3 hy3 hyf3
      clear HK HKA
      have HK := HK2
      clear HK2
      obtain ⟨ad, rfl, hT0, hT1⟩ := at_T70 HK.out.r1.1 (j : Int) (Int.natCast_nonneg j) (Int.ofNat_lt.2 HJL.out)
      have q2 := eq_true (Int.ofNat_lt.2 HJL.out : (j : Int) < (L1.length : Int))
      have HK2 := Aside0.mk (HK.out.grow (below_drew (Below.refl _ w10)))
      clear HK hge hT0 hT1
      refine start_ (n := 14) (S := fun w' => w'.cell? ⟨g, 3, none⟩ = some (.slice A2 Q1.length c2) ∧ w'.cell? ⟨g, 2, none⟩ = some (.slice (some ad) L1.length c1) ∧ w'.cell? ⟨(ad.add (j * 2)).block, (ad.add (j * 2)).off + 1, none⟩ = some (.string ((rd_T70 L1 (j : Int)).f1)) ∧ Below w10.drew.heap.size w10.drew w') (ds := [13]) #[false, false, false, false, false, false, false, false, false, false, false, false, false, false] (by kernel_rfl) rfl rfl ⟨HK2.out.cell3, HK2.out.cell2, HK2.out.str HJL.out, Below.refl _ _⟩ (fun hHeld => ?_)
      generalize w10.drew = wd at HK2 hHeld ⊢
      have HKd := HK2
      refine pure_ (i := 1) (N := some 69) (v := ?_) (a' := ?_) #[false, true, false, false, false, false, false, false, false, false, false, false, false, false] rfl rfl (by kernel_rfl) (fun _ _ _ h => h) (Or.inl ⟨by rfl, ?_⟩) ?_ ?_
      rotate_left
      · intro w'
        go_simp
        with_reducible rfl
      rotate_left
      · simp only [Act.put, List.setIfInBounds_toArray, List.set_cons_zero, List.set_cons_succ, i64_w, i32_w]
        rfl
      refine pure_ (i := 4) (N := some 72) (v := ?_) (a' := ?_) #[false, true, false, false, true, false, false, false, false, false, false, false, false, false] rfl rfl (by kernel_rfl) (fun _ _ _ h => h) (Or.inl ⟨by rfl, ?_⟩) ?_ ?_
      rotate_left
      · intro w'
        go_simp
        with_reducible rfl
      rotate_left
      · simp only [Act.put, List.setIfInBounds_toArray, List.set_cons_zero, List.set_cons_succ, i64_w, i32_w]
        rfl
      refine pure_ (i := 6) (N := some 74) (v := ?_) (a' := ?_) #[false, true, false, false, true, false, true, false, false, false, false, false, false, false] rfl rfl (by kernel_rfl) (fun _ _ _ h => h) (Or.inl ⟨by rfl, ?_⟩) ?_ ?_
      rotate_left
      · intro w'
        go_simp
        with_reducible rfl
      rotate_left
      · simp only [Act.put, List.setIfInBounds_toArray, List.set_cons_zero, List.set_cons_succ, i64_w, i32_w]
        rfl
      refine take_ (i := 2) (N := some 70) (v := ?_) (a' := ?_) #[false, true, true, false, true, false, true, false, false, false, false, false, false, false] rfl rfl (by kernel_rfl) (fun _ _ _ h => h) (Or.inl ⟨by rfl, ?_⟩) hHeld ?_ ?_
      rotate_left
      · rintro w' ⟨s0, s1, s2, s3⟩
        go_simp
        with_reducible rfl
      rotate_left
      · simp only [Act.put, List.setIfInBounds_toArray, List.set_cons_zero, List.set_cons_succ, i64_w, i32_w]
        rfl
      refine take_ (i := 5) (N := some 73) (v := ?_) (a' := ?_) #[false, true, true, false, true, true, true, false, false, false, false, false, false, false] rfl rfl (by kernel_rfl) (fun _ _ _ h => h) (Or.inl ⟨by rfl, ?_⟩) hHeld ?_ ?_
      rotate_left
      · rintro w' ⟨s0, s1, s2, s3⟩
        go_simp
        with_reducible rfl
      rotate_left
      · simp only [Act.put, List.setIfInBounds_toArray, List.set_cons_zero, List.set_cons_succ, i64_w, i32_w]
        rfl
      refine pure_ (i := 7) (N := some 75) (v := ?_) (a' := ?_) #[false, true, true, false, true, true, true, true, false, false, false, false, false, false] rfl rfl (by kernel_rfl) (fun _ _ _ h => h) (Or.inl ⟨by rfl, ?_⟩) ?_ ?_
      rotate_left
      · intro w'
        go_simp
        with_reducible rfl
      rotate_left
      · simp only [Act.put, List.setIfInBounds_toArray, List.set_cons_zero, List.set_cons_succ, i64_w, i32_w]
        rfl
      refine pure_ (i := 8) (N := some 76) (v := ?_) (a' := ?_) #[false, true, true, false, true, true, true, true, true, false, false, false, false, false] rfl rfl (by kernel_rfl) (fun _ _ _ h => h) (Or.inl ⟨by rfl, ?_⟩) ?_ ?_
      rotate_left
      · intro w'
        go_simp
        with_reducible rfl
      rotate_left
      · simp only [Act.put, List.setIfInBounds_toArray, List.set_cons_zero, List.set_cons_succ, i64_w, i32_w]
        rfl
      refine take_ (i := 9) (N := some 77) (v := ?_) (a' := ?_) #[false, true, true, false, true, true, true, true, true, true, false, false, false, false] rfl rfl (by kernel_rfl) (fun _ _ _ h => h) (Or.inl ⟨by rfl, ?_⟩) hHeld ?_ ?_
      rotate_left
      · rintro w' ⟨s0, s1, s2, s3⟩
        go_simp
        with_reducible rfl
      rotate_left
      · simp only [Act.put, List.setIfInBounds_toArray, List.set_cons_zero, List.set_cons_succ, i64_w, i32_w]
        rfl
      refine join_ (σ := Nat × Value × Nat) 3 #[true, true, true, true, true, true, true, true, true, true, true, false, false, false] (fun s => [(68, .slice (some ⟨s.1, 0, none⟩) 0 0), (71, s.2.1), (78, .slice (some ⟨s.2.2, 0, none⟩) 1 1)]) (fun s w' => Kd.string.R 9 w' wd.heap.size (fun _ => True) s.2.1 Q1 ∧ w'.heap[s.2.2]? = some (.cells #[.string ((rd_T70 L1 (j : Int)).f1)] 9 (0, 0)) ∧ Below wd.heap.size wd w') ?_ ?_
      rotate_left
      · intro hCont
        refine two_ (i := 0) (j := 10) (Ni := some 68) (Nj := some 78) #[true, true, true, false, true, true, true, true, true, true, false, false, false, false] #[false, true, true, false, true, true, true, true, true, true, true, false, false, false] rfl rfl rfl rfl (by kernel_rfl) (by decide) (by decide) (fun K hK => ?_) (fun K hK => ?_)
        · skip
          refine value_ (w1 := ?_) (v := ?_) (by rfl) rfl ?_ ?_
          rotate_left 2
          · go_simp
            constructor
            · rfl
            · rfl
          refine hK.out _ _ ⟨(HK2.out.grow (below_alloc hHeld.2.2.2 _)).cell3, (HK2.out.grow (below_alloc hHeld.2.2.2 _)).cell2, (HK2.out.grow (below_alloc hHeld.2.2.2 _)).str HJL.out, (below_alloc hHeld.2.2.2 _)⟩ (fun hHeld => ?_)
          clear hK K
          refine norm_ (a' := ?_) ?_ ?_
          rotate_left
          · show Act.put _ (some 68) _ = _
            simp only [Act.put, List.setIfInBounds_toArray, List.set_cons_zero, List.set_cons_succ, i64_w, i32_w]
            rfl
          refine two_ (i := 3) (j := 10) (Ni := some 71) (Nj := some 78) #[true, true, true, true, true, true, true, true, true, true, false, false, false, false] #[true, true, true, false, true, true, true, true, true, true, true, false, false, false] rfl rfl rfl rfl (by kernel_rfl) (by decide) (by decide) (fun K hK => ?_) (fun K hK => ?_)
          · skip
            refine Kd.R_append_rows_step Kd.string (Rr := Kd.string.K wd) (w0 := wd) wd.heap.size (by rfl) (.tmp 68) (.tmp 70) 43 9 (.string ⟨#[]⟩) 16 rfl Try.underlying43 info9 rfl (by decide) (by omega) (.slice (some ⟨wd.heap.size, 0, none⟩) 0 0) [] Q1 _ _ _ (fun _ => True) (fun _ => False) rfl rfl (kstr_none0 wd) ?aR (fun _ _ h => h) (fun _ h => h.elim) (fun _ _ => trivial) hHeld.2.2.2 hHeld.2.2.2.size ?aL ?_
            case aR => exact (HK2.out.grow hHeld.2.2.2).r2.1
            case aL => have := HS.out.few; simp; omega
            intro v1 w6 ho hb hg hat
            rw [List.nil_append] at ho
            refine hK.out _ _ ⟨(HK2.out.grow hb).cell3, (HK2.out.grow hb).cell2, (HK2.out.grow hb).str HJL.out, hb⟩ (fun hHeld => ?_)
            clear hK K
            refine norm_ (a' := ?_) ?_ ?_
            rotate_left
            · show Act.put _ (some 71) _ = _
              simp only [Act.put, List.setIfInBounds_toArray, List.set_cons_zero, List.set_cons_succ, i64_w, i32_w]
              rfl
            refine one_ (i := 10) (N := some 78) #[true, true, true, true, true, true, true, true, true, true, true, false, false, false] rfl rfl (by kernel_rfl) (by decide) (fun K hK => ?_)
            refine value_ (w1 := ?_) (v := ?_) (by rfl) rfl ?_ ?_
            rotate_left 2
            · go_simp
              constructor
              · rfl
              · rfl
            refine hK.out _ _ ⟨(HK2.out.grow (below_alloc hHeld.2.2.2 _)).cell3, (HK2.out.grow (below_alloc hHeld.2.2.2 _)).cell2, (HK2.out.grow (below_alloc hHeld.2.2.2 _)).str HJL.out, (below_alloc hHeld.2.2.2 _)⟩ (fun hHeld => ?_)
            clear hK K
            refine norm_ (a' := ?_) ?_ ?_
            rotate_left
            · show Act.put _ (some 78) _ = _
              simp only [Act.put, List.setIfInBounds_toArray, List.set_cons_zero, List.set_cons_succ, i64_w, i32_w]
              rfl
            exact norm_ (by simp only [putAll, Act.put, List.setIfInBounds_toArray, List.set_cons_zero, List.set_cons_succ]) (hCont (wd.heap.size, v1, w6.heap.size) _ ⟨Kd.R_alloc ho _, blk_new _ _, below_alloc hb _⟩)
          · skip
            refine value_ (w1 := ?_) (v := ?_) (by rfl) rfl ?_ ?_
            rotate_left 2
            · go_simp
              constructor
              · rfl
              · rfl
            refine hK.out _ _ ⟨(HK2.out.grow (below_alloc hHeld.2.2.2 _)).cell3, (HK2.out.grow (below_alloc hHeld.2.2.2 _)).cell2, (HK2.out.grow (below_alloc hHeld.2.2.2 _)).str HJL.out, (below_alloc hHeld.2.2.2 _)⟩ (fun hHeld => ?_)
            clear hK K
            refine norm_ (a' := ?_) ?_ ?_
            rotate_left
            · show Act.put _ (some 78) _ = _
              simp only [Act.put, List.setIfInBounds_toArray, List.set_cons_zero, List.set_cons_succ, i64_w, i32_w]
              rfl
            refine one_ (i := 3) (N := some 71) #[true, true, true, true, true, true, true, true, true, true, true, false, false, false] rfl rfl (by kernel_rfl) (by decide) (fun K hK => ?_)
            refine Kd.R_append_rows_step Kd.string (Rr := Kd.string.K wd) (w0 := wd) wd.heap.size (by rfl) (.tmp 68) (.tmp 70) 43 9 (.string ⟨#[]⟩) 16 rfl Try.underlying43 info9 rfl (by decide) (by omega) (.slice (some ⟨wd.heap.size, 0, none⟩) 0 0) [] Q1 _ _ _ (fun _ => True) (fun _ => False) rfl rfl (Kd.R_alloc (kstr_none0 wd) _) ?aR (fun _ _ h => h) (fun _ h => h.elim) (fun _ _ => trivial) hHeld.2.2.2 hHeld.2.2.2.size ?aL ?_
            case aR => exact (HK2.out.grow hHeld.2.2.2).r2.1
            case aL => have := HS.out.few; simp; omega
            intro v1 w6 ho hb hg hat
            rw [List.nil_append] at ho
            have hs := blk_grown (g := wd.heap.size + 1) (blk_new2 wd _ _) hg (by simp [Value.ownBlock])
            refine hK.out _ _ ⟨(HK2.out.grow hb).cell3, (HK2.out.grow hb).cell2, (HK2.out.grow hb).str HJL.out, hb⟩ (fun hHeld => ?_)
            clear hK K
            refine norm_ (a' := ?_) ?_ ?_
            rotate_left
            · show Act.put _ (some 71) _ = _
              simp only [Act.put, List.setIfInBounds_toArray, List.set_cons_zero, List.set_cons_succ, i64_w, i32_w]
              rfl
            exact norm_ (by simp only [putAll, Act.put, List.setIfInBounds_toArray, List.set_cons_zero, List.set_cons_succ]) (hCont (wd.heap.size, v1, wd.heap.size + 1) _ ⟨ho, hs, hb⟩)
        · skip
          refine value_ (w1 := ?_) (v := ?_) (by rfl) rfl ?_ ?_
          rotate_left 2
          · go_simp
            constructor
            · rfl
            · rfl
          refine hK.out _ _ ⟨(HK2.out.grow (below_alloc hHeld.2.2.2 _)).cell3, (HK2.out.grow (below_alloc hHeld.2.2.2 _)).cell2, (HK2.out.grow (below_alloc hHeld.2.2.2 _)).str HJL.out, (below_alloc hHeld.2.2.2 _)⟩ (fun hHeld => ?_)
          clear hK K
          refine norm_ (a' := ?_) ?_ ?_
          rotate_left
          · show Act.put _ (some 78) _ = _
            simp only [Act.put, List.setIfInBounds_toArray, List.set_cons_zero, List.set_cons_succ, i64_w, i32_w]
            rfl
          refine one_ (i := 0) (N := some 68) #[true, true, true, false, true, true, true, true, true, true, true, false, false, false] rfl rfl (by kernel_rfl) (by decide) (fun K hK => ?_)
          refine value_ (w1 := ?_) (v := ?_) (by rfl) rfl ?_ ?_
          rotate_left 2
          · go_simp
            constructor
            · rfl
            · rfl
          refine hK.out _ _ ⟨(HK2.out.grow (below_alloc hHeld.2.2.2 _)).cell3, (HK2.out.grow (below_alloc hHeld.2.2.2 _)).cell2, (HK2.out.grow (below_alloc hHeld.2.2.2 _)).str HJL.out, (below_alloc hHeld.2.2.2 _)⟩ (fun hHeld => ?_)
          clear hK K
          refine norm_ (a' := ?_) ?_ ?_
          rotate_left
          · show Act.put _ (some 68) _ = _
            simp only [Act.put, List.setIfInBounds_toArray, List.set_cons_zero, List.set_cons_succ, i64_w, i32_w]
            rfl
          refine one_ (i := 3) (N := some 71) #[true, true, true, true, true, true, true, true, true, true, true, false, false, false] rfl rfl (by kernel_rfl) (by decide) (fun K hK => ?_)
          refine Kd.R_append_rows_step Kd.string (Rr := Kd.string.K wd) (w0 := wd) wd.heap.size (by rfl) (.tmp 68) (.tmp 70) 43 9 (.string ⟨#[]⟩) 16 rfl Try.underlying43 info9 rfl (by decide) (by omega) (.slice (some ⟨wd.heap.size + 1, 0, none⟩) 0 0) [] Q1 _ _ _ (fun _ => True) (fun _ => False) rfl rfl (kstr_none2 wd _) ?aR (fun _ _ h => h) (fun _ h => h.elim) (fun _ _ => trivial) hHeld.2.2.2 hHeld.2.2.2.size ?aL ?_
          case aR => exact (HK2.out.grow hHeld.2.2.2).r2.1
          case aL => have := HS.out.few; simp; omega
          intro v1 w6 ho hb hg hat
          rw [List.nil_append] at ho
          have hs := blk_grown (g := wd.heap.size) (blk_alloc (blk_new wd _) _) hg (by simp [Value.ownBlock])
          refine hK.out _ _ ⟨(HK2.out.grow hb).cell3, (HK2.out.grow hb).cell2, (HK2.out.grow hb).str HJL.out, hb⟩ (fun hHeld => ?_)
          clear hK K
          refine norm_ (a' := ?_) ?_ ?_
          rotate_left
          · show Act.put _ (some 71) _ = _
            simp only [Act.put, List.setIfInBounds_toArray, List.set_cons_zero, List.set_cons_succ, i64_w, i32_w]
            rfl
          exact norm_ (by simp only [putAll, Act.put, List.setIfInBounds_toArray, List.set_cons_zero, List.set_cons_succ]) (hCont (wd.heap.size + 1, v1, wd.heap.size) _ ⟨ho, hs, hb⟩)
      rintro ⟨g68, v71, g78⟩ w11 ⟨ho, hs, hb⟩
      have hHeld : w11.cell? ⟨g, 3, none⟩ = some (.slice A2 Q1.length c2) ∧ w11.cell? ⟨g, 2, none⟩ = some (.slice (some ad) L1.length c1) ∧ w11.cell? ⟨(ad.add (j * 2)).block, (ad.add (j * 2)).off + 1, none⟩ = some (.string ((rd_T70 L1 (j : Int)).f1)) ∧ Below wd.heap.size wd w11 := ⟨(HK2.out.grow hb).cell3, (HK2.out.grow hb).cell2, (HK2.out.grow hb).str HJL.out, hb⟩
      refine norm_ (a' := ?_) ?_ ?_
      rotate_left
      · simp only [putAll, Act.put, List.setIfInBounds_toArray, List.set_cons_zero, List.set_cons_succ]
        rfl
      refine one_ (i := 11) (N := some 79) #[true, true, true, true, true, true, true, true, true, true, true, true, false, false] rfl rfl (by kernel_rfl) (by decide) (fun K hK => ?_)
      refine Kd.R_append_rows_step Kd.string (Rr := Kd.string.K wd) (w0 := wd) wd.heap.size (by rfl) (.tmp 71) (.tmp 78) 43 9 (.string ⟨#[]⟩) 16 rfl Try.underlying43 info9 rfl (by decide) (by omega) v71 Q1 [(rd_T70 L1 (j : Int)).f1] (some ⟨g78, 0, none⟩) 1 1 (fun _ => True) (fun _ => False) rfl rfl ho (str_row hs) (fun _ _ h => h) (fun _ h => h.elim) (fun _ _ => trivial) hb hb.size ?aL ?_
      case aL => have := HS.out.few; omega
      clear ho hs
      intro v12 w12 ho hb2 hg hat
      have HK2 := Aside0.mk (HK2.out.grow hb2)
      obtain ⟨A12, c12, rfl, hc12, hr12, hf12⟩ := HKd.out.fresh ho
      have HQN := Aside0.mk (And.intro hc12 (And.intro hr12 hf12))
      have hc3 := HK2.out.cell3
      have hf3 := blk_frozen HK2.out.b3 3
      clear hc12 hr12 hf12 ho hb hg hat
      refine hK.out _ _ ⟨HK2.out.cell3, HK2.out.cell2, HK2.out.str HJL.out, hb2⟩ (fun hHeld => ?_)
      clear hK K
      refine norm_ (a' := ?_) ?_ ?_
      rotate_left
      · show Act.put _ (some 79) _ = _
        simp only [Act.put, List.setIfInBounds_toArray, List.set_cons_zero, List.set_cons_succ, i64_w, i32_w]
        rfl
      refine pure_ (i := 12) (N := some 80) (v := ?_) (a' := ?_) #[true, true, true, true, true, true, true, true, true, true, true, true, true, false] rfl rfl (by kernel_rfl) (fun _ _ _ h => h) (Or.inl ⟨by rfl, ?_⟩) ?_ ?_
      rotate_left
      · intro w'
        go_simp
        with_reducible rfl
      rotate_left
      · simp only [Act.put, List.setIfInBounds_toArray, List.set_cons_zero, List.set_cons_succ, i64_w, i32_w]
        rfl
      refine last_ (i := 13) (N := none) #[true, true, true, true, true, true, true, true, true, true, true, true, true, true] rfl rfl (by kernel_rfl) (by decide) (fun K hK => ?_)
      refine skip_ (w1 := w12.setCell ⟨g, 3, none⟩ (.slice A12 (Q1 ++ [(rd_T70 L1 (j : Int)).f1]).length c12)) (by rfl) rfl ?_ ?_
      · go_simp
      refine hK.out _ _ ?_
      clear hK K
      refine done_ (by kernel_rfl) ?_
      have HK3 := Aside0.mk (HK2.out.setQueue HQN.out.2.1 HQN.out.2.2 HQN.out.1)
      generalize w12.setCell ⟨g, 3, none⟩ (.slice A12 (Q1 ++ [(rd_T70 L1 (j : Int)).f1]).length c12) = w13 at HK3 ⊢
      clear HK2 HKd HQN hc3 hf3 hHeld
      have HK2 := Aside0.mk (HK3.out.grow (below_drew (Below.refl _ w13)))
      clear HK3
      have hj1 : wrap64 ((j : Int) + 1) = ((j + 1 : Nat) : Int) := wnext j (by have := HS.out.few; have := HJL.out; omega)
      have hp1 := eq_true (show (j : Int) ≤ (c1 : Int) by have := HK2.out.c1; have := HJL.out; omega)
      have hp2 := eq_true (show (j : Int) + 1 ≤ (L1.length : Int) by have := HJL.out; omega)
      have hp3 := eq_true (show (0 : Int) ≤ (j : Int) + 1 by omega)
      have hp4 := eq_true (show (L1.length : Int) ≤ (c1 : Int) by have := HK2.out.c1; omega)
      go_upto_region 14 with fail
      refine start_ (n := 14) (S := fun w' => w'.cell? ⟨g, 2, none⟩ = some (.slice (some ad) L1.length c1)) (ds := [13]) #[false, false, false, false, false, false, false, false, false, false, false, false, false, false] (by kernel_rfl) rfl rfl (HK2.out.cell2) (fun hHeld => ?_)
      generalize w13.drew = wd at HK2 hHeld ⊢
      refine pure_ (i := 1) (N := some 82) (v := ?_) (a' := ?_) #[false, true, false, false, false, false, false, false, false, false, false, false, false, false] rfl rfl (by kernel_rfl) (fun _ _ _ h => h) (Or.inl ⟨by rfl, ?_⟩) ?_ ?_
      rotate_left
      · intro w'
        go_simp
        with_reducible rfl
      rotate_left
      · simp only [Act.put, List.setIfInBounds_toArray, List.set_cons_zero, List.set_cons_succ, i64_w, i32_w]
        rfl
      refine pure_ (i := 3) (N := some 84) (v := ?_) (a' := ?_) #[false, true, false, true, false, false, false, false, false, false, false, false, false, false] rfl rfl (by kernel_rfl) (fun _ _ _ h => h) (Or.inl ⟨by rfl, ?_⟩) ?_ ?_
      rotate_left
      · intro w'
        go_simp
        with_reducible rfl
      rotate_left
      · simp only [Act.put, List.setIfInBounds_toArray, List.set_cons_zero, List.set_cons_succ, i64_w, i32_w]
        rfl
      refine pure_ (i := 6) (N := some 87) (v := ?_) (a' := ?_) #[false, true, false, true, false, false, true, false, false, false, false, false, false, false] rfl rfl (by kernel_rfl) (fun _ _ _ h => h) (Or.inl ⟨by rfl, ?_⟩) ?_ ?_
      rotate_left
      · intro w'
        go_simp
        with_reducible rfl
      rotate_left
      · simp only [Act.put, List.setIfInBounds_toArray, List.set_cons_zero, List.set_cons_succ, i64_w, i32_w]
        rfl
      refine pure_ (i := 8) (N := some 89) (v := ?_) (a' := ?_) #[false, true, false, true, false, false, true, false, true, false, false, false, false, false] rfl rfl (by kernel_rfl) (fun _ _ _ h => h) (Or.inl ⟨by rfl, ?_⟩) ?_ ?_
      rotate_left
      · intro w'
        go_simp
        with_reducible rfl
      rotate_left
      · simp only [Act.put, List.setIfInBounds_toArray, List.set_cons_zero, List.set_cons_succ, i64_w, i32_w]
        rfl
      refine pure_ (i := 9) (N := some 90) (v := ?_) (a' := ?_) #[false, true, false, true, false, false, true, false, true, true, false, false, false, false] rfl rfl (by kernel_rfl) (fun _ _ _ h => h) (Or.inl ⟨by rfl, ?_⟩) ?_ ?_
      rotate_left
      · intro w'
        go_simp
        with_reducible rfl
      rotate_left
      · simp only [Act.put, List.setIfInBounds_toArray, List.set_cons_zero, List.set_cons_succ, i64_w, i32_w]
        rfl
      refine take_ (i := 2) (N := some 83) (v := ?_) (a' := ?_) #[false, true, true, true, false, false, true, false, true, true, false, false, false, false] rfl rfl (by kernel_rfl) (fun _ _ _ h => h) (Or.inl ⟨by rfl, ?_⟩) hHeld ?_ ?_
      rotate_left
      · intro w' s0
        go_simp
        with_reducible rfl
      rotate_left
      · simp only [Act.put, List.setIfInBounds_toArray, List.set_cons_zero, List.set_cons_succ, i64_w, i32_w]
        rfl
      refine pure_ (i := 4) (N := some 85) (v := ?_) (a' := ?_) #[false, true, true, true, true, false, true, false, true, true, false, false, false, false] rfl rfl (by kernel_rfl) (fun _ _ _ h => h) (Or.inl ⟨by rfl, ?_⟩) ?_ ?_
      rotate_left
      · intro w'
        go_simp
        with_reducible rfl
      rotate_left
      · simp only [Act.put, List.setIfInBounds_toArray, List.set_cons_zero, List.set_cons_succ, i64_w, i32_w]
        rfl
      refine take_ (i := 7) (N := some 88) (v := ?_) (a' := ?_) #[false, true, true, true, true, false, true, true, true, true, false, false, false, false] rfl rfl (by kernel_rfl) (fun _ _ _ h => h) (Or.inl ⟨by rfl, ?_⟩) hHeld ?_ ?_
      rotate_left
      · intro w' s0
        go_simp
        with_reducible rfl
      rotate_left
      · simp only [Act.put, List.setIfInBounds_toArray, List.set_cons_zero, List.set_cons_succ, i64_w, i32_w]
        rfl
      refine pure_ (i := 10) (N := some 91) (v := ?_) (a' := ?_) #[false, true, true, true, true, false, true, true, true, true, true, false, false, false] rfl rfl (by kernel_rfl) (fun _ _ _ h => h) (Or.inl ⟨by rfl, ?_⟩) ?_ ?_
      rotate_left
      · intro w'
        go_simp
        with_reducible rfl
      rotate_left
      · simp only [Act.put, List.setIfInBounds_toArray, List.set_cons_zero, List.set_cons_succ, i64_w, i32_w]
        rfl
      refine one_ (i := 0) (N := some 81) #[true, true, true, true, true, false, true, true, true, true, true, false, false, false] rfl rfl (by kernel_rfl) (by decide) (fun K hK => ?_)
      refine value_ (w1 := ?_) (v := ?_) (by rfl) rfl ?_ ?_
      rotate_left 2
      · go_simp
        constructor
        · rfl
        · rfl
      refine hK.out _ _ ((HK2.out.grow (below_alloc (Below.refl _ wd) _)).cell2) (fun hHeld => ?_)
      clear hK K
      refine norm_ (a' := ?_) ?_ ?_
      rotate_left
      · show Act.put _ (some 81) _ = _
        simp only [Act.put, List.setIfInBounds_toArray, List.set_cons_zero, List.set_cons_succ, i64_w, i32_w]
        rfl
      refine one_ (i := 5) (N := some 86) #[true, true, true, true, true, true, true, true, true, true, true, false, false, false] rfl rfl (by kernel_rfl) (by decide) (fun K hK => ?_)
      refine Kd.R_append_rows_step k70 (Rr := k70.K (wd.alloc (.cells #[] 70))) (w0 := wd) wd.heap.size (by rfl) (.tmp 81) (.tmp 85) 42 70 (.agg #[.int .u16 0, .string ⟨#[]⟩]) 24 rfl Try.underlying42 info70 rfl (by decide) (by omega) (.slice (some ⟨wd.heap.size, 0, none⟩) 0 0) ([]) (L1.take j) _ _ _ (fun _ => True) (fun _ => False) rfl rfl (k70_none wd 70 (fun _ => True)) ?aR (k70_M _ _ _) (fun _ h => h.elim) (fun _ _ => trivial) (below_alloc (Below.refl wd.heap.size wd) (.cells #[] 70)) (below_alloc (Below.refl wd.heap.size wd) (.cells #[] 70)).size ?aL ?_
      case aR => exact part1 (HK2.out.grow (below_alloc (Below.refl _ wd) (.cells #[] 70))) HJL.out
      case aL => have := HS.out.few; have := HJL.out; simp; omega
      intro v5 w5 ho hb hg hat
      have HO5 := Aside0.mk ho
      have HB5 := Aside0.mk hb
      clear ho hg hat
      refine hK.out _ _ ((HK2.out.grow hb).cell2) (fun hHeld => ?_)
      clear hK K
      refine norm_ (a' := ?_) ?_ ?_
      rotate_left
      · show Act.put _ (some 86) _ = _
        simp only [Act.put, List.setIfInBounds_toArray, List.set_cons_zero, List.set_cons_succ, i64_w, i32_w]
        rfl
      refine one_ (i := 11) (N := some 92) #[true, true, true, true, true, true, true, true, true, true, true, true, false, false] rfl rfl (by kernel_rfl) (by decide) (fun K hK => ?_)
      refine Kd.R_append_rows_step k70 (Rr := k70.K w5) (w0 := wd) wd.heap.size (by rfl) (.tmp 86) (.tmp 91) 42 70 (.agg #[.int .u16 0, .string ⟨#[]⟩]) 24 rfl Try.underlying42 info70 rfl (by decide) (by omega) (v5) ([] ++ L1.take j) (L1.drop (j + 1)) _ _ _ (fun _ => True) (fun _ => False) rfl rfl (HO5.out) ?aR (k70_M _ _ _) (fun _ h => h.elim) (fun _ _ => trivial) HB5.out HB5.out.size ?aL ?_
      case aR => exact part2 (HK2.out.grow HB5.out) HJL.out
      case aL => have := HS.out.few; have := HJL.out; simp; omega
      intro v11 w11 ho hb hg hat
      have HO11 := Aside0.mk ho
      have HB11 := Aside0.mk hb
      rw [List.nil_append] at ho
      obtain ⟨A11, c11, rfl, hc11, hr11, hf11⟩ := HK2.out.fresh ho
      have HLN := Aside0.mk (And.intro hc11 (And.intro hr11 hf11))
      have HK2 := Aside0.mk (HK2.out.grow hb)
      have hc3 := HK2.out.cell2
      have hf3 := blk_frozen HK2.out.b3 2
      clear hc11 hr11 hf11 HO11 HO5
      clear ho hg hat
      refine hK.out _ _ (hc3) (fun hHeld => ?_)
      clear hK K
      refine norm_ (a' := ?_) ?_ ?_
      rotate_left
      · show Act.put _ (some 92) _ = _
        simp only [Act.put, List.setIfInBounds_toArray, List.set_cons_zero, List.set_cons_succ, i64_w, i32_w]
        rfl
      refine pure_ (i := 12) (N := some 93) (v := ?_) (a' := ?_) #[true, true, true, true, true, true, true, true, true, true, true, true, true, false] rfl rfl (by kernel_rfl) (fun _ _ _ h => h) (Or.inl ⟨by rfl, ?_⟩) ?_ ?_
      rotate_left
      · intro w'
        go_simp
        with_reducible rfl
      rotate_left
      · simp only [Act.put, List.setIfInBounds_toArray, List.set_cons_zero, List.set_cons_succ, i64_w, i32_w]
        rfl
      refine last_ (i := 13) (N := none) #[true, true, true, true, true, true, true, true, true, true, true, true, true, true] rfl rfl (by kernel_rfl) (by decide) (fun K hK => ?_)
      refine skip_ (w1 := w11.setCell ⟨g, 2, none⟩ (.slice A11 (L1.take j ++ L1.drop (j + 1)).length c11)) (by rfl) rfl ?_ ?_
      · go_simp
      refine hK.out _ _ ?_
      clear hK K
      refine done_ (by kernel_rfl) ?_
      have HK := Aside0.mk (HK2.out.setCame HLN.out.2.1 HLN.out.2.2 HLN.out.1)
      generalize w11.setCell ⟨g, 2, none⟩ (.slice A11 (L1.take j ++ L1.drop (j + 1)).length c11) = w14 at HK ⊢
      clear HK2 HLN hc3 hf3 hHeld
      have hz0 : w14.cell? ⟨g, 0, none⟩ = some (.int .i64 W) := (blk_cell HK.out.b3 0).trans rfl
      have hz1 : w14.cell? ⟨g, 1, none⟩ = some (.int .u16 n') := (blk_cell HK.out.b3 1).trans rfl
      have hz2 : w14.cell? ⟨g, 2, none⟩ = some (.slice A11 (L1.take j ++ L1.drop (j+1)).length c11) := (blk_cell HK.out.b3 2).trans rfl
      have hz3 : w14.cell? ⟨g, 3, none⟩ = some (.slice A12 (Q1++[(rd_T70 L1 (j:Int)).f1]).length c12) := (blk_cell HK.out.b3 3).trans rfl
      have hzf0 := blk_frozen HK.out.b3 0
      have hzf1 := blk_frozen HK.out.b3 1
      have hzf2 := blk_frozen HK.out.b3 2
      have hzf3 := blk_frozen HK.out.b3 3
      have hy0 : w14.cell? ⟨g6, 0, none⟩ = some (.int .i64 0) := (blk_cell HK.out.b6 0).trans rfl
      have hy1 : w14.cell? ⟨g6, 1, none⟩ = some (.int .u16 0) := (blk_cell HK.out.b6 1).trans rfl
      have hy2 : w14.cell? ⟨g6, 2, none⟩ = some (.slice none 0 0) := (blk_cell HK.out.b6 2).trans rfl
      have hy3 : w14.cell? ⟨g6, 3, none⟩ = some (.slice none 0 0) := (blk_cell HK.out.b6 3).trans rfl
      have hyf0 := blk_frozen HK.out.b6 0
      have hyf1 := blk_frozen HK.out.b6 1
      have hyf2 := blk_frozen HK.out.b6 2
      have hyf3 := blk_frozen HK.out.b6 3
      generalize (if c1 = j + 1 then some ad else some (ad.add ((j + 1) * 2))) = AA
      go_wp2
      go_roundg (gk - 1)
      case measure => have := HS.out.fuel; omega
      case rel => exact ⟨_, _, _, _, _, _, _, ⟨HK.out.setN _⟩, HE⟩
end Go.Proofs.Ytjigeblechiffaa.PRef
