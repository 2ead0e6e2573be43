-- The law of stillagelaw09.ZonePieces, walked by hand: what it answers, told by what its callees answer. -- trimmed
import Derived.Test.YtkdfohmceokchaaPZonePiecesx0
import Derived.Test.YtkdfohmceokchaaPZonePiecesx1
import Derived.Test.YtkdfohmceokchaaPZonePiecesx2
import Derived.Test.YtkdfohmceokchaaPZonePiecesx3
import Derived.Test.YtkdfohmceokchaaPZonePiecesx4
import Derived.Test.YtkdfohmceokchaaPZonePiecesx5
import Derived.Test.YtkdfohmceokchaaPZonePiecesx6
import Derived.Test.YtkdfohmceokchaaPZonePiecesx7
import Derived.Test.YtkdfohmceokchaaPZonePiecesx8
import Derived.Test.YtkdfohmceokchaaPZonePiecesx9
import Derived.Test.YtkdfohmceokchaaPZonePiecesx10
namespace Go.Proofs.Ytkdfohmceokchaa.PZonePieces
open Go.RowKit Go.Proofs.YtkdfohmceokchaaW.PrintWords Go.Proofs.YtkdfohmceokchaaW.PrintLast Go.Proofs.YtkdfohmceokchaaW.PrintMore
set_option linter.unusedVariables false
set_option linter.unusedSimpArgs false
/-! got's rows while the law writes into them: from piece i on they are as they came -/
structure ZQ (w : World) (b6 b7 i : Nat) (v : Value) (hs cur : List Hd) (qs : List (List Int)) : Prop where
 outer : kH.R 26 w b6 (fun _ => True) v cur
 lc : cur.length = hs.length
 lp : hs.length = qs.length
 cut : ∀ (j : Nat) (a : Hd), i ≤ j → hs[j]? = some a → cur[j]? = some (hclip a)
 inner : ∀ (j : Nat) (h : Hd) (p : List Int), i ≤ j → hs[j]? = some h → qs[j]? = some p → w.ownsRow b6 3 1 (encHd h) p.length (p.map (Value.int .i64))
 lt : ∀ (j : Nat) (h : Hd), i ≤ j → hs[j]? = some h → ∀ k, (encHd h).ownBlock = some k → k < b7
 vlt : ∀ k, v.ownBlock = some k → k < b7
 out : ∀ (j : Nat) (h : Hd), i ≤ j → hs[j]? = some h → ∀ k, (encHd h).ownBlock = some k → v.ownBlock ≠ some k
 ap : ∀ (m j : Nat) (a b : Hd), i ≤ m → i ≤ j → hs[m]? = some a → hs[j]? = some b → m ≠ j → ∀ k, (encHd a).ownBlock = some k → (encHd b).ownBlock ≠ some k
theorem ZP.toQ {w : World} {b6 : Nat} {v : Value} {hs : List Hd} {ps : List (List Int)} (h : ZP w b6 v hs (hs.map hclip) ps) : ZQ w b6 w.heap.size 0 v hs (hs.map hclip) ps :=
 ⟨h.outer, h.lc, h.lp, fun j a _ ha => by rw [List.getElem?_map, ha]; rfl, fun j a p _ ha hp => h.inner j a p ha hp,
  fun j a _ ha k hk => own_lt (h.inner j a _ ha (List.getElem?_eq_getElem (by rw [← h.lp]; exact (List.getElem?_eq_some_iff.1 ha).1))) k hk, fun k hk => own_lt h.own k hk, fun j a _ ha => h.out j a ha, fun m j a b _ _ ha hb => h.ap m j a b ha hb⟩
theorem ZQ.step {w w1 : World} {b6 b7 i : Nat} {v : Value} {hs cur : List Hd} {qs : List (List Int)} (h : ZQ w b6 b7 i v hs cur qs) (hm : ∀ k, k < b7 → w1.heap[k]? = w.heap[k]?) : ZQ w1 b6 b7 i v hs cur qs :=
 ⟨Kd.R_of_own (own_move (Kd.own_of_R h.outer) (fun k hk => hm k (h.vlt k hk))) (fun _ _ => trivial), h.lc, h.lp, h.cut, fun j a p hi ha hp => own_move (h.inner j a p hi ha hp) (fun k hk => hm k (h.lt j a hi ha k hk)), h.lt, h.vlt, h.out, h.ap⟩
theorem ZQ.below {w w1 : World} {b b6 b7 i : Nat} {v : Value} {hs cur : List Hd} {qs : List (List Int)} (h : ZQ w b6 b7 i v hs cur qs) (hb : Below b w w1) (hle : b7 ≤ b) : ZQ w1 b6 b7 i v hs cur qs := h.step (fun k hk => hb.block k (Nat.lt_of_lt_of_le hk hle))
/-- The header of piece j, and its first numbers. -/
theorem ZQ.head {w : World} {b6 b7 i j : Nat} {v : Value} {hs cur : List Hd} {qs : List (List Int)} {p : List Int} (h : ZQ w b6 b7 i v hs cur qs) (hij : i ≤ j) (hp : qs[j]? = some p) (hne : p ≠ []) :
  ∃ G cap g c, v = .slice (some ⟨G, 0, none⟩) qs.length cap ∧ hs[j]? = some (some ⟨g, 0, none⟩, p.length, c) ∧ G < b7 ∧ b6 ≤ G ∧ g < b7 ∧ b6 ≤ g ∧ G ≠ g ∧ p.length ≤ maxLen ∧ w.cell? ⟨G, j, none⟩ = some (.slice (some ⟨g, 0, none⟩) p.length p.length) ∧ w.frozen? ⟨G, j, none⟩ = false ∧
   ∀ m, m < p.length → w.cell? ⟨g, m, none⟩ = some (.int .i64 (rd p (m : Int))) ∧ w.frozen? ⟨g, m, none⟩ = false := by
 have hjq : j < qs.length := (List.getElem?_eq_some_iff.1 hp).1
 have hjh : j < hs.length := by rw [h.lp]; exact hjq
 have hjc : j < cur.length := by rw [h.lc]; exact hjh
 obtain ⟨G, cap, hv, hGb, hGl, _⟩ := Kd.R_form h.outer (by omega)
 have ha : hs[j]? = some hs[j] := List.getElem?_eq_getElem hjh
 obtain ⟨a, hja⟩ : ∃ a, a = hs[j] := ⟨_, rfl⟩
 rw [← hja] at ha
 have hin := h.inner j a p hij ha hp
 have hR : (Kd.int .i64).R 3 w b6 (fun _ => True) (encHd a) p := Kd.R_of_own (enc := Value.int .i64) (h1 := fun _ => rfl) hin (fun _ _ => trivial)
 obtain ⟨g, c, hva, hgb, hgl, _⟩ := Kd.R_form hR (List.length_pos_iff.2 hne)
 obtain ⟨A, n, c2⟩ := a
 injection hva with e1 e2 e3
 subst e1 e2 e3
 have hc := h.cut j _ hij ha
 have hcell := Kd.R_celln ((none, 0, 0) : Hd) (by rw [hv] at h; exact h.outer) (j : Int) (Int.natCast_nonneg j) (by omega)
 rw [Int.toNat_natCast, show rdOf ((none, 0, 0) : Hd) cur (j : Int) = (some ⟨g, 0, none⟩, p.length, p.length) from by unfold rdOf; rw [Int.toNat_natCast, List.getD_eq_getElem?_getD, hc]; rfl] at hcell
 have hout := h.out j _ hij ha g rfl
 rw [hv] at hout
 have hGv : v.ownBlock = some G := by rw [hv]; rfl
 refine ⟨G, cap, g, c2, by rw [hv, h.lc, h.lp], ha, h.vlt G hGv, hGb, h.lt j _ hij ha g rfl, hgb, fun e => hout (by rw [e]; rfl), by
  rcases hin.2 with ⟨_, hz⟩ | ⟨_, cap, _, e, _, _, h1, h2, _⟩
  ·exact absurd (List.eq_nil_of_length_eq_zero hz) hne
  ·exact Nat.le_trans h1 h2, hcell.1, hcell.2, fun m hm => ?_⟩
 have hcm := Kd.R_celln (0 : Int) (enc := Value.int .i64) (h1 := fun _ => rfl) hR (m : Int) (Int.natCast_nonneg m) (Int.ofNat_lt.2 hm)
 rw [Int.toNat_natCast] at hcm
 exact hcm
/-- A number written into piece j. -/
theorem ZQ.put {w : World} {b6 b7 i j m g n c : Nat} {v : Value} {hs cur : List Hd} {qs : List (List Int)} {p : List Int} {x : Int} (h : ZQ w b6 b7 i v hs cur qs) (hij : i ≤ j) (hp : qs[j]? = some p) (ha : hs[j]? = some (some ⟨g, 0, none⟩, n, c)) :
  ZQ (w.setCell ⟨g, m, none⟩ (.int .i64 x)) b6 b7 i v hs cur (qs.set j (p.set m x)) := by
 have hin := h.inner j _ p hij ha hp
 have hR : (Kd.int .i64).R 3 w b6 (fun _ => True) (.slice (some ⟨g, 0, none⟩) n c) p := Kd.R_of_own (enc := Value.int .i64) (h1 := fun _ => rfl) hin (fun _ _ => trivial)
 have hP := (Kd.R_putg (enc := Value.int .i64) (h1 := fun _ => rfl) hR (m : Int) x).1
 rw [Int.toNat_natCast] at hP
 refine ⟨Kd.R_of_own (own_move (Kd.own_of_R h.outer) (fun k hk => Below.heap_setCell w _ _ k (fun e => h.out j _ hij ha g rfl (by rw [hk, e])))) (fun _ _ => trivial), h.lc, by rw [List.length_set]; exact h.lp, h.cut, fun j2 b q hi2 hb hq => ?_, h.lt, h.vlt, h.out, h.ap⟩
 rcases get_set hq with ⟨hne, hq⟩ | ⟨rfl, rfl⟩
 ·exact own_move (h.inner j2 b q hi2 hb hq) (fun k hk => Below.heap_setCell w _ _ k (fun e => h.ap j j2 _ b hij hi2 ha hb (fun e2 => hne e2.symm) g rfl (by rw [hk, e])))
 ·obtain rfl := Option.some.inj (ha.symm.trans hb)
  exact Kd.own_of_R hP
/-- Piece i gets another header: from the next one on all is as it was. -/
theorem ZQ.next {w w1 : World} {b6 b7 i G cap : Nat} {v : Value} {hs cur : List Hd} {qs : List (List Int)} {a : Hd} (h : ZQ w b6 b7 i v hs cur qs) (hm : ∀ k, k < b7 → w1.heap[k]? = w.heap[k]?) (hv : v = .slice (some ⟨G, 0, none⟩) hs.length cap) :
  ZQ (w1.setCell ⟨G, i, none⟩ (encHd a)) b6 b7 (i + 1) v hs (cur.set i a) qs := by
 have h1 := h.step hm
 have hO := h1.outer
 rw [hv, ← h.lc] at hO
 have hP := (Kd.R_putg hO (i : Int) a).1
 rw [Int.toNat_natCast] at hP
 have le : ∀ {j}, i + 1 ≤ j → i ≤ j := fun h => Nat.le_of_succ_le h
 refine ⟨by rw [hv, ← h.lc]; exact hP, by rw [List.length_set]; exact h.lc, h.lp, fun j b hj hb => ?_, fun j b q hj hb hq => ?_, fun j b hj hb => h.lt j b (le hj) hb, h.vlt, fun j b hj hb => h.out j b (le hj) hb, fun m j x y hm hj hx hy => h.ap m j x y (le hm) (le hj) hx hy⟩
 ·rw [List.getElem?_set_ne (by omega)]
  exact h.cut j b (le hj) hb
 ·exact own_move (h1.inner j b q (le hj) hb hq) (fun k hk => Below.heap_setCell w1 _ _ k (fun e => h.out j b (le hj) hb k hk (by rw [hv, e]; rfl)))
/-- All that the law's own answer needs of the pieces, their zones and the two rows that stay. -/
structure ZMain (k : Nat) (nodes : List S46) (edges : List S43) (path : List Int) (ps : List (List Int)) (zs : List Int) : Prop where
 hP : zone_Pieces.f nodes edges path = some (ps, 0)
 hZ : zone_Zones.f k nodes edges path = some (zs, 0)
 hW : stillageref09_Pieces.f k nodes edges path = some (ps, true)
 hS : stillageref09_Same.f k ps ps = some true
 hzl : zs.length = ps.length
 hne : ∀ (i : Nat) (p : List Int), ps[i]? = some p → p ≠ []
 hzi : ∀ (i : Nat) (p : List Int), ps[i]? = some p → stillageref09_Zone.f nodes edges (rd p 0) = some (rd zs (i : Int))
 hsm : ps.length ≤ 300 ∧ ∀ p ∈ ps, p.length ≤ 300
 h6 : stillageref06_Same.f k nodes edges nodes edges = some true
 hI : stillageref01_Ints.f k path path = some true
/-- The four ways that the law goes. -/
def ZWay (k : Nat) (nodes : List S46) (edges : List S43) (path : List Int) : Prop :=
 stillagelaw09_awake.f k = some true ∧ (300 < path.length ∨ (path.length ≤ 300 ∧ stillageref06_Good.f k nodes edges = some false) ∨ (path.length ≤ 300 ∧ stillageref06_Good.f k nodes edges = some true ∧ stillagelaw06_Own.f nodes edges = some (nodes, edges) ∧
  ((zone_Pieces.f nodes edges path = some ([], 1) ∧ zone_Zones.f k nodes edges path = some ([], 1) ∧ stillageref09_Pieces.f k nodes edges path = some ([], false)) ∨ ∃ ps zs, ZMain k nodes edges path ps zs)))
theorem drew_below {w w1 : World} (h : Drawn0 w w1) : Below w.heap.size w w1 := by
 obtain ⟨⟨n, rfl⟩⟩ := h
 exact pw_below_drewN (Below.refl _ _) n
theorem rowKeep {w w1 : World} {b : Nat} {v : Value} {xs : List Int} (h : (Kd.int .i64).R 3 w b (fun _ => True) v xs) (hm : ∀ k, b ≤ k → k < w.heap.size → w1.heap[k]? = w.heap[k]?) : (Kd.int .i64).R 3 w1 b (fun _ => True) v xs :=
 Kd.R_of_own (enc := Value.int .i64) (h1 := fun _ => rfl) (own_move (Kd.own_of_R h) (fun k hk => hm k (own_base (Kd.own_of_R h) k hk) (own_lt (Kd.own_of_R h) k hk))) (fun _ _ => trivial)
theorem set_size (w : World) (p : Addr) (v : Value) : (w.setCell p v).heap.size = w.heap.size := by simp [World.setCell]
theorem set_far {w : World} {p : Addr} {v : Value} {b : Nat} (h : p.block < b) : ∀ k, b ≤ k → k < w.heap.size → (w.setCell p v).heap[k]? = w.heap[k]? := fun k hk _ => Below.heap_setCell w p v k (by omega)
theorem infoInt : ∃ i, Try.prog.info? 3 = some i ∧ i.zero = some (.int .i64 0) ∧ i.size = 1 ∧ i.bytes = 8 := by
 obtain ⟨i, hi, he⟩ := Option.map_eq_some_iff.1 info3
 simp only [Prod.mk.injEq] at he
 exact ⟨i, hi, he.1, he.2.1, he.2.2⟩
theorem grown_below {w w1 : World} (h : w.grownBy w1 none) : Below w.heap.size w w1 := ⟨h.os, h.tape, h.output, h.size, fun k hk => h.block k hk (by simp)⟩
theorem own_form {w : World} {b e n : Nat} {v : Value} {xs : List Value} (h : w.ownsRow b e 1 v (n + 1) xs) : ∃ g c, v = .slice (some ⟨g, 0, none⟩) (n + 1) c := by
 rcases h.2 with ⟨_, hz⟩ | ⟨g, cap, _, e, _⟩
 ·cases hz
 ·exact ⟨g, cap, e⟩
theorem piece_cells {w w1 : World} {g : Nat} {p' : List Int} {n : Nat} (hn : p'.length = n) (h : ∀ m, m < n → w.cell? ⟨g, m, none⟩ = some (.int .i64 (rd p' (m : Int))) ∧ w.frozen? ⟨g, m, none⟩ = false) (hb : Below w.heap.size w w1) :
  ∀ b, some (⟨g, 0, none⟩ : Addr) = some b → ∀ (j : Nat) (u : Value), (p'.map (Value.int .i64))[j]? = some u → w1.cell? (b.add j) = some u := by
 intro b eb j u hj
 injection eb with eb
 subst eb
 rw [List.getElem?_map] at hj
 obtain ⟨x, hx, rfl⟩ := Option.map_eq_some_iff.1 hj
 have hc := (h j (by rw [← hn]; exact (List.getElem?_eq_some_iff.1 hx).1)).1
 rw [show rd p' (j : Int) = x from by unfold rd; rw [Int.toNat_natCast, List.getD_eq_getElem?_getD, hx]; rfl] at hc
 rw [add_plain]
 exact (hb.cell (World.block_lt_of_cell? _ _ hc)).trans hc
theorem lit_cells {w : World} {g : Nat} (h : w.cell? ⟨g, 0, none⟩ = some (.int .i64 (-1))) : ∀ (j : Nat) (u : Value), [Value.int .i64 (-1)][j]? = some u → w.cell? ((⟨g, 0, none⟩ : Addr).add j) = some u := by
 intro j u hj
 rcases j with _ | j
 ·rw [add_plain, h]
  exact hj
 ·simp at hj
theorem z_w0 {x : Int} (h : -9223372036854775808 ≤ x ∧ x < 9223372036854775808) : wrap64 x = x := by unfold wrap64; omega
set_option maxHeartbeats 8000000 in
set_option maxRecDepth 100000 in
theorem stillagelaw09_ZonePieces.calls (k : Nat) (A0_0 : Option Addr) (c0_0 : Nat) (l0_0 : List (S46)) (A0_1 : Option Addr) (c0_1 : Nat) (l0_1 : List (S43)) (A1 : Option Addr) (c1 : Nat) (l1 : List Int) (w : World) (hr0_0 : Kd.C k46 w A0_0 l0_0.length l0_0) (hc0_0 : l0_0.length ≤ c0_0) (hr0_1 : Kd.C k43 w A0_1 l0_1.length l0_1) (hc0_1 : l0_1.length ≤ c0_1) (hr1 : Kd.C (Kd.int .i64) w A1 l1.length l1) (hc1 : l1.length ≤ c1) (h : ZWay k l0_0 l0_1 l1) :
  Calls Try.prog 3 #[.agg #[.slice A0_0 l0_0.length c0_0, .slice A0_1 l0_1.length c0_1], .slice A1 l1.length c1] w fun e w' => e = .returned (.bool true) ∧ Below w.heap.size w w' := by
 have hu25 := Try.underlying25
 have H0 := Aside0.mk (And.intro hr0_0 hc0_0)
 have H1 := Aside0.mk (And.intro hr0_1 hc0_1)
 have H2 := Aside0.mk (And.intro hr1 hc1)
 obtain ⟨haw, hway⟩ := h
 have HAW := Aside0.mk haw
 clear hr0_0 hc0_0 hr0_1 hc0_1 hr1 hc1 haw
 have HB := Aside0.mk (Below.refl w.heap.size w)
 go_enter Try.func3, Try.ntmps3
 go_upto_region 1 with fail
 have HBa := Aside0.mk (below_alloc (Below.refl w.heap.size w) (.cells #[.slice A0_0 l0_0.length c0_0, .slice A0_1 l0_1.length c0_1] 25))
 have HKa := Aside0.mk (blk_new w (.cells #[.slice A0_0 l0_0.length c0_0, .slice A0_1 l0_1.length c0_1] 25))
 generalize w.alloc (.cells #[.slice A0_0 l0_0.length c0_0, .slice A0_1 l0_1.length c0_1] 25) = wa at HBa HKa ⊢
 have HG := Aside0.mk (HBa.out.size)
 obtain ⟨g3, hg3⟩ : ∃ g3, g3 = w.heap.size := ⟨_, rfl⟩
 rw [← hg3] at HKa
 have HG3 := Aside0.mk hg3
 rw [← hg3]
 clear hg3
 clear HB
 have HB := HBa
 clear HBa
 rcases hway with h300 | ⟨h300, hgood⟩ | ⟨h300, hgood, hown, hrest⟩
 ·have d1 : decide ((l1.length : Int) > 300) = true := decide_eq_true (by omega)
  have d2 : decide ((300 : Int) < (l1.length : Int)) = true := decide_eq_true (by omega)
  clear h300
  go_wp2_with (go_at_call 9; refine (stillagelaw09_awake.calls k true _ HAW.out).mono ?_; rintro e w2 ⟨rfl, hb⟩; have HB2 := Aside0.mk (below_step HB.out hb); clear hb HB; have HB := HB2; clear HB2)
  go_ret
  exact ⟨rfl, HB.out⟩
 ·have d1 : decide ((l1.length : Int) > 300) = false := decide_eq_false (by omega)
  have d2 : decide ((300 : Int) < (l1.length : Int)) = false := decide_eq_false (by omega)
  have HGD := Aside0.mk hgood
  clear h300 hgood
  go_upto_region 3 with (go_at_call 9; refine (stillagelaw09_awake.calls k true _ HAW.out).mono ?_; rintro e w2 ⟨rfl, hb⟩; have HK2 := Aside0.mk (blk_below HKa.out hb); have HB2 := Aside0.mk (below_step HB.out hb); clear hb HB)
  have hb0 : w2.cell? ⟨g3, 0, none⟩ = some (.slice A0_0 l0_0.length c0_0) := (blk_cell HK2.out 0).trans rfl
  have hb1 : w2.cell? ⟨g3, 1, none⟩ = some (.slice A0_1 l0_1.length c0_1) := (blk_cell HK2.out 1).trans rfl
  go_wp2_with (go_at_call 10; refine (stillageref06_Good.calls k _ _ l0_0 _ _ l0_1 false w2 (Kd.C_below H0.out.1 HB2.out) H0.out.2 (Kd.C_below H1.out.1 HB2.out) H1.out.2 HGD.out).mono ?_; rintro e w3 ⟨rfl, hb⟩; have HB := Aside0.mk (below_step HB2.out hb); clear hb HB2 hb0 hb1)
  go_ret
  exact ⟨rfl, HB.out⟩
 ·have d1 : decide ((l1.length : Int) > 300) = false := decide_eq_false (by omega)
  have d2 : decide ((300 : Int) < (l1.length : Int)) = false := decide_eq_false (by omega)
  have HGD := Aside0.mk hgood
  have HOW := Aside0.mk hown
  have HLE := Aside0.mk h300
  clear h300 hgood hown
  go_upto_region 3 with (go_at_call 9; refine (stillagelaw09_awake.calls k true _ HAW.out).mono ?_; rintro e w2 ⟨rfl, hb⟩; have HK2 := Aside0.mk (blk_below HKa.out hb); have HB2 := Aside0.mk (below_step HB.out hb); clear hb HB)
  clear d1 d2 HKa HG
  have hb0 : w2.cell? ⟨g3, 0, none⟩ = some (.slice A0_0 l0_0.length c0_0) := (blk_cell HK2.out 0).trans rfl
  have hb1 : w2.cell? ⟨g3, 1, none⟩ = some (.slice A0_1 l0_1.length c0_1) := (blk_cell HK2.out 1).trans rfl
  go_upto_region 5 with (go_at_call 10; refine (stillageref06_Good.calls k _ _ l0_0 _ _ l0_1 true w2 (Kd.C_below H0.out.1 HB2.out) H0.out.2 (Kd.C_below H1.out.1 HB2.out) H1.out.2 HGD.out).mono ?_; rintro e w3 ⟨rfl, hb⟩; have HK3 := Aside0.mk (blk_below HK2.out hb); have HB3 := Aside0.mk (below_step HB2.out hb); clear hb hb0 hb1)
  clear HB2 HK2 HGD
  have hb0 : w3.cell? ⟨g3, 0, none⟩ = some (.slice A0_0 l0_0.length c0_0) := (blk_cell HK3.out 0).trans rfl
  have hb1 : w3.cell? ⟨g3, 1, none⟩ = some (.slice A0_1 l0_1.length c0_1) := (blk_cell HK3.out 1).trans rfl
  go_upto_region 6 with (first | (go_at_call 11; refine (stillagelaw06_Own.calls _ _ l0_0 _ _ l0_1 l0_0 l0_1 _ (Kd.C_below H0.out.1 HB3.out) H0.out.2 (Kd.C_below H1.out.1 HB3.out) H1.out.2 HOW.out).mono ?_; rintro e w4 ⟨v0, v1, rfl, ho0, ho1, hb⟩; obtain ⟨Ai, ci, rfl⟩ := Kd.R_slice ho0; obtain ⟨Aj, cj, rfl⟩ := Kd.R_slice ho1; have HO0 := Aside0.mk (Kd.R_lower ho0 HB3.out.size); have HO1 := Aside0.mk (Kd.R_lower ho1 HB3.out.size); have HK4 := Aside0.mk (blk_below HK3.out hb); have HB4 := Aside0.mk (below_step HB3.out hb); clear hb ho0 ho1 hb0 hb1 HK3 HB3) | ((with_reducible refine gate_dst (N := 28) rfl ?_); refine Kd.R_lit (Kd.int .i64) _ 3 ?hg (N := 28) ?hd (xs := ([] : List Int)) (inner := []) (ok := fun _ => True) (okp := fun _ => True) ?hr ?hp (fun _ hk => hk) trivial (Below.refl _ _) (Nat.le_refl _) (by simp) ?_; (case hd => rfl); (case hg => rfl); (case hr => first | (go_simp; done) | (go_simp; rfl)); (case hp => exact (Reps.none _ _)); intro v5 w5 ho hb hg_ hnew_; clear hg_ hnew_; have HO0' := Aside0.mk (Kd.R_below HO0.out hb); have HO1' := Aside0.mk (Kd.R_below HO1.out hb); have HO2' := Aside0.mk (Kd.R_lower ho HB4.out.size); have HK5 := Aside0.mk (blk_below HK4.out hb); have HB5 := Aside0.mk (below_step HB4.out hb); clear hb ho HK4 HB4 HO0 HO1; have HO0 := HO0'; have HO1 := HO1'; have HO2 := HO2'; clear HO0' HO1' HO2') | ((with_reducible refine gate_builtin (b := .append) (xs := #[.tmp 28, .tmp 29]) rfl ?_); at_builtin; refine Kd.R_append_rows (Kd.int .i64) (w0 := w) w.heap.size rfl (.tmp 28) (.tmp 29) 26 3 (.int .i64 0) 8 rfl Try.underlying26 info3 rfl (by decide) (by omega) v5 ([] : List Int) l1 _ _ _ (fun _ => True) (fun _ => False) rfl rfl ?aO ?aR (fun _ _ h => h) (fun _ h => h.elim) ?aF ?aB ?aS ?aL ?_; (case aR => exact Kd.C_below H2.out.1 HB5.out); (case aB => exact HB5.out); (case aF => exact fun _ _ => trivial); (case aO => exact HO2.out); (case aS => exact HB5.out.size); (case aL => have := HLE.out; rw [List.length_nil]; omega); intro v6 w6 ho hb hg hat; rw [List.nil_append] at ho; obtain ⟨Ap, cp, rfl⟩ := Kd.R_slice ho; have HK6 := Aside0.mk (blk_grown HK5.out hg (Kd.R_ne HO2.out HK5.out (by decide))); have HO0' := Aside0.mk (Kd.R_over' HO0.out (Kd.R_typed HO2.out) (by decide) hg); have HO1' := Aside0.mk (Kd.R_over' HO1.out (Kd.R_typed HO2.out) (by decide) hg); have HO2' := Aside0.mk ho; have HB6 := Aside0.mk hb; clear hb ho hg hat HK5 HB5 HO0 HO1 HO2; have HO0 := HO0'; have HO1 := HO1'; have HO2 := HO2'; clear HO0' HO1' HO2') | ((with_reducible refine gate_dst (N := 5) rfl ?_); refine box_event ?hg (N := 5) ?hd (cs := #[.slice none 0 0, .slice none 0 0]) (t := 25) ?hr ?_; (case hd => rfl); (case hg => rfl); (case hr => first | (go_simp; done) | (go_simp; rfl)); intro gi hg w7 hbox hb; have HO0' := Aside0.mk (Kd.R_below HO0.out hb); have HO1' := Aside0.mk (Kd.R_below HO1.out hb); have HO2' := Aside0.mk (Kd.R_below HO2.out hb); have HGI := Aside0.mk (show w.heap.size ≤ gi by rw [hg]; exact HB6.out.size); have HNE := Aside0.mk (show g3 ≠ gi by rw [hg]; exact Nat.ne_of_lt (blk_lt HK6.out)); have HK7 := Aside0.mk (blk_below HK6.out hb); have HKi := Aside0.mk hbox; have HB7 := Aside0.mk (below_step HB6.out hb); clear hb hg hbox HK6 HB6 HO0 HO1 HO2; have HO0 := HO0'; have HO1 := HO1'; have HO2 := HO2'; clear HO0' HO1' HO2'; have hc0 := (blk_cell HKi.out 0).trans rfl; have hc1 := (blk_cell HKi.out 1).trans rfl; have hf0 := blk_frozen HKi.out 0; have hf1 := blk_frozen HKi.out 1))
  obtain ⟨ps, e1, zs, want, ok, hP, hZ, hW, hrest⟩ : ∃ ps e1 zs want ok, zone_Pieces.f l0_0 l0_1 l1 = some (ps, e1) ∧ zone_Zones.f k l0_0 l0_1 l1 = some (zs, e1) ∧ stillageref09_Pieces.f k l0_0 l0_1 l1 = some (want, ok) ∧ ((ok = false ∧ e1 = 1 ∧ ps = [] ∧ zs = []) ∨ (ok = true ∧ e1 = 0 ∧ ps = want ∧ ZMain k l0_0 l0_1 l1 ps zs)) := by
   rcases hrest with ⟨h1, h2, h3⟩ | ⟨ps, zs, hM⟩
   ·exact ⟨_, _, _, _, _, h1, h2, h3, .inl ⟨rfl, rfl, rfl, rfl⟩⟩
   ·exact ⟨_, _, _, _, _, hM.hP, hM.hZ, hM.hW, .inr ⟨rfl, rfl, rfl, hM⟩⟩
  have HP := Aside0.mk hP
  have HZ := Aside0.mk hZ
  have HW := Aside0.mk hW
  clear hP hZ hW hc0 hc1 hf0 hf1 HAW HOW
  have HK8 := Aside0.mk (blk_far (p := ⟨gi, 1, none⟩) (blk_far (p := ⟨gi, 0, none⟩) HK7.out HNE.out (.slice Ai l0_0.length ci)) HNE.out (.slice Aj l0_1.length cj))
  have HI8 := Aside0.mk (blk_put (cs := #[.slice Ai l0_0.length ci, .slice none 0 0]) (blk_put (cs := #[.slice none 0 0, .slice none 0 0]) HKi.out 0 (.slice Ai l0_0.length ci) rfl) 1 (.slice Aj l0_1.length cj) rfl)
  have HO0' := Aside0.mk (Kd.R_far (p := ⟨gi, 1, none⟩) (Kd.R_far (p := ⟨gi, 0, none⟩) (Kd.R_types HO0.out HKi.out (by decide)) (fun _ hk => hk.2) (.slice Ai l0_0.length ci)) (fun _ hk => hk.2) (.slice Aj l0_1.length cj))
  have HO1' := Aside0.mk (Kd.R_far (p := ⟨gi, 1, none⟩) (Kd.R_far (p := ⟨gi, 0, none⟩) (Kd.R_types HO1.out HKi.out (by decide)) (fun _ hk => hk.2) (.slice Ai l0_0.length ci)) (fun _ hk => hk.2) (.slice Aj l0_1.length cj))
  have HO2' := Aside0.mk (Kd.R_far (p := ⟨gi, 1, none⟩) (Kd.R_far (p := ⟨gi, 0, none⟩) (Kd.R_types HO2.out HKi.out (by decide)) (fun _ hk => hk.2) (.slice Ai l0_0.length ci)) (fun _ hk => hk.2) (.slice Aj l0_1.length cj))
  have HB8 := Aside0.mk ((HB7.out.setCell (p := ⟨gi, 0, none⟩) HGI.out (.slice Ai l0_0.length ci)).setCell (p := ⟨gi, 1, none⟩) HGI.out (.slice Aj l0_1.length cj))
  clear HO0 HO1 HO2 HK7 HKi HB7
  generalize (w7.setCell ⟨gi, 0, none⟩ (.slice Ai l0_0.length ci)).setCell ⟨gi, 1, none⟩ (.slice Aj l0_1.length cj) = w8 at HK8 HI8 HO0' HO1' HO2' HB8 ⊢
  have HO0 := Aside0.mk (Kd.R_reads' HO0'.out).2
  have HO1 := Aside0.mk (Kd.R_reads' HO1'.out).2
  have HO2 := Aside0.mk (Kd.R_reads' HO2'.out).2
  clear HO0' HO1' HO2' HGI HNE
  have hc0 : w8.cell? ⟨gi, 0, none⟩ = some (.slice Ai l0_0.length ci) := (blk_cell HI8.out 0).trans rfl
  have hc1 : w8.cell? ⟨gi, 1, none⟩ = some (.slice Aj l0_1.length cj) := (blk_cell HI8.out 1).trans rfl
  go_upto_region 7 with (go_at_call 12; refine (zone_Pieces.callsZ _ _ l0_0 _ _ l0_1 _ _ l1 ps e1 _ HO0.out.2 HO0.out.1 HO1.out.2 HO1.out.1 HO2.out.2 HO2.out.1 HP.out).mono ?_; rintro e w9 ⟨vg, hs, rfl, hz, hb⟩; obtain ⟨Ag, cg, hvg⟩ := Kd.R_slice hz.outer; rw [hz.lc, hz.lp] at hvg; subst hvg; have HZ9 := Aside0.mk hz; have HC9 := Aside0.mk hb; clear hz hb hc0 hc1)
  have hc0 : w9.cell? ⟨gi, 0, none⟩ = some (.slice Ai l0_0.length ci) := (blk_cell (blk_below HI8.out HC9.out) 0).trans rfl
  have hc1 : w9.cell? ⟨gi, 1, none⟩ = some (.slice Aj l0_1.length cj) := (blk_cell (blk_below HI8.out HC9.out) 1).trans rfl
  go_upto_region 8 with (go_at_call 13; refine (zone_Zones.calls k _ _ l0_0 _ _ l0_1 _ _ l1 zs e1 _ (Kd.C_below HO0.out.2 HC9.out) HO0.out.1 (Kd.C_below HO1.out.2 HC9.out) HO1.out.1 (Kd.C_below HO2.out.2 HC9.out) HO2.out.1 HZ.out).mono ?_; rintro e w10 ⟨vz, rfl, hz, hb⟩; obtain ⟨Az, cz, rfl⟩ := Kd.R_slice hz; have HR10 := Aside0.mk hz; have HD10 := Aside0.mk hb; have HC10 := Aside0.mk (below_step HC9.out hb); clear hz hb hc0 hc1)
  have hb0 : w10.cell? ⟨g3, 0, none⟩ = some (.slice A0_0 l0_0.length c0_0) := (blk_cell (blk_below HK8.out HC10.out) 0).trans rfl
  have hb1 : w10.cell? ⟨g3, 1, none⟩ = some (.slice A0_1 l0_1.length c0_1) := (blk_cell (blk_below HK8.out HC10.out) 1).trans rfl
  have HBW := Aside0.mk (below_weaken HB8.out HB8.out.size HC10.out)
  go_upto_region 9 with (go_at_call 14; refine (stillageref09_Pieces.calls k _ _ l0_0 _ _ l0_1 _ _ l1 want ok _ (Kd.C_below H0.out.1 HBW.out) H0.out.2 (Kd.C_below H1.out.1 HBW.out) H1.out.2 (Kd.C_below H2.out.1 HBW.out) H2.out.2 HW.out).mono ?_; rintro e w11 ⟨vw, rfl, hz, hb⟩; have hn := Kd.N_mono (ok' := fun k => w9.heap.size ≤ k) (Kd.S_N (Kd.S_bound hz)) (fun k hk => Nat.le_trans HD10.out.size hk.2.1); obtain ⟨Aw, cw, rfl⟩ := Kd.N_slice hn; have HN11 := Aside0.mk hn; have HE11 := Aside0.mk hb; have HC11 := Aside0.mk (below_step HC10.out hb); clear hn hz hb hb0 hb1)
  clear HBW HP HZ HW
  rcases hrest with ⟨rfl, rfl, rfl, rfl⟩ | ⟨rfl, rfl, rfl, hM⟩
  ·have HB11 := Aside0.mk (below_weaken HB8.out HB8.out.size HC11.out)
   go_wp2
   go_ret
   exact ⟨rfl, HB11.out⟩
  ·have HM := Aside0.mk hM
   clear hM
   have hz0 := HR10.out
   rw [HM.out.hzl] at hz0
   have HR11 := Aside0.mk (Kd.R_below hz0 HE11.out)
   have HZ11 := Aside0.mk ((HZ9.out.below HD10.out).below HE11.out)
   obtain ⟨hgl, hgc⟩ := (Kd.N_reads' (HZ11.out.toN (Nat.le_refl _))).2
   have HGC := Aside0.mk (And.intro hgc hgl)
   have HQ11 := Aside0.mk (((HZ9.out.toQ).below HD10.out (Nat.le_refl _)).below HE11.out HD10.out.size)
   have hzl := HM.out.hzl
   have hnz : ((ps.length : Int) != (ps.length : Int)) = false := by simp
   clear hgl hgc hz0 HR10 HZ9 HC9 HC10
   rw [hzl]
   clear hzl
   go_upto_region 13 with (go_at_call 15; refine (stillageref09_Same.calls k _ _ ps _ _ ps true _ HGC.out.1 HGC.out.2 (Kd.N_reads' HN11.out).2.2 (Kd.N_reads' HN11.out).2.1 HM.out.hS).mono ?_; rintro e w12 ⟨rfl, hd⟩; have hb := drew_below hd; have HR12 := Aside0.mk (Kd.R_below HR11.out hb); have HN12 := Aside0.mk (Kd.N_below HN11.out hb); have HQ12 := Aside0.mk (HQ11.out.below hb (Nat.le_trans HD10.out.size HE11.out.size)); have HC12 := Aside0.mk (below_step HC11.out hb); have HX := Aside0.mk hb.size; clear hb hd)
   clear HZ11 HGC HR11 HN11 HQ11 HC11 hnz
   have HLT := Aside0.mk (show w9.heap.size ≤ w12.heap.size from Nat.le_trans (Nat.le_trans HD10.out.size HE11.out.size) HX.out)
   go_wp2
   go_loopg [86] (ps.length + 1) (fun kq v86 wr => ∃ (i : Nat) (cur : List Hd) (qs : List (List Int)), v86 = .int .i64 (i : Int) ∧ Aside0 (Below w8.heap.size w8 wr) ∧ Aside0 (ZQ wr w8.heap.size w9.heap.size i (.slice Ag ps.length cg) hs cur qs) ∧ Aside0 (Kd.R (Kd.int .i64) 3 wr w9.heap.size (fun _ => True) (.slice Az ps.length cz) zs) ∧ Aside0 (Kd.N (Kd.slice 3 (Kd.int .i64)) 26 wr w10.heap.size (fun k => w9.heap.size ≤ k) (.slice Aw ps.length cw) ps) ∧ Aside0 (w9.heap.size ≤ wr.heap.size) ∧ Aside0 (i ≤ ps.length ∧ ps.length - i < kq ∧ qs.length = ps.length ∧ ∀ j, i ≤ j → qs[j]? = ps[j]?))
   case atStart => exact ⟨0, _, ps, rfl, HC12, HQ12, HR12, HN12, HLT, ⟨⟨Nat.zero_le _, by omega, rfl, fun _ _ => rfl⟩⟩⟩
   case round =>
    clear HC12 HQ12 HR12 HN12 HLT
    obtain ⟨i, cur, qs, rfl, HB, HQ, HR, HN, HLT, HI⟩ := hrel
    by_cases hi : i < ps.length
    ·obtain ⟨p, hp⟩ : ∃ p, ps[i]? = some p := ⟨_, List.getElem?_eq_getElem hi⟩
     have hzl : zs.length = ps.length := HM.out.hzl
     obtain ⟨az, ez, hxz⟩ := Kd.at_int (Kd.R_reads' HR.out).2.2 (i : Int) (Int.natCast_nonneg i) (by omega)
     subst ez
     obtain ⟨aw, Aq, cpp, ew, hxw, hlw, hiw⟩ := at_L1 (Kd.N_reads' HN.out).2.2 (i : Int) (Int.natCast_nonneg i) (by omega)
     subst ew
     rw [show rd_L1 ps (i : Int) = p from by unfold rd_L1; rw [Int.toNat_natCast, List.getD_eq_getElem?_getD, hp]; rfl] at hxw hlw hiw
     have hpn : p ≠ [] := HM.out.hne i p hp
     have hpl : 0 < p.length := List.length_pos_iff.2 hpn
     obtain ⟨ap, ep, hxp⟩ := Kd.at_int hiw 0 (Int.le_refl 0) (by omega)
     subst ep
     rw [Int.toNat_natCast] at hxz hxw
     rw [show ap.add ((0 : Int).toNat) = ap from by cases ap; rfl] at hxp
     have hb0 : wr.cell? ⟨g3, 0, none⟩ = some (.slice A0_0 l0_0.length c0_0) := (blk_cell (blk_below HK8.out HB.out) 0).trans rfl
     have hb1 : wr.cell? ⟨g3, 1, none⟩ = some (.slice A0_1 l0_1.length c0_1) := (blk_cell (blk_below HK8.out HB.out) 1).trans rfl
     have HIL := Aside0.mk hi
     have HPN := Aside0.mk (And.intro hp hpn)
     have HZI := Aside0.mk (HM.out.hzi i p hp)
     have d2 := decide_eq_true (Int.ofNat_lt.2 hi : (i : Int) < (ps.length : Int))
     have q1 := eq_true (Int.natCast_nonneg i)
     have q2 := eq_true (Int.ofNat_lt.2 hi : (i : Int) < (ps.length : Int))
     have q3 := eq_true hpl
     have q4 := eq_true (show (0 : Int) < (p.length : Int) by omega)
     have hzz : (rd zs (i : Int) != rd zs (i : Int)) = false := by simp
     clear hi hp hzl hpn hpl hlw hiw
     go_upto_region 16 with fail
     refine start_ (n := 13) (S := fun w' => w'.cell? (az.add i) = some (.int .i64 (rd zs (i : Int))) ∧ w'.cell? ⟨g3, 0, none⟩ = some (.slice A0_0 l0_0.length c0_0) ∧ w'.cell? ⟨g3, 1, none⟩ = some (.slice A0_1 l0_1.length c0_1) ∧ w'.cell? (aw.add i) = some (.slice (some ap) p.length cpp) ∧ w'.cell? ap = some (.int .i64 (rd p 0))) (ds := []) #[false, false, false, false, false, false, false, false, false, false, false, false, false] (by kernel_rfl) rfl rfl ⟨hxz, hb0, hb1, hxw, hxp⟩ (fun hHeld => ?_)
     have HB' := Aside0.mk (below_drew HB.out)
     have HQ' := Aside0.mk (HQ.out.below (below_drew (Below.refl _ _)) HLT.out)
     have HR' := Aside0.mk (Kd.R_drew HR.out)
     have HN' := Aside0.mk (Kd.N_drew HN.out)
     have HLT' := Aside0.mk (show w9.heap.size ≤ wr.drew.heap.size from HLT.out)
     clear HB HQ HR HN HLT
     have HB := HB'
     have HQ := HQ'
     have HR := HR'
     have HN := HN'
     have HLT := HLT'
     clear HB' HQ' HR' HN' HLT'
     generalize wr.drew = wd at HB HQ HR HN HLT hHeld ⊢
     have HBW := Aside0.mk (below_weaken HB8.out HB8.out.size HB.out)
     refine pure_ (i := 0) (N := some 89) (v := ?_) (a' := ?_) #[true, false, false, false, false, false, false, false, false, false, false, false, false] rfl rfl (by kernel_rfl) (fun _ _ _ h => h) (Or.inl ⟨by rfl, ?_⟩) ?_ ?_
     rotate_left
     ·intro w'
      go_simp
      with_reducible rfl
     rotate_left
     ·simp only [Act.put, List.setIfInBounds_toArray, List.set_cons_zero, List.set_cons_succ, i64_w, i32_w]
      rfl
     refine pure_ (i := 1) (N := some 90) (v := ?_) (a' := ?_) #[true, true, false, false, false, false, false, false, false, false, false, false, false] rfl rfl (by kernel_rfl) (fun _ _ _ h => h) (Or.inl ⟨by rfl, ?_⟩) ?_ ?_
     rotate_left
     ·intro w'
      go_simp
      with_reducible rfl
     rotate_left
     ·simp only [Act.put, List.setIfInBounds_toArray, List.set_cons_zero, List.set_cons_succ, i64_w, i32_w]
      rfl
     refine pure_ (i := 2) (N := some 91) (v := ?_) (a' := ?_) #[true, true, true, false, false, false, false, false, false, false, false, false, false] rfl rfl (by kernel_rfl) (fun _ _ _ h => h) (Or.inl ⟨by rfl, ?_⟩) ?_ ?_
     rotate_left
     ·intro w'
      go_simp
      with_reducible rfl
     rotate_left
     ·simp only [Act.put, List.setIfInBounds_toArray, List.set_cons_zero, List.set_cons_succ, i64_w, i32_w]
      rfl
     refine pure_ (i := 5) (N := some 94) (v := ?_) (a' := ?_) #[true, true, true, false, false, true, false, false, false, false, false, false, false] rfl rfl (by kernel_rfl) (fun _ _ _ h => h) (Or.inl ⟨by rfl, ?_⟩) ?_ ?_
     rotate_left
     ·intro w'
      go_simp
      with_reducible rfl
     rotate_left
     ·simp only [Act.put, List.setIfInBounds_toArray, List.set_cons_zero, List.set_cons_succ, i64_w, i32_w]
      rfl
     refine pure_ (i := 6) (N := some 95) (v := ?_) (a' := ?_) #[true, true, true, false, false, true, true, false, false, false, false, false, false] rfl rfl (by kernel_rfl) (fun _ _ _ h => h) (Or.inl ⟨by rfl, ?_⟩) ?_ ?_
     rotate_left
     ·intro w'
      go_simp
      with_reducible rfl
     rotate_left
     ·simp only [Act.put, List.setIfInBounds_toArray, List.set_cons_zero, List.set_cons_succ, i64_w, i32_w]
      rfl
     refine pure_ (i := 7) (N := some 96) (v := ?_) (a' := ?_) #[true, true, true, false, false, true, true, true, false, false, false, false, false] rfl rfl (by kernel_rfl) (fun _ _ _ h => h) (Or.inl ⟨by rfl, ?_⟩) ?_ ?_
     rotate_left
     ·intro w'
      go_simp
      with_reducible rfl
     rotate_left
     ·simp only [Act.put, List.setIfInBounds_toArray, List.set_cons_zero, List.set_cons_succ, i64_w, i32_w]
      rfl
     refine take_ (i := 3) (N := some 92) (v := ?_) (a' := ?_) #[true, true, true, true, false, true, true, true, false, false, false, false, false] rfl rfl (by kernel_rfl) (fun _ _ _ h => h) (Or.inl ⟨by rfl, ?_⟩) hHeld ?_ ?_
     rotate_left
     ·rintro w' ⟨s0, s1, s2, s3, s4⟩
      go_simp
      with_reducible rfl
     rotate_left
     ·simp only [Act.put, List.setIfInBounds_toArray, List.set_cons_zero, List.set_cons_succ, i64_w, i32_w]
      rfl
     refine take_ (i := 4) (N := some 93) (v := ?_) (a' := ?_) #[true, true, true, true, true, true, true, true, false, false, false, false, false] rfl rfl (by kernel_rfl) (fun _ _ _ h => h) (Or.inl ⟨by rfl, ?_⟩) hHeld ?_ ?_
     rotate_left
     ·rintro w' ⟨s0, s1, s2, s3, s4⟩
      go_simp
      with_reducible rfl
     rotate_left
     ·simp only [Act.put, List.setIfInBounds_toArray, List.set_cons_zero, List.set_cons_succ, i64_w, i32_w]
      rfl
     refine take_ (i := 8) (N := some 97) (v := ?_) (a' := ?_) #[true, true, true, true, true, true, true, true, true, false, false, false, false] rfl rfl (by kernel_rfl) (fun _ _ _ h => h) (Or.inl ⟨by rfl, ?_⟩) hHeld ?_ ?_
     rotate_left
     ·rintro w' ⟨s0, s1, s2, s3, s4⟩
      go_simp
      with_reducible rfl
     rotate_left
     ·simp only [Act.put, List.setIfInBounds_toArray, List.set_cons_zero, List.set_cons_succ, i64_w, i32_w]
      rfl
     refine pure_ (i := 9) (N := some 98) (v := ?_) (a' := ?_) #[true, true, true, true, true, true, true, true, true, true, false, false, false] rfl rfl (by kernel_rfl) (fun _ _ _ h => h) (Or.inl ⟨by rfl, ?_⟩) ?_ ?_
     rotate_left
     ·intro w'
      go_simp
      with_reducible rfl
     rotate_left
     ·simp only [Act.put, List.setIfInBounds_toArray, List.set_cons_zero, List.set_cons_succ, i64_w, i32_w]
      rfl
     refine take_ (i := 10) (N := some 99) (v := ?_) (a' := ?_) #[true, true, true, true, true, true, true, true, true, true, true, false, false] rfl rfl (by kernel_rfl) (fun _ _ _ h => h) (Or.inl ⟨by rfl, ?_⟩) hHeld ?_ ?_
     rotate_left
     ·rintro w' ⟨s0, s1, s2, s3, s4⟩
      go_simp
      with_reducible rfl
     rotate_left
     ·simp only [Act.put, List.setIfInBounds_toArray, List.set_cons_zero, List.set_cons_succ, i64_w, i32_w]
      rfl
     refine one_ (i := 11) (N := some 100) #[true, true, true, true, true, true, true, true, true, true, true, true, false] rfl rfl (by kernel_rfl) (by decide) (fun K hK => ?_)
     refine goes_ Try.func16 (by kernel_rfl) rfl #[.agg #[.slice A0_0 l0_0.length c0_0, .slice A0_1 l0_1.length c0_1], .int .i64 (rd p 0)] (by rfl) rfl rfl (by simp only [List.map_toArray, List.map_cons, List.map_nil]; rfl) ?_
     with_reducible refine (stillageref09_Zone.calls _ _ l0_0 _ _ l0_1 (rd p 0) (rd zs (i : Int)) _ (Kd.C_below H0.out.1 HBW.out) H0.out.2 (Kd.C_below H1.out.1 HBW.out) H1.out.2 HZI.out).mono ?_
     rintro e w3 ⟨rfl, hb⟩
     refine ⟨_, rfl, ?_⟩
     have HQ3 := Aside0.mk (HQ.out.below hb HLT.out)
     have HR3 := Aside0.mk (Kd.R_below HR.out hb)
     have HN3 := Aside0.mk (Kd.N_below HN.out hb)
     have HB3 := Aside0.mk (below_step HB.out hb)
     have HLT3 := Aside0.mk (Nat.le_trans HLT.out hb.size)
     refine hK.out _ _ ⟨(hb.cell (World.block_lt_of_cell? _ _ (hHeld.1))).trans (hHeld.1), (hb.cell (World.block_lt_of_cell? _ _ (hHeld.2.1))).trans (hHeld.2.1), (hb.cell (World.block_lt_of_cell? _ _ (hHeld.2.2.1))).trans (hHeld.2.2.1), (hb.cell (World.block_lt_of_cell? _ _ (hHeld.2.2.2.1))).trans (hHeld.2.2.2.1), (hb.cell (World.block_lt_of_cell? _ _ (hHeld.2.2.2.2))).trans (hHeld.2.2.2.2)⟩ (fun hHeld => ?_)
     clear hK K
     refine norm_ (a' := ?_) ?_ ?_
     rotate_left
     ·show Act.put _ (some 100) _ = _
      simp only [Act.put, List.setIfInBounds_toArray, List.set_cons_zero, List.set_cons_succ, i64_w, i32_w]
      rfl
     refine pure_ (i := 12) (N := some 101) (v := ?_) (a' := ?_) #[true, true, true, true, true, true, true, true, true, true, true, true, true] rfl rfl (by kernel_rfl) (fun _ _ _ h => h) (Or.inl ⟨by rfl, ?_⟩) ?_ ?_
     rotate_left
     ·intro w'
      go_simp
      with_reducible rfl
     rotate_left
     ·simp only [Act.put, List.setIfInBounds_toArray, List.set_cons_zero, List.set_cons_succ, i64_w, i32_w]
      rfl
     refine done_ (by kernel_rfl) ?_
     clear hxz hxw hxp hb0 hb1 hzz HB HQ HR HN HLT HBW q3 q4
     have HB := HB3
     have HQ := HQ3
     have HR := HR3
     have HN := HN3
     have HLT := HLT3
     clear HB3 HQ3 HR3 HN3 HLT3 hb hHeld
     obtain ⟨G, cap, g, c, hv, hhs, hGl, hGb, hgl, hgb, hGg, hpm, hcG, hfG, hcells⟩ := HQ.out.head (Nat.le_refl i) ((HI.out.2.2.2 i (Nat.le_refl i)).trans HPN.out.1) HPN.out.2
     injection hv with e1 e2 e3
     subst e1 e3
     have HGG := Aside0.mk (And.intro hGl (And.intro hGb (And.intro hgl (And.intro hgb (And.intro hGg hpm)))))
     have HHS := Aside0.mk hhs
     obtain ⟨g1, hg1⟩ : ∃ g1, g1 + 1 = gk := ⟨gk - 1, by have := HI.out.2.1; omega⟩
     have HG1 := Aside0.mk hg1
     clear hg1 e2 hGl hGb hgl hgb hGg hpm hhs hcells
     go_wp2
     go_loopg [107] (p.length + 1) (fun kq v107 wr => ∃ (m : Nat) (qs' : List (List Int)) (p' : List Int), v107 = .int .i64 (m : Int) ∧ Aside0 (Below w8.heap.size w8 wr) ∧ Aside0 (ZQ wr w8.heap.size w9.heap.size i (.slice (some ⟨G, 0, none⟩) ps.length cg) hs cur qs') ∧ Aside0 (Kd.R (Kd.int .i64) 3 wr w9.heap.size (fun _ => True) (.slice (some az) ps.length cz) zs) ∧ Aside0 (Kd.N (Kd.slice 3 (Kd.int .i64)) 26 wr w10.heap.size (fun k => w9.heap.size ≤ k) (.slice (some aw) ps.length cw) ps) ∧ Aside0 (w9.heap.size ≤ wr.heap.size) ∧ Aside0 (m ≤ p.length ∧ p.length - m < kq ∧ qs'.length = ps.length ∧ qs'[i]? = some p' ∧ p'.length = p.length ∧ ∀ j, i < j → qs'[j]? = ps[j]?))
     case atStart => exact ⟨0, qs, p, rfl, HB, HQ, HR, HN, HLT, ⟨⟨Nat.zero_le _, by omega, HI.out.2.2.1, (HI.out.2.2.2 i (Nat.le_refl i)).trans HPN.out.1, rfl, fun j hj => HI.out.2.2.2 j (Nat.le_of_lt hj)⟩⟩⟩
     case round =>
      clear HB HQ HR HN HLT hcG hfG
      obtain ⟨m, qs', p', rfl, HB, HQ, HR, HN, HLT, HJ⟩ := hrel
      have hpn' : p' ≠ [] := fun e => by have h1 := HJ.out.2.2.2.2.1; rw [e] at h1; exact HPN.out.2 (List.eq_nil_of_length_eq_zero h1.symm)
      obtain ⟨G2, cap2, g2, c2, hv, hhs, _, _, _, _, _, _, hcG, hfG, hcells⟩ := HQ.out.head (Nat.le_refl i) HJ.out.2.2.2.1 hpn'
      injection hv with e1 e2 e3
      injection e1 with e1
      injection e1 with e1
      subst e1
      have e4 := Option.some.inj (HHS.out.symm.trans hhs)
      injection e4 with e4 e5
      injection e4 with e4
      injection e4 with e4
      subst e4
      rw [HJ.out.2.2.2.2.1] at hcG hcells
      clear e2 e3 e5 hhs
      by_cases hm : m < p.length
      ·have d3 := decide_eq_true (Int.ofNat_lt.2 hm : (m : Int) < (p.length : Int))
       have q3 := eq_true (Int.natCast_nonneg m)
       have q4 := eq_true (Int.ofNat_lt.2 hm : (m : Int) < (p.length : Int))
       obtain ⟨hcm, hfm⟩ := hcells m hm
       have HMI := Aside0.mk hm
       have hmm : wrap64 ((m : Int) + 1) = ((m + 1 : Nat) : Int) := by have := HM.out.hsm.2 p (List.mem_of_getElem? HPN.out.1); rw [z_w0 (by omega)]; omega
       clear hcells hm
       go_upto_region 22 with fail
       have HB' := Aside0.mk (HB.out.setCell (p := ⟨g, m, none⟩) HGG.out.2.2.2.1 (.int .i64 (-1)))
       have HQ' := Aside0.mk (HQ.out.put (m := m) (x := -1) (Nat.le_refl i) HJ.out.2.2.2.1 HHS.out)
       have HR' := Aside0.mk (rowKeep HR.out (set_far (p := ⟨g, m, none⟩) (v := .int .i64 (-1)) HGG.out.2.2.1))
       have HN' := Aside0.mk (Kd.N_step HN.out (set_far (p := ⟨g, m, none⟩) (v := .int .i64 (-1)) HGG.out.2.2.1))
       have HLT' := Aside0.mk (show w9.heap.size ≤ (wr.setCell ⟨g, m, none⟩ (.int .i64 (-1))).heap.size by rw [set_size]; exact HLT.out)
       generalize wr.setCell ⟨g, m, none⟩ (.int .i64 (-1)) = wx at HB' HQ' HR' HN' HLT' ⊢
       clear HB HQ HR HN HLT hcG hfG hcm hfm q3 q4 d3
       go_wp2
       go_roundg (gk - 1)
       case measure => have := HJ.out.2.1; have := HMI.out; omega
       case rel => exact ⟨m + 1, _, _, congrArg (Value.int .i64) (by first | exact hmm | exact (Int.natCast_succ m).symm | (simp; done)), HB', HQ', HR', HN', HLT', ⟨⟨HMI.out, by have := HJ.out.2.1; have := HMI.out; omega, by rw [List.length_set]; exact HJ.out.2.2.1, List.getElem?_set_self (by rw [HJ.out.2.2.1]; exact HIL.out), by rw [List.length_set]; exact HJ.out.2.2.2.2.1, fun j hj => by rw [List.getElem?_set_ne (by omega)]; exact HJ.out.2.2.2.2.2 j hj⟩⟩⟩
      ·have d3 : decide ((m : Int) < (p.length : Int)) = false := decide_eq_false (by omega)
       have q3 := eq_false (show ¬ (m : Int) < (p.length : Int) by omega)
       have HCL := Aside0.mk hcells
       clear hm hcells
       generalize (m : Int) = κ at d3 q3 ⊢
       go_upto_region 23 with fail
       clear d3 q3
       obtain ⟨i3, hi3, z3, s3, b3⟩ := infoInt
       have HI3 := Aside0.mk (And.intro hi3 (And.intro z3 (And.intro s3 b3)))
       have HCG := Aside0.mk (And.intro hcG hfG)
       clear hi3 z3 s3 b3 hfG
       go_upto_region 24 with (first | ((with_reducible refine gate_dst (N := 123) rfl ?_); refine Kd.R_lit (Kd.int .i64) _ 3 ?hg (N := 123) ?hd (xs := ([-1] : List Int)) (inner := [.int .i64 (-1)]) (ok := fun _ => True) (okp := fun _ => True) ?hr ?hp (fun _ hk => hk) trivial (Below.refl _ _) (Nat.le_refl _) (by simp) ?_; (case hd => rfl); (case hg => rfl); (case hr => first | (go_simp; done) | (go_simp; rfl)); (case hp => exact (Reps.one (show Kd.M (Kd.int .i64) _ _ _ (-1) [.int .i64 (-1)] from rfl) (Reps.none _ _))); intro vn wn ho hb hg_ hnew_; clear hg_ hnew_; obtain ⟨gq, cq, rfl, _, _, _⟩ := Kd.R_form ho (by decide); have HLIT := Aside0.mk (show _ = some (Value.int .i64 (-1)) from (Kd.R_celln (0 : Int) ho 0 (Int.le_refl 0) (by decide)).1); have HBN := Aside0.mk hb; clear ho hb hcG) | ((with_reducible refine gate_builtin (b := .append) (xs := #[.tmp 122, .tmp 123]) rfl ?_); at_builtin; refine wpList_append_grows _ rfl (.tmp 122) (.tmp 123) 26 rfl 3 i3 (.int .i64 0) 1 8 Try.underlying26 HI3.out.1 HI3.out.2.1 HI3.out.2.2.1 HI3.out.2.2.2 rfl (by decide) (some ⟨g, 0, none⟩) p.length p.length (p'.map (Value.int .i64)) rfl (fun e => by cases e) (by rw [List.length_map, HJ.out.2.2.2.2.1, Nat.mul_one]) ?holds ⟨gq, 0, none⟩ 1 cq [.int .i64 (-1)] rfl rfl ?hc (by simp [Value.oneCell']) (Nat.lt_succ_self _) ?b1 ?b2 ?_; (case holds => exact piece_cells HJ.out.2.2.2.2.1 HCL.out HBN.out); (case hc => exact lit_cells HLIT.out); (case b1 => have := HM.out.hsm.2 p (List.mem_of_getElem? HPN.out.1); unfold maxLen; omega); (case b2 => have := HM.out.hsm.2 p (List.mem_of_getElem? HPN.out.1); omega); intro v2 w4 hown hgr; obtain ⟨g6, c6, rfl⟩ := own_form hown; have HB4 := Aside0.mk (below_step (Below.refl _ _) (grown_below hgr)); have HBV := Aside0.mk (below_step HBN.out (grown_below hgr)); have hcG := (World.cell?_of_block (a := ⟨G, i, none⟩) (HBV.out.block G (Nat.lt_of_lt_of_le HGG.out.1 HLT.out))).trans HCG.out.1; have hfG := (World.frozen?_of_block (a := ⟨G, i, none⟩) (HBV.out.block G (Nat.lt_of_lt_of_le HGG.out.1 HLT.out))).trans HCG.out.2; clear hown hgr HB4))
       have HB' := Aside0.mk ((below_step HB.out HBV.out).setCell (p := ⟨G, i, none⟩) HGG.out.2.1 (.slice (some ⟨g6, 0, none⟩) (p.length + 1) c6))
       have HQ' := Aside0.mk (show ZQ (w4.setCell ⟨G, i, none⟩ (.slice (some ⟨g6, 0, none⟩) (p.length + 1) c6)) w8.heap.size w9.heap.size (i + 1) (.slice (some ⟨G, 0, none⟩) ps.length cg) hs (cur.set i (some ⟨g6, 0, none⟩, p.length + 1, c6)) qs' from HQ.out.next (a := (some ⟨g6, 0, none⟩, p.length + 1, c6)) (fun k hk => HBV.out.block k (Nat.lt_of_lt_of_le hk HLT.out)) (by rw [HQ.out.lp, HJ.out.2.2.1]))
       have HR' := Aside0.mk (rowKeep (Kd.R_below HR.out HBV.out) (set_far (p := ⟨G, i, none⟩) (v := .slice (some ⟨g6, 0, none⟩) (p.length + 1) c6) HGG.out.1))
       have HN' := Aside0.mk (Kd.N_step (Kd.N_below HN.out HBV.out) (set_far (p := ⟨G, i, none⟩) (v := .slice (some ⟨g6, 0, none⟩) (p.length + 1) c6) HGG.out.1))
       have HLT' := Aside0.mk (show w9.heap.size ≤ (w4.setCell ⟨G, i, none⟩ (.slice (some ⟨g6, 0, none⟩) (p.length + 1) c6)).heap.size by rw [set_size]; exact Nat.le_trans HLT.out HBV.out.size)
       generalize w4.setCell ⟨G, i, none⟩ (.slice (some ⟨g6, 0, none⟩) (p.length + 1) c6) = wx at HB' HQ' HR' HN' HLT' ⊢
       clear HB HQ HR HN HLT hcG hfG HBN HBV HLIT HCG HCL HI3
       have HB := HB'
       have HQ := HQ'
       have HR := HR'
       have HN := HN'
       have HLT := HLT'
       clear HB' HQ' HR' HN' HLT'
       obtain ⟨i1, hi1⟩ : ∃ i1, i1 = i + 1 := ⟨_, rfl⟩
       rw [← hi1] at HQ
       have HI1 := Aside0.mk hi1
       have hii : wrap64 ((i : Int) + 1) = (i1 : Int) := by have := HM.out.hsm.1; have := HIL.out; rw [z_w0 (by omega)]; omega
       clear hi1
       by_cases hi2 : i1 < ps.length
       ·obtain ⟨pn, hp2⟩ : ∃ pn, ps[i1]? = some pn := ⟨_, List.getElem?_eq_getElem hi2⟩
        have hpn2 : pn ≠ [] := HM.out.hne i1 pn hp2
        have hpl2 : 0 < pn.length := List.length_pos_iff.2 hpn2
        obtain ⟨G2, cap2, gn, c2, hv, _, _, _, _, _, _, _, hxG, _, hcells⟩ := HQ.out.head (Nat.le_refl i1) ((HJ.out.2.2.2.2.2 i1 (by rw [HI1.out]; exact Nat.lt_succ_self i)).trans hp2) hpn2
        injection hv with e1 e2 e3
        injection e1 with e1
        injection e1 with e1
        subst e1
        clear e2 e3
        have hxn := (hcells 0 hpl2).1
        clear hcells
        obtain ⟨aw2, Aq, cpp, ew, hxw, hlw, hiw⟩ := at_L1 (Kd.N_reads' HN.out).2.2 (i1 : Int) (Int.natCast_nonneg _) (by omega)
        obtain rfl := Option.some.inj ew
        rw [show rd_L1 ps (i1 : Int) = pn from by unfold rd_L1; rw [Int.toNat_natCast, List.getD_eq_getElem?_getD, hp2]; rfl] at hxw hlw hiw
        obtain ⟨ap, ep, hxp⟩ := Kd.at_int hiw 0 (Int.le_refl 0) (by omega)
        subst ep
        rw [Int.toNat_natCast] at hxw
        rw [show ap.add ((0 : Int).toNat) = ap from by cases ap; rfl] at hxp
        have hxn : wx.cell? ⟨gn, 0, none⟩ = some (.int .i64 (rd pn 0)) := hxn
        have d3 := decide_eq_true (show (i1 : Int) < (ps.length : Int) by omega)
        have q3 := eq_true (show (i1 : Int) < (ps.length : Int) by omega)
        have q4 := eq_true (Int.natCast_nonneg i1)
        have q5 := eq_true hpl2
        have q6 := eq_true (show (0 : Int) < (pn.length : Int) by omega)
        have hzz : (rd pn 0 != rd pn 0) = false := by simp
        clear hi2 hp2 hpn2 hpl2 hlw hiw ew
        refine start_ (n := 22) (S := fun w' => w'.cell? ⟨G, i1, none⟩ = some (.slice (some ⟨gn, 0, none⟩) pn.length pn.length) ∧ w'.cell? ⟨gn, 0, none⟩ = some (.int .i64 (rd pn 0)) ∧ w'.cell? (aw.add i1) = some (.slice (some ap) pn.length cpp) ∧ w'.cell? ap = some (.int .i64 (rd pn 0))) (ds := []) #[false, false, false, false, false, false, false, false, false, false, false, false, false, false, false, false, false, false, false, false, false, false] (by kernel_rfl) rfl rfl ⟨hxG, hxn, hxw, hxp⟩ (fun hHeld => ?_)
        have HB' := Aside0.mk (below_drew HB.out)
        have HQ' := Aside0.mk (HQ.out.below (below_drew (Below.refl _ _)) HLT.out)
        have HR' := Aside0.mk (Kd.R_drew HR.out)
        have HN' := Aside0.mk (Kd.N_drew HN.out)
        have HLT' := Aside0.mk (show w9.heap.size ≤ wx.drew.heap.size from HLT.out)
        clear HB HQ HR HN HLT
        have HB := HB'
        have HQ := HQ'
        have HR := HR'
        have HN := HN'
        have HLT := HLT'
        clear HB' HQ' HR' HN' HLT'
        generalize wx.drew = wd at HB HQ HR HN HLT hHeld ⊢
        refine pure_ (i := 0) (N := some 126) (v := ?_) (a' := ?_) #[true, false, false, false, false, false, false, false, false, false, false, false, false, false, false, false, false, false, false, false, false, false] rfl rfl (by kernel_rfl) (fun _ _ _ h => h) (Or.inl ⟨by rfl, ?_⟩) ?_ ?_
        rotate_left
        ·intro w'
         go_simp
         with_reducible rfl
        rotate_left
        ·simp only [Act.put, List.setIfInBounds_toArray, List.set_cons_zero, List.set_cons_succ, i64_w, i32_w]
         rfl
        refine pure_ (i := 1) (N := some 127) (v := ?_) (a' := ?_) #[true, true, false, false, false, false, false, false, false, false, false, false, false, false, false, false, false, false, false, false, false, false] rfl rfl (by kernel_rfl) (fun _ _ _ h => h) (Or.inl ⟨by rfl, ?_⟩) ?_ ?_
        rotate_left
        ·intro w'
         go_simp
         with_reducible rfl
        rotate_left
        ·simp only [Act.put, List.setIfInBounds_toArray, List.set_cons_zero, List.set_cons_succ, i64_w, i32_w]
         rfl
        refine pure_ (i := 2) (N := some 128) (v := ?_) (a' := ?_) #[true, true, true, false, false, false, false, false, false, false, false, false, false, false, false, false, false, false, false, false, false, false] rfl rfl (by kernel_rfl) (fun _ _ _ h => h) (Or.inl ⟨by rfl, ?_⟩) ?_ ?_
        rotate_left
        ·intro w'
         go_simp
         with_reducible rfl
        rotate_left
        ·simp only [Act.put, List.setIfInBounds_toArray, List.set_cons_zero, List.set_cons_succ, i64_w, i32_w]
         rfl
        refine pure_ (i := 3) (N := some 129) (v := ?_) (a' := ?_) #[true, true, true, true, false, false, false, false, false, false, false, false, false, false, false, false, false, false, false, false, false, false] rfl rfl (by kernel_rfl) (fun _ _ _ h => h) (Or.inl ⟨by rfl, ?_⟩) ?_ ?_
        rotate_left
        ·intro w'
         go_simp
         with_reducible rfl
        rotate_left
        ·simp only [Act.put, List.setIfInBounds_toArray, List.set_cons_zero, List.set_cons_succ, i64_w, i32_w]
         rfl
        refine pure_ (i := 4) (N := some 130) (v := ?_) (a' := ?_) #[true, true, true, true, true, false, false, false, false, false, false, false, false, false, false, false, false, false, false, false, false, false] rfl rfl (by kernel_rfl) (fun _ _ _ h => h) (Or.inl ⟨by rfl, ?_⟩) ?_ ?_
        rotate_left
        ·intro w'
         go_simp
         with_reducible rfl
        rotate_left
        ·simp only [Act.put, List.setIfInBounds_toArray, List.set_cons_zero, List.set_cons_succ, i64_w, i32_w]
         rfl
        refine pure_ (i := 5) (N := some 131) (v := ?_) (a' := ?_) #[true, true, true, true, true, true, false, false, false, false, false, false, false, false, false, false, false, false, false, false, false, false] rfl rfl (by kernel_rfl) (fun _ _ _ h => h) (Or.inl ⟨by rfl, ?_⟩) ?_ ?_
        rotate_left
        ·intro w'
         go_simp
         with_reducible rfl
        rotate_left
        ·simp only [Act.put, List.setIfInBounds_toArray, List.set_cons_zero, List.set_cons_succ, i64_w, i32_w]
         rfl
        refine pure_ (i := 6) (N := some 132) (v := ?_) (a' := ?_) #[true, true, true, true, true, true, true, false, false, false, false, false, false, false, false, false, false, false, false, false, false, false] rfl rfl (by kernel_rfl) (fun _ _ _ h => h) (Or.inl ⟨by rfl, ?_⟩) ?_ ?_
        rotate_left
        ·intro w'
         go_simp
         with_reducible rfl
        rotate_left
        ·simp only [Act.put, List.setIfInBounds_toArray, List.set_cons_zero, List.set_cons_succ, i64_w, i32_w]
         rfl
        refine pure_ (i := 7) (N := some 133) (v := ?_) (a' := ?_) #[true, true, true, true, true, true, true, true, false, false, false, false, false, false, false, false, false, false, false, false, false, false] rfl rfl (by kernel_rfl) (fun _ _ _ h => h) (Or.inl ⟨by rfl, ?_⟩) ?_ ?_
        rotate_left
        ·intro w'
         go_simp
         with_reducible rfl
        rotate_left
        ·simp only [Act.put, List.setIfInBounds_toArray, List.set_cons_zero, List.set_cons_succ, i64_w, i32_w]
         rfl
        refine pure_ (i := 8) (N := some 134) (v := ?_) (a' := ?_) #[true, true, true, true, true, true, true, true, true, false, false, false, false, false, false, false, false, false, false, false, false, false] rfl rfl (by kernel_rfl) (fun _ _ _ h => h) (Or.inl ⟨by rfl, ?_⟩) ?_ ?_
        rotate_left
        ·intro w'
         go_simp
         with_reducible rfl
        rotate_left
        ·simp only [Act.put, List.setIfInBounds_toArray, List.set_cons_zero, List.set_cons_succ, i64_w, i32_w]
         rfl
        refine pure_ (i := 9) (N := some 135) (v := ?_) (a' := ?_) #[true, true, true, true, true, true, true, true, true, true, false, false, false, false, false, false, false, false, false, false, false, false] rfl rfl (by kernel_rfl) (fun _ _ _ h => h) (Or.inl ⟨by rfl, ?_⟩) ?_ ?_
        rotate_left
        ·intro w'
         go_simp
         with_reducible rfl
        rotate_left
        ·simp only [Act.put, List.setIfInBounds_toArray, List.set_cons_zero, List.set_cons_succ, i64_w, i32_w]
         rfl
        refine pure_ (i := 13) (N := some 139) (v := ?_) (a' := ?_) #[true, true, true, true, true, true, true, true, true, true, false, false, false, true, false, false, false, false, false, false, false, false] rfl rfl (by kernel_rfl) (fun _ _ _ h => h) (Or.inl ⟨by rfl, ?_⟩) ?_ ?_
        rotate_left
        ·intro w'
         go_simp
         with_reducible rfl
        rotate_left
        ·simp only [Act.put, List.setIfInBounds_toArray, List.set_cons_zero, List.set_cons_succ, i64_w, i32_w]
         rfl
        refine pure_ (i := 14) (N := some 140) (v := ?_) (a' := ?_) #[true, true, true, true, true, true, true, true, true, true, false, false, false, true, true, false, false, false, false, false, false, false] rfl rfl (by kernel_rfl) (fun _ _ _ h => h) (Or.inl ⟨by rfl, ?_⟩) ?_ ?_
        rotate_left
        ·intro w'
         go_simp
         with_reducible rfl
        rotate_left
        ·simp only [Act.put, List.setIfInBounds_toArray, List.set_cons_zero, List.set_cons_succ, i64_w, i32_w]
         rfl
        refine pure_ (i := 15) (N := some 141) (v := ?_) (a' := ?_) #[true, true, true, true, true, true, true, true, true, true, false, false, false, true, true, true, false, false, false, false, false, false] rfl rfl (by kernel_rfl) (fun _ _ _ h => h) (Or.inl ⟨by rfl, ?_⟩) ?_ ?_
        rotate_left
        ·intro w'
         go_simp
         with_reducible rfl
        rotate_left
        ·simp only [Act.put, List.setIfInBounds_toArray, List.set_cons_zero, List.set_cons_succ, i64_w, i32_w]
         rfl
        refine pure_ (i := 16) (N := some 142) (v := ?_) (a' := ?_) #[true, true, true, true, true, true, true, true, true, true, false, false, false, true, true, true, true, false, false, false, false, false] rfl rfl (by kernel_rfl) (fun _ _ _ h => h) (Or.inl ⟨by rfl, ?_⟩) ?_ ?_
        rotate_left
        ·intro w'
         go_simp
         with_reducible rfl
        rotate_left
        ·simp only [Act.put, List.setIfInBounds_toArray, List.set_cons_zero, List.set_cons_succ, i64_w, i32_w]
         rfl
        refine take_ (i := 10) (N := some 136) (v := ?_) (a' := ?_) #[true, true, true, true, true, true, true, true, true, true, true, false, false, true, true, true, true, false, false, false, false, false] rfl rfl (by kernel_rfl) (fun _ _ _ h => h) (Or.inl ⟨by rfl, ?_⟩) hHeld ?_ ?_
        rotate_left
        ·rintro w' ⟨s0, s1, s2, s3⟩
         go_simp
         with_reducible rfl
        rotate_left
        ·simp only [Act.put, List.setIfInBounds_toArray, List.set_cons_zero, List.set_cons_succ, i64_w, i32_w]
         rfl
        refine pure_ (i := 11) (N := some 137) (v := ?_) (a' := ?_) #[true, true, true, true, true, true, true, true, true, true, true, true, false, true, true, true, true, false, false, false, false, false] rfl rfl (by kernel_rfl) (fun _ _ _ h => h) (Or.inl ⟨by rfl, ?_⟩) ?_ ?_
        rotate_left
        ·intro w'
         go_simp
         with_reducible rfl
        rotate_left
        ·simp only [Act.put, List.setIfInBounds_toArray, List.set_cons_zero, List.set_cons_succ, i64_w, i32_w]
         rfl
        refine take_ (i := 12) (N := some 138) (v := ?_) (a' := ?_) #[true, true, true, true, true, true, true, true, true, true, true, true, true, true, true, true, true, false, false, false, false, false] rfl rfl (by kernel_rfl) (fun _ _ _ h => h) (Or.inl ⟨by rfl, ?_⟩) hHeld ?_ ?_
        rotate_left
        ·rintro w' ⟨s0, s1, s2, s3⟩
         go_simp
         with_reducible rfl
        rotate_left
        ·simp only [Act.put, List.setIfInBounds_toArray, List.set_cons_zero, List.set_cons_succ, i64_w, i32_w]
         rfl
        refine take_ (i := 17) (N := some 143) (v := ?_) (a' := ?_) #[true, true, true, true, true, true, true, true, true, true, true, true, true, true, true, true, true, true, false, false, false, false] rfl rfl (by kernel_rfl) (fun _ _ _ h => h) (Or.inl ⟨by rfl, ?_⟩) hHeld ?_ ?_
        rotate_left
        ·rintro w' ⟨s0, s1, s2, s3⟩
         go_simp
         with_reducible rfl
        rotate_left
        ·simp only [Act.put, List.setIfInBounds_toArray, List.set_cons_zero, List.set_cons_succ, i64_w, i32_w]
         rfl
        refine pure_ (i := 18) (N := some 144) (v := ?_) (a' := ?_) #[true, true, true, true, true, true, true, true, true, true, true, true, true, true, true, true, true, true, true, false, false, false] rfl rfl (by kernel_rfl) (fun _ _ _ h => h) (Or.inl ⟨by rfl, ?_⟩) ?_ ?_
        rotate_left
        ·intro w'
         go_simp
         with_reducible rfl
        rotate_left
        ·simp only [Act.put, List.setIfInBounds_toArray, List.set_cons_zero, List.set_cons_succ, i64_w, i32_w]
         rfl
        refine take_ (i := 19) (N := some 145) (v := ?_) (a' := ?_) #[true, true, true, true, true, true, true, true, true, true, true, true, true, true, true, true, true, true, true, true, false, false] rfl rfl (by kernel_rfl) (fun _ _ _ h => h) (Or.inl ⟨by rfl, ?_⟩) hHeld ?_ ?_
        rotate_left
        ·rintro w' ⟨s0, s1, s2, s3⟩
         go_simp
         with_reducible rfl
        rotate_left
        ·simp only [Act.put, List.setIfInBounds_toArray, List.set_cons_zero, List.set_cons_succ, i64_w, i32_w]
         rfl
        refine pure_ (i := 20) (N := some 146) (v := ?_) (a' := ?_) #[true, true, true, true, true, true, true, true, true, true, true, true, true, true, true, true, true, true, true, true, true, false] rfl rfl (by kernel_rfl) (fun _ _ _ h => h) (Or.inl ⟨by rfl, ?_⟩) ?_ ?_
        rotate_left
        ·intro w'
         go_simp
         with_reducible rfl
        rotate_left
        ·simp only [Act.put, List.setIfInBounds_toArray, List.set_cons_zero, List.set_cons_succ, i64_w, i32_w]
         rfl
        refine pure_ (i := 21) (N := some 147) (v := ?_) (a' := ?_) #[true, true, true, true, true, true, true, true, true, true, true, true, true, true, true, true, true, true, true, true, true, true] rfl rfl (by kernel_rfl) (fun _ _ _ h => h) (Or.inl ⟨by rfl, ?_⟩) ?_ ?_
        rotate_left
        ·intro w'
         go_simp
         with_reducible rfl
        rotate_left
        ·simp only [Act.put, List.setIfInBounds_toArray, List.set_cons_zero, List.set_cons_succ, i64_w, i32_w]
         rfl
        refine done_ (by kernel_rfl) ?_
        clear hxG hxn hxw hxp
        go_wp2
        go_roundg g1
        case measure => have := HG1.out; omega
        case rel => exact ⟨i1, _, qs', congrArg (Value.int .i64) (by first | exact hii | rfl | (simp; done)), HB, HQ, HR, HN, HLT, ⟨⟨by have := HIL.out; have := HI1.out; omega, by have := HI.out.2.1; have := HIL.out; have := HI1.out; have := HG1.out; omega, HJ.out.2.2.1, fun j hj => HJ.out.2.2.2.2.2 j (by have := HI1.out; omega)⟩⟩⟩
       ·have d3 := decide_eq_false (show ¬ (i1 : Int) < (ps.length : Int) by omega)
        have q3 := eq_false (show ¬ (i1 : Int) < (ps.length : Int) by omega)
        clear hi2
        refine start_ (n := 22) (S := fun w' => True) (ds := []) #[false, false, false, false, false, false, false, false, false, false, false, false, false, false, false, false, false, false, false, false, false, false] (by kernel_rfl) rfl rfl trivial (fun hHeld => ?_)
        have HB' := Aside0.mk (below_drew HB.out)
        have HQ' := Aside0.mk (HQ.out.below (below_drew (Below.refl _ _)) HLT.out)
        have HR' := Aside0.mk (Kd.R_drew HR.out)
        have HN' := Aside0.mk (Kd.N_drew HN.out)
        have HLT' := Aside0.mk (show w9.heap.size ≤ wx.drew.heap.size from HLT.out)
        clear HB HQ HR HN HLT
        have HB := HB'
        have HQ := HQ'
        have HR := HR'
        have HN := HN'
        have HLT := HLT'
        clear HB' HQ' HR' HN' HLT'
        generalize wx.drew = wd at HB HQ HR HN HLT hHeld ⊢
        refine pure_ (i := 0) (N := some 126) (v := ?_) (a' := ?_) #[true, false, false, false, false, false, false, false, false, false, false, false, false, false, false, false, false, false, false, false, false, false] rfl rfl (by kernel_rfl) (fun _ _ _ h => h) (Or.inl ⟨by rfl, ?_⟩) ?_ ?_
        rotate_left
        ·intro w'
         go_simp
         with_reducible rfl
        rotate_left
        ·simp only [Act.put, List.setIfInBounds_toArray, List.set_cons_zero, List.set_cons_succ, i64_w, i32_w]
         rfl
        refine pure_ (i := 1) (N := some 127) (v := ?_) (a' := ?_) #[true, true, false, false, false, false, false, false, false, false, false, false, false, false, false, false, false, false, false, false, false, false] rfl rfl (by kernel_rfl) (fun _ _ _ h => h) (Or.inl ⟨by rfl, ?_⟩) ?_ ?_
        rotate_left
        ·intro w'
         go_simp
         with_reducible rfl
        rotate_left
        ·simp only [Act.put, List.setIfInBounds_toArray, List.set_cons_zero, List.set_cons_succ, i64_w, i32_w]
         rfl
        refine pure_ (i := 2) (N := some 128) (v := ?_) (a' := ?_) #[true, true, true, false, false, false, false, false, false, false, false, false, false, false, false, false, false, false, false, false, false, false] rfl rfl (by kernel_rfl) (fun _ _ _ h => h) (Or.inl ⟨by rfl, ?_⟩) ?_ ?_
        rotate_left
        ·intro w'
         go_simp
         with_reducible rfl
        rotate_left
        ·simp only [Act.put, List.setIfInBounds_toArray, List.set_cons_zero, List.set_cons_succ, i64_w, i32_w]
         rfl
        refine pure_ (i := 3) (N := some 129) (v := ?_) (a' := ?_) #[true, true, true, true, false, false, false, false, false, false, false, false, false, false, false, false, false, false, false, false, false, false] rfl rfl (by kernel_rfl) (fun _ _ _ h => h) (Or.inl ⟨by rfl, ?_⟩) ?_ ?_
        rotate_left
        ·intro w'
         go_simp
         with_reducible rfl
        rotate_left
        ·simp only [Act.put, List.setIfInBounds_toArray, List.set_cons_zero, List.set_cons_succ, i64_w, i32_w]
         rfl
        refine pure_ (i := 4) (N := some 130) (v := ?_) (a' := ?_) #[true, true, true, true, true, false, false, false, false, false, false, false, false, false, false, false, false, false, false, false, false, false] rfl rfl (by kernel_rfl) (fun _ _ _ h => h) (Or.inl ⟨by rfl, ?_⟩) ?_ ?_
        rotate_left
        ·intro w'
         go_simp
         with_reducible rfl
        rotate_left
        ·simp only [Act.put, List.setIfInBounds_toArray, List.set_cons_zero, List.set_cons_succ, i64_w, i32_w]
         rfl
        refine pure_ (i := 5) (N := some 131) (v := ?_) (a' := ?_) #[true, true, true, true, true, true, false, false, false, false, false, false, false, false, false, false, false, false, false, false, false, false] rfl rfl (by kernel_rfl) (fun _ _ _ h => h) (Or.inl ⟨by rfl, ?_⟩) ?_ ?_
        rotate_left
        ·intro w'
         go_simp
         with_reducible rfl
        rotate_left
        ·simp only [Act.put, List.setIfInBounds_toArray, List.set_cons_zero, List.set_cons_succ, i64_w, i32_w]
         rfl
        refine pure_ (i := 6) (N := some 132) (v := undef) (a' := ?_) #[true, true, true, true, true, true, true, false, false, false, false, false, false, false, false, false, false, false, false, false, false, false] rfl rfl (by kernel_rfl) (fun _ _ _ h => h) (Or.inr ⟨by rfl, rfl⟩) ?_ ?_
        rotate_left
        ·simp only [Act.put, List.setIfInBounds_toArray, List.set_cons_zero, List.set_cons_succ, i64_w, i32_w]
         rfl
        refine pure_ (i := 7) (N := some 133) (v := undef) (a' := ?_) #[true, true, true, true, true, true, true, true, false, false, false, false, false, false, false, false, false, false, false, false, false, false] rfl rfl (by kernel_rfl) (fun _ _ _ h => h) (Or.inr ⟨by rfl, rfl⟩) ?_ ?_
        rotate_left
        ·simp only [Act.put, List.setIfInBounds_toArray, List.set_cons_zero, List.set_cons_succ, i64_w, i32_w]
         rfl
        refine pure_ (i := 8) (N := some 134) (v := undef) (a' := ?_) #[true, true, true, true, true, true, true, true, true, false, false, false, false, false, false, false, false, false, false, false, false, false] rfl rfl (by kernel_rfl) (fun _ _ _ h => h) (Or.inr ⟨by rfl, rfl⟩) ?_ ?_
        rotate_left
        ·simp only [Act.put, List.setIfInBounds_toArray, List.set_cons_zero, List.set_cons_succ, i64_w, i32_w]
         rfl
        refine pure_ (i := 9) (N := some 135) (v := undef) (a' := ?_) #[true, true, true, true, true, true, true, true, true, true, false, false, false, false, false, false, false, false, false, false, false, false] rfl rfl (by kernel_rfl) (fun _ _ _ h => h) (Or.inr ⟨by rfl, rfl⟩) ?_ ?_
        rotate_left
        ·simp only [Act.put, List.setIfInBounds_toArray, List.set_cons_zero, List.set_cons_succ, i64_w, i32_w]
         rfl
        refine pure_ (i := 10) (N := some 136) (v := undef) (a' := ?_) #[true, true, true, true, true, true, true, true, true, true, true, false, false, false, false, false, false, false, false, false, false, false] rfl rfl (by kernel_rfl) (fun _ _ _ h => h) (Or.inr ⟨by rfl, rfl⟩) ?_ ?_
        rotate_left
        ·simp only [Act.put, List.setIfInBounds_toArray, List.set_cons_zero, List.set_cons_succ, i64_w, i32_w]
         rfl
        refine pure_ (i := 11) (N := some 137) (v := undef) (a' := ?_) #[true, true, true, true, true, true, true, true, true, true, true, true, false, false, false, false, false, false, false, false, false, false] rfl rfl (by kernel_rfl) (fun _ _ _ h => h) (Or.inr ⟨by rfl, rfl⟩) ?_ ?_
        rotate_left
        ·simp only [Act.put, List.setIfInBounds_toArray, List.set_cons_zero, List.set_cons_succ, i64_w, i32_w]
         rfl
        refine pure_ (i := 12) (N := some 138) (v := undef) (a' := ?_) #[true, true, true, true, true, true, true, true, true, true, true, true, true, false, false, false, false, false, false, false, false, false] rfl rfl (by kernel_rfl) (fun _ _ _ h => h) (Or.inr ⟨by rfl, rfl⟩) ?_ ?_
        rotate_left
        ·simp only [Act.put, List.setIfInBounds_toArray, List.set_cons_zero, List.set_cons_succ, i64_w, i32_w]
         rfl
        refine pure_ (i := 13) (N := some 139) (v := undef) (a' := ?_) #[true, true, true, true, true, true, true, true, true, true, true, true, true, true, false, false, false, false, false, false, false, false] rfl rfl (by kernel_rfl) (fun _ _ _ h => h) (Or.inr ⟨by rfl, rfl⟩) ?_ ?_
        rotate_left
        ·simp only [Act.put, List.setIfInBounds_toArray, List.set_cons_zero, List.set_cons_succ, i64_w, i32_w]
         rfl
        refine pure_ (i := 14) (N := some 140) (v := undef) (a' := ?_) #[true, true, true, true, true, true, true, true, true, true, true, true, true, true, true, false, false, false, false, false, false, false] rfl rfl (by kernel_rfl) (fun _ _ _ h => h) (Or.inr ⟨by rfl, rfl⟩) ?_ ?_
        rotate_left
        ·simp only [Act.put, List.setIfInBounds_toArray, List.set_cons_zero, List.set_cons_succ, i64_w, i32_w]
         rfl
        refine pure_ (i := 15) (N := some 141) (v := undef) (a' := ?_) #[true, true, true, true, true, true, true, true, true, true, true, true, true, true, true, true, false, false, false, false, false, false] rfl rfl (by kernel_rfl) (fun _ _ _ h => h) (Or.inr ⟨by rfl, rfl⟩) ?_ ?_
        rotate_left
        ·simp only [Act.put, List.setIfInBounds_toArray, List.set_cons_zero, List.set_cons_succ, i64_w, i32_w]
         rfl
        refine pure_ (i := 16) (N := some 142) (v := undef) (a' := ?_) #[true, true, true, true, true, true, true, true, true, true, true, true, true, true, true, true, true, false, false, false, false, false] rfl rfl (by kernel_rfl) (fun _ _ _ h => h) (Or.inr ⟨by rfl, rfl⟩) ?_ ?_
        rotate_left
        ·simp only [Act.put, List.setIfInBounds_toArray, List.set_cons_zero, List.set_cons_succ, i64_w, i32_w]
         rfl
        refine pure_ (i := 17) (N := some 143) (v := undef) (a' := ?_) #[true, true, true, true, true, true, true, true, true, true, true, true, true, true, true, true, true, true, false, false, false, false] rfl rfl (by kernel_rfl) (fun _ _ _ h => h) (Or.inr ⟨by rfl, rfl⟩) ?_ ?_
        rotate_left
        ·simp only [Act.put, List.setIfInBounds_toArray, List.set_cons_zero, List.set_cons_succ, i64_w, i32_w]
         rfl
        refine pure_ (i := 18) (N := some 144) (v := undef) (a' := ?_) #[true, true, true, true, true, true, true, true, true, true, true, true, true, true, true, true, true, true, true, false, false, false] rfl rfl (by kernel_rfl) (fun _ _ _ h => h) (Or.inr ⟨by rfl, rfl⟩) ?_ ?_
        rotate_left
        ·simp only [Act.put, List.setIfInBounds_toArray, List.set_cons_zero, List.set_cons_succ, i64_w, i32_w]
         rfl
        refine pure_ (i := 19) (N := some 145) (v := undef) (a' := ?_) #[true, true, true, true, true, true, true, true, true, true, true, true, true, true, true, true, true, true, true, true, false, false] rfl rfl (by kernel_rfl) (fun _ _ _ h => h) (Or.inr ⟨by rfl, rfl⟩) ?_ ?_
        rotate_left
        ·simp only [Act.put, List.setIfInBounds_toArray, List.set_cons_zero, List.set_cons_succ, i64_w, i32_w]
         rfl
        refine pure_ (i := 20) (N := some 146) (v := undef) (a' := ?_) #[true, true, true, true, true, true, true, true, true, true, true, true, true, true, true, true, true, true, true, true, true, false] rfl rfl (by kernel_rfl) (fun _ _ _ h => h) (Or.inr ⟨by rfl, rfl⟩) ?_ ?_
        rotate_left
        ·simp only [Act.put, List.setIfInBounds_toArray, List.set_cons_zero, List.set_cons_succ, i64_w, i32_w]
         rfl
        refine pure_ (i := 21) (N := some 147) (v := ?_) (a' := ?_) #[true, true, true, true, true, true, true, true, true, true, true, true, true, true, true, true, true, true, true, true, true, true] rfl rfl (by kernel_rfl) (fun _ _ _ h => h) (Or.inl ⟨by rfl, ?_⟩) ?_ ?_
        rotate_left
        ·intro w'
         go_simp
         with_reducible rfl
        rotate_left
        ·simp only [Act.put, List.setIfInBounds_toArray, List.set_cons_zero, List.set_cons_succ, i64_w, i32_w]
         rfl
        refine done_ (by kernel_rfl) ?_
        go_wp2
        go_roundg g1
        case measure => have := HG1.out; omega
        case rel => exact ⟨i1, _, qs', congrArg (Value.int .i64) (by first | exact hii | rfl | (simp; done)), HB, HQ, HR, HN, HLT, ⟨⟨by have := HIL.out; have := HI1.out; omega, by have := HI.out.2.1; have := HIL.out; have := HI1.out; have := HG1.out; omega, HJ.out.2.2.1, fun j hj => HJ.out.2.2.2.2.2 j (by have := HI1.out; omega)⟩⟩⟩
    ·have d2 := decide_eq_false (show ¬ (i : Int) < (ps.length : Int) by omega)
     have q2 := eq_false (show ¬ (i : Int) < (ps.length : Int) by omega)
     clear hi HQ HR HN HLT HI
     have HBW := Aside0.mk (below_weaken HB8.out HB8.out.size HB.out)
     have hb0 : wr.cell? ⟨g3, 0, none⟩ = some (.slice A0_0 l0_0.length c0_0) := (blk_cell (blk_below HK8.out HB.out) 0).trans rfl
     have hb1 : wr.cell? ⟨g3, 1, none⟩ = some (.slice A0_1 l0_1.length c0_1) := (blk_cell (blk_below HK8.out HB.out) 1).trans rfl
     have hc0 : wr.cell? ⟨gi, 0, none⟩ = some (.slice Ai l0_0.length ci) := (blk_cell (blk_below HI8.out HB.out) 0).trans rfl
     have hc1 : wr.cell? ⟨gi, 1, none⟩ = some (.slice Aj l0_1.length cj) := (blk_cell (blk_below HI8.out HB.out) 1).trans rfl
     generalize (i : Int) = κ at d2 q2 ⊢
     go_wp2_with (first | (go_at_call 17; refine (stillageref06_Same.calls k _ _ l0_0 _ _ l0_1 _ _ l0_0 _ _ l0_1 true _ (Kd.C_below HO0.out.2 HB.out) HO0.out.1 (Kd.C_below HO1.out.2 HB.out) HO1.out.1 (Kd.C_below H0.out.1 HBW.out) H0.out.2 (Kd.C_below H1.out.1 HBW.out) H1.out.2 HM.out.h6).mono ?_; rintro e w13 ⟨rfl, hb⟩; have HB13 := Aside0.mk (below_step HB.out hb); have HBW13 := Aside0.mk (below_step HBW.out hb); clear hb hb0 hb1 hc0 hc1) | (go_at_call 18; refine (stillageref01_Ints.calls k _ _ l1 _ _ l1 true _ (Kd.C_below HO2.out.2 HB13.out) HO2.out.1 (Kd.C_below H2.out.1 HBW13.out) H2.out.2 HM.out.hI).mono ?_; rintro e w14 ⟨rfl, hd⟩; have HBW14 := Aside0.mk (below_step HBW13.out (drew_below hd)); clear hd))
     go_ret
     exact ⟨rfl, HBW14.out⟩

end Go.Proofs.Ytkdfohmceokchaa.PZonePieces
