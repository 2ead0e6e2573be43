-- Written by a program of this session (wip/oprint): after the pattern of the kit's print, which does not take this law. -- trimmed
import Derived.Test.YtkdfohmceokchaaPZonePiecesx0
import Derived.Test.YtkdfohmceokchaaPZonePiecesx3
namespace Go.Proofs.Ytkdfohmceokchaa.PZonePieces
open Go.RowKit Go.Proofs.YtkdfohmceokchaaW.PrintWords Go.Proofs.YtkdfohmceokchaaW.PrintLast Go.Proofs.YtkdfohmceokchaaW.PrintMore
attribute [local go_sem] max2_int min2_int max_two min_two max_three min_three max_four min_four   -- for this text's walks alone
set_option linter.unusedVariables false
set_option linter.unusedSimpArgs false

/-! ### zone_Stuck: function 24, given -/
theorem rd_nth {l : List Int} {i : Nat} (h : i < l.length) : rd l (i : Int) = l[i] := by simp [rd, List.getElem?_eq_getElem h]
theorem index_f (l : List Int) (x : Int) (hn : l.length ≤ 9223372036854775807) (d : Nat) : ∀ (k i : Nat), i + d = l.length → d < k →
  slices_Index_int_int.l0 k l x (l.length : Int) (i : Int) = some (if x ∈ l.drop i then (i : Int) + ((l.drop i).idxOf x : Nat) else -1) := by
 induction d with
 | zero =>
  intro k i hi hk
  obtain ⟨k, rfl⟩ : ∃ m, k = m + 1 := ⟨k - 1, by omega⟩
  simp only [slices_Index_int_int.l0]
  rw [if_neg (by omega), List.drop_eq_nil_of_le (by omega), if_neg (by simp)]
 | succ d ih =>
  intro k i hi hk
  obtain ⟨k, rfl⟩ : ∃ m, k = m + 1 := ⟨k - 1, by omega⟩
  have hl : i < l.length := by omega
  simp only [slices_Index_int_int.l0]
  rw [if_pos (by omega), if_pos (by omega), if_pos (by omega), rd_nth hl, List.drop_eq_getElem_cons hl]
  have hw : wrap64 ((i : Int) + 1) = ((i + 1 : Nat) : Int) := by unfold wrap64; omega
  rw [hw, ih k (i + 1) (by omega) (by omega)]
  generalize l[i] = y
  by_cases e : x = y
  ·subst e
   rw [if_pos rfl, if_pos (by simp), List.idxOf_cons_self]
   simp
  ·have e1 : (y == x) = false := by rw [beq_eq_false_iff_ne]; exact fun h => e h.symm
   have e2 : (x ∈ y :: l.drop (i + 1)) ↔ x ∈ l.drop (i + 1) := by simp [e]
   rw [if_neg e, List.idxOf_cons, e1]
   by_cases hm : x ∈ l.drop (i + 1)
   ·rw [if_pos hm, if_pos (e2.2 hm)]
    simp only [cond_false]
    congr 1
    omega
   ·rw [if_neg hm, if_neg (fun h => hm (e2.1 h))]
theorem index_at (A : Option Addr) (c : Nat) (l : List Int) (x : Int) (w : World) (hr : Kd.C (Kd.int .i64) w A l.length l) (hc : l.length ≤ c) (hn : l.length ≤ 9223372036854775807) (hx : x ∈ l) :
  Calls Try.prog 44 #[.slice A l.length c, .int .i64 x] w fun e w' => e = .returned (.int .i64 (l.idxOf x : Nat)) ∧ ∃ q, w' = w.drewN q := by
 have h := index_f l x hn l.length (l.length + 1) 0 (by omega) (by omega)
 rw [List.drop_zero, if_pos hx] at h
 exact (slices_Index_int_int.calls (l.length + 1) A c l x ((l.idxOf x : Nat) : Int) w hr hc (by unfold slices_Index_int_int.f; rw [show (0 : Int) = ((0 : Nat) : Int) from rfl, h]; simp)).mono fun e w' ⟨he, hd⟩ => ⟨he, hd.out⟩
theorem contains_at (A : Option Addr) (c : Nat) (l : List Int) (x : Int) (w : World) (hr : Kd.C (Kd.int .i64) w A l.length l) (hc : l.length ≤ c) (hn : l.length ≤ 9223372036854775807) :
  Calls Try.prog 43 #[.slice A l.length c, .int .i64 x] w fun e w' => e = .returned (.bool (l.contains x)) ∧ ∃ q, w' = w.drewN q := by
 have h := index_f l x hn l.length (l.length + 1) 0 (by omega) (by omega)
 rw [List.drop_zero] at h
 have h2 : slices_Contains_int_int.f (l.length + 1) l x = some (l.contains x) := by
  unfold slices_Contains_int_int.f slices_Index_int_int.f
  rw [show ((0 : Nat) : Int) = 0 from rfl] at h
  rw [h]
  simp only [Option.bind_some]
  congr 1
  by_cases hm : x ∈ l
  ·rw [if_pos hm, decide_eq_true (by omega)]
   simp [hm]
  ·rw [if_neg hm, decide_eq_false (by omega)]
   simp [hm]
 exact (slices_Contains_int_int.calls (l.length + 1) A c l x _ w hr hc h2).mono fun e w' ⟨he, hd⟩ => ⟨he, hd.out⟩
/-! what Stuck computes -/
def wantsZ (h : List S62) (i j : Int) : Bool := decide (0 ≤ (rd_T62 h i).f1) && (rd_T62 h j).f0.contains (rd_T62 h i).f1
mutual
def visitZ (h : List S62) : Nat → Int → List Int → List Int → Option (Bool × List Int × List Int × List Int)
 | 0, _, _, _ => none
 | k + 1, i, seen, path => if 0 ≤ i ∧ i < h.length ∧ path.length < 1000 then loopZ h k i (seen.set i.toNat 1) (path ++ [i]) 0 else none
def loopZ (h : List S62) : Nat → Int → List Int → List Int → Nat → Option (Bool × List Int × List Int × List Int)
 | 0, _, _, _, _ => none
 | k + 1, i, seen, path, j => if j < h.length then
   (if wantsZ h i j = true then
    (if rd seen j = 1 then (if (j : Int) ∈ path then some (true, seen, path, path.drop (path.idxOf (j : Int))) else none)
    else (if rd seen j = 0 then (visitZ h k j seen path).bind fun r => if r.1 = true then some r else loopZ h k i r.2.1 r.2.2.1 (j + 1)
    else loopZ h k i seen path (j + 1)))
   else loopZ h k i seen path (j + 1))
  else (if path = [] then none else some (false, seen.set i.toNat 2, path.dropLast, []))
end
/-- What lies in memory while Stuck looks: h at block N; path, seen, ring, visit from block M on. -/
structure VM (w0 : World) (N M : Nat) (A : Option Addr) (c : Nat) (h : List S62) (w : World) (seen path : List Int) (vp vr : Value) : Prop where
 below : Below w0.heap.size w0 w
 lo : w0.heap.size ≤ N ∧ N < M ∧ M + 3 < w.heap.size
 hH : w.heap[N]? = some (.cells #[.slice A h.length c] 52 (0, 0))
 hP : w.heap[M]? = some (.cells #[vp] 26 (0, 0))
 own : w.ownsRow w0.heap.size 3 1 vp path.length (encs (Value.int .i64) path)
 pl : path.length ≤ 1000
 pne : ∀ b, vp.ownBlock = some b → M + 3 < b
 hS : w.heap[M + 1]? = some (.cells (nums .i64 seen).toArray 76 (0, 0))
 sl : seen.length = 40
 hR : w.heap[M + 2]? = some (.cells #[vr] 26 (0, 0))
 hV : w.heap[M + 3]? = some (.cells #[.func (.func 42) #[] #[.pointer (some ⟨M + 1, 0, none⟩), .pointer (some ⟨M, 0, none⟩), .pointer (some ⟨N, 0, none⟩), .pointer (some ⟨M + 2, 0, none⟩), .pointer (some ⟨M + 3, 0, none⟩)]] 72 (0, 0))
section
variable {w0 w w1 : World} {N M c : Nat} {A : Option Addr} {h : List S62} {seen path path1 : List Int} {vp vr vp1 vr1 : Value}
/-- Any step that leaves the old blocks. -/
theorem VM.keep (V : VM w0 N M A c h w seen path vp vr) (hb : Below w.heap.size w w1) : VM w0 N M A c h w1 seen path vp vr := by
 have hl := V.lo
 have hz := hb.size
 have hm := V.below.size
 exact ⟨V.below.trans (hb.mono hm), ⟨hl.1, hl.2.1, by omega⟩, blk_below V.hH hb, blk_below V.hP hb, own_move V.own (fun k hk => hb.block k (own_lt V.own k hk)), V.pl, V.pne, blk_below V.hS hb, V.sl, blk_below V.hR hb, blk_below V.hV hb⟩
theorem VM.alloc (V : VM w0 N M A c h w seen path vp vr) (o : Obj) : VM w0 N M A c h (w.alloc o) seen path vp vr := V.keep (below_alloc (Below.refl _ _) o)
theorem VM.drewN (V : VM w0 N M A c h w seen path vp vr) (q : Nat) : VM w0 N M A c h (w.drewN q) seen path vp vr := V.keep (pw_below_drewN (Below.refl _ _) q)
theorem VM.drew (V : VM w0 N M A c h w seen path vp vr) : VM w0 N M A c h w.drew seen path vp vr := V.keep (below_drew (Below.refl _ _))
theorem size_set (w : World) (a : Addr) (u : Value) : (w.setCell a u).heap.size = w.heap.size := by simp [World.setCell]
theorem below_set_ {B : Nat} {w0 w : World} {g o : Nat} {u : Value} (h : Below B w0 w) (hg : B ≤ g) : Below B w0 (w.setCell ⟨g, o, none⟩ u) :=
 h.trans ⟨rfl, rfl, rfl, by rw [size_set]; exact Nat.le_refl _, fun k hk => Below.heap_setCell w ⟨g, o, none⟩ u k (by show k ≠ g; omega)⟩
theorem VM.seen_set (V : VM w0 N M A c h w seen path vp vr) (i : Nat) (x : Int) : VM w0 N M A c h (w.setCell ⟨M + 1, i, none⟩ (.int .i64 x)) (seen.set i x) path vp vr := by
 have hl := V.lo
 have hne : ∀ k, k ≠ M + 1 → (w.setCell ⟨M + 1, i, none⟩ (.int .i64 x)).heap[k]? = w.heap[k]? := fun k hk => Below.heap_setCell w ⟨M + 1, i, none⟩ _ k hk
 refine ⟨below_set_ V.below (by omega), ⟨hl.1, hl.2.1, by rw [size_set]; exact hl.2.2⟩, (hne _ (by omega)).trans V.hH, (hne _ (by omega)).trans V.hP, own_move V.own (fun k hk => hne k (by have := V.pne k hk; omega)), V.pl, V.pne, ?_, by rw [List.length_set]; exact V.sl, (hne _ (by omega)).trans V.hR, (hne _ (by omega)).trans V.hV⟩
 rw [blk_set V.hS]
 congr 2
 simp [nums, List.map_set]
theorem VM.path_put (V : VM w0 N M A c h w seen path vp vr) (hg : w.grownBy w1 vp.ownBlock) (ho : w1.ownsRow w0.heap.size 3 1 vp1 path1.length (encs (Value.int .i64) path1)) (hp : vp1.ownBlock = vp.ownBlock ∨ ∃ b, vp1.ownBlock = some b ∧ w.heap.size ≤ b) (hpl : path1.length ≤ 1000) :
  VM w0 N M A c h (w1.setCell ⟨M, 0, none⟩ vp1) seen path1 vp1 vr := by
 have hl := V.lo
 have hz := hg.size
 have hpn : ∀ b, vp1.ownBlock = some b → M + 3 < b := by
  intro b hb
  rcases hp with e | ⟨b', e, hb'⟩
  ·exact V.pne b (by rw [← e]; exact hb)
  ·rw [hb] at e
   injection e with e
   omega
 have hne : ∀ k, k ≠ M → (w1.setCell ⟨M, 0, none⟩ vp1).heap[k]? = w1.heap[k]? := fun k hk => Below.heap_setCell w1 ⟨M, 0, none⟩ _ k hk
 have h1 : ∀ k, k ≤ M + 3 → w1.heap[k]? = w.heap[k]? := fun k hk => hg.block k (by omega) (fun e => by have := V.pne k e.symm; omega)
 have hb1 : Below w0.heap.size w0 w1 := ⟨hg.os.trans V.below.os, hg.tape.trans V.below.tape, hg.output.trans V.below.output, Nat.le_trans V.below.size hz, fun k hk => (h1 k (by omega)).trans (V.below.block k hk)⟩
 refine ⟨below_set_ hb1 (by omega), ⟨hl.1, hl.2.1, by rw [size_set]; omega⟩, ((hne _ (by omega)).trans (h1 _ (by omega))).trans V.hH, ?_, own_move ho (fun k hk => hne k (by have := hpn k hk; omega)), hpl, hpn, ((hne _ (by omega)).trans (h1 _ (by omega))).trans V.hS, V.sl, ((hne _ (by omega)).trans (h1 _ (by omega))).trans V.hR, ((hne _ (by omega)).trans (h1 _ (by omega))).trans V.hV⟩
 rw [blk_set ((h1 M (by omega)).trans V.hP)]
 rfl
theorem VM.ring_put (V : VM w0 N M A c h w seen path vp vr) : VM w0 N M A c h (w.setCell ⟨M + 2, 0, none⟩ vr1) seen path vp vr1 := by
 have hl := V.lo
 have hne : ∀ k, k ≠ M + 2 → (w.setCell ⟨M + 2, 0, none⟩ vr1).heap[k]? = w.heap[k]? := fun k hk => Below.heap_setCell w ⟨M + 2, 0, none⟩ _ k hk
 refine ⟨below_set_ V.below (by omega), ⟨hl.1, hl.2.1, by rw [size_set]; exact hl.2.2⟩, (hne _ (by omega)).trans V.hH, (hne _ (by omega)).trans V.hP, own_move V.own (fun k hk => hne k (by have := V.pne k hk; omega)), V.pl, V.pne, (hne _ (by omega)).trans V.hS, V.sl, ?_, (hne _ (by omega)).trans V.hV⟩
 rw [blk_set V.hR]
 rfl
theorem VM.cellH (V : VM w0 N M A c h w seen path vp vr) : w.cell? ⟨N, 0, none⟩ = some (.slice A h.length c) := (blk_cell V.hH 0).trans rfl
theorem VM.cellP (V : VM w0 N M A c h w seen path vp vr) : w.cell? ⟨M, 0, none⟩ = some vp := (blk_cell V.hP 0).trans rfl
theorem VM.cellR (V : VM w0 N M A c h w seen path vp vr) : w.cell? ⟨M + 2, 0, none⟩ = some vr := (blk_cell V.hR 0).trans rfl
theorem VM.cellV (V : VM w0 N M A c h w seen path vp vr) : w.cell? ⟨M + 3, 0, none⟩ = some (.func (.func 42) #[] #[.pointer (some ⟨M + 1, 0, none⟩), .pointer (some ⟨M, 0, none⟩), .pointer (some ⟨N, 0, none⟩), .pointer (some ⟨M + 2, 0, none⟩), .pointer (some ⟨M + 3, 0, none⟩)]) := (blk_cell V.hV 0).trans rfl
theorem VM.cellS (V : VM w0 N M A c h w seen path vp vr) (i : Nat) (hi : i < 40) : w.cell? ⟨M + 1, i, none⟩ = some (.int .i64 (rd seen (i : Int))) := by
 rw [blk_cell V.hS]
 have hl : i < seen.length := by have := V.sl; omega
 simp [nums, List.getElem?_eq_getElem hl, rd_nth hl]
theorem VM.frozS (V : VM w0 N M A c h w seen path vp vr) (i : Nat) : w.frozen? ⟨M + 1, i, none⟩ = false := blk_frozen V.hS i
theorem VM.frozP (V : VM w0 N M A c h w seen path vp vr) : w.frozen? ⟨M, 0, none⟩ = false := blk_frozen V.hP 0
theorem VM.frozR (V : VM w0 N M A c h w seen path vp vr) : w.frozen? ⟨M + 2, 0, none⟩ = false := blk_frozen V.hR 0
theorem VM.reads (V : VM w0 N M A c h w seen path vp vr) (hr : Kd.C k62 w0 A h.length h) : Kd.C k62 w A h.length h := Kd.C_below hr V.below
end
def VP (w0 : World) (N M : Nat) (A : Option Addr) (c : Nat) (h : List S62) (b : Bool) (seen path ring : List Int) (w : World) : Prop :=
 ∃ vp vr, VM w0 N M A c h w seen path vp vr ∧ (b = false → vr = .slice none 0 0) ∧ (b = true → Kd.R (Kd.int .i64) 3 w w0.heap.size (fun _ => True) vr ring)
set_option maxHeartbeats 4000000 in
set_option maxRecDepth 100000 in
theorem visit_calls (w0 : World) (N M : Nat) (A : Option Addr) (c : Nat) (h : List S62) (hr : Kd.C k62 w0 A h.length h) (hh : h.length ≤ 40) (k : Nat) :
  ∀ (i : Int) (w : World) (seen path : List Int) (vp : Value) (b : Bool) (seen1 path1 ring1 : List Int), VM w0 N M A c h w seen path vp (.slice none 0 0) → visitZ h k i seen path = some (b, seen1, path1, ring1) →
  Calls Try.prog 42 #[.int .i64 i, .pointer (some ⟨M + 1, 0, none⟩), .pointer (some ⟨M, 0, none⟩), .pointer (some ⟨N, 0, none⟩), .pointer (some ⟨M + 2, 0, none⟩), .pointer (some ⟨M + 3, 0, none⟩)] w
   fun e w' => e = .returned (.bool b) ∧ VP w0 N M A c h b seen1 path1 ring1 w' := by
 induction k using Nat.strongRecOn with
 | _ k IH =>
 intro i w seen path vp b seen1 path1 ring1 V H
 cases k with
 | zero => exact absurd H (by simp [visitZ])
 | succ k =>
 rw [visitZ] at H
 split at H
 ·rename_i hc
  obtain ⟨i, rfl⟩ := Int.eq_ofNat_of_zero_le hc.1
  have hi : i < h.length := by omega
  have hi40 : i < 40 := by omega
  simp only [Int.toNat_natCast] at H
  obtain ⟨a0, rfl⟩ : ∃ a0, A = some a0 := by
   obtain ⟨ad, _, _, e, _⟩ := at_T62 hr (i : Int) (by omega) (by omega)
   exact ⟨ad, e⟩
  have HI := Aside0.mk IH
  have HR := Aside0.mk hr
  have HH := Aside0.mk H
  have HV := Aside0.mk V
  have hp1000 := hc.2.2
  have hcP := V.cellP
  have hfS := V.frozS i
  have hcS := V.cellS i hi40
  clear IH hr H V hc
  go_enter Try.func42, Try.ntmps42
  go_wp2_with (first | ((with_reducible refine gate_store (t := 3) (p := 11) rfl ?_); refine store_event (t := 3) (p := 11) (v := ?vo) (w1 := (w.setCell ⟨M + 1, i, none⟩ (.int .i64 1))) ?hg ?ho ?hn ?hr ?_; (case ho => rfl); (case hg => rfl); (case hn => rfl); (case hr => first | (go_simp; done) | (go_simp; rfl)); intro wA hw; have n0_ := HV.out.seen_set i 1; rw [← hw] at n0_; clear HV hcP hfS hcS hw; have HV := Aside0.mk n0_; clear n0_; have hcP := HV.out.cellP; have hfP := HV.out.frozP) | ((with_reducible refine gate_builtin (b := .append) (xs := #[.tmp 12, .tmp 14]) rfl ?_); at_builtin; refine Kd.R_append (Kd.int .i64) (w0 := w0) w0.heap.size rfl (.tmp 12) (.tmp 14) 26 3 (.int .i64 0) 8 rfl Try.underlying26 info3 rfl (by decide) (by omega) vp path (i : Int) [.int .i64 (i : Int)] (fun _ => True) (fun _ => False) rfl rfl ?aP (fun _ hk => hk.elim) ?aF ?aO ?aB ?aS ?aL ?_))
  case aP => exact rfl
  case aF => exact fun _ _ => trivial
  case aO => exact Kd.R_of_own HV.out.own (fun _ _ => trivial)
  case aB => exact HV.out.below
  case aS => exact HV.out.below.size
  case aL => omega
  intro vp1 wB hoB hbB hgB hatB
  have n0_ := Kd.own_of_R hoB
  have HV2 := Aside0.mk (HV.out.path_put hgB n0_ hatB (by simp; omega))
  have hsz := hgB.size
  have hlo := HV.out.lo
  have hcP2 : wB.cell? ⟨M, 0, none⟩ = some vp := (blk_cell ((hgB.block M (by omega) (fun e => by have := HV.out.pne M e.symm; omega)).trans HV.out.hP) 0).trans rfl
  have hfP2 : wB.frozen? ⟨M, 0, none⟩ = false := blk_frozen ((hgB.block M (by omega) (fun e => by have := HV.out.pne M e.symm; omega)).trans HV.out.hP) 0
  obtain ⟨Ap1, cp1, rfl⟩ := Kd.R_slice hoB
  clear HV hcP hfP hoB hbB hgB hatB n0_ hlo hsz
  generalize (path ++ [(i : Int)]).length = np at HV2 ⊢
  go_wp2_with ((with_reducible refine gate_store (t := 26) (p := 2) rfl ?_); refine store_event (t := 26) (p := 2) (v := ?vo2) (w1 := (wB.setCell ⟨M, 0, none⟩ (.slice Ap1 np cp1))) ?hg ?ho ?hn ?hr ?_; (case ho => rfl); (case hg => rfl); (case hn => rfl); (case hr => first | (go_simp; done) | (go_simp; rfl)); intro wC hw; have n0_ := HV2.out; rw [← hw] at n0_; clear HV2 hcP2 hfP2 hw; have HV := Aside0.mk n0_; clear n0_; have hcH := HV.out.cellH)
  go_loopg [18] k (fun kq v18 wr => ∃ (j : Nat) (sn pt : List Int) (vq : Value), v18 = .int .i64 (j : Int) ∧ j ≤ h.length ∧ Aside0 (kq ≤ k) ∧ Aside0 (loopZ h kq (i : Int) sn pt j = some (b, seen1, path1, ring1)) ∧ Aside0 (VM w0 N M (some a0) c h wr sn pt vq (.slice none 0 0)))
  case atStart => exact ⟨0, _, _, _, rfl, Nat.zero_le _, ⟨Nat.le_refl _⟩, HH, HV⟩
  case round =>
   obtain ⟨j, sn, pt, vq, rfl, hj, HK, HL, HV2⟩ := hrel
   clear HH HV hcH
   cases gk with
   | zero => exact absurd HL.out (by simp [loopZ])
   | succ kq =>
    have H := HL.out
    clear HL
    rw [loopZ] at H
    by_cases hlt : j < h.length
    ·rw [if_pos hlt] at H
     have HH := Aside0.mk H
     obtain ⟨ad, Aj, cj, eA, hx0, hx1, hjc, hjC⟩ := at_T62 (HV2.out.reads HR.out) (j : Int) (by omega) (by omega)
     cases eA
     simp only [Int.toNat_natCast] at hx0 hx1
     have HJ := Aside0.mk hjC
     have HJc := Aside0.mk hjc
     clear H hjC hjc
     go_wp2_with fail
     have HVd := HV2.out.alloc (.cells #[.slice Aj (rd_T62 h (j : Int)).f0.length cj, .int .i64 (rd_T62 h (j : Int)).f1] 62)
     have hxb := blk_new wr (.cells #[.slice Aj (rd_T62 h (j : Int)).f0.length cj, .int .i64 (rd_T62 h (j : Int)).f1] 62 (0, 0))
     have hjD := Kd.C_alloc HJ.out (.cells #[.slice Aj (rd_T62 h (j : Int)).f0.length cj, .int .i64 (rd_T62 h (j : Int)).f1] 62)
     clear HV2 hx0 hx1 HJ
     generalize wr.alloc (.cells #[.slice Aj (rd_T62 h (j : Int)).f0.length cj, .int .i64 (rd_T62 h (j : Int)).f1] 62) = wD at HVd hxb hjD ⊢
     have HV := Aside0.mk HVd
     have HJ := Aside0.mk hjD
     have hcH := HVd.cellH
     have hb0 : wD.cell? ⟨wr.heap.size, 0, none⟩ = some (.slice Aj (rd_T62 h (j : Int)).f0.length cj) := (blk_cell hxb 0).trans rfl
     obtain ⟨ad, Ai, ci, eA, hi0, hi1, _, _⟩ := at_T62 (HVd.reads HR.out) (i : Int) (by omega) (by omega)
     cases eA
     simp only [Int.toNat_natCast] at hi0 hi1
     have hjl : (rd_T62 h (j : Int)).f0.length ≤ 9223372036854775807 := Kd.C_max HJ.out
     generalize hwi : (rd_T62 h (i : Int)).f1 = wi at hi1
     have HWI := Aside0.mk hwi
     clear HVd hxb hjD hwi
     by_cases hneg : wi < 0
     ·have hw : wantsZ h (i : Int) (j : Int) = false := by unfold wantsZ; rw [HWI.out, decide_eq_false (by omega)]; rfl
      have H := HH.out
      rw [hw, if_neg (by simp)] at H
      have HL := Aside0.mk H
      clear H HH hw
      have hnb : decide (wi < 0) = true := decide_eq_true hneg
      go_quiet (fail)
      go_wp2
      go_roundg kq
      case measure => omega
      case rel => exact ⟨j + 1, sn, pt, vq, by go_num, by omega, ⟨by have := HK.out; omega⟩, HL, ⟨by first | exact HV.out.drewN _ | exact (HV.out.drewN _).drewN _ | exact ((HV.out.drewN _).drewN _).drewN _⟩⟩
     ·have hnb : decide (wi < 0) = false := decide_eq_false hneg
      have hC : ∀ n, Calls Try.prog 43 #[.slice Aj (rd_T62 h (j : Int)).f0.length cj, .int .i64 wi] (wD.drewN n) fun e w' => e = .returned (.bool ((rd_T62 h (j : Int)).f0.contains wi)) ∧ ∃ q, w' = (wD.drewN n).drewN q := fun n => contains_at Aj cj _ wi _ (Kd.C_drewN HJ.out n) HJc.out hjl
      cases hcn : (rd_T62 h (j : Int)).f0.contains wi with
      | false =>
       rw [hcn] at hC
       have hw : wantsZ h (i : Int) (j : Int) = false := by unfold wantsZ; rw [HWI.out, hcn, Bool.and_false]
       have H := HH.out
       rw [hw, if_neg (by simp)] at H
       have HL := Aside0.mk H
       clear H HH hw hcn
       go_quiet ((go_at_call 43; exact Calls.quiet_of (hC _)))
       go_wp2
       go_roundg kq
       case measure => omega
       case rel => exact ⟨j + 1, sn, pt, vq, by go_num, by omega, ⟨by have := HK.out; omega⟩, HL, ⟨by first | exact HV.out.drewN _ | exact (HV.out.drewN _).drewN _ | exact ((HV.out.drewN _).drewN _).drewN _⟩⟩
      | true =>
       rw [hcn] at hC
       have hw : wantsZ h (i : Int) (j : Int) = true := by unfold wantsZ; rw [HWI.out, hcn, Bool.and_true, decide_eq_true (by omega)]
       have H := HH.out
       rw [hw, if_pos rfl] at H
       have HL := Aside0.mk H
       clear H HH hw hcn
       have hsj := HV.out.cellS j (by omega)
       generalize hsv : rd sn (j : Int) = sj at hsj
       have HSV := Aside0.mk hsv
       clear hsv
       go_quiet ((go_at_call 43; exact Calls.quiet_of (hC _)))
       have n0_ := HV.out.drewN nq
       clear HV hcH hb0 hi0 hi1 hC hnb hneg
       have HV := Aside0.mk n0_
       clear n0_
       replace hsj : (wD.drewN nq).cell? ⟨M + 1, j, none⟩ = some (.int .i64 sj) := hsj
       generalize wD.drewN nq = wE at HV hsj ⊢
       have H := HL.out
       clear HL
       rw [HSV.out] at H
       obtain ⟨Aq, cq, rfl⟩ : ∃ A c, vq = .slice A pt.length c := Kd.R_slice (Kd.R_of_own (base := w0.heap.size) HV.out.own (fun _ _ => trivial) : Kd.R (Kd.int .i64) 3 wE w0.heap.size (fun _ => True) vq pt)
       by_cases h1 : sj = 1
       ·subst h1
        rw [if_pos rfl] at H
        by_cases hjp : (j : Int) ∈ pt
        ·rw [if_pos hjp] at H
         injection H with H
         injection H with H1 H
         injection H with H2 H
         injection H with H3 H4
         subst H1 H2 H3 H4
         have hcP := HV.out.cellP
         have hRp : Kd.R (Kd.int .i64) 3 wE w0.heap.size (fun _ => True) (.slice Aq pt.length cq) pt := Kd.R_of_own HV.out.own (fun _ _ => trivial)
         obtain ⟨_, hpc, hpC⟩ := Kd.R_reads' hRp
         have hlen : pt.length ≤ maxLen := by have := Kd.C_max hpC; unfold maxLen; omega
         have hidx : pt.idxOf (j : Int) < pt.length := List.idxOf_lt_length_of_mem hjp
         have hpl := HV.out.pl
         have hI : ∀ n, Calls Try.prog 44 #[.slice Aq pt.length cq, .int .i64 (j : Int)] (wE.drewN n) fun e w' => e = .returned (.int .i64 ((pt.idxOf (j : Int) : Nat) : Int)) ∧ ∃ q, w' = (wE.drewN n).drewN q := fun n => index_at Aq cq pt (j : Int) _ (Kd.C_drewN hpC n) hpc (by omega) hjp
         obtain ⟨ti, hti, _⟩ := Option.map_eq_some_iff.1 info3
         have hti2 : ti.size = 1 := by rename_i hq; simp only [Prod.mk.injEq] at hq; exact hq.2.1
         generalize hix : pt.idxOf (j : Int) = ix at hI hidx
         have hcut := cut_from (P := Try.prog) 26 3 .i64 Try.underlying26 hti 1 hti2 Aq pt.length cq (ix : Int) (by omega) (by omega)
         rw [Int.toNat_natCast, if_neg (by omega)] at hcut
         simp only [Nat.mul_one] at hcut
         have hDr : Kd.C (Kd.int .i64) wE (if cq = ix then Aq else Aq.map (·.add (ix * 1))) (pt.drop ix).length (pt.drop ix) := Kd.C_drop (c := cq) hpC (by omega) hpc
         rw [if_neg (by omega)] at hDr
         simp only [Nat.mul_one] at hDr
         have hdl : (pt.drop ix).length = pt.length - ix := List.length_drop
         have hfC : slices_Clone_int_int.f (pt.drop ix) = some (pt.drop ix) := by unfold slices_Clone_int_int.f; rw [if_pos (by omega)]
         have hK : ∀ W, Below wE.heap.size wE W → Calls Try.prog 37 #[.slice (Aq.map (fun x => x.add ix)) (pt.length - ix) (cq - ix)] W fun e w' => ∃ v0_ : Value, e = .returned (v0_) ∧ Kd.R (Kd.int .i64) 3 w' wE.heap.size (fun _ => True) v0_ (pt.drop ix) ∧ Below wE.heap.size wE w' := fun W hW => by
          have := slices_Clone_int_int.calls (Aq.map (fun x => x.add ix)) (cq - ix) (pt.drop ix) (pt.drop ix) W (Kd.C_below hDr hW) (by omega) hfC
          rw [hdl] at this
          exact this.mono fun e w' ⟨v, he, ho, hb⟩ => ⟨v, he, Kd.R_lower ho hW.size, hW.trans (hb.mono hW.size)⟩
         have HKK := Aside0.mk hK
         have HII := Aside0.mk hI
         have HIX := Aside0.mk hix
         clear hK hI hDr hdl hfC hpC hRp hti hti2 hix
         go_wp2_with fail
         go_region_with (first | (go_at_call 44; refine (HII.out _).mono ?_; rintro e w' ⟨rfl, q, rfl⟩) | (go_at_call 37; refine (HKK.out _ ?hW).mono ?_; (case hW => repeat (first | exact Below.refl _ _ | apply pw_below_drewN | apply below_drew1)); rintro e w2 ⟨v0, rfl, ho, hb⟩; obtain ⟨Ar, cr, rfl⟩ := Kd.R_slice ho; have HV3 := Aside0.mk (HV.out.keep hb); have hcR := HV3.out.cellR; have hfR := HV3.out.frozR; have HRG := Aside0.mk ho; clear ho hb))
         all_goals
          go_wp2
          go_ret
          refine ⟨rfl, _, _, HV3.out.ring_put, (fun h => nomatch h), fun _ => ?_⟩
          rw [HIX.out]
          have hrg := HRG.out
          rw [show (pt.drop ix).length = pt.length - ix from List.length_drop] at hrg
          exact Kd.R_lower (Kd.R_mono (Kd.R_far (p := ⟨M + 2, 0, none⟩) (Kd.R_bound hrg) (fun k hk => by have := HV.out.lo; have := hk.2.1; show k ≠ M + 2; omega) _) (fun _ _ => trivial)) HV.out.below.size
        ·rw [if_neg hjp] at H
         cases H
       ·rw [if_neg h1] at H
        have hb1 : (sj == 1) = false := by rw [beq_eq_false_iff_ne]; exact h1
        by_cases h0 : sj = 0
        ·subst h0
         rw [if_pos rfl] at H
         cases hvz : visitZ h kq (j : Int) sn pt with
         | none => rw [hvz] at H; cases H
         | some rr =>
         obtain ⟨b2, sn2, pt2, rg2⟩ := rr
         rw [hvz] at H
         simp only [Option.bind_some] at H
         have hcall := HI.out kq (by have := HK.out; omega) (j : Int) wE sn pt _ b2 sn2 pt2 rg2 HV.out hvz
         have HCA := Aside0.mk hcall
         have hcV := HV.out.cellV
         clear hvz hcall
         cases b2 with
         | true =>
          rw [if_pos rfl] at H
          injection H with H
          injection H with H1 H
          injection H with H2 H
          injection H with H3 H4
          subst H1 H2 H3 H4
          go_wp2_with (go_at_call 42; refine HCA.out.mono ?_; rintro e w3 ⟨rfl, hvp⟩; have HVP := Aside0.mk hvp; clear hvp)
          go_ret
          exact ⟨rfl, HVP.out⟩
         | false =>
          rw [if_neg (by simp)] at H
          have HL := Aside0.mk H
          clear H
          go_wp2_with (go_at_call 42; refine HCA.out.mono ?_; rintro e w3 ⟨rfl, hvp⟩; have HVP := Aside0.mk hvp; clear hvp)
          go_roundg kq
          case measure => omega
          case rel =>
           obtain ⟨vq3, vr3, hV3, hf3, _⟩ := HVP.out
           obtain rfl := hf3 rfl
           exact ⟨j + 1, sn2, pt2, vq3, by go_num, by omega, ⟨by have := HK.out; omega⟩, HL, ⟨hV3⟩⟩
        ·rw [if_neg h0] at H
         have hb0 : (sj == 0) = false := by rw [beq_eq_false_iff_ne]; exact h0
         have HL := Aside0.mk H
         clear H
         go_wp2_with fail
         go_roundg kq
         case measure => omega
         case rel => exact ⟨j + 1, sn, pt, _, by go_num, by omega, ⟨by have := HK.out; omega⟩, HL, HV⟩
    ·rw [if_neg hlt] at H
     obtain rfl : j = h.length := by omega
     by_cases hpe : pt = []
     ·rw [if_pos hpe] at H
      cases H
     ·rw [if_neg hpe] at H
      injection H with H
      injection H with H1 H
      injection H with H2 H
      injection H with H3 H4
      subst H1 H2 H3 H4
      have hpos : 0 < pt.length := by
       rcases Nat.eq_zero_or_pos pt.length with h | h
       ·exact absurd (List.eq_nil_of_length_eq_zero h) hpe
       ·exact h
      obtain ⟨Aq, cq, rfl⟩ : ∃ A c, vq = .slice A pt.length c := Kd.R_slice (Kd.R_of_own (base := w0.heap.size) HV2.out.own (fun _ _ => trivial) : Kd.R (Kd.int .i64) 3 wr w0.heap.size (fun _ => True) vq pt)
      have hRp : Kd.R (Kd.int .i64) 3 wr w0.heap.size (fun _ => True) (.slice Aq pt.length cq) pt := Kd.R_of_own HV2.out.own (fun _ _ => trivial)
      obtain ⟨_, hpc, _⟩ := Kd.R_reads' hRp
      have hpl := HV2.out.pl
      have hfS := HV2.out.frozS i
      have hcS := HV2.out.cellS i hi40
      obtain ⟨ti, hti, _⟩ := Option.map_eq_some_iff.1 info3
      have hcut := cut_to (P := Try.prog) 26 3 .i64 Try.underlying26 hti Aq pt.length cq ((pt.length : Int) - 1) (by omega) (by omega) hpc
      have htn : ((pt.length : Int) - 1).toNat = pt.length - 1 := by omega
      rw [htn] at hcut
      clear hRp hti htn hpe
      go_wp2_with (first | ((with_reducible refine gate_store (t := 3) (p := 61) rfl ?_); refine store_event (t := 3) (p := 61) (v := ?vo3) (w1 := (wr.setCell ⟨M + 1, i, none⟩ (.int .i64 2))) ?hg ?ho ?hn ?hr ?_; (case ho => rfl); (case hg => rfl); (case hn => rfl); (case hr => first | (go_simp; done) | (go_simp; rfl)); intro wA2 hw; have n0_ := HV2.out.seen_set i 2; rw [← hw] at n0_; clear HV2 hfS hcS hw; have HV := Aside0.mk n0_; clear n0_; have hcP := HV.out.cellP; have hfP := HV.out.frozP) | fail)
      go_ret
      have hRq : Kd.R (Kd.int .i64) 3 wA2 w0.heap.size (fun _ => True) (.slice Aq pt.length cq) pt := Kd.R_of_own HV.out.own (fun _ _ => trivial)
      have hRt := Kd.R_take (m := pt.length - 1) hRq (by omega)
      rw [← List.dropLast_eq_take] at hRt
      have hdl : pt.dropLast.length = pt.length - 1 := List.length_dropLast
      have hgr : wA2.grownBy wA2 (Value.slice Aq pt.length cq).ownBlock := ⟨rfl, rfl, rfl, Nat.le_refl _, fun _ _ _ => rfl⟩
      have hob : (Value.slice Aq (pt.length - 1) cq).ownBlock = (Value.slice Aq pt.length cq).ownBlock := by cases Aq <;> rfl
      exact ⟨rfl, _, _, HV.out.path_put hgr (Kd.own_of_R hRt) (.inl hob) (by omega), fun _ => rfl, fun h => nomatch h⟩
 ·cases H
def badH (x : S62) : Bool := x.f0.any badZ || (decide (x.f1 ≠ -1) && badZ x.f1)
set_option maxHeartbeats 2000000 in
theorem holder_bad (A : Option Addr) (c : Nat) (x : S62) (W : World) (hl : Kd.C (Kd.int .i64) W A x.f0.length x.f0) :
  Calls Try.prog 41 #[.agg #[.slice A x.f0.length c, .int .i64 x.f1]] W fun e w' => e = .returned (.bool (badH x)) ∧ Below W.heap.size W w' := by
 have hB : ∀ o q, Calls Try.prog 35 #[.slice A x.f0.length c, .func (.func 36) #[] #[]] ((W.alloc o).drewN q) fun e w' => e = .returned (.bool (x.f0.any badZ)) ∧ ∃ q', w' = ((W.alloc o).drewN q).drewN q' := fun o q => bads_any A c x.f0 _ (Kd.C_drewN (Kd.C_alloc hl o) q)
 have hZ := bad_any x.f1
 unfold badH
 generalize x.f1 = z at hZ ⊢
 generalize x.f0.any badZ = b at hB ⊢
 generalize x.f0.length = n at hB ⊢
 generalize hbz : badZ z = bz at hZ ⊢
 clear hl hbz
 have HB := Aside0.mk hB
 have HZ := Aside0.mk hZ
 clear hB hZ
 cases b with
 | true =>
  go_enter Try.func41, Try.ntmps41
  go_wp2_with (first | (go_at_call 35; refine (HB.out _ 0).mono ?_; rintro e w' ⟨rfl, q, rfl⟩))
  go_ret
  exact ⟨rfl, by repeat (first | exact Below.refl _ _ | apply below_alloc | apply pw_below_drewN)⟩
 | false =>
  by_cases hz : z = -1
  ·subst hz
   go_enter Try.func41, Try.ntmps41
   go_wp2_with (first | (go_at_call 35; refine (HB.out _ 0).mono ?_; rintro e w' ⟨rfl, q, rfl⟩))
   go_ret
   exact ⟨rfl, by repeat (first | exact Below.refl _ _ | apply below_alloc | apply pw_below_drewN)⟩
  ·have hz1 : (z != -1) = true := by simp [hz]
   have hz2 : decide (z ≠ -1) = true := by simp [hz]
   go_enter Try.func41, Try.ntmps41
   go_wp2_with (first | (go_at_call 35; refine (HB.out _ 0).mono ?_; rintro e w' ⟨rfl, q, rfl⟩) | (go_at_call 36; refine (HZ.out _).mono ?_; rintro e w' ⟨rfl, q2, rfl⟩))
   go_ret
   exact ⟨by rw [hz2]; simp, by repeat (first | exact Below.refl _ _ | apply below_alloc | apply pw_below_drewN)⟩
set_option maxHeartbeats 2000000 in
theorem holder_idx (A1 : Option Addr) (c1 : Nat) (l1 : List S62) (w : World) (hr1 : Kd.C k62 w A1 l1.length l1) :
  Calls Try.prog 52 #[.slice A1 l1.length c1, .func (.func 41) #[] #[]] w fun e w' => (∃ i : Int, e = .returned (.int .i64 i) ∧ decide (i ≥ 0) = l1.any badH) ∧ Below w.heap.size w w' := by
 have eg : ∀ args w, (callFunc 41 args).run Try.prog w = .ok (.enter 41 args) w := enters_of Try.func41 (by kernel_rfl) rfl
 have hlen : l1.length ≤ 9223372036854775807 := hr1.2.1
 have HR1 := Aside0.mk hr1
 clear hr1
 go_enter Try.func52, Try.ntmps52
 go_wp2
 go_loopg [5, 8] l1.length (fun gg _ s8 wr => ∃ kk : Nat, kk ≤ l1.length ∧ l1.length - kk ≤ gg ∧ s8 = .int .i64 kk ∧ Aside0 (Below w.heap.size w wr) ∧ Aside0 ((l1.take kk).any badH = false))
 case atStart => exact ⟨0, Nat.zero_le _, by omega, rfl, ⟨Below.refl _ _⟩, ⟨by simp⟩⟩
 case round =>
  obtain ⟨kk, hkk, hg, rfl, HB, A⟩ := hrel
  by_cases hlt : kk < l1.length
  ·have hltz : (kk : Int) < (l1.length : Int) := by omega
   obtain ⟨ad, Aj, cj, ead, hx0, hx1, hjc, hjC⟩ := at_T62 (Kd.C_below HR1.out HB.out) (kk : Int) (by omega) hltz
   cases ead
   have hxy : rd_T62 l1 (kk : Int) = l1[kk] := by simp [rd_T62, List.getElem?_eq_getElem hlt]
   have T : l1.take (kk + 1) = l1.take kk ++ [l1[kk]] := by rw [List.take_succ_eq_append_getElem hlt]
   rw [hxy] at hx0 hx1 hjc hjC
   simp only [Int.toNat_natCast] at hx0 hx1
   have hall : l1.any badH = ((l1.take (kk + 1)).any badH || (l1.drop (kk + 1)).any badH) := by rw [← List.any_append, List.take_append_drop]
   have hcall := holder_bad Aj cj l1[kk] wr hjC
   have HW := Aside0.mk (show wrap64 ((kk : Int) + 1) = ((kk + 1 : Nat) : Int) by unfold wrap64; omega)
   cases hq : badH l1[kk] with
   | true =>
    rw [hq] at hcall
    have hr : l1.any badH = true := by rw [hall, T, List.any_append]; simp [hq]
    generalize l1[kk] = y at hx0 hx1 hcall
    have HCA := Aside0.mk hcall
    clear T hall hxy hq hjc hjC hcall
    go_wp2_with (go_at_fn 41; refine HCA.out.mono ?_; rintro e w' ⟨rfl, hb⟩; have HBB := Aside0.mk hb; clear hb)
    go_ret
    exact ⟨⟨(kk : Int), rfl, by first | omega | (rw [hr]; exact decide_eq_true (by omega)) | (simp [hr]; done)⟩, below_step HB.out HBB.out⟩
   | false =>
    rw [hq] at hcall
    have hr : (l1.take (kk + 1)).any badH = false := by rw [T, List.any_append, A.out]; simp [hq]
    generalize l1[kk] = y at hx0 hx1 hcall
    have HCA := Aside0.mk hcall
    clear T hall hxy hq hjc hjC hcall
    go_wp2_with (go_at_fn 41; refine HCA.out.mono ?_; rintro e w' ⟨rfl, hb⟩; have HBB := Aside0.mk hb; clear hb)
    go_roundg (l1.length - (kk + 1))
    case measure => omega
    case rel => exact ⟨kk + 1, by omega, by omega, (by first | exact congrArg _ HW.out | rfl | (simp; done)), ⟨below_step HB.out HBB.out⟩, ⟨hr⟩⟩
  ·have hltz : ¬ (kk : Int) < (l1.length : Int) := by omega
   have : kk = l1.length := by omega
   subst this
   have hr := A.out
   rw [List.take_length] at hr
   go_wp2
   go_ret
   exact ⟨⟨-1, rfl, by first | omega | (rw [hr]; rfl) | (simp [hr]; done)⟩, HB.out⟩
set_option maxHeartbeats 1000000 in
theorem holder_any (A1 : Option Addr) (c1 : Nat) (l1 : List S62) (w : World) (hr1 : Kd.C k62 w A1 l1.length l1) :
  Calls Try.prog 40 #[.slice A1 l1.length c1, .func (.func 41) #[] #[]] w fun e w' => e = .returned (.bool (l1.any badH)) ∧ Below w.heap.size w w' := by
 have HI := Aside0.mk (holder_idx A1 c1 l1 w hr1)
 clear hr1
 go_enter Try.func40, Try.ntmps40
 go_wp2_with (go_at_call 52; refine HI.out.mono ?_; rintro e w' ⟨⟨i, rfl, hi⟩, hb⟩; have hi := Aside0.mk hi; have HBB := Aside0.mk hb; clear hb)
 go_ret
 exact ⟨by rw [← hi.out]; rfl, HBB.out⟩
def stuckL (h : List S62) : Nat → List Int → List Int → Nat → Option (List Int)
 | 0, _, _, _ => none
 | k + 1, seen, path, j => if j < h.length then
   (if rd seen j = 0 then (visitZ h k j seen path).bind fun r => if r.1 = true then some r.2.2.2 else stuckL h k r.2.1 r.2.2.1 (j + 1)
   else stuckL h k seen path (j + 1))
  else some []
def zone_Stuck.f (k : Nat) (l0 : List S62) : Option (List Int × Int) := if l0.length > 40 then some ([], 1) else (if l0.any badH = true then some ([], 1) else (stuckL l0 k (List.replicate 40 0) [] 0).bind fun r => some (r, 0))
def fnV (N M : Nat) : Value := .func (.func 42) #[] #[.pointer (some ⟨M + 1, 0, none⟩), .pointer (some ⟨M, 0, none⟩), .pointer (some ⟨N, 0, none⟩), .pointer (some ⟨M + 2, 0, none⟩), .pointer (some ⟨M + 3, 0, none⟩)]
theorem VM.start {w0 w : World} {N c : Nat} {A : Option Addr} {h : List S62} (hb : Below w0.heap.size w0 w) (hN : w0.heap.size ≤ N) (hH : w.heap[N]? = some (.cells #[.slice A h.length c] 52 (0, 0))) :
  VM w0 N w.heap.size A c h ((((w.alloc (.cells #[.slice none 0 0] 26)).alloc (.cells (nums .i64 (List.replicate 40 0)).toArray 76)).alloc (.cells #[.slice none 0 0] 26)).alloc (.cells #[fnV N w.heap.size] 72)) (List.replicate 40 0) [] (.slice none 0 0) (.slice none 0 0) := by
 have hlt := blk_lt hH
 have e : ∀ (W : World) (o : Obj) (k : Nat), k < W.heap.size → (W.alloc o).heap[k]? = W.heap[k]? := fun W o k hk => Below.heap_alloc W o k hk
 have n : ∀ (W : World) (o : Obj), (W.alloc o).heap[W.heap.size]? = some o := fun W o => heap_alloc_new W o
 have s : ∀ (W : World) (o : Obj), (W.alloc o).heap.size = W.heap.size + 1 := fun W o => World.size_alloc W o
 generalize h1 : w.alloc (.cells #[.slice none 0 0] 26) = w1
 generalize h2 : w1.alloc (.cells (nums .i64 (List.replicate 40 0)).toArray 76) = w2
 generalize h3 : w2.alloc (.cells #[.slice none 0 0] 26) = w3
 generalize h4 : w3.alloc (.cells #[fnV N w.heap.size] 72) = w4
 have s1 : w1.heap.size = w.heap.size + 1 := by rw [← h1, s]
 have s2 : w2.heap.size = w.heap.size + 2 := by rw [← h2, s, s1]
 have s3 : w3.heap.size = w.heap.size + 3 := by rw [← h3, s, s2]
 have s4 : w4.heap.size = w.heap.size + 4 := by rw [← h4, s, s3]
 have e1 : ∀ k, k < w.heap.size → w1.heap[k]? = w.heap[k]? := fun k hk => by rw [← h1, e _ _ _ hk]
 have e2 : ∀ k, k < w1.heap.size → w2.heap[k]? = w1.heap[k]? := fun k hk => by rw [← h2, e _ _ _ hk]
 have e3 : ∀ k, k < w2.heap.size → w3.heap[k]? = w2.heap[k]? := fun k hk => by rw [← h3, e _ _ _ hk]
 have e4 : ∀ k, k < w3.heap.size → w4.heap[k]? = w3.heap[k]? := fun k hk => by rw [← h4, e _ _ _ hk]
 have n1 : w1.heap[w.heap.size]? = some (.cells #[.slice none 0 0] 26) := by rw [← h1, n]
 have n2 : w2.heap[w.heap.size + 1]? = some (.cells (nums .i64 (List.replicate 40 0)).toArray 76) := by rw [← s1, ← h2, n]
 have n3 : w3.heap[w.heap.size + 2]? = some (.cells #[.slice none 0 0] 26) := by rw [← s2, ← h3, n]
 have n4 : w4.heap[w.heap.size + 3]? = some (.cells #[fnV N w.heap.size] 72) := by rw [← s3, ← h4, n]
 have hb4 : Below w0.heap.size w0 w4 := by
  rw [← h4, ← h3, ← h2, ← h1]
  exact below_alloc (below_alloc (below_alloc (below_alloc hb _) _) _) _
 have hz := hb.size
 refine ⟨hb4, ⟨hN, hlt, by omega⟩, ?_, ?_, ⟨rfl, .inl ⟨rfl, rfl⟩⟩, by simp, fun b hb => by simp [Value.ownBlock] at hb, ?_, by simp, ?_, n4⟩
 ·rw [e4 _ (by omega), e3 _ (by omega), e2 _ (by omega), e1 _ (by omega)]; exact hH
 ·rw [e4 _ (by omega), e3 _ (by omega), e2 _ (by omega)]; exact n1
 ·rw [e4 _ (by omega), e3 _ (by omega)]; exact n2
 ·rw [e4 _ (by omega)]; exact n3
def SP (w0 : World) (ring : List Int) (v : Value) (w : World) : Prop := Kd.R (Kd.int .i64) 3 w w0.heap.size (fun _ => True) v ring ∧ Below w0.heap.size w0 w
set_option maxHeartbeats 4000000 in
set_option maxRecDepth 100000 in
theorem stuck_good (k : Nat) (A : Option Addr) (c : Nat) (h : List S62) (ring : List Int) (w : World) (hr : Kd.C k62 w A h.length h) (hn : h.length ≤ 40) (hbad : h.any badH = false) (H : stuckL h k (List.replicate 40 0) [] 0 = some ring) :
  Calls Try.prog 24 #[.slice A h.length c] w fun e w' => ∃ v, e = .returned (.tuple #[v, .int .i64 0]) ∧ SP w ring v w' := by
 have hC : ∀ W, Below w.heap.size w W → Calls Try.prog 40 #[.slice A h.length c, .func (.func 41) #[] #[]] W fun e w' => e = .returned (.bool false) ∧ Below W.heap.size W w' := fun W hW => by
  have := holder_any A c h W (Kd.C_below hr hW)
  rwa [hbad] at this
 have HC := Aside0.mk hC
 have HR := Aside0.mk hr
 have HH := Aside0.mk H
 have HB := Aside0.mk (Below.refl w.heap.size w)
 clear hC hr H hbad
 go_enter Try.func24, Try.ntmps24
 go_upto_region 7 with (first | ((with_reducible refine gate_dst (N := 1) rfl ?_); refine box_event ?hg (N := 1) ?hd (cs := #[.slice A h.length c]) (t := 52) ?hr ?_; (case hd => rfl); (case hg => rfl); (case hr => first | (go_simp; done) | (go_simp; rfl)); intro gb hg w5 hbox hb; have n0_ := Aside0.mk (below_step (by repeat (first | (with_reducible first | exact HB.out | apply below_alloc | apply pw_below_drewN | apply below_drew1) | exact HB.out)) hb); have n1_ := Aside0.mk (hbox); have hgb : w.heap.size ≤ gb := (by rw [hg]; exact Nat.le_refl _); clear HB; have HB := n0_; have BK := n1_; clear n0_ n1_ hb hbox hg; have hcH : w5.cell? ⟨gb, 0, none⟩ = some (.slice A h.length c) := (blk_cell BK.out 0).trans rfl) | (go_at_call 40; refine (HC.out _ HB.out).mono ?_; rintro e w6 ⟨rfl, hb⟩; have n0_ := Aside0.mk (below_step HB.out hb); have n1_ := Aside0.mk (blk_below BK.out hb); clear HB BK hcH; have HB := n0_; have BK := n1_; clear n0_ n1_ hb))
 go_cut [16] (fun v16 wc => Aside0 (VM w gb w6.heap.size A c h wc (List.replicate 40 0) [] (.slice none 0 0) (.slice none 0 0)))
 case first =>
  go_wp2
  go_meet
  case rel => exact ⟨VM.start HB.out hgb BK.out⟩
 case rest =>
  have HV := hcut
  clear hcut HB BK HC
  simp only [Nat.add_assoc, Nat.reduceAdd]
  generalize w6.heap.size = M at HV ⊢
  have hcH := HV.out.cellH
  go_wp2_with fail
  go_loopg [19] k (fun kq v19 wr => ∃ (j : Nat) (sn pt : List Int) (vq : Value), v19 = .int .i64 (j : Int) ∧ j ≤ h.length ∧ Aside0 (kq ≤ k) ∧ Aside0 (stuckL h kq sn pt j = some ring) ∧ Aside0 (VM w gb M A c h wr sn pt vq (.slice none 0 0)))
  case atStart => exact ⟨0, _, _, _, rfl, Nat.zero_le _, ⟨Nat.le_refl _⟩, HH, HV⟩
  case round =>
   obtain ⟨j, sn, pt, vq, rfl, hj, HK, HL, HV2⟩ := hrel
   clear HH HV hcH
   cases gk with
   | zero => exact absurd HL.out (by simp [stuckL])
   | succ kq =>
    have H := HL.out
    clear HL
    rw [stuckL] at H
    by_cases hlt : j < h.length
    ·rw [if_pos hlt] at H
     have hsj := HV2.out.cellS j (by omega)
     generalize hsv : rd sn (j : Int) = sj at hsj H
     clear hsv
     by_cases h0 : sj = 0
     ·subst h0
      rw [if_pos rfl] at H
      cases hvz : visitZ h kq (j : Int) sn pt with
      | none => rw [hvz] at H; cases H
      | some rr =>
      obtain ⟨b2, sn2, pt2, rg2⟩ := rr
      rw [hvz] at H
      simp only [Option.bind_some] at H
      have HCA := Aside0.mk (visit_calls w gb M A c h HR.out hn kq (j : Int) wr sn pt _ b2 sn2 pt2 rg2 HV2.out hvz)
      have hcV := HV2.out.cellV
      clear hvz
      cases b2 with
      | true =>
       rw [if_pos rfl] at H
       injection H with H
       subst H
       go_wp2_with (go_at_call 42; refine HCA.out.mono ?_; rintro e w3 ⟨rfl, vq3, vr3, hV3, hf3, hR3⟩; obtain ⟨Ar, cr, rfl⟩ := Kd.R_slice (hR3 rfl); have HV3 := Aside0.mk hV3; have HRG := Aside0.mk (hR3 rfl); have hcR := HV3.out.cellR; clear hV3 hf3 hR3)
       go_ret2
       exact ⟨_, rfl, HRG.out, HV3.out.below⟩
      | false =>
       rw [if_neg (by simp)] at H
       have HL := Aside0.mk H
       clear H
       go_wp2_with (go_at_call 42; refine HCA.out.mono ?_; rintro e w3 ⟨rfl, hvp⟩; have HVP := Aside0.mk hvp; clear hvp)
       go_roundg kq
       case measure => omega
       case rel =>
        obtain ⟨vq3, vr3, hV3, hf3, _⟩ := HVP.out
        obtain rfl := hf3 rfl
        exact ⟨j + 1, sn2, pt2, vq3, by go_num, by omega, ⟨by have := HK.out; omega⟩, HL, ⟨hV3⟩⟩
     ·rw [if_neg h0] at H
      have hb0 : (sj == 0) = false := by rw [beq_eq_false_iff_ne]; exact h0
      have HL := Aside0.mk H
      clear H
      go_wp2_with fail
      go_roundg kq
      case measure => omega
      case rel => exact ⟨j + 1, sn, pt, vq, by go_num, by omega, ⟨by have := HK.out; omega⟩, HL, HV2⟩
    ·rw [if_neg hlt] at H
     obtain rfl : j = h.length := by omega
     injection H with H
     subst H
     go_wp2_with fail
     go_ret2
     exact ⟨_, rfl, Kd.R_nil _ _ _ _ _, HV2.out.below⟩
set_option maxHeartbeats 2000000 in
theorem stuck_long (A : Option Addr) (c : Nat) (h : List S62) (w : World) (hn : 40 < h.length) (hm : h.length ≤ 9223372036854775807) :
  Calls Try.prog 24 #[.slice A h.length c] w fun e w' => e = .returned (.tuple #[.slice none 0 0, .int .i64 1]) ∧ Below w.heap.size w w' := by
 go_enter Try.func24, Try.ntmps24
 go_wp2_with fail
 go_ret2
 exact ⟨rfl, by repeat (first | exact Below.refl _ _ | apply below_alloc | apply pw_below_drewN)⟩
set_option maxHeartbeats 2000000 in
theorem stuck_bad (A : Option Addr) (c : Nat) (h : List S62) (w : World) (hr : Kd.C k62 w A h.length h) (hn : h.length ≤ 40) (hbad : h.any badH = true) :
  Calls Try.prog 24 #[.slice A h.length c] w fun e w' => e = .returned (.tuple #[.slice none 0 0, .int .i64 1]) ∧ Below w.heap.size w w' := by
 have hC : ∀ W, Below w.heap.size w W → Calls Try.prog 40 #[.slice A h.length c, .func (.func 41) #[] #[]] W fun e w' => e = .returned (.bool true) ∧ Below W.heap.size W w' := fun W hW => by
  have := holder_any A c h W (Kd.C_below hr hW)
  rwa [hbad] at this
 have HC := Aside0.mk hC
 clear hC hr hbad
 go_enter Try.func24, Try.ntmps24
 go_wp2_with (go_at_call 40; refine (HC.out _ ?hW).mono ?_; (case hW => exact below_alloc (Below.refl _ _) _); rintro e w6 ⟨rfl, hb⟩; have HB := Aside0.mk (below_step (below_alloc (Below.refl _ _) _) hb); clear hb)
 go_ret2
 exact ⟨rfl, HB.out⟩
theorem zone_Stuck.calls (k : Nat) (A0 : Option Addr) (c0 : Nat) (l0 : List S62) (r1 : List Int) (r2 : Int) (w : World) (hr0 : Kd.C k62 w A0 l0.length l0) (hc0 : l0.length ≤ c0) (h : zone_Stuck.f k l0 = some (r1, r2)) :
  Calls Try.prog 24 #[.slice A0 l0.length c0] w fun e w' => ∃ v0_ : Value, e = .returned (.tuple #[v0_, .int .i64 r2]) ∧ Kd.R (Kd.int .i64) 3 w' w.heap.size (fun _ => True) v0_ r1 ∧ Below w.heap.size w w' := by
 unfold zone_Stuck.f at h
 split at h
 ·rename_i hn
  injection h with h
  injection h with h1 h2
  subst h1 h2
  exact (stuck_long A0 c0 l0 w hn (Kd.C_max hr0)).mono fun e w' ⟨he, hb⟩ => ⟨_, he, Kd.R_nil _ _ _ _ _, hb⟩
 ·rename_i hn
  split at h
  ·rename_i hb
   injection h with h
   injection h with h1 h2
   subst h1 h2
   exact (stuck_bad A0 c0 l0 w hr0 (by omega) hb).mono fun e w' ⟨he, hb⟩ => ⟨_, he, Kd.R_nil _ _ _ _ _, hb⟩
  ·rename_i hb
   obtain ⟨ring, h1, h2⟩ := Option.bind_eq_some_iff.mp h
   injection h2 with h2
   injection h2 with h3 h4
   subst h3 h4
   exact stuck_good k A0 c0 l0 ring w hr0 (by omega) (by simpa using hb) h1
theorem visit_mono (h : List S62) : ∀ k, (∀ i seen path r, visitZ h k i seen path = some r → visitZ h (k + 1) i seen path = some r) ∧ (∀ i seen path j r, loopZ h k i seen path j = some r → loopZ h (k + 1) i seen path j = some r) := by
 intro k
 induction k with
 | zero => exact ⟨fun _ _ _ r e => by simp [visitZ] at e, fun _ _ _ _ r e => by simp [loopZ] at e⟩
 | succ k ih =>
  constructor
  ·intro i seen path r e
   rw [visitZ] at e ⊢
   split at e
   ·rename_i hc
    rw [if_pos hc]
    exact ih.2 _ _ _ _ _ e
   ·cases e
  ·intro i seen path j r e
   rw [loopZ] at e ⊢
   split at e
   ·rename_i hj
    rw [if_pos hj]
    split at e
    ·rename_i hw
     rw [if_pos hw]
     split at e
     ·rename_i h1
      rw [if_pos h1]
      exact e
     ·rename_i h1
      rw [if_neg h1]
      split at e
      ·rename_i h0
       rw [if_pos h0]
       obtain ⟨rr, e1, e2⟩ := Option.bind_eq_some_iff.mp e
       rw [ih.1 _ _ _ _ e1]
       simp only [Option.bind_some]
       split at e2
       ·rename_i hb
        rw [if_pos hb]
        exact e2
       ·rename_i hb
        rw [if_neg hb]
        exact ih.2 _ _ _ _ _ e2
      ·rename_i h0
       rw [if_neg h0]
       exact ih.2 _ _ _ _ _ e
    ·rename_i hw
     rw [if_neg hw]
     exact ih.2 _ _ _ _ _ e
   ·rename_i hj
    rw [if_neg hj]
    exact e
theorem stuckL_mono (h : List S62) : ∀ k seen path j r, stuckL h k seen path j = some r → stuckL h (k + 1) seen path j = some r := by
 intro k
 induction k with
 | zero => intro _ _ _ r e; simp [stuckL] at e
 | succ k ih =>
  intro seen path j r e
  rw [stuckL] at e ⊢
  split at e
  ·rename_i hj
   rw [if_pos hj]
   split at e
   ·rename_i h0
    rw [if_pos h0]
    obtain ⟨rr, e1, e2⟩ := Option.bind_eq_some_iff.mp e
    rw [(visit_mono h k).1 _ _ _ _ e1]
    simp only [Option.bind_some]
    split at e2
    ·rename_i hb
     rw [if_pos hb]
     exact e2
    ·rename_i hb
     rw [if_neg hb]
     exact ih _ _ _ _ e2
   ·rename_i h0
    rw [if_neg h0]
    exact ih _ _ _ _ e
  ·rename_i hj
   rw [if_neg hj]
   exact e
theorem zone_Stuck.mono : ∀ a0 k, LeO (zone_Stuck.f k a0) (zone_Stuck.f (k + 1) a0) := by
 intro a0 k r e
 unfold zone_Stuck.f at e ⊢
 split at e
 ·rename_i h1
  rw [if_pos h1]
  exact e
 ·rename_i h1
  rw [if_neg h1]
  split at e
  ·rename_i h2
   rw [if_pos h2]
   exact e
  ·rename_i h2
   rw [if_neg h2]
   obtain ⟨rr, e1, e2⟩ := Option.bind_eq_some_iff.mp e
   rw [stuckL_mono a0 k _ _ _ _ e1]
   exact e2

end Go.Proofs.Ytkdfohmceokchaa.PZonePieces
