/- maps.Keys over a map whose keys are numbers of 16 bits: its iterator, for every loop body. -/
import Derived.Test.YtjigeblechiffaaIn2
import Derived.RangeFuncNested
import Derived.RangeFuncBound
import Derived.RangeFuncCalls
import Derived.RangeFuncLeaves
import Derived.Shelf.Abstract
import Derived.RangeFuncFrom
import Derived.RangeFuncStops
import Derived.RangeFuncSeq
import Derived.Sort.MapsRangeIn
import Derived.Sort.KeysCollected
import Derived.Maps.OwnIn
import Derived.Maps.OwnSet
import Derived.Maps.AppendAt
import Derived.WalkKit
import Derived.OwnWalkIn
import Derived.TacticsInMore
import Derived.RegionIn
import Derived.LoopNIn
import Derived.LoopIn
namespace Go.Proofs.Ytjigeblechiffaa.PKeys
open Go Go.Proofs Go.RowKit Go.Maps Go.Sort Go.Shelf
attribute [local go_sem] Oper.semAt_some
set_option linter.unusedVariables false
set_option linter.unusedSimpArgs false

/-- What has come so far: each key once; those of the map that are no longer to come. -/
def ColU {H : Type} (D0 : DataW H) (left : Lit → Bool) (ss : List Int) : Prop := ss.Nodup ∧ ∀ x, x ∈ ss ↔ (has D0 (.int .u16 x) = true ∧ left (.int .u16 x) = false)
theorem ColU.start {H : Type} (D0 : DataW H) : ColU D0 (has D0) [] := ⟨List.nodup_nil, fun x => by cases has D0 (.int .u16 x) <;> simp⟩
theorem ColU.step {H : Type} {D0 : DataW H} {left : Lit → Bool} {ss : List Int} (h : ColU D0 left ss) {x : Int} {y : DataW H} (hlk : left (.int .u16 x) = true) (hat : ∀ zd, D0.atKey (.int .u16 x) zd = y) :
    ColU D0 (fun z => left z && !z.sameKey (.int .u16 x)) (ss ++ [x]) := by
  have hhas : has D0 (.int .u16 x) = true := has_true_of_atKey hat
  have hnew : x ∉ ss := fun hx => by have := ((h.2 x).1 hx).2; rw [hlk] at this; cases this
  refine ⟨List.nodup_append.2 ⟨h.1, by simp, fun a ha b hb => by simp at hb; subst hb; exact fun e => hnew (e ▸ ha)⟩, fun z => ?_⟩
  by_cases hz : z = x
  · subst hz; simp [hhas, Lit.sameKey]
  · simp [h.2 z, hz, Lit.sameKey]

set_option maxRecDepth 100000 in
set_option maxHeartbeats 1000000 in
/-- The iterator: the keys come, each once, in some order; or a round has said 'no more'. -/
theorem keys1 {H : Type} (F : Fence) (n : Nat) (h34 : F.fn 34) (hro : F.round = none) (hn : 1 ≤ n) (l Bm b nn : Nat) (D0 : DataW H) {R : Value → Option (DataW H × List MemPlace)} (J Jx : List Int → World → Prop)
    (hY : ∀ pre x W, J pre W → pre.length < Maps.size D0 → YieldAt F (n - 1) Try.prog l #[.int .u16 x] W fun e W' =>
      (e = .returned (.bool true) ∧ J (pre ++ [x]) W' ∧ KeepsWalks W W') ∨ (e = .returned (.bool false) ∧ Jx (pre ++ [x]) W'))
    (W : World) (hJ : AbidesFrom W.heap.size J) (hm : W.cell? ⟨Bm, 0, none⟩ = some (.map (some b))) (hown : W.ownsMap Try.prog 22 R b nn D0) (h0 : J [] W) :
    CallsIn F n Try.prog 34 #[.func (.yield l) #[] #[], .pointer (some ⟨Bm, 0, none⟩)] W fun e W' => (∃ v, e = .returned v) ∧
      ((∃ ss : List Int, (ss.Nodup ∧ ∀ x, x ∈ ss ↔ has D0 (.int .u16 x) = true) ∧ J ss W') ∨ (∃ pre : List Int, True ∧ Jx pre W')) := by
  have hk : Try.prog.underlying 22 = some (.int .u16) := Try.underlying22
  refine callsIn_of_wp Try.func34 rfl h34 ?_ hro
  simp only [Try.ntmps34, List.size_toArray, List.length_cons, List.length_nil, Nat.reduceAdd, Nat.reduceSub, Array.replicate_succ, Array.replicate_zero, List.push_toArray, List.append_toArray, List.nil_append, List.cons_append]
  gi_wp2_with (first
    | (gi_at_range; refine wpListIn_range_own _ rfl _ 55 rfl 22 31 (int_keyed hk) Try.underlying55 _ b nn _ rfl hown ?_; intro w0 hrg0 hg0 hs0)
    | gi_in)
  go_frame
  gi_loopw [3] (fun _ wr => ∃ (left : Lit → Bool) (cnt : Nat) (ss : List Int), wr.ranges Try.prog 22 R b W.heap.size nn D0 left cnt ∧ ss.length + cnt ≤ Maps.size D0 ∧ ColU D0 left ss ∧ J ss wr)
    (fun _ wr => wr.rangeLeft b W.heap.size)
  case atStart =>
    exact ⟨_, _, [], hrg0, by simp, ColU.start D0, hJ [] W w0 none h0 hg0 (fun r e => by cases e)⟩
  case round =>
    obtain ⟨left, cnt, ss, hrg, hcs, hC, hJs⟩ := hrel
    gi_wp2_with (first
      | (gi_at_next; refine wpListIn_next_ranges _ rfl _ rfl 22 (int_keyed hk) R (Value.int .u16) id (fun key kl hkk => by obtain ⟨x, hx, _⟩ := Maps.keyOf_int_inv hk hkk; exact ⟨x, hx⟩) (fun v _ _ => ⟨v, rfl⟩) b W.heap.size nn _ _ _ rfl hrg ?_ ?_)
      | gi_in)
    · intro hc0 hl0
      gi_wp2
      go_end0
      exact ⟨⟨_, rfl⟩, .inl ⟨ss, ⟨hC.1, fun x => by rw [hC.2 x, hl0]; simp⟩, hJs⟩⟩
    · intro x c kl yd yp w2 cnt2 hkey hlk hv hat hrg2 hlt hg2 hs2 hen
      obtain ⟨x', ex, rfl, _⟩ := Maps.keyOf_int_inv hk hkey
      cases ex
      have hJ2 : J ss w2 := hJ ss wr w2 (some W.heap.size) hJs hg2 (fun r e => by cases e; exact ⟨Nat.le_refl _, hrg.iter_walk⟩)
      obtain ⟨fn, tmps, assign, body, hy, hR⟩ := hY ss x w2 hJ2 (by omega)
      clear hs2
      gi_wp2
      refine hR.mono ?_
      have hC2 := hC.step hlk hat
      rintro e W3 (⟨rfl, hJ3, hk3⟩ | ⟨rfl, hJx3⟩)
      · gi_wp2
        have hrg3 := hrg2.of_walks hk3
        go_roundw
        case rel => exact ⟨_, cnt2, ss ++ [x], hrg3, by simp; omega, hC2, hJ3⟩
        case measure => rw [hrg3.left_eq, hrg.left_eq]; exact hlt
      · gi_wp2
        refine bodyPost_ret (results_none rfl _ _ _) rfl ?_
        exact ⟨⟨_, rfl⟩, .inr ⟨ss ++ [x], trivial, hJx3⟩⟩

def SU {H : Type} (D0 : DataW H) (ss : List Int) : Prop := ss.Nodup ∧ ∀ x, x ∈ ss ↔ has D0 (.int .u16 x) = true
theorem keys_stops {H : Type} (F : Fence) (n : Nat) (h34 : F.fn 34) (hro : F.round = none) (hn : 1 ≤ n) (Bm b nn : Nat) (D0 : DataW H) {R : Value → Option (DataW H × List MemPlace)} (w : World) (hBm : Bm < w.heap.size)
    (hm : w.cell? ⟨Bm, 0, none⟩ = some (.map (some b))) (hown : w.ownsMap Try.prog 22 R b nn D0) :
    SeqStopsK F n Try.prog 34 #[.pointer (some ⟨Bm, 0, none⟩)] (fun x : Int => #[.int .u16 x]) KeepsWalks (SU D0) (fun _ => True) (Maps.size D0) w := fun l J Jx W hW hJ _ hY h0 => by
  have hown' : W.ownsMap Try.prog 22 R b nn D0 := by
    have hbl := hown.lt
    obtain ⟨es, clock, hb, Ft, hs, hD⟩ := hown
    exact ⟨es, clock, (hW.block b hbl).trans hb, Ft, hs, hD⟩
  exact keys1 F n h34 hro hn l Bm b nn D0 J Jx hY W hJ ((hW.cell (p := ⟨Bm, 0, none⟩) hBm).trans hm) hown' h0

theorem info22 : (Try.prog.info? 22).map (fun i => (i.zero, i.size, i.bytes)) = some (some (.int .u16 0), 1, 2) := by kernel_rfl
set_option maxRecDepth 100000 in
set_option maxHeartbeats 2000000 in
/-- AppendSeq(nil, maps.Keys(m)): a new row of the keys. -/
theorem appendSeq {H : Type} (F : Fence) (n : Nat) (h33 : F.fn 33) (h34 : F.fn 34) (hro : F.round = none) (hn : 3 ≤ n) (Bm b nn : Nat) (D0 : DataW H) (hnn : nn ≤ 1000) {R : Value → Option (DataW H × List MemPlace)} (w : World) (hBm : Bm < w.heap.size)
    (hm : w.cell? ⟨Bm, 0, none⟩ = some (.map (some b))) (hown : w.ownsMap Try.prog 22 R b nn D0) :
    CallsIn F n Try.prog 33 #[.slice none 0 0, .func (.func 34) #[] #[.pointer (some ⟨Bm, 0, none⟩)]] w fun e W' => ∃ v ss, e = .returned v ∧ SU D0 ss ∧ W'.ownsRow w.heap.size 22 1 v ss.length (ss.map (Value.int .u16)) ∧ Below w.heap.size w W' := by
  have h1 : 1 ≤ n := by omega
  have hN : Maps.size D0 ≤ 1000 := Nat.le_trans hown.size_le hnn
  obtain ⟨i0, hi, hz0, hz1, hz2⟩ := info_parts info22
  refine callsIn_of_wp_marks Try.func33 rfl h33 ?_ hro
  simp only [Try.ntmps33, List.size_toArray, List.length_cons, List.length_nil, Nat.reduceAdd, Nat.reduceSub, Array.replicate_succ, Array.replicate_zero, List.push_toArray, List.append_toArray, List.nil_append, List.cons_append]
  gi_wp2
  have bO := Boxed.new w 38 (.slice none 0 0)
  have hB0 : Below w.heap.size w (w.alloc (.cells #[.slice none 0 0] 38)) := (Below.refl _ w).alloc (Nat.le_refl _) _
  refine wpIn_rangeFunc_ownG hro h1 (gf := 34) (lb := #[.pointer (some ⟨Bm, 0, none⟩)]) rfl h34 (enters_of Try.func34 (by kernel_rfl) rfl)
    (keys_stops F (n - 1) h34 hro (by omega) Bm b nn D0 w hBm hm hown) walksK_t walksK_b hB0 (fun _ => rfl)
    (fun pre W => (∃ v, Boxed W w.heap.size 38 v ∧ W.ownsRow w.heap.size 22 1 v pre.length (pre.map (Value.int .u16)) ∧ True) ∧ Below w.heap.size w W)
    (fun _ _ _ => False)
    (OwnFrom.and (Own.from (holdsRow_own w.heap.size w.heap.size 38 22 1 (fun pre : List Int => pre.length) (fun pre => pre.map (Value.int .u16)) (fun pre v => True)) _) (ownFrom_below (Nat.le_refl _) (by simp)))
    (fun _ _ _ _ _ hs _ _ => hs)
    ⟨⟨_, bO, World.ownsRow_nil _ _ _ _, trivial⟩, hB0⟩
    (fun x => { tmps := #[.slice none 0 0, .func (.func 34) #[] #[.pointer (some ⟨Bm, 0, none⟩)], .pointer (some ⟨w.heap.size, 0, none⟩), undef, .slice none 0 0, .int .u16 x, .func (.func 34) #[] #[.pointer (some ⟨Bm, 0, none⟩)], .int .u16 x, undef, undef, undef, undef, undef], defers := [] }) ?assign ?body ?done ?stop
  case assign =>
    intro l x W K hK
    gi_wp2
    exact hK
  case body =>
    rintro l pre x W ⟨⟨v, hv, hrow, _⟩, hB⟩ hlt
    have hc := hv.cell
    gi_wp2_with (gi_at_builtin; refine wpListIn_append_own _ rfl _ _ 38 rfl w.heap.size 22 i0 (.int .u16 0) 1 2 Try.underlying38 hi hz0 hz1 hz2 rfl (by decide) _ _ _ rfl (hrow.alloc _) ⟨W.heap.size, 0, none⟩ 1 1 [.int .u16 x] rfl rfl (cell_one_new _ _ _) (by simp [Value.oneCell']) (by unfold maxLen; omega) (by omega) (by have := hB.size; simp; omega) ?_; intro v' w1 hown' hgrow _; obtain ⟨g', cap', rfl⟩ := ownsRow_succ hown'; obtain ⟨hv1, hv2, hr2, hk2, hb2⟩ := hv.appended (by decide) hrow hB.size (Nat.le_refl _) hown' hgrow; have hc1 := hv1.cell; have hf1 := hv1.frozen)
    exact ⟨hk2.from _, hk2.walks, ⟨_, hv2, by simpa using hr2, trivial⟩, hB.trans hb2⟩
  case done =>
    rintro D ys W hD hS ⟨⟨v, hv, hrow, _⟩, hB⟩ hK
    have hc := hv.cell
    gi_wp2
    refine ⟨by simp, .inl ⟨_, _, rfl, run_takeDeferred hK, ?_⟩⟩
    exact ⟨_, results_tmp rfl _ _ _, v, ys, rfl, hS, ownsRow_putObj hrow _ hK rfl, hB.trans (belowK_b (w := w) (Nat.le_refl _) W D _ _ (by simp at hD; omega) hK rfl rfl)⟩
  case stop =>
    rintro D c pre W _ _ h _
    exact h.elim

open Go.Proofs.Ytjigeblechiffaa.PIntake
theorem mem_sort {H : Type} {y : Lit × DataW H} : ∀ {l : List (Lit × DataW H)}, y ∈ l.foldr DataW.insert [] ↔ y ∈ l
  | [] => Iff.rfl
  | x :: l => by rw [List.foldr_cons, Go.ChangeMaps.mem_insert_iff, mem_sort, List.mem_cons]

def R0 (v : Value) : Option (DataW Unit × List MemPlace) := some (.nil, [])
theorem rg_u16 {e : MapEntry} {a : Int} (hk : e.key = .int .u16 a) (ha : 0 ≤ a ∧ a < 65536) : Go.WideElems.rd Try.prog 22 R0 e = some (.int .u16 a, .nil) := by
  have hw : (Lit.int .u16 a).wf = true := by
    have h1 : IntKind.u16.min = 0 := by decide
    have h2 : IntKind.u16.max = 65535 := by decide
    have : IntKind.u16.min ≤ a ∧ a ≤ IntKind.u16.max := by omega
    simpa [Lit.wf] using this
  unfold Go.WideElems.rd
  rw [hk, keyOf_int_mk Try.underlying22 hw]
  rfl

variable {w0 w w1 : World} {B : Nat} {s : St}
theorem came_mem {vs : List (Int × Value)} {cs : List (Int × PIntake.P)} {R : Value → PIntake.P → Prop} (x : Int) : ∀ {vs : List (Int × Value)} {cs : List (Int × PIntake.P)}, Rel2 (fun p q => p.1 = q.1 ∧ R p.2 q.2) vs cs → ((∃ p ∈ vs, p.1 = x) ↔ ∃ p ∈ cs, p.1 = x)
  | [], [], _ => by simp
  | [], _ :: _, h => h.elim
  | _ :: _, [], h => h.elim
  | p :: vs, q :: cs, ⟨⟨h1, _⟩, h3⟩ => by
    have := came_mem (vs := vs) (cs := cs) (R := R) x h3
    simp only [List.mem_cons, exists_eq_or_imp, h1, this]

theorem owns (h : IV w0 B w s) (hs : s.came.length ≤ 1000) : ∃ (D0 : DataW Unit) (nn : Nat), nn ≤ 1000 ∧ w.ownsMap Try.prog 22 R0 B nn D0 ∧ ∀ x, has D0 (.int .u16 x) = true ↔ ∃ p ∈ s.came, p.1 = x := by
  obtain ⟨es, cl, vs, a, hE, c⟩ := h.mp
  have hS := h.stm es cl a
  have hl : es.size = s.came.length := by
    have h1 := congrArg List.length hE
    have h2 := c.len
    simp only [List.length_map, Array.length_toList] at h1
    omega
  have F : Go.WideElems.Fit Try.prog 22 R0 es cl := ⟨by unfold maxLen; omega, hS.1, fun e he => by
    obtain ⟨x, hx, hb⟩ := hS.2 e he
    exact ⟨_, rg_u16 hx hb⟩⟩
  refine ⟨_, es.size, by omega, World.ownsMap_of_fit a F (fun _ _ _ hz => hz), fun x => ?_⟩
  rw [has_eq, List.any_eq_true, ← came_mem (vs := vs) (cs := s.came) x c]
  constructor
  · rintro ⟨p, hp, hk⟩
    rw [mem_sort] at hp
    obtain ⟨e, he, rfl⟩ := List.mem_map.1 hp
    obtain ⟨y, hy, hb⟩ := hS.2 e he
    have hr : Go.WideElems.rg Try.prog 22 R0 e = (.int .u16 y, .nil) := by unfold Go.WideElems.rg; rw [rg_u16 hy hb]; rfl
    rw [hr] at hk
    have hxy : y = x := by simpa [Lit.sameKey] using hk
    subst hxy
    have : (e.key, e.val) ∈ vs.map (fun p => (Value.int .u16 p.1, p.2)) := by rw [← hE]; exact List.mem_map_of_mem he
    obtain ⟨q, hq, hq2⟩ := List.mem_map.1 this
    have h5 : Value.int .u16 q.1 = e.key := congrArg Prod.fst hq2
    rw [hy] at h5
    injection h5 with _ h5
    exact ⟨q, hq, h5⟩
  · rintro ⟨q, hq, rfl⟩
    have : (Value.int .u16 q.1, q.2) ∈ es.toList.map (fun e => (e.key, e.val)) := by rw [hE]; exact List.mem_map_of_mem hq
    obtain ⟨e, he, he2⟩ := List.mem_map.1 this
    have hy : e.key = .int .u16 q.1 := congrArg Prod.fst he2
    obtain ⟨y, hy2, hb⟩ := hS.2 e he
    rw [hy] at hy2
    injection hy2 with _ hy2
    subst hy2
    refine ⟨_, mem_sort.2 (List.mem_map_of_mem he), ?_⟩
    have hr : Go.WideElems.rg Try.prog 22 R0 e = (.int .u16 q.1, .nil) := by unfold Go.WideElems.rg; rw [rg_u16 hy hb]; rfl
    rw [hr]
    simp [Lit.sameKey]

set_option maxRecDepth 100000 in
set_option maxHeartbeats 1000000 in
theorem Keys_calls (mb : Option Nat) (w : World) : Calls Try.prog 22 #[.map mb] w fun e w' => e = .returned (.func (.func 34) #[] #[.pointer (some ⟨w.heap.size, 0, none⟩)]) ∧ w' = w.alloc (.cells #[.map mb] 55) := by
  go_enter Try.func22, Try.ntmps22
  go_wp2
  go_ret
  exact ⟨rfl, rfl⟩

open Go.Proofs.YtjigeblechiffaaW.PrintWords in
set_option maxRecDepth 100000 in
set_option maxHeartbeats 1000000 in
/-- Collect: a new row of the waiting numbers, each once. -/
theorem Collect_calls (h : IV w0 B w s) (hs : s.came.length ≤ 1000) (Bm : Nat) (hBm : Bm < w.heap.size) (hm : w.cell? ⟨Bm, 0, none⟩ = some (.map (some B))) :
    Calls Try.prog 21 #[.func (.func 34) #[] #[.pointer (some ⟨Bm, 0, none⟩)]] w fun e w' => ∃ (v : Value) (ss : List Int), e = .returned v ∧ (ss.Nodup ∧ ∀ x, x ∈ ss ↔ ∃ p ∈ s.came, p.1 = x) ∧ w'.ownsRow w.heap.size 22 1 v ss.length (ss.map (Value.int .u16)) ∧ Below w.heap.size w w' := by
  obtain ⟨D0, nn, hn, ho, hD⟩ := owns h hs
  have hA := callsIn_wide.1 (appendSeq Fence.wide 3 trivial trivial rfl (Nat.le_refl _) Bm B nn D0 hn w hBm hm ho)
  have HA := Aside0.mk hA
  have HD := Aside0.mk hD
  clear h hs hBm hm hn ho hA hD
  go_enter Try.func21, Try.ntmps21
  go_wp2_with (go_at_call 33; refine HA.out.mono ?_; rintro e w' ⟨v, ss, rfl, hS, hO, hB⟩; have HS := Aside0.mk hS; have HO := Aside0.mk hO; have HB := Aside0.mk hB; clear hS hO hB)
  go_ret
  exact ⟨_, _, rfl, ⟨HS.out.1, fun x => by rw [HS.out.2 x, HD.out x]⟩, HO.out, HB.out⟩
end Go.Proofs.Ytjigeblechiffaa.PKeys
