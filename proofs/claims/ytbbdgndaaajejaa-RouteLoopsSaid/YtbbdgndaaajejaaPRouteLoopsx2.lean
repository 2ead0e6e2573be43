-- Written by a program of this session (wip/oprint): after the pattern of the kit's print, which does not take this law. -- trimmed
import Derived.Test.YtbbdgndaaajejaaPRouteLoopsx0
namespace Go.Proofs.Ytbbdgndaaajejaa.PRouteLoops
open Go.RowKit Go.Proofs.YtbbdgndaaajejaaW.PrintWords Go.Proofs.YtbbdgndaaajejaaW.PrintLast Go.Proofs.YtbbdgndaaajejaaW.PrintMore
attribute [local go_sem] max2_int min2_int max_two min_two max_three min_three max_four min_four   -- for this text's walks alone
set_option linter.unusedVariables false
set_option linter.unusedSimpArgs false

/-! ### bits_Mul32: function 51 -/
def bits_Mul32.f (a0 : Int) (a1 : Int) : Option (Int × Int) := some (((IntKind.u64.wrap ((IntKind.u64.wrap (a0)) * (IntKind.u64.wrap (a1)))) / 4294967296) % 4294967296, (IntKind.u64.wrap ((IntKind.u64.wrap (a0)) * (IntKind.u64.wrap (a1)))) % 4294967296)
set_option maxHeartbeats 8000000 in
set_option maxRecDepth 100000 in
theorem bits_Mul32.calls (a0 : Int) (a1 : Int) (r1 : Int) (r2 : Int) (w : World) (h : bits_Mul32.f a0 a1 = some (r1, r2)) :
  Calls Try.prog 51 #[.int .u32 a0, .int .u32 a1] w fun e w' => e = .returned (.tuple #[.int .u32 r1, .int .u32 r2]) ∧ Drawn0 w w' := by
 have H : (some (((IntKind.u64.wrap ((IntKind.u64.wrap (a0)) * (IntKind.u64.wrap (a1)))) / 4294967296) % 4294967296, (IntKind.u64.wrap ((IntKind.u64.wrap (a0)) * (IntKind.u64.wrap (a1)))) % 4294967296)) = some (r1, r2) := h
 clear h
 simp only [Option.some.injEq, Prod.mk.injEq] at H
 obtain ⟨rfl, rfl⟩ := H
 go_enter Try.func51, Try.ntmps51
 go_wp2
 go_ret2
 exact ⟨by first | rfl | (simp; done) | (simp [*]; done), by repeat (first | exact Drawn0.refl _ | apply Drawn0.step)⟩

/-! ### bits_Mul64: function 52 -/
def bits_Mul64.f (a0 : Int) (a1 : Int) : Option (Int × Int) := some (IntKind.u64.wrap ((IntKind.u64.wrap ((IntKind.u64.wrap ((a0 / 4294967296) * (a1 / 4294967296))) + ((IntKind.u64.wrap ((IntKind.u64.wrap ((a0 / 4294967296) * (Go.bits .and .u64 a1 4294967295))) + ((IntKind.u64.wrap ((Go.bits .and .u64 a0 4294967295) * (Go.bits .and .u64 a1 4294967295))) / 4294967296))) / 4294967296))) + ((IntKind.u64.wrap ((Go.bits .and .u64 (IntKind.u64.wrap ((IntKind.u64.wrap ((a0 / 4294967296) * (Go.bits .and .u64 a1 4294967295))) + ((IntKind.u64.wrap ((Go.bits .and .u64 a0 4294967295) * (Go.bits .and .u64 a1 4294967295))) / 4294967296))) 4294967295) + (IntKind.u64.wrap ((Go.bits .and .u64 a0 4294967295) * (a1 / 4294967296))))) / 4294967296)), IntKind.u64.wrap (a0 * a1))
set_option maxHeartbeats 8000000 in
set_option maxRecDepth 100000 in
theorem bits_Mul64.calls (a0 : Int) (a1 : Int) (r1 : Int) (r2 : Int) (w : World) (h : bits_Mul64.f a0 a1 = some (r1, r2)) :
  Calls Try.prog 52 #[.int .u64 a0, .int .u64 a1] w fun e w' => e = .returned (.tuple #[.int .u64 r1, .int .u64 r2]) ∧ Drawn0 w w' := by
 have H : (some (IntKind.u64.wrap ((IntKind.u64.wrap ((IntKind.u64.wrap ((a0 / 4294967296) * (a1 / 4294967296))) + ((IntKind.u64.wrap ((IntKind.u64.wrap ((a0 / 4294967296) * (Go.bits .and .u64 a1 4294967295))) + ((IntKind.u64.wrap ((Go.bits .and .u64 a0 4294967295) * (Go.bits .and .u64 a1 4294967295))) / 4294967296))) / 4294967296))) + ((IntKind.u64.wrap ((Go.bits .and .u64 (IntKind.u64.wrap ((IntKind.u64.wrap ((a0 / 4294967296) * (Go.bits .and .u64 a1 4294967295))) + ((IntKind.u64.wrap ((Go.bits .and .u64 a0 4294967295) * (Go.bits .and .u64 a1 4294967295))) / 4294967296))) 4294967295) + (IntKind.u64.wrap ((Go.bits .and .u64 a0 4294967295) * (a1 / 4294967296))))) / 4294967296)), IntKind.u64.wrap (a0 * a1))) = some (r1, r2) := h
 clear h
 simp only [Option.some.injEq, Prod.mk.injEq] at H
 obtain ⟨rfl, rfl⟩ := H
 go_enter Try.func52, Try.ntmps52
 go_wp2
 go_ret2
 exact ⟨by first | rfl | (simp; done) | (simp [*]; done), by repeat (first | exact Drawn0.refl _ | apply Drawn0.step)⟩

/-! ### bits_Mul: function 50 -/
def bits_Mul.f (a0 : Int) (a1 : Int) : Option (Int × Int) := (bits_Mul64.f a0 a1).bind fun bt101 => (some (bt101.1, bt101.2))
set_option maxHeartbeats 8000000 in
set_option maxRecDepth 100000 in
theorem bits_Mul.calls (a0 : Int) (a1 : Int) (r1 : Int) (r2 : Int) (w : World) (h : bits_Mul.f a0 a1 = some (r1, r2)) :
  Calls Try.prog 50 #[.int .u64 a0, .int .u64 a1] w fun e w' => e = .returned (.tuple #[.int .u64 r1, .int .u64 r2]) ∧ Drawn0 w w' := by
 have H : ((bits_Mul64.f a0 a1).bind fun bt101 => (some (bt101.1, bt101.2))) = some (r1, r2) := h
 clear h
 replace H := Option.bind_eq_some_iff.mp H; obtain ⟨⟨t101, t102⟩, A30, H⟩ := H
 replace H : (some (t101, t102)) = some (r1, r2) := H
 have A3 := Aside0.mk A30
 clear A30
 simp only [Option.some.injEq, Prod.mk.injEq] at H
 obtain ⟨rfl, rfl⟩ := H
 go_enter Try.func50, Try.ntmps50
 go_wp2_with (first | ((with_reducible refine gate_callee (f := 52) rfl ?_); refine goesL_ (some 25) rfl rfl Try.func52 (by kernel_rfl) rfl #[.int .u64 a0, .int .u64 a1] rfl (by (try simp only [List.map_toArray, List.map_cons, List.map_nil]); first | done | rfl | (simp only [List.length_drop, List.length_take]; rfl)) ?_; (with_reducible refine (bits_Mul64.calls a0 a1 t101 t102 _ A3.out).mono ?_); rintro e w' ⟨rfl, ⟨nd, rfl⟩⟩; refine ⟨_, rfl, ?_⟩))
 go_ret2
 exact ⟨by first | rfl | (simp; done) | (simp [*]; done), by repeat (first | exact Drawn0.refl _ | apply Drawn0.step)⟩

/-! ### slices_Repeat_int_int: function 47, given -/
def slices_Repeat_int_int.f (l0 : List Int) (a1 : Int) : Option (List Int) := if l0.length = 1 ∧ 1 ≤ a1 ∧ a1 ≤ 1000 then some (List.replicate a1.toNat (rd l0 0)) else none
theorem slices_Repeat_int_int_mul : ∀ n : Fin 1001, bits_Mul.f 1 (n.val : Int) = some (0, (n.val : Int)) := by decide +kernel
theorem slices_Repeat_int_int_list {cur : List Value} {x : Value} {j m : Nat} (h : cur.take j = List.replicate j x) (hm : m ≤ j) (hl : j + m ≤ cur.length) : (cur.take j ++ cur.take m ++ cur.drop (j + m)).take (j + m) = List.replicate (j + m) x := by
 have h2 : cur.take m = List.replicate m x := by
  have : cur.take m = (cur.take j).take m := by rw [List.take_take]; congr 1; omega
  rw [this, h, List.take_replicate]
  congr 1; omega
 rw [h, h2, List.replicate_append_replicate, List.take_append_of_le_length (by simp)]
 exact List.take_of_length_le (by simp)
set_option maxHeartbeats 1000000 in
set_option maxRecDepth 100000 in
theorem slices_Repeat_int_int.calls (A0 : Option Addr) (c0 : Nat) (l0 : List Int) (a1 : Int) (r : List Int) (w : World) (hr0 : Kd.C (Kd.int .i64) w A0 l0.length l0) (hc0 : l0.length ≤ c0) (h : slices_Repeat_int_int.f l0 a1 = some r) :
  Calls Try.prog 47 #[.slice A0 l0.length c0, .int .i64 a1] w fun e w' => ∃ v0_ : Value, e = .returned (v0_) ∧ Kd.R (Kd.int .i64) 3 w' w.heap.size (fun _ => True) v0_ r ∧ Below w.heap.size w w' := by
 unfold slices_Repeat_int_int.f at h
 split at h
 ·rename_i hh
  obtain ⟨h1, h2, h3⟩ := hh
  obtain ⟨v, rfl⟩ : ∃ v, l0 = [v] := List.length_eq_one_iff.mp h1
  obtain ⟨n, rfl⟩ := Int.eq_ofNat_of_zero_le (show 0 ≤ a1 by omega)
  have hpos : 0 < n := by omega
  obtain rfl := Option.some.inj h
  clear h h1 h2
  have hn : n ≤ 1000 := by omega
  clear h3
  have HM := Aside0.mk (slices_Repeat_int_int_mul ⟨n, by omega⟩)
  have hcell : ∃ ad, A0 = some ad ∧ w.cell? ad = some (.int .i64 v) := by
   obtain ⟨ad, e, hx⟩ := Kd.at_int hr0 0 (by omega) (by simp)
   exact ⟨ad, e, by simpa [Addr.add, rd] using hx⟩
  obtain ⟨ad, rfl, hc⟩ := hcell
  have hadd : ad.add 0 = ad := by unfold Addr.add; split <;> simp_all
  have hc2 : ∀ j u, ([Value.int .i64 v] : List Value)[j]? = some u → w.cell? (ad.add j) = some u := by
   intro j u hu
   rcases j with _ | j
   ·simp only [List.getElem?_cons_zero, Option.some.injEq] at hu
    subst hu
    rw [hadd]; exact hc
   ·simp at hu
  have HC := Aside0.mk hc2
  have HA := Aside0.mk hadd
  clear hc hc2 hadd hr0
  have hb0 : decide ((n : Int) < 0) = false := by simp
  have hmk := print_make (P := Try.prog) 26 3 .i64 8 Try.underlying26 (by kernel_rfl) (by decide) n (by omega)
  go_enter Try.func47, Try.ntmps47
  go_wp2_with fail
  refine (bits_Mul.calls 1 n 0 n _ HM.out).mono ?_
  rintro e w' ⟨rfl, ⟨nd, rfl⟩⟩
  go_wp2_with (with_reducible refine wpList_copy_splice (P := Try.prog) rfl (.tmp 31) (.tmp 32) 26 26 rfl 3 Try.underlying26 (by kernel_rfl) (some ⟨w.heap.size, 0, none⟩) (some ad) n n 1 c0 rfl rfl w.heap.size 0 (madeCells #[.int .i64 0] n).toList 3 ?hg [.int .i64 v] ?hn ?hpos ?hfit ?h1 w.heap.size w ?hb (Nat.le_refl _) ?_)
  case hg => exact heap_alloc_new _ _
  case hn => exact (Nat.min_eq_left (show 1 ≤ n from hpos)).symm
  case hpos =>
   intro j u hu
   have := HC.out j u hu
   have hlt := World.block_lt_of_cell? _ _ this
   rw [World.cell?_alloc_lt _ _ _ (by simpa using hlt)]
   simpa using this
  case hfit => simp [size_madeCells]; omega
  case h1 => intro u hu; simp at hu; subst hu; rfl
  case hb => exact below_alloc (pw_below_drewN (Below.refl _ _) _) _
  intro w1 hg1 hb1
  have HB := Aside0.mk hb1
  have HG := Aside0.mk hg1.out
  clear hb1 hg1
  go_wp2_with fail
  go_loopw [8] (fun v8 wr => ∃ (j : Nat) (cur : List Value), v8 = .int .i64 (j : Int) ∧ 1 ≤ j ∧ j ≤ n ∧ Aside0 (cur.length = n) ∧ Aside0 (cur.take j = List.replicate j (.int .i64 v)) ∧ Aside0 (wr.heap[w.heap.size]? = some (.cells cur.toArray 3 (0, 0))) ∧ Aside0 (Below w.heap.size w wr)) (fun v8 _ => n - (intOf v8).toNat)
  case atStart => exact ⟨1, _, rfl, Nat.le_refl _, hpos, ⟨by simp [splice, size_madeCells]; omega⟩, ⟨by simp [splice]⟩, HG, HB⟩
  case round =>
   obtain ⟨j, cur, rfl, hj1, hj2, HL, HT, HG2, HB2⟩ := hrel
   by_cases hlt : j < n
   rotate_left
   ·obtain rfl : n = j := by omega
    go_wp2_with fail
    go_ret
    refine ⟨_, rfl, ?_, HB2.out⟩
    refine Kd.R_of_own (xs := List.replicate ((n : Int)).toNat (rd [v] 0)) ⟨by simp [encs], .inr ⟨w.heap.size, n, cur.toArray, by simp, Nat.le_refl _, HG2.out, by simp, by unfold maxLen; simp; omega, by simp [HL.out], ?_⟩⟩ (fun _ _ => trivial)
    have : encs (Value.int .i64) (List.replicate ((n : Int)).toNat (rd [v] 0)) = List.replicate n (.int .i64 v) := by simp [encs, rd]
    rw [this]
    simpa using HT.out
   have hne : ¬ (n = j) := by omega
   have hne2 : ¬ (j = n) := by omega
   obtain ⟨m, hm1, hm2, hm3⟩ : ∃ m : Nat, 1 ≤ m ∧ j + m ≤ n ∧ Hid (m = min j (n - j)) := ⟨min j (n - j), by omega, by omega, rfl⟩
   obtain ⟨W3, hcp, HG3, HB3⟩ : ∃ W3, (Builtin.copy_ #[26, 26] 3 #[.slice (some ⟨w.heap.size, j, none⟩) (n - j) (n - j), .slice (some ⟨w.heap.size, 0, none⟩) j n]).run Try.prog wr.drew = .ok (.int .i64 (m : Int)) W3 ∧ Aside0 (W3.heap[w.heap.size]? = some (.cells (cur.take j ++ cur.take m ++ cur.drop (j + m)).toArray 3 (0, 0))) ∧ Aside0 (Below w.heap.size w W3) := by
    have hl : (cur.take m).length = m := by rw [List.length_take, HL.out]; have := hm3.out; omega
    have hr := run_copy_row (P := Try.prog) wr.drew 26 26 3 3 w.heap.size j (n - j) (n - j) ⟨w.heap.size, 0, none⟩ j n cur.toArray 3 (cur.take m) Try.underlying26 (by kernel_rfl) HG2.out (by rw [hl]; have := hm3.out; show m = min j (n - j); omega) (by
      intro i u hu
      rw [add_plain]
      have : cur[i]? = some u := by
       rw [List.getElem?_take] at hu
       split at hu
       ·exact hu
       ·cases hu
      show wr.cell? _ = _
      simp [World.cell?, HG2.out, this]) (by rw [hl]; simp [HL.out]; omega) (by
      intro u hu
      have h1 : cur.take m = (cur.take j).take m := by rw [List.take_take]; congr 1; have := hm3.out; omega
      rw [h1, HT.out] at hu
      have := List.mem_of_mem_take hu
      rw [List.mem_replicate] at this
      rw [this.2]; rfl)
    rw [hl] at hr
    refine ⟨_, hr, ⟨by simpa using setRow_heap wr.drew w.heap.size _ _ 3 (0, 0) HG2.out⟩, ⟨below_setRow (below_drew HB2.out) (Nat.le_refl _) _⟩⟩
   go_wp2_with fail
   go_region
   all_goals go_roundw
   case rel => exact ⟨.int .i64 ((j : Int) + (m : Int)), _, _, _, _, _, _, _, _, _, _, _, _, _, ⟨j + m, _, by go_num, by omega, by omega, ⟨by simp [HL.out]; omega⟩, ⟨slices_Repeat_int_int_list HT.out (by have := hm3.out; omega) (by rw [HL.out]; omega)⟩, HG3, HB3⟩, rfl⟩
   case measure => simp [intOf]; omega
 ·cases h

/-! ### reach_lengths_0: function 36 -/
mutual
def reach_lengths_0.l0 : Nat → List Bool → Int → List Int → List Int → List (S47) → List (S38) → Option (List Int)
 | 0, _, _, _, _, _, _ => none
 | k + 1, x1, x2, x9, x10, x104000, x104001 => if (x10.length : Int) > 0 then (if 0 < (x10.length : Int) then (if (rd x10 0) = x2 then (reach_lengths_0.j1 k x1 x2 x9 x10 (rd x10 0) false x104000 x104001) else (if 0 ≤ (rd x10 0) then (if (rd x10 0) < (x104000.length : Int) then (reach_lengths_0.j1 k x1 x2 x9 x10 (rd x10 0) (((rd_T47 x104000 (rd x10 0)).f1) != 1) x104000 x104001) else (none)) else (none))) else (none)) else (some x9)
def reach_lengths_0.j1 : Nat → List Bool → Int → List Int → List Int → Int → Bool → List (S47) → List (S38) → Option (List Int)
 | 0, _, _, _, _, _, _, _, _ => none
 | k + 1, x1, x2, x9, x10, x11, x44, x104000, x104001 => if x44 = true then (if 1 ≤ (x10.length : Int) then (reach_lengths_0.l0 k x1 x2 x9 (x10.drop (1 : Int).toNat) x104000 x104001) else (none)) else (reach_lengths_0.l1 k x1 x2 x9 x10 x11 x104001 (x104001.length : Int) 0 x104000 x104001)
def reach_lengths_0.l1 : Nat → List Bool → Int → List Int → List Int → Int → List (S38) → Int → Int → List (S47) → List (S38) → Option (List Int)
 | 0, _, _, _, _, _, _, _, _, _, _ => none
 | k + 1, x1, x2, x9, x10, x11, x46, x47, x48, x104000, x104001 => if x48 < x47 then (if 0 ≤ x48 then (if x48 < (x46.length : Int) then (if 0 ≤ (wrap64 (x48 + 1)) then (if (wrap64 (x48 + 1)) < (x1.length : Int) then (if (rdOf false x1 (wrap64 (x48 + 1)) = true) then (reach_lengths_0.l1 k x1 x2 x9 x10 x11 x46 x47 (wrap64 (x48 + 1)) x104000 x104001) else (if ((rd_T38 x46 x48).f0) = x11 then (if 0 ≤ ((rd_T38 x46 x48).f1) then (if ((rd_T38 x46 x48).f1) < (x9.length : Int) then (if (rd x9 ((rd_T38 x46 x48).f1)) < 0 then (if 0 ≤ x11 then (if x11 < (x9.length : Int) then (if x10.length < 17592186044416 then (reach_lengths_0.l1 k x1 x2 (x9.set (((rd_T38 x46 x48).f1) : Int).toNat (wrap64 ((rd x9 x11) + 1))) (x10 ++ [(rd_T38 x46 x48).f1]) x11 x46 x47 (wrap64 (x48 + 1)) x104000 x104001) else (none)) else (none)) else (none)) else (reach_lengths_0.l1 k x1 x2 x9 x10 x11 x46 x47 (wrap64 (x48 + 1)) x104000 x104001)) else (none)) else (none)) else (reach_lengths_0.l1 k x1 x2 x9 x10 x11 x46 x47 (wrap64 (x48 + 1)) x104000 x104001))) else (none)) else (none)) else (none)) else (none)) else (if 1 ≤ (x10.length : Int) then (reach_lengths_0.l0 k x1 x2 x9 (x10.drop (1 : Int).toNat) x104000 x104001) else (none))
end
def reach_lengths_0.f (k : Nat) (l0_0 : List (S47)) (l0_1 : List (S38)) (l1 : List Bool) (a2 : Int) (a3 : Int) : Option (List Int) := (slices_Repeat_int_int.f (([(-1)] : List Int)) (l0_0.length : Int)).bind fun t107 => (if 0 ≤ a2 then (if a2 < (t107.length : Int) then (reach_lengths_0.l0 k l1 a2 (t107.set (a2 : Int).toNat 0) (([a2] : List Int)) l0_0 l0_1) else (none)) else (none))
theorem reach_lengths_0.mono_l : ∀ k, (∀ y0 y1 y2 y3 y4 y5, LeO (reach_lengths_0.l0 k y0 y1 y2 y3 y4 y5) (reach_lengths_0.l0 (k + 1) y0 y1 y2 y3 y4 y5)) ∧ (∀ y0 y1 y2 y3 y4 y5 y6 y7, LeO (reach_lengths_0.j1 k y0 y1 y2 y3 y4 y5 y6 y7) (reach_lengths_0.j1 (k + 1) y0 y1 y2 y3 y4 y5 y6 y7)) ∧ (∀ y0 y1 y2 y3 y4 y5 y6 y7 y8 y9, LeO (reach_lengths_0.l1 k y0 y1 y2 y3 y4 y5 y6 y7 y8 y9) (reach_lengths_0.l1 (k + 1) y0 y1 y2 y3 y4 y5 y6 y7 y8 y9))
 | 0 => ⟨fun _ _ _ _ _ _ r h => by simp [reach_lengths_0.l0] at h, fun _ _ _ _ _ _ _ _ r h => by simp [reach_lengths_0.j1] at h, fun _ _ _ _ _ _ _ _ _ _ r h => by simp [reach_lengths_0.l1] at h⟩
 | k + 1 => by
  obtain ⟨ih0, ih1, ih2⟩ := reach_lengths_0.mono_l k
  refine ⟨?_, ?_, ?_⟩
  ·intro y0 y1 y2 y3 y4 y5
   unfold reach_lengths_0.l0
   repeat' first
   | (with_reducible exact ih0 _ _ _ _ _ _)
   | (with_reducible exact ih1 _ _ _ _ _ _ _ _)
   | (with_reducible exact ih2 _ _ _ _ _ _ _ _ _ _)
   | (with_reducible exact LeO.refl _)
   | (with_reducible exact LeO.none _)
   | (with_reducible refine LeO.ite ?_ ?_)
   | (with_reducible refine LeO.bind ?_ (fun _ => ?_))
   | exact ih0 _ _ _ _ _ _
   | exact ih1 _ _ _ _ _ _ _ _
   | exact ih2 _ _ _ _ _ _ _ _ _ _
   | exact LeO.none _
   | refine LeO.ite ?_ ?_
   | refine LeO.bind ?_ (fun _ => ?_)
  ·intro y0 y1 y2 y3 y4 y5 y6 y7
   unfold reach_lengths_0.j1
   repeat' first
   | (with_reducible exact ih0 _ _ _ _ _ _)
   | (with_reducible exact ih1 _ _ _ _ _ _ _ _)
   | (with_reducible exact ih2 _ _ _ _ _ _ _ _ _ _)
   | (with_reducible exact LeO.refl _)
   | (with_reducible exact LeO.none _)
   | (with_reducible refine LeO.ite ?_ ?_)
   | (with_reducible refine LeO.bind ?_ (fun _ => ?_))
   | exact ih0 _ _ _ _ _ _
   | exact ih1 _ _ _ _ _ _ _ _
   | exact ih2 _ _ _ _ _ _ _ _ _ _
   | exact LeO.none _
   | refine LeO.ite ?_ ?_
   | refine LeO.bind ?_ (fun _ => ?_)
  ·intro y0 y1 y2 y3 y4 y5 y6 y7 y8 y9
   unfold reach_lengths_0.l1
   repeat' first
   | (with_reducible exact ih0 _ _ _ _ _ _)
   | (with_reducible exact ih1 _ _ _ _ _ _ _ _)
   | (with_reducible exact ih2 _ _ _ _ _ _ _ _ _ _)
   | (with_reducible exact LeO.refl _)
   | (with_reducible exact LeO.none _)
   | (with_reducible refine LeO.ite ?_ ?_)
   | (with_reducible refine LeO.bind ?_ (fun _ => ?_))
   | exact ih0 _ _ _ _ _ _
   | exact ih1 _ _ _ _ _ _ _ _
   | exact ih2 _ _ _ _ _ _ _ _ _ _
   | exact LeO.none _
   | refine LeO.ite ?_ ?_
   | refine LeO.bind ?_ (fun _ => ?_)
theorem reach_lengths_0.mono : ∀ a0 a1 a2 a3 a4 k, LeO (reach_lengths_0.f k a0 a1 a2 a3 a4) (reach_lengths_0.f (k + 1) a0 a1 a2 a3 a4) := by
 intro a0 a1 a2 a3 a4 k
 obtain ⟨ih0, ih1, ih2⟩ := reach_lengths_0.mono_l k
 unfold reach_lengths_0.f
 repeat' first
   | (with_reducible exact ih0 _ _ _ _ _ _)
   | (with_reducible exact ih1 _ _ _ _ _ _ _ _)
   | (with_reducible exact ih2 _ _ _ _ _ _ _ _ _ _)
   | (with_reducible exact LeO.refl _)
   | (with_reducible exact LeO.none _)
   | (with_reducible refine LeO.ite ?_ ?_)
   | (with_reducible refine LeO.bind ?_ (fun _ => ?_))
   | exact ih0 _ _ _ _ _ _
   | exact ih1 _ _ _ _ _ _ _ _
   | exact ih2 _ _ _ _ _ _ _ _ _ _
   | exact LeO.none _
   | refine LeO.ite ?_ ?_
   | refine LeO.bind ?_ (fun _ => ?_)
set_option maxHeartbeats 8000000 in
set_option maxRecDepth 100000 in
theorem reach_lengths_0.calls (k : Nat) (A0_0 : Option Addr) (c0_0 : Nat) (l0_0 : List (S47)) (A0_1 : Option Addr) (c0_1 : Nat) (l0_1 : List (S38)) (A1 : Option Addr) (c1 : Nat) (l1 : List Bool) (a2 : Int) (a3 : Int) (r : List Int) (w : World) (hr0_0 : Kd.C k47 w A0_0 l0_0.length l0_0) (hc0_0 : l0_0.length ≤ c0_0) (hr0_1 : Kd.C k38 w A0_1 l0_1.length l0_1) (hc0_1 : l0_1.length ≤ c0_1) (hr1 : Kd.C Kd.bool w A1 l1.length l1) (hc1 : l1.length ≤ c1) (h : reach_lengths_0.f k l0_0 l0_1 l1 a2 a3 = some r) :
  Calls Try.prog 36 #[.agg #[.slice A0_0 l0_0.length c0_0, .slice A0_1 l0_1.length c0_1], .slice A1 l1.length c1, .int .i64 a2, .int .i64 0] w fun e w' => ∃ v0_ : Value, e = .returned (v0_) ∧ Kd.R (Kd.int .i64) 3 w' w.heap.size (fun _ => True) v0_ r ∧ Below w.heap.size w w' := by
 have hu25 := Try.underlying25
 have hu38 := Try.underlying38
 have HR0_0 := Aside0.mk hr0_0
 have HC0_0 := Aside0.mk hc0_0
 clear hr0_0 hc0_0
 have HR0_1 := Aside0.mk hr0_1
 have HC0_1 := Aside0.mk hc0_1
 clear hr0_1 hc0_1
 have HR1 := Aside0.mk hr1
 have HC1 := Aside0.mk hc1
 clear hr1 hc1
 have HB := Aside0.mk (Below.refl w.heap.size w)
 have H : ((slices_Repeat_int_int.f (([(-1)] : List Int)) (l0_0.length : Int)).bind fun t107 => (if 0 ≤ a2 then (if a2 < (t107.length : Int) then (reach_lengths_0.l0 k l1 a2 (t107.set (a2 : Int).toNat 0) (([a2] : List Int)) l0_0 l0_1) else (none)) else (none))) = some r := h
 clear h
 obtain ⟨y104, hy104⟩ : ∃ y_ : List Int, y_ = (([(-1)] : List Int)) := ⟨_, rfl⟩
 replace H : ((slices_Repeat_int_int.f y104 (l0_0.length : Int)).bind fun t107 => (if 0 ≤ a2 then (if a2 < (t107.length : Int) then (reach_lengths_0.l0 k l1 a2 (t107.set (a2 : Int).toNat 0) (([a2] : List Int)) l0_0 l0_1) else (none)) else (none))) = some r := by first | (rw [hy104]; with_reducible exact H) | (have H2_ := (Option.bind_some _ _).symm.trans H; rw [hy104]; with_reducible exact H2_) | (have H2_ := (Option.bind_some _ _).symm.trans H; with_reducible exact H2_) | with_reducible exact H | (rw [hy104]; exact H) | exact H
 have Ny104 := Aside0.mk hy104
 clear hy104
 replace H := Option.bind_eq_some_iff.mp H; obtain ⟨t107, A50, H⟩ := H
 replace H : (if 0 ≤ a2 then (if a2 < (t107.length : Int) then (reach_lengths_0.l0 k l1 a2 (t107.set (a2 : Int).toNat 0) (([a2] : List Int)) l0_0 l0_1) else (none)) else (none)) = some r := H
 have A5 := Aside0.mk A50
 clear A50
 by_cases c6 : 0 ≤ a2
 rotate_left; ·rw [if_neg c6] at H; exact absurd H (by simp)

 rw [if_pos c6] at H
 have c6b0 : decide (0 ≤ a2) = true := decide_eq_true c6
 clear c6
 by_cases c7 : a2 < (t107.length : Int)
 rotate_left; ·rw [if_neg c7] at H; exact absurd H (by simp)
 rw [if_pos c7] at H
 have c7b0 : decide (a2 < (t107.length : Int)) = true := decide_eq_true c7
 clear c7
 obtain ⟨y110, hy110⟩ : ∃ y_ : List Int, y_ = (t107.set (a2 : Int).toNat 0) := ⟨_, rfl⟩
 replace H : (reach_lengths_0.l0 k l1 a2 y110 (([a2] : List Int)) l0_0 l0_1) = some r := by first | (rw [hy110]; with_reducible exact H) | (have H2_ := (Option.bind_some _ _).symm.trans H; rw [hy110]; with_reducible exact H2_) | (have H2_ := (Option.bind_some _ _).symm.trans H; with_reducible exact H2_) | with_reducible exact H | (rw [hy110]; exact H) | exact H
 have Ny110 := Aside0.mk hy110
 clear hy110
 obtain ⟨y111, hy111⟩ : ∃ y_ : List Int, y_ = (([a2] : List Int)) := ⟨_, rfl⟩
 replace H : (reach_lengths_0.l0 k l1 a2 y110 y111 l0_0 l0_1) = some r := by first | (rw [hy111]; with_reducible exact H) | (have H2_ := (Option.bind_some _ _).symm.trans H; rw [hy111]; with_reducible exact H2_) | (have H2_ := (Option.bind_some _ _).symm.trans H; with_reducible exact H2_) | with_reducible exact H | (rw [hy111]; exact H) | exact H
 have Ny111 := Aside0.mk hy111
 clear hy111
 have H' := Aside0.mk H; clear H
 go_enter Try.func36, Try.ntmps36
 go_wp2_with (first | ((with_reducible refine gate_dst (N := 4) rfl ?_); refine box_event ?hg (N := 4) ?hd (cs := #[.slice A0_0 l0_0.length c0_0, .slice A0_1 l0_1.length c0_1]) (t := 25) ?hr ?_; (case hd => rfl); (case hg => rfl); (case hr => first | (go_simp; done) | (go_simp; rfl)); intro gb103 hg w9 hbox hb; have BK103 := Aside0.mk (hbox); have GW103 := Aside0.mk ((by rw [hg]; exact (below_size (by repeat (first | (with_reducible first | exact HB.out | apply below_alloc | apply pw_below_drewN | apply below_drew1) | exact HB.out))) : w.heap.size ≤ gb103)); have GE103 := Aside0.mk ((by rw [hg]; exact (below_size (by repeat (first | (with_reducible first | exact HB.out | apply below_alloc | apply pw_below_drewN | apply below_drew1) | exact HB.out))) : w.heap.size ≤ gb103)); replace HB := Aside0.mk (below_step (by repeat (first | (with_reducible first | exact HB.out | apply below_alloc | apply pw_below_drewN | apply below_drew1) | exact HB.out)) hb); clear hb hbox hg) | ((with_reducible refine gate_dst (N := 15) rfl ?_); refine Kd.R_lit (Kd.int .i64) _ 3 ?hg (N := 15) ?hd (xs := ([(-1)] : List Int)) (inner := [.int .i64 (-1)]) (ok := fun _ => True) (okp := fun _ => True) ?hr ?hp (fun _ hk => hk) trivial (Below.refl _ _) (Nat.le_refl _) (by simp) ?_; (case hd => rfl); (case hg => rfl); (case hr => first | (go_simp; done) | (go_simp; rfl)); (case hp => exact (Reps.one (show Kd.M (Kd.int .i64) _ _ _ (-1) [.int .i64 (-1)] from rfl) (Reps.none _ _))); intro v105 w10 ho11 hb hg_ hnew_; clear hg_ hnew_; (first | rw [← Ny104.out] at ho11 | (simp only [Int.reduceToNat] at ho11; rw [← Ny104.out] at ho11)); have HO106 := Aside0.mk (Kd.R_lower ho11 (below_size (by repeat (first | (with_reducible first | exact HB.out | apply below_alloc | apply pw_below_drewN | apply below_drew1 | refine below_set ?_ GE103.out) | exact HB.out)))); replace BK103 := Aside0.mk (blk_below (g := gb103) (o := .cells #[.slice A0_0 l0_0.length c0_0, .slice A0_1 l0_1.length c0_1] 25 (0, 0)) (by (with_reducible repeat (first | refine blk_drewN ?_ _ | refine blk_drew ?_ | refine blk_alloc ?_ _)); exact BK103.out) hb); replace HB := Aside0.mk (below_step (by repeat (first | (with_reducible first | exact HB.out | apply below_alloc | apply pw_below_drewN | apply below_drew1 | refine below_set ?_ GE103.out) | exact HB.out)) hb); clear hb ho11; have hcz12_0 : w10.cell? ⟨gb103, 0, none⟩ = some (.slice A0_0 l0_0.length c0_0) := (blk_cell BK103.out 0).trans rfl; have hcz12_1 : w10.cell? ⟨gb103, 1, none⟩ = some (.slice A0_1 l0_1.length c0_1) := (blk_cell BK103.out 1).trans rfl; have hfz12_0 := blk_frozen BK103.out 0; have hfz12_1 := blk_frozen BK103.out 1; obtain ⟨Ao13, co13, eo13⟩ := Kd.R_slice HO106.out; subst eo13) | ((with_reducible refine gate_callee (f := 47) rfl ?_); refine goesL_ (some 19) rfl rfl Try.func47 (by kernel_rfl) rfl #[.slice Ao13 y104.length co13, .int .i64 (l0_0.length : Int)] rfl (by (try simp only [List.map_toArray, List.map_cons, List.map_nil]); first | done | rfl | (simp only [List.length_drop, List.length_take]; rfl)) ?_; (with_reducible refine (slices_Repeat_int_int.calls _ _ y104 (l0_0.length : Int) t107 _ ?side1 ?side2 A5.out).mono ?_); (case side1 => repeat (first | exact (Kd.R_reads' HO106.out).2.2 | (with_reducible refine Kd.C_alloc ?_ _) | (with_reducible refine Kd.C_drewN ?_ _) | (with_reducible refine Kd.C_drew ?_))); (case side2 => exact (Kd.R_reads' HO106.out).2.1); rintro e w14 ⟨v108, rfl, ho0, hb⟩; refine ⟨_, rfl, ?_⟩; have HO109 := Aside0.mk (Kd.R_lower (Kd.R_new' ho0 (Kd.R_lt (by (with_reducible repeat (first | apply Kd.R_alloc | apply Kd.R_drewN | apply Kd.R_drew)); exact HO106.out))) (below_size (by repeat (first | (with_reducible first | exact HB.out | apply below_alloc | apply pw_below_drewN | apply below_drew1 | refine below_set ?_ GE103.out) | exact HB.out)))); replace HO106 := Aside0.mk (Kd.R_elder' (by (with_reducible repeat (first | apply Kd.R_alloc | apply Kd.R_drewN | apply Kd.R_drew)); exact HO106.out) (Kd.R_base ho0) hb); replace BK103 := Aside0.mk (blk_below (g := gb103) (o := .cells #[.slice A0_0 l0_0.length c0_0, .slice A0_1 l0_1.length c0_1] 25 (0, 0)) (by (with_reducible repeat (first | refine blk_drewN ?_ _ | refine blk_drew ?_ | refine blk_alloc ?_ _)); exact BK103.out) hb); replace HB := Aside0.mk (below_step (by repeat (first | (with_reducible first | exact HB.out | apply below_alloc | apply pw_below_drewN | apply below_drew1 | refine below_set ?_ GE103.out) | exact HB.out)) hb); (try clear hb); (try clear ho0); have p8 : 0 ≤ (a2 : Int) := of_decide_eq_true (by first | (with_reducible assumption) | assumption); have q8 : (a2 : Int) < ((t107.length : Int) : Int) := of_decide_eq_true (by first | (with_reducible assumption) | assumption); obtain ⟨go8, co8, eo8, gb8, gl8, cl8, HG8⟩ := Kd.R_form HO109.out (by omega); (first | cases eo8 | (injection eo8 with ea_ en_ ec_; (first | subst ea_ | (injection ea_ with ea_; subst ea_)); subst ec_; clear en_)); have GB8 := Aside0.mk gb8; have GG8 := Aside0.mk HG8; clear gb8 gl8 HG8; obtain ⟨hx8_0, hf8_0⟩ := Kd.R_celln 0 HO109.out (a2 : Int) p8 q8; replace p8 := eq_true p8; replace q8 := eq_true q8; have n_ := Aside0.mk (Kd.R_mono (ok' := (fun k_ => some k_ ≠ (.slice Ao13 y104.length co13 : Value).ownBlock)) HO109.out (fun k_ hk => hk.2)); clear HO109; have HO109 := n_; clear n_; obtain ⟨hy15_, hz15_⟩ := Kd.R_celln 0 HO109.out (a2 : Int) (of_decide_eq_true (by first | (with_reducible assumption) | assumption)) (of_decide_eq_true (by first | (with_reducible assumption) | assumption)); have HP15 := Kd.R_putg HO109.out (a2 : Int) 0) | ((with_reducible refine gate_store (t := 3) (p := 22) rfl ?_); refine store_event (t := 3) (p := 22) (v := ?vo_w16) (w1 := (w14.setCell ⟨go8, (a2 : Int).toNat, none⟩ (.int .i64 0))) ?hg ?ho ?hn ?hr ?_; (case ho => rfl); (case hg => rfl); (case hn => rfl); (case hr => first | (go_simp; done) | (go_simp; rfl)); intro w16 hw; have hg : w14.grownBy w16 (some go8) := (by rw [hw]; exact HP15.2); have hp_ : Kd.R (Kd.int .i64) 3 w16 w.heap.size (fun k_ => some k_ ≠ (.slice Ao13 y104.length co13 : Value).ownBlock) (.slice (some ⟨go8, 0, none⟩) t107.length co8) y110 := (by rw [hw, Ny110.out]; exact HP15.1); clear HP15; replace BK103 := Aside0.mk (blk_grown (g := gb103) (o := .cells #[.slice A0_0 l0_0.length c0_0, .slice A0_1 l0_1.length c0_1] 25 (0, 0)) (by (with_reducible repeat (first | refine blk_drewN ?_ _ | refine blk_drew ?_ | refine blk_alloc ?_ _)); exact BK103.out) hg (Kd.R_ne HO109.out BK103.out (by decide))); replace HO106 := Aside0.mk (Kd.R_after (v := (.slice (some ⟨go8, 0, none⟩) t107.length co8)) (v1 := (.slice (some ⟨go8, 0, none⟩) t107.length co8)) (ok := (fun _ => True)) (by (with_reducible repeat (first | apply Kd.R_alloc | apply Kd.R_drewN | apply Kd.R_drew)); exact HO106.out) hg (.inl rfl)); replace HO109 := Aside0.mk (hp_); replace HB := Aside0.mk ((by rw [hw]; exact below_set (HB.out) GB8.out : Below w.heap.size w w16)); clear hg hw hp_) | ((with_reducible refine gate_dst (N := 24) rfl ?_); refine Kd.R_lit (Kd.int .i64) _ 3 ?hg (N := 24) ?hd (xs := ([a2] : List Int)) (inner := [.int .i64 a2]) (ok := fun _ => True) (okp := fun _ => True) ?hr ?hp (fun _ hk => hk) trivial (Below.refl _ _) (Nat.le_refl _) (by simp) ?_; (case hd => rfl); (case hg => rfl); (case hr => first | (go_simp; done) | (go_simp; rfl)); (case hp => exact (Reps.one (show Kd.M (Kd.int .i64) _ _ _ a2 [.int .i64 a2] from rfl) (Reps.none _ _))); intro v112 w17 ho18 hb hg_ hnew_; clear hg_ hnew_; (first | rw [← Ny111.out] at ho18 | (simp only [Int.reduceToNat] at ho18; rw [← Ny111.out] at ho18)); have HO113 := Aside0.mk (Kd.R_lower (Kd.R_new' (Kd.R_new' ho18 (Kd.R_lt (by (with_reducible repeat (first | apply Kd.R_alloc | apply Kd.R_drewN | apply Kd.R_drew)); exact HO106.out))) (Kd.R_lt (by (with_reducible repeat (first | apply Kd.R_alloc | apply Kd.R_drewN | apply Kd.R_drew)); exact HO109.out))) (below_size (by repeat (first | (with_reducible first | exact HB.out | apply below_alloc | apply pw_below_drewN | apply below_drew1 | refine below_set ?_ GE103.out) | exact HB.out)))); replace HO106 := Aside0.mk (Kd.R_elder' (by (with_reducible repeat (first | apply Kd.R_alloc | apply Kd.R_drewN | apply Kd.R_drew)); exact HO106.out) (Kd.R_base ho18) hb); replace HO109 := Aside0.mk (Kd.R_elder' (by (with_reducible repeat (first | apply Kd.R_alloc | apply Kd.R_drewN | apply Kd.R_drew)); exact HO109.out) (Kd.R_base ho18) hb); replace BK103 := Aside0.mk (blk_below (g := gb103) (o := .cells #[.slice A0_0 l0_0.length c0_0, .slice A0_1 l0_1.length c0_1] 25 (0, 0)) (by (with_reducible repeat (first | refine blk_drewN ?_ _ | refine blk_drew ?_ | refine blk_alloc ?_ _)); exact BK103.out) hb); replace HB := Aside0.mk (below_step (by repeat (first | (with_reducible first | exact HB.out | apply below_alloc | apply pw_below_drewN | apply below_drew1 | refine below_set ?_ GE103.out) | exact HB.out)) hb); clear hb ho18))
 go_loopg [10] k (fun kq v10 w' => ∃ (x9_1 : List Int) (x10_1 : List Int), Aside0 (reach_lengths_0.l0 kq l1 a2 x9_1 x10_1 l0_0 l0_1 = some r) ∧ Aside0 (kq ≤ k) ∧ Aside0 (Kd.R (Kd.int .i64) 3 w' w.heap.size (fun k_ => some k_ ≠ (v10 : Value).ownBlock) (.slice (some ⟨go8, 0, none⟩) t107.length co8) x9_1) ∧ Aside0 (Kd.Q (Kd.int .i64) 3 w' w.heap.size (fun k_ => some k_ ≠ ((.slice (some ⟨go8, 0, none⟩) t107.length co8) : Value).ownBlock) v10 x10_1) ∧ Aside0 (w'.heap[gb103]? = some (.cells #[(.slice A0_0 l0_0.length c0_0), (.slice A0_1 l0_1.length c0_1)] 25 (0, 0))) ∧ Aside0 (Below w.heap.size w w'))
 case atStart => exact ⟨(y110), (y111), H', ⟨Nat.le_refl _⟩, ⟨by (with_reducible repeat (first | apply Kd.R_alloc | apply Kd.R_drewN | apply Kd.R_drew)); exact Kd.R_mono HO109.out (fun _ hk => hk.2)⟩, ⟨Kd.Q_of_R (by (with_reducible repeat (first | apply Kd.R_alloc | apply Kd.R_drewN | apply Kd.R_drew)); exact Kd.R_mono HO113.out (fun _ hk => hk.2))⟩, ⟨by (with_reducible repeat (first | refine blk_drewN ?_ _ | refine blk_drew ?_ | refine blk_alloc ?_ _)); exact BK103.out⟩, ⟨by repeat (first | (with_reducible first | exact HB.out | apply below_alloc | apply pw_below_drewN | apply below_drew1 | refine below_set ?_ GE103.out) | exact HB.out)⟩⟩
 case round =>
  clear H'
  obtain ⟨x9_1, x10_1, HA, HK1, HO_9, HO_10, BK103, HB⟩ := hrel
  have hl9_1 := (Kd.R_reads' HO_9.out).1
  rw [hl9_1] at HO_9
  (try simp only [hl9_1])
  (try simp only [hl9_1] at BK103)
  (try simp only [hl9_1] at HO_10)
  cases gk with
  | zero => exact absurd HA.out (by simp [reach_lengths_0.l0])
  | succ k1 =>
   have H := HA.out
   clear HA
   simp only [reach_lengths_0.l0] at H
   by_cases c19 : (x10_1.length : Int) > 0
   rotate_left
   ·rw [if_neg c19] at H
    have c19b0 : decide (0 < (x10_1.length : Int)) = false := decide_eq_false c19
    have c19b1 : decide (0 < x10_1.length) = false := decide_eq_false (by omega)
    (try (have c19z0 := c19b0; simp only [hl9_1] at c19z0))
    (try (have c19z1 := c19b1; simp only [hl9_1] at c19z1))
    clear c19
    obtain rfl := Option.some.inj H
    obtain ⟨Ao67, co67, eo67, _⟩ := Kd.Q_slice HO_10.out
    subst eo67
    go_wp2
    go_ret
    exact ⟨_, by first | rfl | (simp [errW_none, errW_some] <;> rfl) | (simp [*, errW_none, errW_some] <;> rfl), by (with_reducible repeat (first | apply Kd.R_alloc | apply Kd.R_drewN | apply Kd.R_drew)); exact Kd.R_mono HO_9.out (fun _ hk => trivial), by repeat (first | (with_reducible first | exact HB.out | apply below_alloc | apply pw_below_drewN | apply below_drew1 | refine below_set ?_ GE103.out) | exact HB.out)⟩
   rw [if_pos c19] at H
   have c19b0 : decide (0 < (x10_1.length : Int)) = true := decide_eq_true c19
   have c19b1 : decide (0 < x10_1.length) = true := decide_eq_true (by omega)
   (try (have c19z0 := c19b0; simp only [hl9_1] at c19z0))
   (try (have c19z1 := c19b1; simp only [hl9_1] at c19z1))
   clear c19
   by_cases c20 : 0 < (x10_1.length : Int)
   rotate_left; ·rw [if_neg c20] at H; exact absurd H (by simp)
   rw [if_pos c20] at H
   have c20b0 : decide (0 < (x10_1.length : Int)) = true := decide_eq_true c20
   have c20b1 : decide (0 < x10_1.length) = true := decide_eq_true (by omega)
   (try (have c20z0 := c20b0; simp only [hl9_1] at c20z0))
   (try (have c20z1 := c20b1; simp only [hl9_1] at c20z1))
   clear c20
   have HC21 := Aside0.mk H
   clear H
   obtain ⟨Ao22, co22, eo22, _⟩ := Kd.Q_slice HO_10.out
   subst eo22
   have p114 : 0 ≤ (0 : Int) := (by omega)
   have q114 : 0 < (x10_1.length : Int) := of_decide_eq_true (by first | (with_reducible assumption) | assumption)
   obtain ⟨ad114, e114, hx114_0⟩ := Kd.at_int (Kd.Q_reads' HO_10.out).2.2 0 p114 q114
   cases e114
   have qi114 : (0 < x10_1.length) = True := eq_true (by omega)
   (try rw [show ((0 : Int)).toNat = 0 from rfl] at hx114_0)
   (try rw [Addr.add_zero'] at hx114_0)
   replace p114 := eq_true p114
   replace q114 := eq_true q114
   go_upto_region 7 with (fail)
   go_cut [44] (fun v44 wc => ∃ (kq : Nat) (x44_20 : Bool), v44 = .bool x44_20 ∧ Aside0 (reach_lengths_0.j1 kq l1 a2 x9_1 x10_1 (rd x10_1 0) x44_20 l0_0 l0_1 = some r) ∧ Aside0 (kq ≤ k1) ∧ Aside0 (Kd.R (Kd.int .i64) 3 wc w.heap.size (fun k_ => some k_ ≠ ((.slice (some ad114) x10_1.length co22) : Value).ownBlock) (.slice (some ⟨go8, 0, none⟩) x9_1.length co8) x9_1) ∧ Aside0 (Kd.Q (Kd.int .i64) 3 wc w.heap.size (fun k_ => some k_ ≠ ((.slice (some ⟨go8, 0, none⟩) x9_1.length co8) : Value).ownBlock) (.slice (some ad114) x10_1.length co22) x10_1) ∧ Aside0 (wc.heap[gb103]? = some (.cells #[(.slice A0_0 l0_0.length c0_0), (.slice A0_1 l0_1.length c0_1)] 25 (0, 0))) ∧ Aside0 (Below w.heap.size w wc))
   case first =>
    have H := HC21.out
    clear HC21
    by_cases c23 : (rd x10_1 0) = a2
    ·rw [if_pos c23] at H
     have c23b0 : ((rd x10_1 0) == a2) = true := beq_iff_eq.mpr c23
     have c23b1 : ((rd x10_1 0) != a2) = false := bne_eq_false_iff_eq.mpr c23
     clear c23
     (first | rw [c23b0] | (simp only [i64_w, i32_w]; rw [c23b0]) | skip)
     have H' := Aside0.mk H; clear H
     go_wp2
     go_meet
     case rel => exact ⟨_, (false), (by first | rfl | (simp; done) | (simp [*]; done)), H', ⟨by have := HK1.out; first | omega | exact Nat.le_refl _⟩, ⟨by (try simp only [hl9_1]); (with_reducible repeat (first | apply Kd.R_alloc | apply Kd.R_drewN | apply Kd.R_drew)); exact HO_9.out⟩, ⟨by (try simp only [hl9_1]); (with_reducible repeat (first | apply Kd.Q_alloc | apply Kd.Q_drewN | apply Kd.Q_drew)); exact HO_10.out⟩, ⟨by (try simp only [hl9_1]); (with_reducible repeat (first | refine blk_drewN ?_ _ | refine blk_drew ?_ | refine blk_alloc ?_ _)); exact BK103.out⟩, ⟨by repeat (first | (with_reducible first | exact HB.out | apply below_alloc | apply pw_below_drewN | apply below_drew1 | refine below_set ?_ GE103.out) | exact HB.out)⟩⟩
    rw [if_neg c23] at H
    have c23b0 : ((rd x10_1 0) == a2) = false := beq_eq_false_iff_ne.mpr c23
    have c23b1 : ((rd x10_1 0) != a2) = true := bne_iff_ne.mpr c23
    (first | rw [c23b0] | (simp only [i64_w, i32_w]; rw [c23b0]) | skip)
    by_cases c24 : 0 ≤ (rd x10_1 0)
    rotate_left; ·rw [if_neg c24] at H; exact absurd H (by simp)
    rw [if_pos c24] at H
    have c24b0 : decide (0 ≤ (rd x10_1 0)) = true := decide_eq_true c24
    clear c24
    by_cases c25 : (rd x10_1 0) < (l0_0.length : Int)
    rotate_left; ·rw [if_neg c25] at H; exact absurd H (by simp)
    rw [if_pos c25] at H
    have c25b0 : decide ((rd x10_1 0) < (l0_0.length : Int)) = true := decide_eq_true c25
    (try (have c25z0 := c25b0; simp only [hl9_1] at c25z0))
    clear c25
    have H' := Aside0.mk H; clear H
    have hcz26_0 : wr.cell? ⟨gb103, 0, none⟩ = some (.slice A0_0 l0_0.length c0_0) := (blk_cell BK103.out 0).trans rfl
    have hcz26_1 : wr.cell? ⟨gb103, 1, none⟩ = some (.slice A0_1 l0_1.length c0_1) := (blk_cell BK103.out 1).trans rfl
    have hfz26_0 := blk_frozen BK103.out 0
    have hfz26_1 := blk_frozen BK103.out 1
    have p115 : 0 ≤ ((rd x10_1 0) : Int) := of_decide_eq_true (by first | (with_reducible assumption) | assumption)
    have q115 : (rd x10_1 0) < (l0_0.length : Int) := of_decide_eq_true (by first | (with_reducible assumption) | assumption)
    obtain ⟨ad115, e115, hx115_0, hx115_1, hx115_2⟩ := at_T47 HR0_0.out (rd x10_1 0) p115 q115
    cases e115
    replace hx115_0 := (HB.out.cell (World.block_lt_of_cell? w _ hx115_0)).trans hx115_0
    replace hx115_1 := (HB.out.cell (World.block_lt_of_cell? w _ hx115_1)).trans hx115_1
    replace hx115_2 := (HB.out.cell (World.block_lt_of_cell? w _ hx115_2)).trans hx115_2
    replace p115 := eq_true p115
    replace q115 := eq_true q115
    go_wp2
    go_meet
    case rel => exact ⟨_, ((((rd_T47 l0_0 (rd x10_1 0)).f1) != 1)), (by first | rfl | (simp; done) | (simp [*]; done)), H', ⟨by have := HK1.out; first | omega | exact Nat.le_refl _⟩, ⟨by (try simp only [hl9_1]); (with_reducible repeat (first | apply Kd.R_alloc | apply Kd.R_drewN | apply Kd.R_drew)); exact HO_9.out⟩, ⟨by (try simp only [hl9_1]); (with_reducible repeat (first | apply Kd.Q_alloc | apply Kd.Q_drewN | apply Kd.Q_drew)); exact HO_10.out⟩, ⟨by (try simp only [hl9_1]); (with_reducible repeat (first | refine blk_drewN ?_ _ | refine blk_drew ?_ | refine blk_alloc ?_ _)); exact BK103.out⟩, ⟨by repeat (first | (with_reducible first | exact HB.out | apply below_alloc | apply pw_below_drewN | apply below_drew1 | refine below_set ?_ GE103.out) | exact HB.out)⟩⟩
   case rest =>
    clear HC21
    obtain ⟨kq, x44_20, rfl, HA, HJ20, HO_9, HO_10, BK103, HB⟩ := hcut
    cases kq with
    | zero => exact absurd HA.out (by simp [reach_lengths_0.j1])
    | succ kj20 =>
     have H := HA.out
     clear HA
     simp only [reach_lengths_0.j1] at H
     by_cases c27 : x44_20 = true
     ·subst c27
      have H1 : (if 1 ≤ (x10_1.length : Int) then (reach_lengths_0.l0 kj20 l1 a2 x9_1 (x10_1.drop (1 : Int).toNat) l0_0 l0_1) else (none)) = some r := by rw [if_pos rfl] at H; exact H
      clear H; have H := H1; clear H1
      by_cases c28 : 1 ≤ (x10_1.length : Int)
      rotate_left; ·rw [if_neg c28] at H; exact absurd H (by simp)
      rw [if_pos c28] at H
      have c28b0 := eq_true c28
      have c28b1 : decide (1 ≤ (x10_1.length : Int)) = true := decide_eq_true c28
      clear c28
      obtain ⟨y116, hy116⟩ : ∃ y_ : List Int, y_ = (x10_1.drop (1 : Int).toNat) := ⟨_, rfl⟩
      replace H : (reach_lengths_0.l0 kj20 l1 a2 x9_1 y116 l0_0 l0_1) = some r := by first | (rw [hy116]; with_reducible exact H) | (have H2_ := (Option.bind_some _ _).symm.trans H; rw [hy116]; with_reducible exact H2_) | (have H2_ := (Option.bind_some _ _).symm.trans H; with_reducible exact H2_) | with_reducible exact H | (rw [hy116]; exact H) | exact H
      have Ny116 := Aside0.mk hy116
      clear hy116
      have H' := Aside0.mk H; clear H
      have q29 : (1 : Int) ≤ ((x10_1.length : Int) : Int) := of_decide_eq_true (by first | (with_reducible assumption) | assumption)
      obtain ⟨i029, hi029, _, hsz29, _⟩ := info_parts info3
      have hcut29 := cut_from (P := Try.prog) 26 3 .i64 Try.underlying26 hi029 1 hsz29 (some ad114) x10_1.length co22 1 (by omega) q29
      have hr29 := Kd.Q_drop (k := (1 : Int).toNat) HO_10.out (by omega)
      obtain ⟨A29, hA29⟩ : ∃ A1, A1 = (if co22 = (1 : Int).toNat then (some ad114) else ((some ad114) : Option Addr).map (·.add ((1 : Int).toNat * 1))) := ⟨_, rfl⟩
      obtain ⟨c29, hc29⟩ : ∃ c1, c1 = co22 - (1 : Int).toNat := ⟨_, rfl⟩
      have hy29 : y116.length = x10_1.length - (1 : Int).toNat := (by rw [Ny116.out, List.length_drop])
      rw [← Ny116.out] at hr29
      rw [← hy29, ← hA29, ← hc29] at hcut29
      replace hr29 : Kd.Q (Kd.int .i64) 3 wc w.heap.size (fun k_ => some k_ ≠ (.slice (some ⟨go8, 0, none⟩) x9_1.length co8 : Value).ownBlock) (.slice A29 y116.length c29) y116 := (by rw [hA29, hc29, hy29]; exact hr29)
      have HE29 : Aside0 ((Value.slice A29 y116.length c29).ownBlock = (.slice (some ad114) x10_1.length co22 : Value).ownBlock) := ⟨by rw [hA29]; split <;> (cases ((some ad114) : Option Addr) <;> rfl)⟩
      clear hy29 hi029 hsz29 HO_10 hA29 hc29
      have HO118 := Aside0.mk hr29
      clear hr29
      replace q29 := eq_true q29
      have n_ := Aside0.mk (Kd.R_mono (ok' := fun k_ => some k_ ≠ (.slice A29 y116.length c29 : Value).ownBlock) HO_9.out (fun k_ hk => (by rw [HE29.out]; exact hk)))
      clear HO_9
      have HO_9 := n_
      clear n_
      go_wp2
      (try simp only [← hl9_1])
      go_roundg kj20
      case measure => have := HK1.out; have := HJ20.out; omega
      case rel => exact ⟨(x9_1), (y116), H', ⟨by have := HK1.out; have := HJ20.out; omega⟩, ⟨by (try simp only [hl9_1]); (with_reducible repeat (first | apply Kd.R_alloc | apply Kd.R_drewN | apply Kd.R_drew)); exact HO_9.out⟩, ⟨by (try simp only [hl9_1]); (with_reducible repeat (first | apply Kd.Q_alloc | apply Kd.Q_drewN | apply Kd.Q_drew)); exact HO118.out⟩, ⟨by (try simp only [hl9_1]); (with_reducible repeat (first | refine blk_drewN ?_ _ | refine blk_drew ?_ | refine blk_alloc ?_ _)); exact BK103.out⟩, ⟨by repeat (first | (with_reducible first | exact HB.out | apply below_alloc | apply pw_below_drewN | apply below_drew1 | refine below_set ?_ GE103.out) | exact HB.out)⟩⟩
     replace c27 := Bool.eq_false_iff.mpr c27
     subst c27
     have H1 : (reach_lengths_0.l1 kj20 l1 a2 x9_1 x10_1 (rd x10_1 0) l0_1 (l0_1.length : Int) 0 l0_0 l0_1) = some r := by rw [if_neg (show ¬ (false = true) by decide)] at H; exact H
     clear H; have H := H1; clear H1
     have H' := Aside0.mk H; clear H
     have hcz30_0 : wc.cell? ⟨gb103, 0, none⟩ = some (.slice A0_0 l0_0.length c0_0) := (blk_cell BK103.out 0).trans rfl
     have hcz30_1 : wc.cell? ⟨gb103, 1, none⟩ = some (.slice A0_1 l0_1.length c0_1) := (blk_cell BK103.out 1).trans rfl
     have hfz30_0 := blk_frozen BK103.out 0
     have hfz30_1 := blk_frozen BK103.out 1
     go_wp2
     go_loopg [10, 48] kj20 (fun kq v10 v48 w' => ∃ (x9_3 : List Int) (x10_3 : List Int) (x48_3 : Int), v48 = .int .i64 x48_3 ∧ Aside0 (reach_lengths_0.l1 kq l1 a2 x9_3 x10_3 (rd x10_1 0) l0_1 (l0_1.length : Int) x48_3 l0_0 l0_1 = some r) ∧ Aside0 (kq ≤ kj20) ∧ Aside0 (Kd.R (Kd.int .i64) 3 w' w.heap.size (fun k_ => some k_ ≠ (v10 : Value).ownBlock) (.slice (some ⟨go8, 0, none⟩) x9_1.length co8) x9_3) ∧ Aside0 (Kd.Q (Kd.int .i64) 3 w' w.heap.size (fun k_ => some k_ ≠ ((.slice (some ⟨go8, 0, none⟩) x9_1.length co8) : Value).ownBlock) v10 x10_3) ∧ Aside0 (w'.heap[gb103]? = some (.cells #[(.slice A0_0 l0_0.length c0_0), (.slice A0_1 l0_1.length c0_1)] 25 (0, 0))) ∧ Aside0 (Below w.heap.size w w'))
     case atStart => exact ⟨(x9_1), (x10_1), (0), (by first | rfl | (simp; done) | (simp [*]; done)), H', ⟨Nat.le_refl _⟩, ⟨by (try simp only [hl9_1]); (with_reducible repeat (first | apply Kd.R_alloc | apply Kd.R_drewN | apply Kd.R_drew)); exact HO_9.out⟩, ⟨by (try simp only [hl9_1]); (with_reducible repeat (first | apply Kd.Q_alloc | apply Kd.Q_drewN | apply Kd.Q_drew)); exact HO_10.out⟩, ⟨by (try simp only [hl9_1]); (with_reducible repeat (first | refine blk_drewN ?_ _ | refine blk_drew ?_ | refine blk_alloc ?_ _)); exact BK103.out⟩, ⟨by repeat (first | (with_reducible first | exact HB.out | apply below_alloc | apply pw_below_drewN | apply below_drew1 | refine below_set ?_ GE103.out) | exact HB.out)⟩⟩
     case round =>
      clear H'
      obtain ⟨x9_3, x10_3, x48_3, rfl, HA, HK3, HO_9, HO_10, BK103, HB⟩ := hrel
      have hl9_3 := (Kd.R_reads' HO_9.out).1
      rw [hl9_3] at HO_9
      (try simp only [hl9_3])
      (try simp only [hl9_3] at BK103)
      (try simp only [hl9_3] at HO_10)
      cases gk with
      | zero => exact absurd HA.out (by simp [reach_lengths_0.l1])
      | succ k3 =>
       have H := HA.out
       clear HA
       simp only [reach_lengths_0.l1] at H
       by_cases c31 : x48_3 < (l0_1.length : Int)
       rotate_left
       ·rw [if_neg c31] at H
        have c31b0 : decide (x48_3 < (l0_1.length : Int)) = false := decide_eq_false c31
        (try (have c31z0 := c31b0; simp only [hl9_1, hl9_3] at c31z0))
        clear c31
        by_cases c64 : 1 ≤ (x10_3.length : Int)
        rotate_left; ·rw [if_neg c64] at H; exact absurd H (by simp)
        rw [if_pos c64] at H
        have c64b0 := eq_true c64
        have c64b1 : decide (1 ≤ (x10_3.length : Int)) = true := decide_eq_true c64
        clear c64
        obtain ⟨y128, hy128⟩ : ∃ y_ : List Int, y_ = (x10_3.drop (1 : Int).toNat) := ⟨_, rfl⟩
        replace H : (reach_lengths_0.l0 k3 l1 a2 x9_3 y128 l0_0 l0_1) = some r := by first | (rw [hy128]; with_reducible exact H) | (have H2_ := (Option.bind_some _ _).symm.trans H; rw [hy128]; with_reducible exact H2_) | (have H2_ := (Option.bind_some _ _).symm.trans H; with_reducible exact H2_) | with_reducible exact H | (rw [hy128]; exact H) | exact H
        have Ny128 := Aside0.mk hy128
        clear hy128
        have H' := Aside0.mk H; clear H
        obtain ⟨Ao65, co65, eo65, _⟩ := Kd.Q_slice HO_10.out
        subst eo65
        have q66 : (1 : Int) ≤ ((x10_3.length : Int) : Int) := of_decide_eq_true (by first | (with_reducible assumption) | assumption)
        obtain ⟨i066, hi066, _, hsz66, _⟩ := info_parts info3
        have hcut66 := cut_from (P := Try.prog) 26 3 .i64 Try.underlying26 hi066 1 hsz66 Ao65 x10_3.length co65 1 (by omega) q66
        have hr66 := Kd.Q_drop (k := (1 : Int).toNat) HO_10.out (by omega)
        obtain ⟨A66, hA66⟩ : ∃ A1, A1 = (if co65 = (1 : Int).toNat then Ao65 else (Ao65 : Option Addr).map (·.add ((1 : Int).toNat * 1))) := ⟨_, rfl⟩
        obtain ⟨c66, hc66⟩ : ∃ c1, c1 = co65 - (1 : Int).toNat := ⟨_, rfl⟩
        have hy66 : y128.length = x10_3.length - (1 : Int).toNat := (by rw [Ny128.out, List.length_drop])
        rw [← Ny128.out] at hr66
        rw [← hy66, ← hA66, ← hc66] at hcut66
        replace hr66 : Kd.Q (Kd.int .i64) 3 wr w.heap.size (fun k_ => some k_ ≠ (.slice (some ⟨go8, 0, none⟩) x9_3.length co8 : Value).ownBlock) (.slice A66 y128.length c66) y128 := (by rw [hA66, hc66, hy66]; exact hr66)
        have HE66 : Aside0 ((Value.slice A66 y128.length c66).ownBlock = (.slice Ao65 x10_3.length co65 : Value).ownBlock) := ⟨by rw [hA66]; split <;> (cases (Ao65 : Option Addr) <;> rfl)⟩
        clear hy66 hi066 hsz66 HO_10 hA66 hc66
        have HO130 := Aside0.mk hr66
        clear hr66
        replace q66 := eq_true q66
        have n_ := Aside0.mk (Kd.R_mono (ok' := fun k_ => some k_ ≠ (.slice A66 y128.length c66 : Value).ownBlock) HO_9.out (fun k_ hk => (by rw [HE66.out]; exact hk)))
        clear HO_9
        have HO_9 := n_
        clear n_
        go_wp2
        (try simp only [← hl9_1, ← hl9_3])
        go_roundg k3
        case measure => have := HK1.out; have := HJ20.out; have := HK3.out; omega
        case rel => exact ⟨(x9_3), (y128), H', ⟨by have := HK1.out; have := HJ20.out; have := HK3.out; omega⟩, ⟨by (try simp only [hl9_1]); (try simp only [hl9_3]); (with_reducible repeat (first | apply Kd.R_alloc | apply Kd.R_drewN | apply Kd.R_drew)); exact HO_9.out⟩, ⟨by (try simp only [hl9_1]); (try simp only [hl9_3]); (with_reducible repeat (first | apply Kd.Q_alloc | apply Kd.Q_drewN | apply Kd.Q_drew)); exact HO130.out⟩, ⟨by (try simp only [hl9_1]); (try simp only [hl9_3]); (with_reducible repeat (first | refine blk_drewN ?_ _ | refine blk_drew ?_ | refine blk_alloc ?_ _)); exact BK103.out⟩, ⟨by repeat (first | (with_reducible first | exact HB.out | apply below_alloc | apply pw_below_drewN | apply below_drew1 | refine below_set ?_ GE103.out) | exact HB.out)⟩⟩
       rw [if_pos c31] at H
       have c31b0 : decide (x48_3 < (l0_1.length : Int)) = true := decide_eq_true c31
       (try (have c31z0 := c31b0; simp only [hl9_1, hl9_3] at c31z0))
       clear c31
       by_cases c32 : 0 ≤ x48_3
       rotate_left; ·rw [if_neg c32] at H; exact absurd H (by simp)
       rw [if_pos c32] at H
       have c32b0 : decide (0 ≤ x48_3) = true := decide_eq_true c32
       clear c32
       by_cases c33 : x48_3 < (l0_1.length : Int)
       rotate_left; ·rw [if_neg c33] at H; exact absurd H (by simp)
       rw [if_pos c33] at H
       have c33b0 : decide (x48_3 < (l0_1.length : Int)) = true := decide_eq_true c33
       (try (have c33z0 := c33b0; simp only [hl9_1, hl9_3] at c33z0))
       clear c33
       obtain ⟨ji34, hji34⟩ : ∃ j_ : Int, (wrap64 (x48_3 + 1)) = j_ := ⟨_, rfl⟩
       replace H : (if 0 ≤ (ji34) then (if (ji34) < (l1.length : Int) then (if (rdOf false l1 (ji34) = true) then (reach_lengths_0.l1 k3 l1 a2 x9_3 x10_3 (rd x10_1 0) l0_1 (l0_1.length : Int) ji34 l0_0 l0_1) else (if ((rd_T38 l0_1 x48_3).f0) = (rd x10_1 0) then (if 0 ≤ ((rd_T38 l0_1 x48_3).f1) then (if ((rd_T38 l0_1 x48_3).f1) < (x9_3.length : Int) then (if (rd x9_3 ((rd_T38 l0_1 x48_3).f1)) < 0 then (if 0 ≤ (rd x10_1 0) then (if (rd x10_1 0) < (x9_3.length : Int) then (if x10_3.length < 17592186044416 then (reach_lengths_0.l1 k3 l1 a2 (x9_3.set (((rd_T38 l0_1 x48_3).f1) : Int).toNat (wrap64 ((rd x9_3 (rd x10_1 0)) + 1))) (x10_3 ++ [(rd_T38 l0_1 x48_3).f1]) (rd x10_1 0) l0_1 (l0_1.length : Int) ji34 l0_0 l0_1) else (none)) else (none)) else (none)) else (reach_lengths_0.l1 k3 l1 a2 x9_3 x10_3 (rd x10_1 0) l0_1 (l0_1.length : Int) ji34 l0_0 l0_1)) else (none)) else (none)) else (reach_lengths_0.l1 k3 l1 a2 x9_3 x10_3 (rd x10_1 0) l0_1 (l0_1.length : Int) ji34 l0_0 l0_1))) else (none)) else (none)) = some r := by first | (rw [hji34] at H; exact H) | (simp only [hji34] at H ⊢; exact H)
       have hji34w : (IntKind.i64.wrap (x48_3 + 1)) = ji34 := (i64_w _).trans hji34
       by_cases c35 : 0 ≤ (ji34)
       rotate_left; ·rw [if_neg c35] at H; exact absurd H (by simp)
       rw [if_pos c35] at H
       have c35b0 : decide (0 ≤ (ji34)) = true := decide_eq_true c35
       clear c35
       by_cases c36 : (ji34) < (l1.length : Int)
       rotate_left; ·rw [if_neg c36] at H; exact absurd H (by simp)
       rw [if_pos c36] at H
       have c36b0 : decide ((ji34) < (l1.length : Int)) = true := decide_eq_true c36
       (try (have c36z0 := c36b0; simp only [hl9_1, hl9_3] at c36z0))
       clear c36
       obtain ⟨bq37, hbq37⟩ : ∃ b_ : Bool, b_ = (rdOf false l1 (ji34)) := ⟨_, rfl⟩
       replace H : (if (bq37 = true) then (reach_lengths_0.l1 k3 l1 a2 x9_3 x10_3 (rd x10_1 0) l0_1 (l0_1.length : Int) ji34 l0_0 l0_1) else (if ((rd_T38 l0_1 x48_3).f0) = (rd x10_1 0) then (if 0 ≤ ((rd_T38 l0_1 x48_3).f1) then (if ((rd_T38 l0_1 x48_3).f1) < (x9_3.length : Int) then (if (rd x9_3 ((rd_T38 l0_1 x48_3).f1)) < 0 then (if 0 ≤ (rd x10_1 0) then (if (rd x10_1 0) < (x9_3.length : Int) then (if x10_3.length < 17592186044416 then (reach_lengths_0.l1 k3 l1 a2 (x9_3.set (((rd_T38 l0_1 x48_3).f1) : Int).toNat (wrap64 ((rd x9_3 (rd x10_1 0)) + 1))) (x10_3 ++ [(rd_T38 l0_1 x48_3).f1]) (rd x10_1 0) l0_1 (l0_1.length : Int) ji34 l0_0 l0_1) else (none)) else (none)) else (none)) else (reach_lengths_0.l1 k3 l1 a2 x9_3 x10_3 (rd x10_1 0) l0_1 (l0_1.length : Int) ji34 l0_0 l0_1)) else (none)) else (none)) else (reach_lengths_0.l1 k3 l1 a2 x9_3 x10_3 (rd x10_1 0) l0_1 (l0_1.length : Int) ji34 l0_0 l0_1))) = some r := by rw [← hbq37] at H; exact H
       have Nbq37 := Aside0.mk hbq37
       clear hbq37
       by_cases c38 : (bq37 = true)
       ·subst c38
        have H1 : (reach_lengths_0.l1 k3 l1 a2 x9_3 x10_3 (rd x10_1 0) l0_1 (l0_1.length : Int) ji34 l0_0 l0_1) = some r := by rw [if_pos rfl] at H; exact H
        clear H; have H := H1; clear H1
        have H' := Aside0.mk H; clear H
        have p119 : 0 ≤ (x48_3 : Int) := of_decide_eq_true (by first | (with_reducible assumption) | assumption)
        have q119 : x48_3 < (l0_1.length : Int) := of_decide_eq_true (by first | (with_reducible assumption) | assumption)
        obtain ⟨ad119, e119, hx119_0, hx119_1⟩ := at_T38 HR0_1.out x48_3 p119 q119
        cases e119
        replace hx119_0 := (HB.out.cell (World.block_lt_of_cell? w _ hx119_0)).trans hx119_0
        replace hx119_1 := (HB.out.cell (World.block_lt_of_cell? w _ hx119_1)).trans hx119_1
        replace p119 := eq_true p119
        replace q119 := eq_true q119
        go_wp2_with (first | ((with_reducible refine gate_dst (N := 13) rfl ?_); refine box_event ?hg (N := 13) ?hd (cs := #[.int .i64 0, .int .i64 0]) (t := 38) ?hr ?_; (case hd => rfl); (case hg => rfl); (case hr => first | (go_simp; done) | (go_simp; rfl)); intro gb120 hg w39 hbox hb; replace HO_9 := Aside0.mk (Kd.R_below (by (with_reducible repeat (first | apply Kd.R_alloc | apply Kd.R_drewN | apply Kd.R_drew)); exact HO_9.out) hb); replace HO_10 := Aside0.mk (Kd.Q_below (by (with_reducible repeat (first | apply Kd.Q_alloc | apply Kd.Q_drewN | apply Kd.Q_drew)); exact HO_10.out) hb); have BK120 := Aside0.mk (hbox); have GW120 := Aside0.mk ((by rw [hg]; exact (below_size (by repeat (first | (with_reducible first | exact HB.out | apply below_alloc | apply pw_below_drewN | apply below_drew1 | refine below_set ?_ GE103.out) | exact HB.out))) : w.heap.size ≤ gb120)); have GE120 := Aside0.mk ((by rw [hg]; exact (below_size (by repeat (first | (with_reducible first | exact HB.out | apply below_alloc | apply pw_below_drewN | apply below_drew1 | refine below_set ?_ GE103.out) | exact HB.out))) : w.heap.size ≤ gb120)); replace HB := Aside0.mk (below_step (by repeat (first | (with_reducible first | exact HB.out | apply below_alloc | apply pw_below_drewN | apply below_drew1 | refine below_set ?_ GE103.out) | exact HB.out)) hb); have NB103_120 := Aside0.mk ((by rw [hg]; exact Nat.ne_of_lt (blk_lt (g := gb103) (o := .cells #[.slice A0_0 l0_0.length c0_0, .slice (some ad119) l0_1.length c0_1] 25 (0, 0)) (by (with_reducible repeat (first | refine blk_drewN ?_ _ | refine blk_drew ?_ | refine blk_alloc ?_ _)); exact BK103.out)) : gb103 ≠ gb120)); have NB120_103 := Aside0.mk ((by rw [hg]; exact Nat.ne_of_gt (blk_lt (g := gb103) (o := .cells #[.slice A0_0 l0_0.length c0_0, .slice (some ad119) l0_1.length c0_1] 25 (0, 0)) (by (with_reducible repeat (first | refine blk_drewN ?_ _ | refine blk_drew ?_ | refine blk_alloc ?_ _)); exact BK103.out)) : gb120 ≠ gb103)); replace BK103 := Aside0.mk (blk_below (g := gb103) (o := .cells #[.slice A0_0 l0_0.length c0_0, .slice (some ad119) l0_1.length c0_1] 25 (0, 0)) (by (with_reducible repeat (first | refine blk_drewN ?_ _ | refine blk_drew ?_ | refine blk_alloc ?_ _)); exact BK103.out) hb); clear hb hbox hg; have hnb40 := NB120_103.out; have hnc40 := NB103_120.out; have hcz41_0 : w39.cell? ⟨gb120, 0, none⟩ = some (.int .i64 0) := (blk_cell BK120.out 0).trans rfl; have hcz41_1 : w39.cell? ⟨gb120, 1, none⟩ = some (.int .i64 0) := (blk_cell BK120.out 1).trans rfl; have hfz41_0 := blk_frozen BK120.out 0; have hfz41_1 := blk_frozen BK120.out 1; have p121 : 0 ≤ ((ji34) : Int) := of_decide_eq_true (by first | (with_reducible assumption) | assumption); have q121 : (ji34) < (l1.length : Int) := of_decide_eq_true (by first | (with_reducible assumption) | assumption); obtain ⟨ad121, e121, hx121_0⟩ := Kd.at_bool HR1.out (ji34) p121 q121; (try rw [← Nbq37.out] at hx121_0); cases e121; have hn121_0 : (ad121 : Addr).block ≠ gb120 := Nat.ne_of_lt (Nat.lt_of_lt_of_le (by have := World.block_lt_of_cell? _ _ hx121_0; first | rwa [add_block] at this | exact this) GW120.out); have hn121_1 : (ad121 : Addr).block ≠ gb120 := Nat.ne_of_lt (Nat.lt_of_lt_of_le (by have := World.block_lt_of_cell? _ _ hx121_0; first | rwa [add_block] at this | exact this) GW120.out); replace hx121_0 := (HB.out.cell (World.block_lt_of_cell? w _ hx121_0)).trans hx121_0; replace hx121_0 := (cell_far (p := ⟨gb120, 0, none⟩) (by first | (rw [add_block]; exact hn121_0) | (show (Addr.add _ _).block ≠ _; rw [add_block]; exact hn121_0) | exact hn121_0) (.int .i64 ((rd_T38 l0_1 x48_3).f0))).trans hx121_0; replace hx121_0 := (cell_far (p := ⟨gb120, 1, none⟩) (by first | (rw [add_block]; exact hn121_1) | (show (Addr.add _ _).block ≠ _; rw [add_block]; exact hn121_1) | exact hn121_1) (.int .i64 ((rd_T38 l0_1 x48_3).f1))).trans hx121_0; clear hn121_0; clear hn121_1; replace p121 := eq_true p121; replace q121 := eq_true q121))
        (try simp only [← hl9_3])
        go_roundg k3
        case measure => have := HK1.out; have := HJ20.out; have := HK3.out; omega
        case rel => exact ⟨(x9_3), (x10_3), (ji34), (by first | rfl | (simp; done) | (simp only [← hji34] <;> (first | rfl | simp)) | (simp [*]; done)), H', ⟨by have := HK1.out; have := HJ20.out; have := HK3.out; omega⟩, ⟨by (try simp only [hl9_1]); (try simp only [hl9_3]); (with_reducible repeat (first | apply Kd.R_alloc | apply Kd.R_drewN | apply Kd.R_drew)); exact Kd.R_mono (Kd.R_far (p := ⟨gb120, 1, none⟩) (Kd.R_far (p := ⟨gb120, 0, none⟩) (Kd.R_types HO_9.out BK120.out (by decide)) (fun _ hk => hk.2) (.int .i64 ((rd_T38 l0_1 x48_3).f0))) (fun _ hk => hk.2) (.int .i64 ((rd_T38 l0_1 x48_3).f1))) (fun _ hk => hk.1)⟩, ⟨by (try simp only [hl9_1]); (try simp only [hl9_3]); (with_reducible repeat (first | apply Kd.Q_alloc | apply Kd.Q_drewN | apply Kd.Q_drew)); exact Kd.Q_mono (Kd.Q_far (p := ⟨gb120, 1, none⟩) (Kd.Q_far (p := ⟨gb120, 0, none⟩) (Kd.Q_types HO_10.out BK120.out (by decide)) (fun _ hk => hk.2) (.int .i64 ((rd_T38 l0_1 x48_3).f0))) (fun _ hk => hk.2) (.int .i64 ((rd_T38 l0_1 x48_3).f1))) (fun _ hk => hk.1)⟩, ⟨by (try simp only [hl9_1]); (try simp only [hl9_3]); (with_reducible repeat (first | refine blk_drewN ?_ _ | refine blk_drew ?_ | refine blk_alloc ?_ _)); refine blk_far ?_ NB103_120.out _; (with_reducible repeat (first | refine blk_drewN ?_ _ | refine blk_drew ?_ | refine blk_alloc ?_ _)); refine blk_far ?_ NB103_120.out _; (with_reducible repeat (first | refine blk_drewN ?_ _ | refine blk_drew ?_ | refine blk_alloc ?_ _)); exact BK103.out⟩, ⟨by repeat (first | (with_reducible first | exact HB.out | apply below_alloc | apply pw_below_drewN | apply below_drew1 | refine below_set ?_ GE103.out | refine below_set ?_ GE120.out) | exact HB.out)⟩⟩
       replace c38 := Bool.eq_false_iff.mpr c38
       subst c38
       have H1 : (if ((rd_T38 l0_1 x48_3).f0) = (rd x10_1 0) then (if 0 ≤ ((rd_T38 l0_1 x48_3).f1) then (if ((rd_T38 l0_1 x48_3).f1) < (x9_3.length : Int) then (if (rd x9_3 ((rd_T38 l0_1 x48_3).f1)) < 0 then (if 0 ≤ (rd x10_1 0) then (if (rd x10_1 0) < (x9_3.length : Int) then (if x10_3.length < 17592186044416 then (reach_lengths_0.l1 k3 l1 a2 (x9_3.set (((rd_T38 l0_1 x48_3).f1) : Int).toNat (wrap64 ((rd x9_3 (rd x10_1 0)) + 1))) (x10_3 ++ [(rd_T38 l0_1 x48_3).f1]) (rd x10_1 0) l0_1 (l0_1.length : Int) ji34 l0_0 l0_1) else (none)) else (none)) else (none)) else (reach_lengths_0.l1 k3 l1 a2 x9_3 x10_3 (rd x10_1 0) l0_1 (l0_1.length : Int) ji34 l0_0 l0_1)) else (none)) else (none)) else (reach_lengths_0.l1 k3 l1 a2 x9_3 x10_3 (rd x10_1 0) l0_1 (l0_1.length : Int) ji34 l0_0 l0_1)) = some r := by rw [if_neg (show ¬ (false = true) by decide)] at H; exact H
       clear H; have H := H1; clear H1
       by_cases c42 : ((rd_T38 l0_1 x48_3).f0) = (rd x10_1 0)
       rotate_left
       ·rw [if_neg c42] at H
        have c42b0 : (((rd_T38 l0_1 x48_3).f0) == (rd x10_1 0)) = false := beq_eq_false_iff_ne.mpr c42
        have c42b1 : (((rd_T38 l0_1 x48_3).f0) != (rd x10_1 0)) = true := bne_iff_ne.mpr c42
        have H' := Aside0.mk H; clear H
        have p119 : 0 ≤ (x48_3 : Int) := of_decide_eq_true (by first | (with_reducible assumption) | assumption)
        have q119 : x48_3 < (l0_1.length : Int) := of_decide_eq_true (by first | (with_reducible assumption) | assumption)
        obtain ⟨ad119, e119, hx119_0, hx119_1⟩ := at_T38 HR0_1.out x48_3 p119 q119
        cases e119
        replace hx119_0 := (HB.out.cell (World.block_lt_of_cell? w _ hx119_0)).trans hx119_0
        replace hx119_1 := (HB.out.cell (World.block_lt_of_cell? w _ hx119_1)).trans hx119_1
        replace p119 := eq_true p119
        replace q119 := eq_true q119
        go_wp2_with (first | ((with_reducible refine gate_dst (N := 13) rfl ?_); refine box_event ?hg (N := 13) ?hd (cs := #[.int .i64 0, .int .i64 0]) (t := 38) ?hr ?_; (case hd => rfl); (case hg => rfl); (case hr => first | (go_simp; done) | (go_simp; rfl)); intro gb120 hg w61 hbox hb; replace HO_9 := Aside0.mk (Kd.R_below (by (with_reducible repeat (first | apply Kd.R_alloc | apply Kd.R_drewN | apply Kd.R_drew)); exact HO_9.out) hb); replace HO_10 := Aside0.mk (Kd.Q_below (by (with_reducible repeat (first | apply Kd.Q_alloc | apply Kd.Q_drewN | apply Kd.Q_drew)); exact HO_10.out) hb); have BK120 := Aside0.mk (hbox); have GW120 := Aside0.mk ((by rw [hg]; exact (below_size (by repeat (first | (with_reducible first | exact HB.out | apply below_alloc | apply pw_below_drewN | apply below_drew1 | refine below_set ?_ GE103.out) | exact HB.out))) : w.heap.size ≤ gb120)); have GE120 := Aside0.mk ((by rw [hg]; exact (below_size (by repeat (first | (with_reducible first | exact HB.out | apply below_alloc | apply pw_below_drewN | apply below_drew1 | refine below_set ?_ GE103.out) | exact HB.out))) : w.heap.size ≤ gb120)); replace HB := Aside0.mk (below_step (by repeat (first | (with_reducible first | exact HB.out | apply below_alloc | apply pw_below_drewN | apply below_drew1 | refine below_set ?_ GE103.out) | exact HB.out)) hb); have NB103_120 := Aside0.mk ((by rw [hg]; exact Nat.ne_of_lt (blk_lt (g := gb103) (o := .cells #[.slice A0_0 l0_0.length c0_0, .slice (some ad119) l0_1.length c0_1] 25 (0, 0)) (by (with_reducible repeat (first | refine blk_drewN ?_ _ | refine blk_drew ?_ | refine blk_alloc ?_ _)); exact BK103.out)) : gb103 ≠ gb120)); have NB120_103 := Aside0.mk ((by rw [hg]; exact Nat.ne_of_gt (blk_lt (g := gb103) (o := .cells #[.slice A0_0 l0_0.length c0_0, .slice (some ad119) l0_1.length c0_1] 25 (0, 0)) (by (with_reducible repeat (first | refine blk_drewN ?_ _ | refine blk_drew ?_ | refine blk_alloc ?_ _)); exact BK103.out)) : gb120 ≠ gb103)); replace BK103 := Aside0.mk (blk_below (g := gb103) (o := .cells #[.slice A0_0 l0_0.length c0_0, .slice (some ad119) l0_1.length c0_1] 25 (0, 0)) (by (with_reducible repeat (first | refine blk_drewN ?_ _ | refine blk_drew ?_ | refine blk_alloc ?_ _)); exact BK103.out) hb); clear hb hbox hg; have hnb62 := NB120_103.out; have hnc62 := NB103_120.out; have hcz63_0 : w61.cell? ⟨gb120, 0, none⟩ = some (.int .i64 0) := (blk_cell BK120.out 0).trans rfl; have hcz63_1 : w61.cell? ⟨gb120, 1, none⟩ = some (.int .i64 0) := (blk_cell BK120.out 1).trans rfl; have hfz63_0 := blk_frozen BK120.out 0; have hfz63_1 := blk_frozen BK120.out 1; have p121 : 0 ≤ ((ji34) : Int) := of_decide_eq_true (by first | (with_reducible assumption) | assumption); have q121 : (ji34) < (l1.length : Int) := of_decide_eq_true (by first | (with_reducible assumption) | assumption); obtain ⟨ad121, e121, hx121_0⟩ := Kd.at_bool HR1.out (ji34) p121 q121; (try rw [← Nbq37.out] at hx121_0); cases e121; have hn121_0 : (ad121 : Addr).block ≠ gb120 := Nat.ne_of_lt (Nat.lt_of_lt_of_le (by have := World.block_lt_of_cell? _ _ hx121_0; first | rwa [add_block] at this | exact this) GW120.out); have hn121_1 : (ad121 : Addr).block ≠ gb120 := Nat.ne_of_lt (Nat.lt_of_lt_of_le (by have := World.block_lt_of_cell? _ _ hx121_0; first | rwa [add_block] at this | exact this) GW120.out); replace hx121_0 := (HB.out.cell (World.block_lt_of_cell? w _ hx121_0)).trans hx121_0; replace hx121_0 := (cell_far (p := ⟨gb120, 0, none⟩) (by first | (rw [add_block]; exact hn121_0) | (show (Addr.add _ _).block ≠ _; rw [add_block]; exact hn121_0) | exact hn121_0) (.int .i64 ((rd_T38 l0_1 x48_3).f0))).trans hx121_0; replace hx121_0 := (cell_far (p := ⟨gb120, 1, none⟩) (by first | (rw [add_block]; exact hn121_1) | (show (Addr.add _ _).block ≠ _; rw [add_block]; exact hn121_1) | exact hn121_1) (.int .i64 ((rd_T38 l0_1 x48_3).f1))).trans hx121_0; clear hn121_0; clear hn121_1; replace p121 := eq_true p121; replace q121 := eq_true q121))
        (try simp only [← hl9_3])
        go_roundg k3
        case measure => have := HK1.out; have := HJ20.out; have := HK3.out; omega
        case rel => exact ⟨(x9_3), (x10_3), (ji34), (by first | rfl | (simp; done) | (simp only [← hji34] <;> (first | rfl | simp)) | (simp [*]; done)), H', ⟨by have := HK1.out; have := HJ20.out; have := HK3.out; omega⟩, ⟨by (try simp only [hl9_1]); (try simp only [hl9_3]); (with_reducible repeat (first | apply Kd.R_alloc | apply Kd.R_drewN | apply Kd.R_drew)); exact Kd.R_mono (Kd.R_far (p := ⟨gb120, 1, none⟩) (Kd.R_far (p := ⟨gb120, 0, none⟩) (Kd.R_types HO_9.out BK120.out (by decide)) (fun _ hk => hk.2) (.int .i64 ((rd_T38 l0_1 x48_3).f0))) (fun _ hk => hk.2) (.int .i64 ((rd_T38 l0_1 x48_3).f1))) (fun _ hk => hk.1)⟩, ⟨by (try simp only [hl9_1]); (try simp only [hl9_3]); (with_reducible repeat (first | apply Kd.Q_alloc | apply Kd.Q_drewN | apply Kd.Q_drew)); exact Kd.Q_mono (Kd.Q_far (p := ⟨gb120, 1, none⟩) (Kd.Q_far (p := ⟨gb120, 0, none⟩) (Kd.Q_types HO_10.out BK120.out (by decide)) (fun _ hk => hk.2) (.int .i64 ((rd_T38 l0_1 x48_3).f0))) (fun _ hk => hk.2) (.int .i64 ((rd_T38 l0_1 x48_3).f1))) (fun _ hk => hk.1)⟩, ⟨by (try simp only [hl9_1]); (try simp only [hl9_3]); (with_reducible repeat (first | refine blk_drewN ?_ _ | refine blk_drew ?_ | refine blk_alloc ?_ _)); refine blk_far ?_ NB103_120.out _; (with_reducible repeat (first | refine blk_drewN ?_ _ | refine blk_drew ?_ | refine blk_alloc ?_ _)); refine blk_far ?_ NB103_120.out _; (with_reducible repeat (first | refine blk_drewN ?_ _ | refine blk_drew ?_ | refine blk_alloc ?_ _)); exact BK103.out⟩, ⟨by repeat (first | (with_reducible first | exact HB.out | apply below_alloc | apply pw_below_drewN | apply below_drew1 | refine below_set ?_ GE103.out | refine below_set ?_ GE120.out) | exact HB.out)⟩⟩
       rw [if_pos c42] at H
       have c42b0 : (((rd_T38 l0_1 x48_3).f0) == (rd x10_1 0)) = true := beq_iff_eq.mpr c42
       have c42b1 : (((rd_T38 l0_1 x48_3).f0) != (rd x10_1 0)) = false := bne_eq_false_iff_eq.mpr c42
       clear c42
       by_cases c43 : 0 ≤ ((rd_T38 l0_1 x48_3).f1)
       rotate_left; ·rw [if_neg c43] at H; exact absurd H (by simp)
       rw [if_pos c43] at H
       have c43b0 : decide (0 ≤ ((rd_T38 l0_1 x48_3).f1)) = true := decide_eq_true c43
       clear c43
       by_cases c44 : ((rd_T38 l0_1 x48_3).f1) < (x9_3.length : Int)
       rotate_left; ·rw [if_neg c44] at H; exact absurd H (by simp)
       rw [if_pos c44] at H
       have c44b0 : decide (((rd_T38 l0_1 x48_3).f1) < (x9_3.length : Int)) = true := decide_eq_true c44
       (try (have c44z0 := c44b0; simp only [hl9_1, hl9_3] at c44z0))
       clear c44
       by_cases c45 : (rd x9_3 ((rd_T38 l0_1 x48_3).f1)) < 0
       rotate_left
       ·rw [if_neg c45] at H
        have c45b0 : decide ((rd x9_3 ((rd_T38 l0_1 x48_3).f1)) < 0) = false := decide_eq_false c45
        clear c45
        have H' := Aside0.mk H; clear H
        have p119 : 0 ≤ (x48_3 : Int) := of_decide_eq_true (by first | (with_reducible assumption) | assumption)
        have q119 : x48_3 < (l0_1.length : Int) := of_decide_eq_true (by first | (with_reducible assumption) | assumption)
        obtain ⟨ad119, e119, hx119_0, hx119_1⟩ := at_T38 HR0_1.out x48_3 p119 q119
        cases e119
        replace hx119_0 := (HB.out.cell (World.block_lt_of_cell? w _ hx119_0)).trans hx119_0
        replace hx119_1 := (HB.out.cell (World.block_lt_of_cell? w _ hx119_1)).trans hx119_1
        replace p119 := eq_true p119
        replace q119 := eq_true q119
        go_wp2_with (first | ((with_reducible refine gate_dst (N := 13) rfl ?_); refine box_event ?hg (N := 13) ?hd (cs := #[.int .i64 0, .int .i64 0]) (t := 38) ?hr ?_; (case hd => rfl); (case hg => rfl); (case hr => first | (go_simp; done) | (go_simp; rfl)); intro gb120 hg w58 hbox hb; replace HO_9 := Aside0.mk (Kd.R_below (by (with_reducible repeat (first | apply Kd.R_alloc | apply Kd.R_drewN | apply Kd.R_drew)); exact HO_9.out) hb); replace HO_10 := Aside0.mk (Kd.Q_below (by (with_reducible repeat (first | apply Kd.Q_alloc | apply Kd.Q_drewN | apply Kd.Q_drew)); exact HO_10.out) hb); have BK120 := Aside0.mk (hbox); have GW120 := Aside0.mk ((by rw [hg]; exact (below_size (by repeat (first | (with_reducible first | exact HB.out | apply below_alloc | apply pw_below_drewN | apply below_drew1 | refine below_set ?_ GE103.out) | exact HB.out))) : w.heap.size ≤ gb120)); have GE120 := Aside0.mk ((by rw [hg]; exact (below_size (by repeat (first | (with_reducible first | exact HB.out | apply below_alloc | apply pw_below_drewN | apply below_drew1 | refine below_set ?_ GE103.out) | exact HB.out))) : w.heap.size ≤ gb120)); replace HB := Aside0.mk (below_step (by repeat (first | (with_reducible first | exact HB.out | apply below_alloc | apply pw_below_drewN | apply below_drew1 | refine below_set ?_ GE103.out) | exact HB.out)) hb); have NB103_120 := Aside0.mk ((by rw [hg]; exact Nat.ne_of_lt (blk_lt (g := gb103) (o := .cells #[.slice A0_0 l0_0.length c0_0, .slice (some ad119) l0_1.length c0_1] 25 (0, 0)) (by (with_reducible repeat (first | refine blk_drewN ?_ _ | refine blk_drew ?_ | refine blk_alloc ?_ _)); exact BK103.out)) : gb103 ≠ gb120)); have NB120_103 := Aside0.mk ((by rw [hg]; exact Nat.ne_of_gt (blk_lt (g := gb103) (o := .cells #[.slice A0_0 l0_0.length c0_0, .slice (some ad119) l0_1.length c0_1] 25 (0, 0)) (by (with_reducible repeat (first | refine blk_drewN ?_ _ | refine blk_drew ?_ | refine blk_alloc ?_ _)); exact BK103.out)) : gb120 ≠ gb103)); replace BK103 := Aside0.mk (blk_below (g := gb103) (o := .cells #[.slice A0_0 l0_0.length c0_0, .slice (some ad119) l0_1.length c0_1] 25 (0, 0)) (by (with_reducible repeat (first | refine blk_drewN ?_ _ | refine blk_drew ?_ | refine blk_alloc ?_ _)); exact BK103.out) hb); clear hb hbox hg; have hnb59 := NB120_103.out; have hnc59 := NB103_120.out; have hcz60_0 : w58.cell? ⟨gb120, 0, none⟩ = some (.int .i64 0) := (blk_cell BK120.out 0).trans rfl; have hcz60_1 : w58.cell? ⟨gb120, 1, none⟩ = some (.int .i64 0) := (blk_cell BK120.out 1).trans rfl; have hfz60_0 := blk_frozen BK120.out 0; have hfz60_1 := blk_frozen BK120.out 1; have p121 : 0 ≤ ((ji34) : Int) := of_decide_eq_true (by first | (with_reducible assumption) | assumption); have q121 : (ji34) < (l1.length : Int) := of_decide_eq_true (by first | (with_reducible assumption) | assumption); obtain ⟨ad121, e121, hx121_0⟩ := Kd.at_bool HR1.out (ji34) p121 q121; (try rw [← Nbq37.out] at hx121_0); cases e121; have hn121_0 : (ad121 : Addr).block ≠ gb120 := Nat.ne_of_lt (Nat.lt_of_lt_of_le (by have := World.block_lt_of_cell? _ _ hx121_0; first | rwa [add_block] at this | exact this) GW120.out); have hn121_1 : (ad121 : Addr).block ≠ gb120 := Nat.ne_of_lt (Nat.lt_of_lt_of_le (by have := World.block_lt_of_cell? _ _ hx121_0; first | rwa [add_block] at this | exact this) GW120.out); replace hx121_0 := (HB.out.cell (World.block_lt_of_cell? w _ hx121_0)).trans hx121_0; replace hx121_0 := (cell_far (p := ⟨gb120, 0, none⟩) (by first | (rw [add_block]; exact hn121_0) | (show (Addr.add _ _).block ≠ _; rw [add_block]; exact hn121_0) | exact hn121_0) (.int .i64 ((rd_T38 l0_1 x48_3).f0))).trans hx121_0; replace hx121_0 := (cell_far (p := ⟨gb120, 1, none⟩) (by first | (rw [add_block]; exact hn121_1) | (show (Addr.add _ _).block ≠ _; rw [add_block]; exact hn121_1) | exact hn121_1) (.int .i64 ((rd_T38 l0_1 x48_3).f1))).trans hx121_0; clear hn121_0; clear hn121_1; replace p121 := eq_true p121; replace q121 := eq_true q121; have p122 : 0 ≤ (((rd_T38 l0_1 x48_3).f1) : Int) := of_decide_eq_true (by first | (with_reducible assumption) | assumption); have q122 : ((rd_T38 l0_1 x48_3).f1) < (x9_3.length : Int) := of_decide_eq_true (by first | (with_reducible assumption) | assumption); obtain ⟨ad122, e122, hx122_0⟩ := Kd.at_int (Kd.R_reads' HO_9.out).2.2 ((rd_T38 l0_1 x48_3).f1) p122 q122; obtain rfl : (⟨go8, 0, none⟩ : Addr) = ad122 := (by injection e122); (first | simp only [add_plain] at hx122_0 | simp only [add_at] at hx122_0 | simp only [Addr.add, Nat.zero_add] at hx122_0 | skip); have hn122_0 : (⟨go8, 0, none⟩ : Addr).block ≠ gb120 := Kd.own_blk (Kd.R_ne HO_9.out BK120.out (by decide)); have hn122_1 : (⟨go8, 0, none⟩ : Addr).block ≠ gb120 := Kd.own_blk (Kd.R_ne HO_9.out BK120.out (by decide)); replace hx122_0 := (cell_far (p := ⟨gb120, 0, none⟩) (by first | (rw [add_block]; exact hn122_0) | (show (Addr.add _ _).block ≠ _; rw [add_block]; exact hn122_0) | exact hn122_0) (.int .i64 ((rd_T38 l0_1 x48_3).f0))).trans hx122_0; replace hx122_0 := (cell_far (p := ⟨gb120, 1, none⟩) (by first | (rw [add_block]; exact hn122_1) | (show (Addr.add _ _).block ≠ _; rw [add_block]; exact hn122_1) | exact hn122_1) (.int .i64 ((rd_T38 l0_1 x48_3).f1))).trans hx122_0; clear hn122_0; clear hn122_1; replace p122 := eq_true p122; replace q122 := eq_true q122))
        (try simp only [← hl9_3])
        go_roundg k3
        case measure => have := HK1.out; have := HJ20.out; have := HK3.out; omega
        case rel => exact ⟨(x9_3), (x10_3), (ji34), (by first | rfl | (simp; done) | (simp only [← hji34] <;> (first | rfl | simp)) | (simp [*]; done)), H', ⟨by have := HK1.out; have := HJ20.out; have := HK3.out; omega⟩, ⟨by (try simp only [hl9_1]); (try simp only [hl9_3]); (with_reducible repeat (first | apply Kd.R_alloc | apply Kd.R_drewN | apply Kd.R_drew)); exact Kd.R_mono (Kd.R_far (p := ⟨gb120, 1, none⟩) (Kd.R_far (p := ⟨gb120, 0, none⟩) (Kd.R_types HO_9.out BK120.out (by decide)) (fun _ hk => hk.2) (.int .i64 ((rd_T38 l0_1 x48_3).f0))) (fun _ hk => hk.2) (.int .i64 ((rd_T38 l0_1 x48_3).f1))) (fun _ hk => hk.1)⟩, ⟨by (try simp only [hl9_1]); (try simp only [hl9_3]); (with_reducible repeat (first | apply Kd.Q_alloc | apply Kd.Q_drewN | apply Kd.Q_drew)); exact Kd.Q_mono (Kd.Q_far (p := ⟨gb120, 1, none⟩) (Kd.Q_far (p := ⟨gb120, 0, none⟩) (Kd.Q_types HO_10.out BK120.out (by decide)) (fun _ hk => hk.2) (.int .i64 ((rd_T38 l0_1 x48_3).f0))) (fun _ hk => hk.2) (.int .i64 ((rd_T38 l0_1 x48_3).f1))) (fun _ hk => hk.1)⟩, ⟨by (try simp only [hl9_1]); (try simp only [hl9_3]); (with_reducible repeat (first | refine blk_drewN ?_ _ | refine blk_drew ?_ | refine blk_alloc ?_ _)); refine blk_far ?_ NB103_120.out _; (with_reducible repeat (first | refine blk_drewN ?_ _ | refine blk_drew ?_ | refine blk_alloc ?_ _)); refine blk_far ?_ NB103_120.out _; (with_reducible repeat (first | refine blk_drewN ?_ _ | refine blk_drew ?_ | refine blk_alloc ?_ _)); exact BK103.out⟩, ⟨by repeat (first | (with_reducible first | exact HB.out | apply below_alloc | apply pw_below_drewN | apply below_drew1 | refine below_set ?_ GE103.out | refine below_set ?_ GE120.out) | exact HB.out)⟩⟩
       rw [if_pos c45] at H
       have c45b0 : decide ((rd x9_3 ((rd_T38 l0_1 x48_3).f1)) < 0) = true := decide_eq_true c45
       clear c45
       by_cases c46 : 0 ≤ (rd x10_1 0)
       rotate_left; ·rw [if_neg c46] at H; exact absurd H (by simp)
       rw [if_pos c46] at H
       have c46b0 : decide (0 ≤ (rd x10_1 0)) = true := decide_eq_true c46
       clear c46
       by_cases c47 : (rd x10_1 0) < (x9_3.length : Int)
       rotate_left; ·rw [if_neg c47] at H; exact absurd H (by simp)
       rw [if_pos c47] at H
       have c47b0 : decide ((rd x10_1 0) < (x9_3.length : Int)) = true := decide_eq_true c47
       (try (have c47z0 := c47b0; simp only [hl9_1, hl9_3] at c47z0))
       clear c47
       obtain ⟨y124, hy124⟩ : ∃ y_ : List Int, y_ = (x9_3.set (((rd_T38 l0_1 x48_3).f1) : Int).toNat (wrap64 ((rd x9_3 (rd x10_1 0)) + 1))) := ⟨_, rfl⟩
       replace H : (if x10_3.length < 17592186044416 then (reach_lengths_0.l1 k3 l1 a2 y124 (x10_3 ++ [(rd_T38 l0_1 x48_3).f1]) (rd x10_1 0) l0_1 (l0_1.length : Int) ji34 l0_0 l0_1) else (none)) = some r := by first | (rw [hy124]; with_reducible exact H) | (have H2_ := (Option.bind_some _ _).symm.trans H; rw [hy124]; with_reducible exact H2_) | (have H2_ := (Option.bind_some _ _).symm.trans H; with_reducible exact H2_) | with_reducible exact H | (rw [hy124]; exact H) | exact H
       have Ny124 := Aside0.mk hy124
       clear hy124
       by_cases c49 : x10_3.length < 17592186044416
       rotate_left; ·rw [if_neg c49] at H; exact absurd H (by simp)
       rw [if_pos c49] at H
       have LMc49 := Aside0.mk c49
       clear c49
       obtain ⟨y125, hy125⟩ : ∃ y_ : List Int, y_ = (x10_3 ++ [(rd_T38 l0_1 x48_3).f1]) := ⟨_, rfl⟩
       replace H : (reach_lengths_0.l1 k3 l1 a2 y124 y125 (rd x10_1 0) l0_1 (l0_1.length : Int) ji34 l0_0 l0_1) = some r := by first | (rw [hy125]; with_reducible exact H) | (have H2_ := (Option.bind_some _ _).symm.trans H; rw [hy125]; with_reducible exact H2_) | (have H2_ := (Option.bind_some _ _).symm.trans H; with_reducible exact H2_) | with_reducible exact H | (rw [hy125]; exact H) | exact H
       have Ny125 := Aside0.mk hy125
       clear hy125
       have H' := Aside0.mk H; clear H
       have p119 : 0 ≤ (x48_3 : Int) := of_decide_eq_true (by first | (with_reducible assumption) | assumption)
       have q119 : x48_3 < (l0_1.length : Int) := of_decide_eq_true (by first | (with_reducible assumption) | assumption)
       obtain ⟨ad119, e119, hx119_0, hx119_1⟩ := at_T38 HR0_1.out x48_3 p119 q119
       cases e119
       replace hx119_0 := (HB.out.cell (World.block_lt_of_cell? w _ hx119_0)).trans hx119_0
       replace hx119_1 := (HB.out.cell (World.block_lt_of_cell? w _ hx119_1)).trans hx119_1
       replace p119 := eq_true p119
       replace q119 := eq_true q119
       go_wp2_with (first | ((with_reducible refine gate_dst (N := 13) rfl ?_); refine box_event ?hg (N := 13) ?hd (cs := #[.int .i64 0, .int .i64 0]) (t := 38) ?hr ?_; (case hd => rfl); (case hg => rfl); (case hr => first | (go_simp; done) | (go_simp; rfl)); intro gb120 hg w50 hbox hb; replace HO_9 := Aside0.mk (Kd.R_below (by (with_reducible repeat (first | apply Kd.R_alloc | apply Kd.R_drewN | apply Kd.R_drew)); exact HO_9.out) hb); replace HO_10 := Aside0.mk (Kd.Q_below (by (with_reducible repeat (first | apply Kd.Q_alloc | apply Kd.Q_drewN | apply Kd.Q_drew)); exact HO_10.out) hb); have BK120 := Aside0.mk (hbox); have GW120 := Aside0.mk ((by rw [hg]; exact (below_size (by repeat (first | (with_reducible first | exact HB.out | apply below_alloc | apply pw_below_drewN | apply below_drew1 | refine below_set ?_ GE103.out) | exact HB.out))) : w.heap.size ≤ gb120)); have GE120 := Aside0.mk ((by rw [hg]; exact (below_size (by repeat (first | (with_reducible first | exact HB.out | apply below_alloc | apply pw_below_drewN | apply below_drew1 | refine below_set ?_ GE103.out) | exact HB.out))) : w.heap.size ≤ gb120)); replace HB := Aside0.mk (below_step (by repeat (first | (with_reducible first | exact HB.out | apply below_alloc | apply pw_below_drewN | apply below_drew1 | refine below_set ?_ GE103.out) | exact HB.out)) hb); have NB103_120 := Aside0.mk ((by rw [hg]; exact Nat.ne_of_lt (blk_lt (g := gb103) (o := .cells #[.slice A0_0 l0_0.length c0_0, .slice (some ad119) l0_1.length c0_1] 25 (0, 0)) (by (with_reducible repeat (first | refine blk_drewN ?_ _ | refine blk_drew ?_ | refine blk_alloc ?_ _)); exact BK103.out)) : gb103 ≠ gb120)); have NB120_103 := Aside0.mk ((by rw [hg]; exact Nat.ne_of_gt (blk_lt (g := gb103) (o := .cells #[.slice A0_0 l0_0.length c0_0, .slice (some ad119) l0_1.length c0_1] 25 (0, 0)) (by (with_reducible repeat (first | refine blk_drewN ?_ _ | refine blk_drew ?_ | refine blk_alloc ?_ _)); exact BK103.out)) : gb120 ≠ gb103)); replace BK103 := Aside0.mk (blk_below (g := gb103) (o := .cells #[.slice A0_0 l0_0.length c0_0, .slice (some ad119) l0_1.length c0_1] 25 (0, 0)) (by (with_reducible repeat (first | refine blk_drewN ?_ _ | refine blk_drew ?_ | refine blk_alloc ?_ _)); exact BK103.out) hb); clear hb hbox hg; have hnb51 := NB120_103.out; have hnc51 := NB103_120.out; have hcz52_0 : w50.cell? ⟨gb120, 0, none⟩ = some (.int .i64 0) := (blk_cell BK120.out 0).trans rfl; have hcz52_1 : w50.cell? ⟨gb120, 1, none⟩ = some (.int .i64 0) := (blk_cell BK120.out 1).trans rfl; have hfz52_0 := blk_frozen BK120.out 0; have hfz52_1 := blk_frozen BK120.out 1) | ((with_reducible refine gate_store (t := 38) (p := 13) rfl ?_); refine store_event (t := 38) (p := 13) (v := ?vo_w53) (w1 := ((w50.setCell ⟨gb120, 0, none⟩ (.int .i64 ((rd_T38 l0_1 x48_3).f0))).setCell ⟨gb120, 1, none⟩ (.int .i64 ((rd_T38 l0_1 x48_3).f1)))) ?hg ?ho ?hn ?hr ?_; (case ho => rfl); (case hg => rfl); (case hn => rfl); (case hr => first | (go_simp; done) | (go_simp; rfl)); intro w53 hw; have n0_ : Aside0 (Kd.R (Kd.int .i64) 3 w53 w.heap.size (fun k_ => some k_ ≠ (u10 : Value).ownBlock) (.slice (some ⟨go8, 0, none⟩) x9_3.length co8) x9_3) := ⟨(by rw [hw]; exact (by (with_reducible repeat (first | apply Kd.R_alloc | apply Kd.R_drewN | apply Kd.R_drew)); exact Kd.R_mono (Kd.R_far (p := ⟨gb120, 1, none⟩) (Kd.R_far (p := ⟨gb120, 0, none⟩) (Kd.R_types HO_9.out BK120.out (by decide)) (fun _ hk => hk.2) (.int .i64 ((rd_T38 l0_1 x48_3).f0))) (fun _ hk => hk.2) (.int .i64 ((rd_T38 l0_1 x48_3).f1))) (fun _ hk => hk.1)))⟩; have n1_ : Aside0 (Kd.Q (Kd.int .i64) 3 w53 w.heap.size (fun k_ => some k_ ≠ (.slice (some ⟨go8, 0, none⟩) x9_3.length co8 : Value).ownBlock) u10 x10_3) := ⟨(by rw [hw]; exact (by (with_reducible repeat (first | apply Kd.Q_alloc | apply Kd.Q_drewN | apply Kd.Q_drew)); exact Kd.Q_mono (Kd.Q_far (p := ⟨gb120, 1, none⟩) (Kd.Q_far (p := ⟨gb120, 0, none⟩) (Kd.Q_types HO_10.out BK120.out (by decide)) (fun _ hk => hk.2) (.int .i64 ((rd_T38 l0_1 x48_3).f0))) (fun _ hk => hk.2) (.int .i64 ((rd_T38 l0_1 x48_3).f1))) (fun _ hk => hk.1)))⟩; have n2_ : Aside0 (w53.heap[gb103]? = some (.cells #[.slice A0_0 l0_0.length c0_0, .slice (some ad119) l0_1.length c0_1] 25 (0, 0))) := ⟨(by rw [hw]; exact (by (with_reducible repeat (first | refine blk_drewN ?_ _ | refine blk_drew ?_ | refine blk_alloc ?_ _)); refine blk_far ?_ NB103_120.out _; (with_reducible repeat (first | refine blk_drewN ?_ _ | refine blk_drew ?_ | refine blk_alloc ?_ _)); refine blk_far ?_ NB103_120.out _; (with_reducible repeat (first | refine blk_drewN ?_ _ | refine blk_drew ?_ | refine blk_alloc ?_ _)); exact BK103.out))⟩; have n3_ : Aside0 (w53.heap[gb120]? = some (.cells #[.int .i64 ((rd_T38 l0_1 x48_3).f0), .int .i64 ((rd_T38 l0_1 x48_3).f1)] 38 (0, 0))) := ⟨(by rw [hw]; exact (by (with_reducible repeat (first | refine blk_drewN ?_ _ | refine blk_drew ?_ | refine blk_alloc ?_ _)); refine blk_put (cs := #[.int .i64 ((rd_T38 l0_1 x48_3).f0), .int .i64 0]) ?_ 1 _ rfl; (with_reducible repeat (first | refine blk_drewN ?_ _ | refine blk_drew ?_ | refine blk_alloc ?_ _)); refine blk_put (cs := #[.int .i64 0, .int .i64 0]) ?_ 0 _ rfl; (with_reducible repeat (first | refine blk_drewN ?_ _ | refine blk_drew ?_ | refine blk_alloc ?_ _)); exact BK120.out))⟩; have n4_ : Aside0 (Below w.heap.size w w53) := ⟨(by rw [hw]; exact (by repeat (first | (with_reducible first | exact HB.out | apply below_alloc | apply pw_below_drewN | apply below_drew1 | refine below_set ?_ GE103.out | refine below_set ?_ GE120.out) | exact HB.out)))⟩; clear hw; clear HO_9; clear HO_10; clear BK103; clear BK120; clear HB; have HO_9 := n0_; have HO_10 := n1_; have BK103 := n2_; have BK120 := n3_; have HB := n4_; clear n0_ n1_ n2_ n3_ n4_; have hcz54_0 : w53.cell? ⟨gb120, 0, none⟩ = some (.int .i64 ((rd_T38 l0_1 x48_3).f0)) := (blk_cell BK120.out 0).trans rfl; have hcz54_1 : w53.cell? ⟨gb120, 1, none⟩ = some (.int .i64 ((rd_T38 l0_1 x48_3).f1)) := (blk_cell BK120.out 1).trans rfl; have hfz54_0 := blk_frozen BK120.out 0; have hfz54_1 := blk_frozen BK120.out 1; have p121 : 0 ≤ ((ji34) : Int) := of_decide_eq_true (by first | (with_reducible assumption) | assumption); have q121 : (ji34) < (l1.length : Int) := of_decide_eq_true (by first | (with_reducible assumption) | assumption); obtain ⟨ad121, e121, hx121_0⟩ := Kd.at_bool HR1.out (ji34) p121 q121; (try rw [← Nbq37.out] at hx121_0); cases e121; replace hx121_0 := (HB.out.cell (World.block_lt_of_cell? w _ hx121_0)).trans hx121_0; replace p121 := eq_true p121; replace q121 := eq_true q121; have p122 : 0 ≤ (((rd_T38 l0_1 x48_3).f1) : Int) := of_decide_eq_true (by first | (with_reducible assumption) | assumption); have q122 : ((rd_T38 l0_1 x48_3).f1) < (x9_3.length : Int) := of_decide_eq_true (by first | (with_reducible assumption) | assumption); obtain ⟨ad122, e122, hx122_0⟩ := Kd.at_int (Kd.R_reads' HO_9.out).2.2 ((rd_T38 l0_1 x48_3).f1) p122 q122; obtain rfl : (⟨go8, 0, none⟩ : Addr) = ad122 := (by injection e122); (first | simp only [add_plain] at hx122_0 | simp only [add_at] at hx122_0 | simp only [Addr.add, Nat.zero_add] at hx122_0 | skip); replace p122 := eq_true p122; replace q122 := eq_true q122; have p123 : 0 ≤ ((rd x10_1 0) : Int) := of_decide_eq_true (by first | (with_reducible assumption) | assumption); have q123 : (rd x10_1 0) < (x9_3.length : Int) := of_decide_eq_true (by first | (with_reducible assumption) | assumption); obtain ⟨ad123, e123, hx123_0⟩ := Kd.at_int (Kd.R_reads' HO_9.out).2.2 (rd x10_1 0) p123 q123; obtain rfl : (⟨go8, 0, none⟩ : Addr) = ad123 := (by injection e123); (first | simp only [add_plain] at hx123_0 | simp only [add_at] at hx123_0 | simp only [Addr.add, Nat.zero_add] at hx123_0 | skip); replace p123 := eq_true p123; replace q123 := eq_true q123; have p48 : 0 ≤ (((rd_T38 l0_1 x48_3).f1) : Int) := of_decide_eq_true (by first | (with_reducible assumption) | assumption); have q48 : (((rd_T38 l0_1 x48_3).f1) : Int) < ((x9_3.length : Int) : Int) := of_decide_eq_true (by first | (with_reducible assumption) | assumption); obtain ⟨hx48_0, hf48_0⟩ := Kd.R_celln 0 HO_9.out (((rd_T38 l0_1 x48_3).f1) : Int) p48 q48; replace p48 := eq_true p48; replace q48 := eq_true q48; obtain ⟨hy55_, hz55_⟩ := Kd.R_celln 0 HO_9.out (((rd_T38 l0_1 x48_3).f1) : Int) (of_decide_eq_true (by first | (with_reducible assumption) | assumption)) (of_decide_eq_true (by first | (with_reducible assumption) | assumption)); have HP55 := Kd.R_putg HO_9.out (((rd_T38 l0_1 x48_3).f1) : Int) (wrap64 ((rd x9_3 (rd x10_1 0)) + 1))) | ((with_reducible refine gate_store (t := 3) (p := 84) rfl ?_); refine store_event (t := 3) (p := 84) (v := ?vo_w56) (w1 := (w53.setCell ⟨go8, (((rd_T38 l0_1 x48_3).f1) : Int).toNat, none⟩ (.int .i64 (wrap64 ((rd x9_3 (rd x10_1 0)) + 1))))) ?hg ?ho ?hn ?hr ?_; (case ho => rfl); (case hg => rfl); (case hn => rfl); (case hr => first | (go_simp; done) | (go_simp; rfl)); intro w56 hw; have hg : w53.grownBy w56 (some go8) := (by rw [hw]; exact HP55.2); have hp_ : Kd.R (Kd.int .i64) 3 w56 w.heap.size (fun k_ => some k_ ≠ (u10 : Value).ownBlock) (.slice (some ⟨go8, 0, none⟩) x9_3.length co8) y124 := (by rw [hw, Ny124.out]; exact HP55.1); clear HP55; replace HO_10 := Aside0.mk (Kd.Q_after (v := (.slice (some ⟨go8, 0, none⟩) x9_3.length co8)) (v1 := (.slice (some ⟨go8, 0, none⟩) x9_3.length co8)) (ok := (fun _ => True)) (by (with_reducible repeat (first | apply Kd.Q_alloc | apply Kd.Q_drewN | apply Kd.Q_drew)); exact Kd.Q_mono HO_10.out (fun _ hk => ⟨trivial, hk⟩)) hg (.inl rfl)); replace BK103 := Aside0.mk (blk_grown (g := gb103) (o := .cells #[.slice A0_0 l0_0.length c0_0, .slice (some ad119) l0_1.length c0_1] 25 (0, 0)) (by (with_reducible repeat (first | refine blk_drewN ?_ _ | refine blk_drew ?_ | refine blk_alloc ?_ _)); exact BK103.out) hg (Kd.R_ne HO_9.out BK103.out (by decide))); replace BK120 := Aside0.mk (blk_grown (g := gb120) (o := .cells #[.int .i64 ((rd_T38 l0_1 x48_3).f0), .int .i64 ((rd_T38 l0_1 x48_3).f1)] 38 (0, 0)) (by (with_reducible repeat (first | refine blk_drewN ?_ _ | refine blk_drew ?_ | refine blk_alloc ?_ _)); exact BK120.out) hg (Kd.R_ne HO_9.out BK120.out (by decide))); replace HO_9 := Aside0.mk (hp_); replace HB := Aside0.mk ((by rw [hw]; exact below_set (HB.out) GB8.out : Below w.heap.size w w56)); clear hg hw hp_) | ((with_reducible refine gate_builtin (b := .append) (xs := #[.tmp 85, .tmp 87]) rfl ?_); at_builtin; refine Kd.Q_append (Kd.int .i64) (w0 := w) w.heap.size rfl (.tmp 85) (.tmp 87) 26 3 (.int .i64 0) 8 rfl Try.underlying26 info3 rfl (by decide) (by omega) u10 x10_3 ((rd_T38 l0_1 x48_3).f1) [.int .i64 ((rd_T38 l0_1 x48_3).f1)] (fun k_ => some k_ ≠ (.slice (some ⟨go8, 0, none⟩) x9_3.length co8 : Value).ownBlock) (fun _ => False) rfl rfl ?aP (fun _ hk => hk.elim) ?aF ?aO ?aB ?aS ?aL ?_; (case aP => exact rfl); (case aB => exact (by repeat (first | (with_reducible first | exact HB.out | apply below_alloc | apply pw_below_drewN | apply below_drew1 | refine below_set ?_ GE103.out | refine below_set ?_ GE120.out) | exact HB.out))); (case aF => exact (fun k_ hk => Kd.fresh' (Kd.R_lt (by (with_reducible repeat (first | apply Kd.R_alloc | apply Kd.R_drewN | apply Kd.R_drew)); exact HO_9.out)) k_ hk)); (case aO => exact (by (with_reducible repeat (first | apply Kd.Q_alloc | apply Kd.Q_drewN | apply Kd.Q_drew)); exact Kd.Q_mono HO_10.out (fun _ hk => hk.2))); (case aS => exact (below_size (by repeat (first | (with_reducible first | exact HB.out | apply below_alloc | apply pw_below_drewN | apply below_drew1 | refine below_set ?_ GE103.out | refine below_set ?_ GE120.out) | exact HB.out)))); (case aL => have := LMc49.out; omega); intro v126 w57 ho hb hg hat; rw [← Ny125.out] at ho; replace HO_9 := Aside0.mk (Kd.R_after (ok := (fun _ => True)) (by (with_reducible repeat (first | apply Kd.R_alloc | apply Kd.R_drewN | apply Kd.R_drew)); exact Kd.R_mono HO_9.out (fun _ hk => ⟨trivial, hk⟩)) hg hat); replace BK103 := Aside0.mk (blk_grown (g := gb103) (o := .cells #[.slice A0_0 l0_0.length c0_0, .slice (some ad119) l0_1.length c0_1] 25 (0, 0)) (by (with_reducible repeat (first | refine blk_drewN ?_ _ | refine blk_drew ?_ | refine blk_alloc ?_ _)); exact BK103.out) hg (Kd.Q_ne HO_10.out BK103.out (by decide))); replace BK120 := Aside0.mk (blk_grown (g := gb120) (o := .cells #[.int .i64 ((rd_T38 l0_1 x48_3).f0), .int .i64 ((rd_T38 l0_1 x48_3).f1)] 38 (0, 0)) (by (with_reducible repeat (first | refine blk_drewN ?_ _ | refine blk_drew ?_ | refine blk_alloc ?_ _)); exact BK120.out) hg (Kd.Q_ne HO_10.out BK120.out (by decide))); replace HB := Aside0.mk (hb); have HO127 := Aside0.mk (ho); clear HO_10; clear ho hb hg hat))
       (try simp only [← hl9_3])
       go_roundg k3
       case measure => have := HK1.out; have := HJ20.out; have := HK3.out; omega
       case rel => exact ⟨(y124), (y125), (ji34), (by first | rfl | (simp; done) | (simp only [← hji34] <;> (first | rfl | simp)) | (simp [*]; done)), H', ⟨by have := HK1.out; have := HJ20.out; have := HK3.out; omega⟩, ⟨by (try simp only [hl9_1]); (try simp only [hl9_3]); (with_reducible repeat (first | apply Kd.R_alloc | apply Kd.R_drewN | apply Kd.R_drew)); exact Kd.R_mono HO_9.out (fun _ hk => hk.2)⟩, ⟨by (try simp only [hl9_1]); (try simp only [hl9_3]); (with_reducible repeat (first | apply Kd.Q_alloc | apply Kd.Q_drewN | apply Kd.Q_drew)); exact HO127.out⟩, ⟨by (try simp only [hl9_1]); (try simp only [hl9_3]); (with_reducible repeat (first | refine blk_drewN ?_ _ | refine blk_drew ?_ | refine blk_alloc ?_ _)); exact BK103.out⟩, ⟨by repeat (first | (with_reducible first | exact HB.out | apply below_alloc | apply pw_below_drewN | apply below_drew1 | refine below_set ?_ GE103.out | refine below_set ?_ GE120.out) | exact HB.out)⟩⟩
end Go.Proofs.Ytbbdgndaaajejaa.PRouteLoops
