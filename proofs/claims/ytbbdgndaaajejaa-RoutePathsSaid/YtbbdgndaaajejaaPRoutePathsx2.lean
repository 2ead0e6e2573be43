-- Written by a program of this session (wip/oprint): after the pattern of the kit's print, which does not take this law. -- trimmed
import Derived.Test.YtbbdgndaaajejaaPRoutePathsx0
namespace Go.Proofs.Ytbbdgndaaajejaa.PRoutePaths
open Go.RowKit Go.Proofs.YtbbdgndaaajejaaW.PrintWords Go.Proofs.YtbbdgndaaajejaaW.PrintLast Go.Proofs.YtbbdgndaaajejaaW.PrintMore
attribute [local go_sem] max2_int min2_int max_two min_two max_three min_three max_four min_four   -- for this text's walks alone
set_option linter.unusedVariables false
set_option linter.unusedSimpArgs false

/-! ### bits_Mul32: function 51 -/
def bits_Mul32.f (a0 : Int) (a1 : Int) : Option (Int × Int) := some (((IntKind.u64.wrap ((IntKind.u64.wrap (a0)) * (IntKind.u64.wrap (a1)))) / 4294967296) % 4294967296, (IntKind.u64.wrap ((IntKind.u64.wrap (a0)) * (IntKind.u64.wrap (a1)))) % 4294967296)
set_option maxHeartbeats 8000000 in
set_option maxRecDepth 100000 in
theorem bits_Mul32.calls (a0 : Int) (a1 : Int) (r1 : Int) (r2 : Int) (w : World) (h : bits_Mul32.f a0 a1 = some (r1, r2)) :
  Calls Try.prog 51 #[.int .u32 a0, .int .u32 a1] w fun e w' => e = .returned (.tuple #[.int .u32 r1, .int .u32 r2]) ∧ Drawn0 w w' := by
 have H : (some (((IntKind.u64.wrap ((IntKind.u64.wrap (a0)) * (IntKind.u64.wrap (a1)))) / 4294967296) % 4294967296, (IntKind.u64.wrap ((IntKind.u64.wrap (a0)) * (IntKind.u64.wrap (a1)))) % 4294967296)) = some (r1, r2) := h
 clear h
 simp only [Option.some.injEq, Prod.mk.injEq] at H
 obtain ⟨rfl, rfl⟩ := H
 go_enter Try.func51, Try.ntmps51
 go_wp2
 go_ret2
 exact ⟨by first | rfl | (simp; done) | (simp [*]; done), by repeat (first | exact Drawn0.refl _ | apply Drawn0.step)⟩

/-! ### bits_Mul64: function 52 -/
def bits_Mul64.f (a0 : Int) (a1 : Int) : Option (Int × Int) := some (IntKind.u64.wrap ((IntKind.u64.wrap ((IntKind.u64.wrap ((a0 / 4294967296) * (a1 / 4294967296))) + ((IntKind.u64.wrap ((IntKind.u64.wrap ((a0 / 4294967296) * (Go.bits .and .u64 a1 4294967295))) + ((IntKind.u64.wrap ((Go.bits .and .u64 a0 4294967295) * (Go.bits .and .u64 a1 4294967295))) / 4294967296))) / 4294967296))) + ((IntKind.u64.wrap ((Go.bits .and .u64 (IntKind.u64.wrap ((IntKind.u64.wrap ((a0 / 4294967296) * (Go.bits .and .u64 a1 4294967295))) + ((IntKind.u64.wrap ((Go.bits .and .u64 a0 4294967295) * (Go.bits .and .u64 a1 4294967295))) / 4294967296))) 4294967295) + (IntKind.u64.wrap ((Go.bits .and .u64 a0 4294967295) * (a1 / 4294967296))))) / 4294967296)), IntKind.u64.wrap (a0 * a1))
set_option maxHeartbeats 8000000 in
set_option maxRecDepth 100000 in
theorem bits_Mul64.calls (a0 : Int) (a1 : Int) (r1 : Int) (r2 : Int) (w : World) (h : bits_Mul64.f a0 a1 = some (r1, r2)) :
  Calls Try.prog 52 #[.int .u64 a0, .int .u64 a1] w fun e w' => e = .returned (.tuple #[.int .u64 r1, .int .u64 r2]) ∧ Drawn0 w w' := by
 have H : (some (IntKind.u64.wrap ((IntKind.u64.wrap ((IntKind.u64.wrap ((a0 / 4294967296) * (a1 / 4294967296))) + ((IntKind.u64.wrap ((IntKind.u64.wrap ((a0 / 4294967296) * (Go.bits .and .u64 a1 4294967295))) + ((IntKind.u64.wrap ((Go.bits .and .u64 a0 4294967295) * (Go.bits .and .u64 a1 4294967295))) / 4294967296))) / 4294967296))) + ((IntKind.u64.wrap ((Go.bits .and .u64 (IntKind.u64.wrap ((IntKind.u64.wrap ((a0 / 4294967296) * (Go.bits .and .u64 a1 4294967295))) + ((IntKind.u64.wrap ((Go.bits .and .u64 a0 4294967295) * (Go.bits .and .u64 a1 4294967295))) / 4294967296))) 4294967295) + (IntKind.u64.wrap ((Go.bits .and .u64 a0 4294967295) * (a1 / 4294967296))))) / 4294967296)), IntKind.u64.wrap (a0 * a1))) = some (r1, r2) := h
 clear h
 simp only [Option.some.injEq, Prod.mk.injEq] at H
 obtain ⟨rfl, rfl⟩ := H
 go_enter Try.func52, Try.ntmps52
 go_wp2
 go_ret2
 exact ⟨by first | rfl | (simp; done) | (simp [*]; done), by repeat (first | exact Drawn0.refl _ | apply Drawn0.step)⟩

/-! ### bits_Mul: function 50 -/
def bits_Mul.f (a0 : Int) (a1 : Int) : Option (Int × Int) := (bits_Mul64.f a0 a1).bind fun bt101 => (some (bt101.1, bt101.2))
set_option maxHeartbeats 8000000 in
set_option maxRecDepth 100000 in
theorem bits_Mul.calls (a0 : Int) (a1 : Int) (r1 : Int) (r2 : Int) (w : World) (h : bits_Mul.f a0 a1 = some (r1, r2)) :
  Calls Try.prog 50 #[.int .u64 a0, .int .u64 a1] w fun e w' => e = .returned (.tuple #[.int .u64 r1, .int .u64 r2]) ∧ Drawn0 w w' := by
 have H : ((bits_Mul64.f a0 a1).bind fun bt101 => (some (bt101.1, bt101.2))) = some (r1, r2) := h
 clear h
 replace H := Option.bind_eq_some_iff.mp H; obtain ⟨⟨t101, t102⟩, A30, H⟩ := H
 replace H : (some (t101, t102)) = some (r1, r2) := H
 have A3 := Aside0.mk A30
 clear A30
 simp only [Option.some.injEq, Prod.mk.injEq] at H
 obtain ⟨rfl, rfl⟩ := H
 go_enter Try.func50, Try.ntmps50
 go_wp2_with (first | ((with_reducible refine gate_callee (f := 52) rfl ?_); refine goesL_ (some 25) rfl rfl Try.func52 (by kernel_rfl) rfl #[.int .u64 a0, .int .u64 a1] rfl am ?_; (with_reducible refine (bits_Mul64.calls a0 a1 t101 t102 _ A3.out).mono ?_); rintro e w' ⟨rfl, ⟨nd, rfl⟩⟩; refine ⟨_, rfl, ?_⟩))
 go_ret2
 exact ⟨by first | rfl | (simp; done) | (simp [*]; done), by repeat (first | exact Drawn0.refl _ | apply Drawn0.step)⟩

/-! ### slices_Repeat_int_int: function 47, given -/
def slices_Repeat_int_int.f (l0 : List Int) (a1 : Int) : Option (List Int) := if l0.length = 1 ∧ 1 ≤ a1 ∧ a1 ≤ 1000 then some (List.replicate a1.toNat (rd l0 0)) else none
theorem slices_Repeat_int_int_mul : ∀ n : Fin 1001, bits_Mul.f 1 (n.val : Int) = some (0, (n.val : Int)) := by decide +kernel
theorem slices_Repeat_int_int_list {cur : List Value} {x : Value} {j m : Nat} (h : cur.take j = List.replicate j x) (hm : m ≤ j) (hl : j + m ≤ cur.length) : (cur.take j ++ cur.take m ++ cur.drop (j + m)).take (j + m) = List.replicate (j + m) x := by
 have h2 : cur.take m = List.replicate m x := by
  have : cur.take m = (cur.take j).take m := by rw [List.take_take]; congr 1; omega
  rw [this, h, List.take_replicate]
  congr 1; omega
 rw [h, h2, List.replicate_append_replicate, List.take_append_of_le_length (by simp)]
 exact List.take_of_length_le (by simp)
set_option maxHeartbeats 1000000 in
set_option maxRecDepth 100000 in
theorem slices_Repeat_int_int.calls (A0 : Option Addr) (c0 : Nat) (l0 : List Int) (a1 : Int) (r : List Int) (w : World) (hr0 : Kd.C (Kd.int .i64) w A0 l0.length l0) (hc0 : l0.length ≤ c0) (h : slices_Repeat_int_int.f l0 a1 = some r) :
  Calls Try.prog 47 #[.slice A0 l0.length c0, .int .i64 a1] w fun e w' => ∃ v0_ : Value, e = .returned (v0_) ∧ Kd.R (Kd.int .i64) 3 w' w.heap.size (fun _ => True) v0_ r ∧ Below w.heap.size w w' := by
 unfold slices_Repeat_int_int.f at h
 split at h
 ·rename_i hh
  obtain ⟨h1, h2, h3⟩ := hh
  obtain ⟨v, rfl⟩ : ∃ v, l0 = [v] := List.length_eq_one_iff.mp h1
  obtain ⟨n, rfl⟩ := Int.eq_ofNat_of_zero_le (show 0 ≤ a1 by omega)
  have hpos : 0 < n := by omega
  obtain rfl := Option.some.inj h
  clear h h1 h2
  have hn : n ≤ 1000 := by omega
  clear h3
  have HM := Aside0.mk (slices_Repeat_int_int_mul ⟨n, by omega⟩)
  have hcell : ∃ ad, A0 = some ad ∧ w.cell? ad = some (.int .i64 v) := by
   obtain ⟨ad, e, hx⟩ := Kd.at_int hr0 0 (by omega) (by simp)
   exact ⟨ad, e, by simpa [Addr.add, rd] using hx⟩
  obtain ⟨ad, rfl, hc⟩ := hcell
  have hadd : ad.add 0 = ad := by unfold Addr.add; split <;> simp_all
  have hc2 : ∀ j u, ([Value.int .i64 v] : List Value)[j]? = some u → w.cell? (ad.add j) = some u := by
   intro j u hu
   rcases j with _ | j
   ·simp only [List.getElem?_cons_zero, Option.some.injEq] at hu
    subst hu
    rw [hadd]; exact hc
   ·simp at hu
  have HC := Aside0.mk hc2
  have HA := Aside0.mk hadd
  clear hc hc2 hadd hr0
  have hb0 : decide ((n : Int) < 0) = false := by simp
  have hmk := print_make (P := Try.prog) 26 3 .i64 8 Try.underlying26 (by kernel_rfl) (by decide) n (by omega)
  go_enter Try.func47, Try.ntmps47
  go_wp2_with fail
  refine (bits_Mul.calls 1 n 0 n _ HM.out).mono ?_
  rintro e w' ⟨rfl, ⟨nd, rfl⟩⟩
  go_wp2_with (with_reducible refine wpList_copy_splice (P := Try.prog) rfl (.tmp 31) (.tmp 32) 26 26 rfl 3 Try.underlying26 (by kernel_rfl) (some ⟨w.heap.size, 0, none⟩) (some ad) n n 1 c0 rfl rfl w.heap.size 0 (madeCells #[.int .i64 0] n).toList 3 ?hg [.int .i64 v] ?hn ?hpos ?hfit ?h1 w.heap.size w ?hb (Nat.le_refl _) ?_)
  case hg => exact heap_alloc_new _ _
  case hn => exact (Nat.min_eq_left (show 1 ≤ n from hpos)).symm
  case hpos =>
   intro j u hu
   have := HC.out j u hu
   have hlt := World.block_lt_of_cell? _ _ this
   rw [World.cell?_alloc_lt _ _ _ (by simpa using hlt)]
   simpa using this
  case hfit => simp [size_madeCells]; omega
  case h1 => intro u hu; simp at hu; subst hu; rfl
  case hb => exact below_alloc (pw_below_drewN (Below.refl _ _) _) _
  intro w1 hg1 hb1
  have HB := Aside0.mk hb1
  have HG := Aside0.mk hg1.out
  clear hb1 hg1
  go_wp2_with fail
  go_loopw [8] (fun v8 wr => ∃ (j : Nat) (cur : List Value), v8 = .int .i64 (j : Int) ∧ 1 ≤ j ∧ j ≤ n ∧ Aside0 (cur.length = n) ∧ Aside0 (cur.take j = List.replicate j (.int .i64 v)) ∧ Aside0 (wr.heap[w.heap.size]? = some (.cells cur.toArray 3 (0, 0))) ∧ Aside0 (Below w.heap.size w wr)) (fun v8 _ => n - (intOf v8).toNat)
  case atStart => exact ⟨1, _, rfl, Nat.le_refl _, hpos, ⟨by simp [splice, size_madeCells]; omega⟩, ⟨by simp [splice]⟩, HG, HB⟩
  case round =>
   obtain ⟨j, cur, rfl, hj1, hj2, HL, HT, HG2, HB2⟩ := hrel
   by_cases hlt : j < n
   rotate_left
   ·obtain rfl : n = j := by omega
    go_wp2_with fail
    go_ret
    refine ⟨_, rfl, ?_, HB2.out⟩
    refine Kd.R_of_own (xs := List.replicate ((n : Int)).toNat (rd [v] 0)) ⟨by simp [encs], .inr ⟨w.heap.size, n, cur.toArray, by simp, Nat.le_refl _, HG2.out, by simp, by unfold maxLen; simp; omega, by simp [HL.out], ?_⟩⟩ (fun _ _ => trivial)
    have : encs (Value.int .i64) (List.replicate ((n : Int)).toNat (rd [v] 0)) = List.replicate n (.int .i64 v) := by simp [encs, rd]
    rw [this]
    simpa using HT.out
   have hne : ¬ (n = j) := by omega
   have hne2 : ¬ (j = n) := by omega
   obtain ⟨m, hm1, hm2, hm3⟩ : ∃ m : Nat, 1 ≤ m ∧ j + m ≤ n ∧ Hid (m = min j (n - j)) := ⟨min j (n - j), by omega, by omega, rfl⟩
   obtain ⟨W3, hcp, HG3, HB3⟩ : ∃ W3, (Builtin.copy_ #[26, 26] 3 #[.slice (some ⟨w.heap.size, j, none⟩) (n - j) (n - j), .slice (some ⟨w.heap.size, 0, none⟩) j n]).run Try.prog wr.drew = .ok (.int .i64 (m : Int)) W3 ∧ Aside0 (W3.heap[w.heap.size]? = some (.cells (cur.take j ++ cur.take m ++ cur.drop (j + m)).toArray 3 (0, 0))) ∧ Aside0 (Below w.heap.size w W3) := by
    have hl : (cur.take m).length = m := by rw [List.length_take, HL.out]; have := hm3.out; omega
    have hr := run_copy_row (P := Try.prog) wr.drew 26 26 3 3 w.heap.size j (n - j) (n - j) ⟨w.heap.size, 0, none⟩ j n cur.toArray 3 (cur.take m) Try.underlying26 (by kernel_rfl) HG2.out (by rw [hl]; have := hm3.out; show m = min j (n - j); omega) (by
      intro i u hu
      rw [add_plain]
      have : cur[i]? = some u := by
       rw [List.getElem?_take] at hu
       split at hu
       ·exact hu
       ·cases hu
      show wr.cell? _ = _
      simp [World.cell?, HG2.out, this]) (by rw [hl]; simp [HL.out]; omega) (by
      intro u hu
      have h1 : cur.take m = (cur.take j).take m := by rw [List.take_take]; congr 1; have := hm3.out; omega
      rw [h1, HT.out] at hu
      have := List.mem_of_mem_take hu
      rw [List.mem_replicate] at this
      rw [this.2]; rfl)
    rw [hl] at hr
    refine ⟨_, hr, ⟨by simpa using setRow_heap wr.drew w.heap.size _ _ 3 (0, 0) HG2.out⟩, ⟨below_setRow (below_drew HB2.out) (Nat.le_refl _) _⟩⟩
   go_wp2_with fail
   go_region
   all_goals go_roundw
   case rel => exact ⟨.int .i64 ((j : Int) + (m : Int)), _, _, _, _, _, _, _, _, _, _, _, _, _, ⟨j + m, _, by go_num, by omega, by omega, ⟨by simp [HL.out]; omega⟩, ⟨slices_Repeat_int_int_list HT.out (by have := hm3.out; omega) (by rw [HL.out]; omega)⟩, HG3, HB3⟩, rfl⟩
   case measure => simp [intOf]; omega
 ·cases h

end Go.Proofs.Ytbbdgndaaajejaa.PRoutePaths
