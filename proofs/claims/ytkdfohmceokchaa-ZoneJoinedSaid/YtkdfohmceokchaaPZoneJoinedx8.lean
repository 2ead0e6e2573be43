-- Written by a program of this session (wip/oprint): after the pattern of the kit's print, which does not take this law. -- trimmed
import Derived.Test.YtkdfohmceokchaaPZoneJoinedx0
import Derived.Test.YtkdfohmceokchaaPZoneJoinedx7
namespace Go.Proofs.Ytkdfohmceokchaa.PZoneJoined
open Go.RowKit Go.Proofs.YtkdfohmceokchaaW.PrintWords Go.Proofs.YtkdfohmceokchaaW.PrintLast Go.Proofs.YtkdfohmceokchaaW.PrintMore
attribute [local go_sem] max2_int min2_int max_two min_two max_three min_three max_four min_four   -- for this text's walks alone
set_option linter.unusedVariables false
set_option linter.unusedSimpArgs false

/-! ### stillagelaw07_Fits: function 19 -/
def stillagelaw07_Fits.f (k : Nat) (l0_0 : List (S46)) (l0_1 : List (S43)) (l1 : List Int) : Option (Bool) := if (l1.length : Int) ≤ 200 then ((stillageref06_Good.f k l0_0 l0_1).bind fun t170 => (some t170)) else (some false)
theorem stillagelaw07_Fits.mono : ∀ a0 a1 a2 k, LeO (stillagelaw07_Fits.f k a0 a1 a2) (stillagelaw07_Fits.f (k + 1) a0 a1 a2) := by
 intro a0 a1 a2 k
 unfold stillagelaw07_Fits.f
 repeat' first
   | (with_reducible exact stillageref06_Good.mono _ _ _)
   | (with_reducible exact LeO.refl _)
   | (with_reducible exact LeO.none _)
   | (with_reducible refine LeO.ite ?_ ?_)
   | (with_reducible refine LeO.bind ?_ (fun _ => ?_))
   | exact stillageref06_Good.mono _ _ _
   | exact LeO.none _
   | refine LeO.ite ?_ ?_
   | refine LeO.bind ?_ (fun _ => ?_)
set_option maxHeartbeats 8000000 in
set_option maxRecDepth 100000 in
theorem stillagelaw07_Fits.calls (k : Nat) (A0_0 : Option Addr) (c0_0 : Nat) (l0_0 : List (S46)) (A0_1 : Option Addr) (c0_1 : Nat) (l0_1 : List (S43)) (A1 : Option Addr) (c1 : Nat) (l1 : List Int) (r : Bool) (w : World) (hr0_0 : Kd.C k46 w A0_0 l0_0.length l0_0) (hc0_0 : l0_0.length ≤ c0_0) (hr0_1 : Kd.C k43 w A0_1 l0_1.length l0_1) (hc0_1 : l0_1.length ≤ c0_1) (hr1 : Kd.C (Kd.int .i64) w A1 l1.length l1) (hc1 : l1.length ≤ c1) (h : stillagelaw07_Fits.f k l0_0 l0_1 l1 = some r) :
  Calls Try.prog 19 #[.agg #[.slice A0_0 l0_0.length c0_0, .slice A0_1 l0_1.length c0_1], .slice A1 l1.length c1] w fun e w' => e = .returned (.bool r) ∧ Below w.heap.size w w' := by
 have hu25 := Try.underlying25
 have HR0_0 := Aside0.mk hr0_0
 have HC0_0 := Aside0.mk hc0_0
 clear hr0_0 hc0_0
 have HR0_1 := Aside0.mk hr0_1
 have HC0_1 := Aside0.mk hc0_1
 clear hr0_1 hc0_1
 have HR1 := Aside0.mk hr1
 have HC1 := Aside0.mk hc1
 clear hr1 hc1
 have HB := Aside0.mk (Below.refl w.heap.size w)
 have H : (if (l1.length : Int) ≤ 200 then ((stillageref06_Good.f k l0_0 l0_1).bind fun t170 => (some t170)) else (some false)) = some r := h
 clear h
 by_cases c3 : (l1.length : Int) ≤ 200
 ·rw [if_pos c3] at H
  have c3b0 : decide ((l1.length : Int) ≤ 200) = true := decide_eq_true c3
  have c3b1 : decide (l1.length ≤ 200) = true := decide_eq_true (by omega)
  clear c3
  replace H := Option.bind_eq_some_iff.mp H
  obtain ⟨t170, A40, H⟩ := H
  replace H : (some t170) = some r := H
  have A4 := Aside0.mk A40
  clear A40
  obtain rfl := Option.some.inj H
  go_enter Try.func19, Try.ntmps19
  go_wp2_with (first | ((with_reducible refine gate_dst (N := 2) rfl ?_); refine box_event ?hg (N := 2) ?hd (cs := #[.slice A0_0 l0_0.length c0_0, .slice A0_1 l0_1.length c0_1]) (t := 25) ?hr ?_; (case hd => rfl); (case hg => rfl); (case hr => first | (go_simp; done) | (go_simp; rfl)); intro gb169 hg w5 hbox hb; have n0_ := Aside0.mk (below_step (zb0 HB.out) hb); have n1_ := Aside0.mk (hbox); have n2_ := Aside0.mk ((by rw [hg]; exact (below_size (zb0 HB.out)) : w.heap.size ≤ gb169)); have n3_ := Aside0.mk ((by rw [hg]; exact (below_size (zb0 HB.out)) : w.heap.size ≤ gb169)); clear HB; have HB := n0_; have BK169 := n1_; have GW169 := n2_; have GE169 := n3_; clear n0_ n1_ n2_ n3_; clear hb hbox hg; have hcz6_0 : w5.cell? ⟨gb169, 0, none⟩ = some (.slice A0_0 l0_0.length c0_0) := (blk_cell BK169.out 0).trans rfl; have hcz6_1 : w5.cell? ⟨gb169, 1, none⟩ = some (.slice A0_1 l0_1.length c0_1) := (blk_cell BK169.out 1).trans rfl; have hfz6_0 := blk_frozen BK169.out 0; have hfz6_1 := blk_frozen BK169.out 1) | (go_at_call 10; (with_reducible refine (stillageref06_Good.calls k _ _ l0_0 _ _ l0_1 t170 _ ?side1 ?side2 ?side3 ?side4 A4.out).mono ?_); (case side1 => exact zc HR0_0.out HB.out); (case side2 => exact HC0_0.out); (case side3 => exact zc HR0_1.out HB.out); (case side4 => exact HC0_1.out); rintro e w7 ⟨rfl, hb⟩; have n0_ := Aside0.mk (blk_below (g := gb169) (o := .cells #[.slice A0_0 l0_0.length c0_0, .slice A0_1 l0_1.length c0_1] 25 (0, 0)) (zk BK169.out) hb); have n1_ := Aside0.mk (below_step (zb1 HB.out GE169.out) hb); clear BK169; clear HB; have BK169 := n0_; have HB := n1_; clear n0_ n1_; (try clear hb); (try clear hb2); (try clear hk); (try clear hi)))
  go_ret
  exact ⟨by first | rfl | (simp [errW_none, errW_some] <;> rfl) | (simp [*, errW_none, errW_some] <;> rfl), zb1 HB.out GE169.out⟩
 ·rw [if_neg c3] at H
  have c3b0 : decide ((l1.length : Int) ≤ 200) = false := decide_eq_false c3
  have c3b1 : decide (l1.length ≤ 200) = false := decide_eq_false (by omega)
  clear c3
  obtain rfl := Option.some.inj H
  go_enter Try.func19, Try.ntmps19
  go_wp2_with (first | ((with_reducible refine gate_dst (N := 2) rfl ?_); refine box_event ?hg (N := 2) ?hd (cs := #[.slice A0_0 l0_0.length c0_0, .slice A0_1 l0_1.length c0_1]) (t := 25) ?hr ?_; (case hd => rfl); (case hg => rfl); (case hr => first | (go_simp; done) | (go_simp; rfl)); intro gb169 hg w8 hbox hb; have n0_ := Aside0.mk (below_step (zb0 HB.out) hb); have n1_ := Aside0.mk (hbox); have n2_ := Aside0.mk ((by rw [hg]; exact (below_size (zb0 HB.out)) : w.heap.size ≤ gb169)); have n3_ := Aside0.mk ((by rw [hg]; exact (below_size (zb0 HB.out)) : w.heap.size ≤ gb169)); clear HB; have HB := n0_; have BK169 := n1_; have GW169 := n2_; have GE169 := n3_; clear n0_ n1_ n2_ n3_; clear hb hbox hg))
  go_ret
  exact ⟨by first | rfl | (simp [errW_none, errW_some] <;> rfl) | (simp [*, errW_none, errW_some] <;> rfl), zb1 HB.out GE169.out⟩

/-! ### route_out: function 33, given -/
def route_out.f (l0_0 : List S46) (l0_1 : List S43) (l1 : List Int) : Option Bool := some (l1.any fun i => decide (i < 0) || decide (i ≥ (l0_0.length : Int)))
set_option maxHeartbeats 1000000 in
theorem route_out.lit (W : World) (B n c : Nat) (A : Option Addr) (x : Int) (hc : W.cell? ⟨B, 0, none⟩ = some (.slice A n c)) :
  Calls Try.prog 46 #[.int .i64 x, .pointer (some ⟨B, 0, none⟩)] W fun e w' => e = .returned (.bool (decide (x < 0) || decide (x ≥ (n : Int)))) ∧ ∃ q, w' = W.drewN q := by
 have hu25 := Try.underlying25
 have hu22 := Try.underlying22
 by_cases h1 : x < 0 <;> by_cases h2 : x ≥ (n : Int)
 all_goals
  go_enter Try.func46, Try.ntmps46
  go_wp2
  all_goals first | (exfalso; omega) | (go_ret; exact ⟨by simp [h1, h2], 0, rfl⟩)
set_option maxHeartbeats 2000000 in
theorem route_out.idx (A1 : Option Addr) (c1 : Nat) (l1 : List Int) (w : World) (b : Value) (p : Int → Bool) (hr1 : Kd.C (Kd.int .i64) w A1 l1.length l1)
  (hp : ∀ (x : Int) (q : Nat), Calls Try.prog 46 #[.int .i64 x, b] (w.drewN q) fun e w' => e = .returned (.bool (p x)) ∧ ∃ q', w' = (w.drewN q).drewN q') :
  Calls Try.prog 49 #[.slice A1 l1.length c1, .func (.func 46) #[] #[b]] w fun e w' => (∃ i : Int, e = .returned (.int .i64 i) ∧ decide (i ≥ 0) = l1.any p) ∧ ∃ q, w' = w.drewN q := by
 have eg : ∀ args w, (callFunc 46 args).run Try.prog w = .ok (.enter 46 args) w := enters_of Try.func46 (by kernel_rfl) rfl
 have hlen : l1.length ≤ 9223372036854775807 := hr1.2.1
 have HR1 := Aside0.mk hr1
 have HP := Aside0.mk hp
 clear hr1 hp
 go_enter Try.func49, Try.ntmps49
 go_wp2
 go_loopg [5, 8] l1.length (fun gg _ s8 wr => ∃ kk q : Nat, kk ≤ l1.length ∧ l1.length - kk ≤ gg ∧ s8 = .int .i64 kk ∧ wr = w.drewN q ∧ Aside0 ((l1.take kk).any p = false))
 case atStart => exact ⟨0, 0, Nat.zero_le _, by omega, rfl, rfl, ⟨by simp⟩⟩
 case round =>
  obtain ⟨kk, q, hkk, hg, rfl, rfl, A⟩ := hrel
  by_cases hlt : kk < l1.length
  ·have hltz : (kk : Int) < (l1.length : Int) := by omega
   obtain ⟨ad, ead, hx⟩ := Kd.at_int HR1.out (kk : Int) (by omega) hltz
   cases ead
   have hxy : rd l1 (kk : Int) = l1[kk] := by simp [rd, List.getElem?_eq_getElem hlt]
   have T : l1.take (kk + 1) = l1.take kk ++ [l1[kk]] := by rw [List.take_succ_eq_append_getElem hlt]
   rw [hxy] at hx
   simp only [Int.toNat_natCast] at hx
   have hall : l1.any p = ((l1.take (kk + 1)).any p || (l1.drop (kk + 1)).any p) := by rw [← List.any_append, List.take_append_drop]
   have hcall := HP.out l1[kk]
   have HW := Aside0.mk (show wrap64 ((kk : Int) + 1) = ((kk + 1 : Nat) : Int) by unfold wrap64; omega)
   cases hq : p l1[kk] with
   | true =>
    rw [hq] at hcall
    have hr : l1.any p = true := by rw [hall, T, List.any_append]; simp [hq]
    generalize l1[kk] = y at hx hcall
    clear T hall hxy hq
    go_wp2_with (go_at_call 46; refine (hcall _).mono ?_; rintro e w' ⟨rfl, q', rfl⟩)
    go_ret
    exact ⟨⟨(kk : Int), rfl, by first | omega | (rw [hr]; exact decide_eq_true (by omega)) | (simp [hr]; done)⟩, _, rfl⟩
   | false =>
    rw [hq] at hcall
    have hr : (l1.take (kk + 1)).any p = false := by rw [T, List.any_append, A.out]; simp [hq]
    generalize l1[kk] = y at hx hcall
    clear T hall hxy hq
    go_wp2_with (go_at_call 46; refine (hcall _).mono ?_; rintro e w' ⟨rfl, q', rfl⟩)
    go_roundg (l1.length - (kk + 1))
    case measure => omega
    case rel => exact ⟨kk + 1, _, by omega, by omega, (by first | exact congrArg _ HW.out | rfl | (simp; done)), rfl, ⟨hr⟩⟩
  ·have hltz : ¬ (kk : Int) < (l1.length : Int) := by omega
   have : kk = l1.length := by omega
   subst this
   have hr := A.out
   rw [List.take_length] at hr
   go_wp2
   go_ret
   exact ⟨⟨-1, rfl, by first | omega | (rw [hr]; rfl) | (simp [hr]; done)⟩, q, rfl⟩
set_option maxHeartbeats 1000000 in
theorem route_out.any (A1 : Option Addr) (c1 : Nat) (l1 : List Int) (w : World) (b : Value) (p : Int → Bool) (hr1 : Kd.C (Kd.int .i64) w A1 l1.length l1)
  (hp : ∀ (x : Int) (q : Nat), Calls Try.prog 46 #[.int .i64 x, b] (w.drewN q) fun e w' => e = .returned (.bool (p x)) ∧ ∃ q', w' = (w.drewN q).drewN q') :
  Calls Try.prog 35 #[.slice A1 l1.length c1, .func (.func 46) #[] #[b]] w fun e w' => e = .returned (.bool (l1.any p)) ∧ ∃ q, w' = w.drewN q := by
 have HI := Aside0.mk (route_out.idx A1 c1 l1 w b p hr1 hp)
 clear hr1 hp
 go_enter Try.func35, Try.ntmps35
 go_wp2_with (go_at_call 49; refine HI.out.mono ?_; rintro e w' ⟨⟨i, rfl, hi⟩, q, rfl⟩; have hi := Aside0.mk hi)
 go_ret
 exact ⟨by rw [← hi.out]; rfl, q, rfl⟩
set_option maxHeartbeats 1000000 in
theorem route_out.calls (A0_0 : Option Addr) (c0_0 : Nat) (l0_0 : List S46) (A0_1 : Option Addr) (c0_1 : Nat) (l0_1 : List S43) (A1 : Option Addr) (c1 : Nat) (l1 : List Int) (r : Bool) (w : World) (hr0_0 : Kd.C k46 w A0_0 l0_0.length l0_0) (hc0_0 : l0_0.length ≤ c0_0) (hr0_1 : Kd.C k43 w A0_1 l0_1.length l0_1) (hc0_1 : l0_1.length ≤ c0_1) (hr1 : Kd.C (Kd.int .i64) w A1 l1.length l1) (hc1 : l1.length ≤ c1) (h : route_out.f l0_0 l0_1 l1 = some r) :
  Calls Try.prog 33 #[.agg #[.slice A0_0 l0_0.length c0_0, .slice A0_1 l0_1.length c0_1], .slice A1 l1.length c1] w fun e w' => e = .returned (.bool r) ∧ Below w.heap.size w w' := by
 obtain rfl := Option.some.inj h
 clear h
 have hu25 := Try.underlying25
 have HR1 := Aside0.mk hr1
 have HB := Aside0.mk (Below.refl w.heap.size w)
 clear hr0_0 hc0_0 hr0_1 hc0_1 hr1 hc1
 go_enter Try.func33, Try.ntmps33
 go_wp2_with (first | ((with_reducible refine gate_dst (N := 2) rfl ?_); refine box_event ?hg (N := 2) ?hd (cs := #[.slice A0_0 l0_0.length c0_0, .slice A0_1 l0_1.length c0_1]) (t := 25) ?hr ?_; (case hd => rfl); (case hg => rfl); (case hr => first | (go_simp; done) | (go_simp; rfl)); intro gb hg w5 hbox hb; have n0_ := Aside0.mk (below_step (zb0 HB.out) hb); have n1_ := Aside0.mk (hbox); clear HB; have HB := n0_; have BK := n1_; clear n0_ n1_; clear hb hbox hg) | (go_at_call 35; refine (route_out.any A1 c1 l1 _ (.pointer (some ⟨gb, 0, none⟩)) (fun i => decide (i < 0) || decide (i ≥ (l0_0.length : Int))) ?hC ?hP).mono ?_; (case hC => exact zc HR1.out HB.out); (case hP => intro x q; exact route_out.lit _ gb l0_0.length c0_0 A0_0 x (by first | exact (blk_cell (blk_drewN BK.out _) 0).trans rfl | (refine (blk_cell (blk_drewN ?_ _) 0).trans rfl; (with_reducible repeat (first | refine blk_drewN ?_ _ | refine blk_drew ?_ | refine blk_alloc ?_ _)); exact BK.out))); rintro e w' ⟨rfl, q, rfl⟩))
 go_ret
 exact ⟨rfl, zb0 HB.out⟩

/-! ### bits_Mul32: function 76 -/
def bits_Mul32.f (a0 : Int) (a1 : Int) : Option (Int × Int) := some (((IntKind.u64.wrap ((IntKind.u64.wrap (a0)) * (IntKind.u64.wrap (a1)))) / 4294967296) % 4294967296, (IntKind.u64.wrap ((IntKind.u64.wrap (a0)) * (IntKind.u64.wrap (a1)))) % 4294967296)
set_option maxHeartbeats 8000000 in
set_option maxRecDepth 100000 in
theorem bits_Mul32.calls (a0 : Int) (a1 : Int) (r1 : Int) (r2 : Int) (w : World) (h : bits_Mul32.f a0 a1 = some (r1, r2)) :
  Calls Try.prog 76 #[.int .u32 a0, .int .u32 a1] w fun e w' => e = .returned (.tuple #[.int .u32 r1, .int .u32 r2]) ∧ Drawn0 w w' := by
 have H : (some (((IntKind.u64.wrap ((IntKind.u64.wrap (a0)) * (IntKind.u64.wrap (a1)))) / 4294967296) % 4294967296, (IntKind.u64.wrap ((IntKind.u64.wrap (a0)) * (IntKind.u64.wrap (a1)))) % 4294967296)) = some (r1, r2) := h
 clear h
 simp only [Option.some.injEq, Prod.mk.injEq] at H
 obtain ⟨rfl, rfl⟩ := H
 go_enter Try.func76, Try.ntmps76
 go_wp2
 go_ret2
 exact ⟨by first | rfl | (simp; done) | (simp [*]; done), by repeat (first | exact Drawn0.refl _ | apply Drawn0.step)⟩

/-! ### bits_Mul64: function 77 -/
def bits_Mul64.f (a0 : Int) (a1 : Int) : Option (Int × Int) := some (IntKind.u64.wrap ((IntKind.u64.wrap ((IntKind.u64.wrap ((a0 / 4294967296) * (a1 / 4294967296))) + ((IntKind.u64.wrap ((IntKind.u64.wrap ((a0 / 4294967296) * (Go.bits .and .u64 a1 4294967295))) + ((IntKind.u64.wrap ((Go.bits .and .u64 a0 4294967295) * (Go.bits .and .u64 a1 4294967295))) / 4294967296))) / 4294967296))) + ((IntKind.u64.wrap ((Go.bits .and .u64 (IntKind.u64.wrap ((IntKind.u64.wrap ((a0 / 4294967296) * (Go.bits .and .u64 a1 4294967295))) + ((IntKind.u64.wrap ((Go.bits .and .u64 a0 4294967295) * (Go.bits .and .u64 a1 4294967295))) / 4294967296))) 4294967295) + (IntKind.u64.wrap ((Go.bits .and .u64 a0 4294967295) * (a1 / 4294967296))))) / 4294967296)), IntKind.u64.wrap (a0 * a1))
set_option maxHeartbeats 8000000 in
set_option maxRecDepth 100000 in
theorem bits_Mul64.calls (a0 : Int) (a1 : Int) (r1 : Int) (r2 : Int) (w : World) (h : bits_Mul64.f a0 a1 = some (r1, r2)) :
  Calls Try.prog 77 #[.int .u64 a0, .int .u64 a1] w fun e w' => e = .returned (.tuple #[.int .u64 r1, .int .u64 r2]) ∧ Drawn0 w w' := by
 have H : (some (IntKind.u64.wrap ((IntKind.u64.wrap ((IntKind.u64.wrap ((a0 / 4294967296) * (a1 / 4294967296))) + ((IntKind.u64.wrap ((IntKind.u64.wrap ((a0 / 4294967296) * (Go.bits .and .u64 a1 4294967295))) + ((IntKind.u64.wrap ((Go.bits .and .u64 a0 4294967295) * (Go.bits .and .u64 a1 4294967295))) / 4294967296))) / 4294967296))) + ((IntKind.u64.wrap ((Go.bits .and .u64 (IntKind.u64.wrap ((IntKind.u64.wrap ((a0 / 4294967296) * (Go.bits .and .u64 a1 4294967295))) + ((IntKind.u64.wrap ((Go.bits .and .u64 a0 4294967295) * (Go.bits .and .u64 a1 4294967295))) / 4294967296))) 4294967295) + (IntKind.u64.wrap ((Go.bits .and .u64 a0 4294967295) * (a1 / 4294967296))))) / 4294967296)), IntKind.u64.wrap (a0 * a1))) = some (r1, r2) := h
 clear h
 simp only [Option.some.injEq, Prod.mk.injEq] at H
 obtain ⟨rfl, rfl⟩ := H
 go_enter Try.func77, Try.ntmps77
 go_wp2
 go_ret2
 exact ⟨by first | rfl | (simp; done) | (simp [*]; done), by repeat (first | exact Drawn0.refl _ | apply Drawn0.step)⟩

/-! ### bits_Mul: function 74 -/
def bits_Mul.f (a0 : Int) (a1 : Int) : Option (Int × Int) := (bits_Mul64.f a0 a1).bind fun bt171 => (some (bt171.1, bt171.2))
set_option maxHeartbeats 8000000 in
set_option maxRecDepth 100000 in
theorem bits_Mul.calls (a0 : Int) (a1 : Int) (r1 : Int) (r2 : Int) (w : World) (h : bits_Mul.f a0 a1 = some (r1, r2)) :
  Calls Try.prog 74 #[.int .u64 a0, .int .u64 a1] w fun e w' => e = .returned (.tuple #[.int .u64 r1, .int .u64 r2]) ∧ Drawn0 w w' := by
 have H : ((bits_Mul64.f a0 a1).bind fun bt171 => (some (bt171.1, bt171.2))) = some (r1, r2) := h
 clear h
 replace H := Option.bind_eq_some_iff.mp H
 obtain ⟨⟨t171, t172⟩, A30, H⟩ := H
 replace H : (some (t171, t172)) = some (r1, r2) := H
 have A3 := Aside0.mk A30
 clear A30
 simp only [Option.some.injEq, Prod.mk.injEq] at H
 obtain ⟨rfl, rfl⟩ := H
 go_enter Try.func74, Try.ntmps74
 go_wp2_with (first | ((with_reducible refine gate_callee (f := 77) rfl ?_); refine goesL_ (some 25) rfl rfl Try.func77 (by kernel_rfl) rfl #[.int .u64 a0, .int .u64 a1] rfl am ?_; (with_reducible refine (bits_Mul64.calls a0 a1 t171 t172 _ A3.out).mono ?_); rintro e w' ⟨rfl, ⟨nd, rfl⟩⟩; refine ⟨_, rfl, ?_⟩))
 go_ret2
 exact ⟨by first | rfl | (simp; done) | (simp [*]; done), by repeat (first | exact Drawn0.refl _ | apply Drawn0.step)⟩

/-! ### slices_Repeat_int_int: function 67, given -/
def slices_Repeat_int_int.f (l0 : List Int) (a1 : Int) : Option (List Int) := if l0.length = 1 ∧ 1 ≤ a1 ∧ a1 ≤ 1000 then some (List.replicate a1.toNat (rd l0 0)) else none
theorem slices_Repeat_int_int_mul : ∀ n : Fin 1001, bits_Mul.f 1 (n.val : Int) = some (0, (n.val : Int)) := by decide +kernel
theorem slices_Repeat_int_int_list {cur : List Value} {x : Value} {j m : Nat} (h : cur.take j = List.replicate j x) (hm : m ≤ j) (hl : j + m ≤ cur.length) : (cur.take j ++ cur.take m ++ cur.drop (j + m)).take (j + m) = List.replicate (j + m) x := by
 have h2 : cur.take m = List.replicate m x := by
  have : cur.take m = (cur.take j).take m := by rw [List.take_take]; congr 1; omega
  rw [this, h, List.take_replicate]
  congr 1; omega
 rw [h, h2, List.replicate_append_replicate, List.take_append_of_le_length (by simp)]
 exact List.take_of_length_le (by simp)
set_option maxHeartbeats 1000000 in
set_option maxRecDepth 100000 in
theorem slices_Repeat_int_int.calls (A0 : Option Addr) (c0 : Nat) (l0 : List Int) (a1 : Int) (r : List Int) (w : World) (hr0 : Kd.C (Kd.int .i64) w A0 l0.length l0) (hc0 : l0.length ≤ c0) (h : slices_Repeat_int_int.f l0 a1 = some r) :
  Calls Try.prog 67 #[.slice A0 l0.length c0, .int .i64 a1] w fun e w' => ∃ v0_ : Value, e = .returned (v0_) ∧ Kd.R (Kd.int .i64) 3 w' w.heap.size (fun _ => True) v0_ r ∧ Below w.heap.size w w' := by
 unfold slices_Repeat_int_int.f at h
 split at h
 ·rename_i hh
  obtain ⟨h1, h2, h3⟩ := hh
  obtain ⟨v, rfl⟩ : ∃ v, l0 = [v] := List.length_eq_one_iff.mp h1
  obtain ⟨n, rfl⟩ := Int.eq_ofNat_of_zero_le (show 0 ≤ a1 by omega)
  have hpos : 0 < n := by omega
  obtain rfl := Option.some.inj h
  clear h h1 h2
  have hn : n ≤ 1000 := by omega
  clear h3
  have HM := Aside0.mk (slices_Repeat_int_int_mul ⟨n, by omega⟩)
  have hcell : ∃ ad, A0 = some ad ∧ w.cell? ad = some (.int .i64 v) := by
   obtain ⟨ad, e, hx⟩ := Kd.at_int hr0 0 (by omega) (by simp)
   exact ⟨ad, e, by simpa [Addr.add, rd] using hx⟩
  obtain ⟨ad, rfl, hc⟩ := hcell
  have hadd : ad.add 0 = ad := by unfold Addr.add; split <;> simp_all
  have hc2 : ∀ j u, ([Value.int .i64 v] : List Value)[j]? = some u → w.cell? (ad.add j) = some u := by
   intro j u hu
   rcases j with _ | j
   ·simp only [List.getElem?_cons_zero, Option.some.injEq] at hu
    subst hu
    rw [hadd]; exact hc
   ·simp at hu
  have HC := Aside0.mk hc2
  have HA := Aside0.mk hadd
  clear hc hc2 hadd hr0
  have hb0 : decide ((n : Int) < 0) = false := by simp
  have hmk := print_make (P := Try.prog) 26 3 .i64 8 Try.underlying26 (by kernel_rfl) (by decide) n (by omega)
  go_enter Try.func67, Try.ntmps67
  go_wp2_with fail
  refine (bits_Mul.calls 1 n 0 n _ HM.out).mono ?_
  rintro e w' ⟨rfl, ⟨nd, rfl⟩⟩
  go_wp2_with (with_reducible refine wpList_copy_splice (P := Try.prog) rfl (.tmp 31) (.tmp 32) 26 26 rfl 3 Try.underlying26 (by kernel_rfl) (some ⟨w.heap.size, 0, none⟩) (some ad) n n 1 c0 rfl rfl w.heap.size 0 (madeCells #[.int .i64 0] n).toList 3 ?hg [.int .i64 v] ?hn ?hpos ?hfit ?h1 w.heap.size w ?hb (Nat.le_refl _) ?_)
  case hg => exact heap_alloc_new _ _
  case hn => exact (Nat.min_eq_left (show 1 ≤ n from hpos)).symm
  case hpos =>
   intro j u hu
   have := HC.out j u hu
   have hlt := World.block_lt_of_cell? _ _ this
   rw [World.cell?_alloc_lt _ _ _ (by simpa using hlt)]
   simpa using this
  case hfit => simp [size_madeCells]; omega
  case h1 => intro u hu; simp at hu; subst hu; rfl
  case hb => exact below_alloc (pw_below_drewN (Below.refl _ _) _) _
  intro w1 hg1 hb1
  have HB := Aside0.mk hb1
  have HG := Aside0.mk hg1.out
  clear hb1 hg1
  go_wp2_with fail
  go_loopw [8] (fun v8 wr => ∃ (j : Nat) (cur : List Value), v8 = .int .i64 (j : Int) ∧ 1 ≤ j ∧ j ≤ n ∧ Aside0 (cur.length = n) ∧ Aside0 (cur.take j = List.replicate j (.int .i64 v)) ∧ Aside0 (wr.heap[w.heap.size]? = some (.cells cur.toArray 3 (0, 0))) ∧ Aside0 (Below w.heap.size w wr)) (fun v8 _ => n - (intOf v8).toNat)
  case atStart => exact ⟨1, _, rfl, Nat.le_refl _, hpos, ⟨by simp [splice, size_madeCells]; omega⟩, ⟨by simp [splice]⟩, HG, HB⟩
  case round =>
   obtain ⟨j, cur, rfl, hj1, hj2, HL, HT, HG2, HB2⟩ := hrel
   by_cases hlt : j < n
   ·have hne : ¬ (n = j) := by omega
    have hne2 : ¬ (j = n) := by omega
    obtain ⟨m, hm1, hm2, hm3⟩ : ∃ m : Nat, 1 ≤ m ∧ j + m ≤ n ∧ Hid (m = min j (n - j)) := ⟨min j (n - j), by omega, by omega, rfl⟩
    obtain ⟨W3, hcp, HG3, HB3⟩ : ∃ W3, (Builtin.copy_ #[26, 26] 3 #[.slice (some ⟨w.heap.size, j, none⟩) (n - j) (n - j), .slice (some ⟨w.heap.size, 0, none⟩) j n]).run Try.prog wr.drew = .ok (.int .i64 (m : Int)) W3 ∧ Aside0 (W3.heap[w.heap.size]? = some (.cells (cur.take j ++ cur.take m ++ cur.drop (j + m)).toArray 3 (0, 0))) ∧ Aside0 (Below w.heap.size w W3) := by
     have hl : (cur.take m).length = m := by rw [List.length_take, HL.out]; have := hm3.out; omega
     have hr := run_copy_row (P := Try.prog) wr.drew 26 26 3 3 w.heap.size j (n - j) (n - j) ⟨w.heap.size, 0, none⟩ j n cur.toArray 3 (cur.take m) Try.underlying26 (by kernel_rfl) HG2.out (by rw [hl]; have := hm3.out; show m = min j (n - j); omega) (by
       intro i u hu
       rw [add_plain]
       have : cur[i]? = some u := by
        rw [List.getElem?_take] at hu
        split at hu
        ·exact hu
        ·cases hu
       show wr.cell? _ = _
       simp [World.cell?, HG2.out, this]) (by rw [hl]; simp [HL.out]; omega) (by
       intro u hu
       have h1 : cur.take m = (cur.take j).take m := by rw [List.take_take]; congr 1; have := hm3.out; omega
       rw [h1, HT.out] at hu
       have := List.mem_of_mem_take hu
       rw [List.mem_replicate] at this
       rw [this.2]; rfl)
     rw [hl] at hr
     refine ⟨_, hr, ⟨by simpa using setRow_heap wr.drew w.heap.size _ _ 3 (0, 0) HG2.out⟩, ⟨below_setRow (below_drew HB2.out) (Nat.le_refl _) _⟩⟩
    go_wp2_with fail
    go_region
    all_goals go_roundw
    case rel => exact ⟨.int .i64 ((j : Int) + (m : Int)), _, _, _, _, _, _, _, _, _, _, _, _, _, ⟨j + m, _, by go_num, by omega, by omega, ⟨by simp [HL.out]; omega⟩, ⟨slices_Repeat_int_int_list HT.out (by have := hm3.out; omega) (by rw [HL.out]; omega)⟩, HG3, HB3⟩, rfl⟩
    case measure => simp [intOf]; omega
   ·obtain rfl : n = j := by omega
    go_wp2_with fail
    go_ret
    refine ⟨_, rfl, ?_, HB2.out⟩
    refine Kd.R_of_own (xs := List.replicate ((n : Int)).toNat (rd [v] 0)) ⟨by simp [encs], .inr ⟨w.heap.size, n, cur.toArray, by simp, Nat.le_refl _, HG2.out, by simp, by unfold maxLen; simp; omega, by simp [HL.out], ?_⟩⟩ (fun _ _ => trivial)
    have : encs (Value.int .i64) (List.replicate ((n : Int)).toNat (rd [v] 0)) = List.replicate n (.int .i64 v) := by simp [encs, rd]
    rw [this]
    simpa using HT.out
 ·cases h

end Go.Proofs.Ytkdfohmceokchaa.PZoneJoined
