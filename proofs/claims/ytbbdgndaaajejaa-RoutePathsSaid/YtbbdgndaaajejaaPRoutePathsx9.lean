-- Written by a program of this session (wip/oprint): after the pattern of the kit's print, which does not take this law. -- trimmed
import Derived.Test.YtbbdgndaaajejaaPRoutePathsx0
import Derived.Test.YtbbdgndaaajejaaPRoutePathsx6
import Derived.Test.YtbbdgndaaajejaaPRoutePathsx8
namespace Go.Proofs.Ytbbdgndaaajejaa.PRoutePaths
open Go.RowKit Go.Proofs.YtbbdgndaaajejaaW.PrintWords Go.Proofs.YtbbdgndaaajejaaW.PrintLast Go.Proofs.YtbbdgndaaajejaaW.PrintMore
attribute [local go_sem] max2_int min2_int max_two min_two max_three min_three max_four min_four   -- for this text's walks alone
set_option linter.unusedVariables false
set_option linter.unusedSimpArgs false

/-! ### stillagelaw08_awake: function 10 -/
def stillagelaw08_awake.f (k : Nat)  : Option (Bool) := (some (([(⟨(⟨#[97]⟩ : ByteArray), 1, 0⟩ : S47), (⟨(⟨#[98]⟩ : ByteArray), 1, 0⟩ : S47), (⟨(⟨#[99]⟩ : ByteArray), 1, 0⟩ : S47)] : List (S47)) : List (S47))).bind fun y277 => ((some (([(⟨0, 1⟩ : S38), (⟨1, 2⟩ : S38), (⟨2, 0⟩ : S38)] : List (S38)) : List (S38))).bind fun y280 => ((route_Table.f k y277 y280 ([] : List Int) 2).bind fun bt284 => ((route_Loop.f k y277 y280 ([] : List Int) 0).bind fun bt288 => ((route_Around.f k y277 y280 ([] : List Int) 0 2 (([1] : List Int))).bind fun bt295 => (if bt284.2 = 0 then ((stillageref01_Ints.f k bt284.1 (([1, 2, 0] : List Int))).bind fun t302 => (if t302 = true then (if bt288.2 = 0 then ((stillageref01_Ints.f k bt288.1 (([1, 2, 3] : List Int))).bind fun t306 => (if t306 = true then (some (bt295.2 == 80)) else (some false))) else (some false)) else (some false))) else (some false))))))
theorem stillagelaw08_awake.mono : ∀ k, LeO (stillagelaw08_awake.f k ) (stillagelaw08_awake.f (k + 1) ) := by
 intro  k
 unfold stillagelaw08_awake.f
 repeat' first
   | (with_reducible exact route_Around.mono _ _ _ _ _ _ _)
   | (with_reducible exact route_Loop.mono _ _ _ _ _)
   | (with_reducible exact route_Table.mono _ _ _ _ _)
   | (with_reducible exact stillageref01_Ints.mono _ _ _)
   | (with_reducible exact LeO.refl _)
   | (with_reducible exact LeO.none _)
   | (with_reducible refine LeO.ite ?_ ?_)
   | (with_reducible refine LeO.bind ?_ (fun _ => ?_))
   | exact route_Around.mono _ _ _ _ _ _ _
   | exact route_Loop.mono _ _ _ _ _
   | exact route_Table.mono _ _ _ _ _
   | exact stillageref01_Ints.mono _ _ _
   | exact LeO.none _
   | refine LeO.ite ?_ ?_
   | refine LeO.bind ?_ (fun _ => ?_)
set_option maxHeartbeats 8000000 in
set_option maxRecDepth 100000 in
theorem stillagelaw08_awake.calls (k : Nat)  (r : Bool) (w : World) (h : stillagelaw08_awake.f k  = some r) :
  Calls Try.prog 10 #[] w fun e w' => e = .returned (.bool r) ∧ Below w.heap.size w w' := by
 have hu47 := Try.underlying47
 have hu38 := Try.underlying38
 have hu25 := Try.underlying25
 have HB := Aside0.mk (Below.refl w.heap.size w)
 have H : ((some (([(⟨(⟨#[97]⟩ : ByteArray), 1, 0⟩ : S47), (⟨(⟨#[98]⟩ : ByteArray), 1, 0⟩ : S47), (⟨(⟨#[99]⟩ : ByteArray), 1, 0⟩ : S47)] : List (S47)) : List (S47))).bind fun y277 => ((some (([(⟨0, 1⟩ : S38), (⟨1, 2⟩ : S38), (⟨2, 0⟩ : S38)] : List (S38)) : List (S38))).bind fun y280 => ((route_Table.f k y277 y280 ([] : List Int) 2).bind fun bt284 => ((route_Loop.f k y277 y280 ([] : List Int) 0).bind fun bt288 => ((route_Around.f k y277 y280 ([] : List Int) 0 2 (([1] : List Int))).bind fun bt295 => (if bt284.2 = 0 then ((stillageref01_Ints.f k bt284.1 (([1, 2, 0] : List Int))).bind fun t302 => (if t302 = true then (if bt288.2 = 0 then ((stillageref01_Ints.f k bt288.1 (([1, 2, 3] : List Int))).bind fun t306 => (if t306 = true then (some (bt295.2 == 80)) else (some false))) else (some false)) else (some false))) else (some false))))))) = some r := h
 clear h
 obtain ⟨y277, hy277⟩ : ∃ y_ : List (S47), y_ = (([(⟨(⟨#[97]⟩ : ByteArray), 1, 0⟩ : S47), (⟨(⟨#[98]⟩ : ByteArray), 1, 0⟩ : S47), (⟨(⟨#[99]⟩ : ByteArray), 1, 0⟩ : S47)] : List (S47))) := ⟨_, rfl⟩
 replace H : ((some (([(⟨0, 1⟩ : S38), (⟨1, 2⟩ : S38), (⟨2, 0⟩ : S38)] : List (S38)) : List (S38))).bind fun y280 => ((route_Table.f k y277 y280 ([] : List Int) 2).bind fun bt284 => ((route_Loop.f k y277 y280 ([] : List Int) 0).bind fun bt288 => ((route_Around.f k y277 y280 ([] : List Int) 0 2 (([1] : List Int))).bind fun bt295 => (if bt284.2 = 0 then ((stillageref01_Ints.f k bt284.1 (([1, 2, 0] : List Int))).bind fun t302 => (if t302 = true then (if bt288.2 = 0 then ((stillageref01_Ints.f k bt288.1 (([1, 2, 3] : List Int))).bind fun t306 => (if t306 = true then (some (bt295.2 == 80)) else (some false))) else (some false)) else (some false))) else (some false)))))) = some r := by first | (rw [hy277]; with_reducible exact H) | (have H2_ := (Option.bind_some _ _).symm.trans H; rw [hy277]; with_reducible exact H2_) | (have H2_ := (Option.bind_some _ _).symm.trans H; with_reducible exact H2_) | with_reducible exact H | (rw [hy277]; exact H) | exact H
 have Ny277 := Aside0.mk hy277
 clear hy277
 obtain ⟨y280, hy280⟩ : ∃ y_ : List (S38), y_ = (([(⟨0, 1⟩ : S38), (⟨1, 2⟩ : S38), (⟨2, 0⟩ : S38)] : List (S38))) := ⟨_, rfl⟩
 replace H : ((route_Table.f k y277 y280 ([] : List Int) 2).bind fun bt284 => ((route_Loop.f k y277 y280 ([] : List Int) 0).bind fun bt288 => ((route_Around.f k y277 y280 ([] : List Int) 0 2 (([1] : List Int))).bind fun bt295 => (if bt284.2 = 0 then ((stillageref01_Ints.f k bt284.1 (([1, 2, 0] : List Int))).bind fun t302 => (if t302 = true then (if bt288.2 = 0 then ((stillageref01_Ints.f k bt288.1 (([1, 2, 3] : List Int))).bind fun t306 => (if t306 = true then (some (bt295.2 == 80)) else (some false))) else (some false)) else (some false))) else (some false))))) = some r := by first | (rw [hy280]; with_reducible exact H) | (have H2_ := (Option.bind_some _ _).symm.trans H; rw [hy280]; with_reducible exact H2_) | (have H2_ := (Option.bind_some _ _).symm.trans H; with_reducible exact H2_) | with_reducible exact H | (rw [hy280]; exact H) | exact H
 have Ny280 := Aside0.mk hy280
 clear hy280
 replace H := Option.bind_eq_some_iff.mp H; obtain ⟨⟨t284, t287⟩, A10, H⟩ := H
 replace H : ((route_Loop.f k y277 y280 ([] : List Int) 0).bind fun bt288 => ((route_Around.f k y277 y280 ([] : List Int) 0 2 (([1] : List Int))).bind fun bt295 => (if t287 = 0 then ((stillageref01_Ints.f k t284 (([1, 2, 0] : List Int))).bind fun t302 => (if t302 = true then (if bt288.2 = 0 then ((stillageref01_Ints.f k bt288.1 (([1, 2, 3] : List Int))).bind fun t306 => (if t306 = true then (some (bt295.2 == 80)) else (some false))) else (some false)) else (some false))) else (some false)))) = some r := H
 have A1 := Aside0.mk A10
 clear A10
 replace H := Option.bind_eq_some_iff.mp H; obtain ⟨⟨t288, t291⟩, A20, H⟩ := H
 replace H : ((route_Around.f k y277 y280 ([] : List Int) 0 2 (([1] : List Int))).bind fun bt295 => (if t287 = 0 then ((stillageref01_Ints.f k t284 (([1, 2, 0] : List Int))).bind fun t302 => (if t302 = true then (if t291 = 0 then ((stillageref01_Ints.f k t288 (([1, 2, 3] : List Int))).bind fun t306 => (if t306 = true then (some (bt295.2 == 80)) else (some false))) else (some false)) else (some false))) else (some false))) = some r := H
 have A2 := Aside0.mk A20
 clear A20
 obtain ⟨y292, hy292⟩ : ∃ y_ : List Int, y_ = (([1] : List Int)) := ⟨_, rfl⟩
 replace H : ((route_Around.f k y277 y280 ([] : List Int) 0 2 y292).bind fun bt295 => (if t287 = 0 then ((stillageref01_Ints.f k t284 (([1, 2, 0] : List Int))).bind fun t302 => (if t302 = true then (if t291 = 0 then ((stillageref01_Ints.f k t288 (([1, 2, 3] : List Int))).bind fun t306 => (if t306 = true then (some (bt295.2 == 80)) else (some false))) else (some false)) else (some false))) else (some false))) = some r := by first | (rw [hy292]; with_reducible exact H) | (have H2_ := (Option.bind_some _ _).symm.trans H; rw [hy292]; with_reducible exact H2_) | (have H2_ := (Option.bind_some _ _).symm.trans H; with_reducible exact H2_) | with_reducible exact H | (rw [hy292]; exact H) | exact H
 have Ny292 := Aside0.mk hy292
 clear hy292
 replace H := Option.bind_eq_some_iff.mp H; obtain ⟨⟨t295, t298⟩, A30, H⟩ := H
 replace H : (if t287 = 0 then ((stillageref01_Ints.f k t284 (([1, 2, 0] : List Int))).bind fun t302 => (if t302 = true then (if t291 = 0 then ((stillageref01_Ints.f k t288 (([1, 2, 3] : List Int))).bind fun t306 => (if t306 = true then (some (t298 == 80)) else (some false))) else (some false)) else (some false))) else (some false)) = some r := H
 have A3 := Aside0.mk A30
 clear A30
 by_cases c4 : t287 = 0
 rotate_left
 ·rw [if_neg c4] at H
  have c4b0 : (t287 == 0) = false := beq_eq_false_iff_ne.mpr c4
  have c4b1 : (t287 != 0) = true := bne_iff_ne.mpr c4
  obtain rfl := Option.some.inj H
  go_enter Try.func10, Try.ntmps10
  go_wp2_with (first | ((with_reducible refine gate_dst (N := 11) rfl ?_); (try (refine gate_guard (by rfl) ?_; dsimp only)); refine Kd.R_lit k47 _ 47 ?hg (N := 11) ?hd (xs := ([(⟨(⟨#[97]⟩ : ByteArray), 1, 0⟩ : S47), (⟨(⟨#[98]⟩ : ByteArray), 1, 0⟩ : S47), (⟨(⟨#[99]⟩ : ByteArray), 1, 0⟩ : S47)] : List (S47))) (inner := [.string (⟨#[97]⟩ : ByteArray), .int .i64 1, .int .i64 0, .string (⟨#[98]⟩ : ByteArray), .int .i64 1, .int .i64 0, .string (⟨#[99]⟩ : ByteArray), .int .i64 1, .int .i64 0]) (ok := fun _ => True) (okp := fun _ => True) ?hr ?hp (fun _ hk => hk) trivial (Below.refl _ _) (Nat.le_refl _) (by simp) ?_; (case hd => rfl); (case hg => rfl); (case hr => first | (go_simp; done) | (go_simp; rfl)); (case hp => exact (Reps.c3 (show Kd.M k47 _ _ _ (⟨(⟨#[97]⟩ : ByteArray), 1, 0⟩ : S47) [.string (⟨#[97]⟩ : ByteArray), .int .i64 1, .int .i64 0] from (k47_mkM _ _ _ (⟨(⟨#[97]⟩ : ByteArray), 1, 0⟩ : S47) )) (Reps.c3 (show Kd.M k47 _ _ _ (⟨(⟨#[98]⟩ : ByteArray), 1, 0⟩ : S47) [.string (⟨#[98]⟩ : ByteArray), .int .i64 1, .int .i64 0] from (k47_mkM _ _ _ (⟨(⟨#[98]⟩ : ByteArray), 1, 0⟩ : S47) )) (Reps.c3 (show Kd.M k47 _ _ _ (⟨(⟨#[99]⟩ : ByteArray), 1, 0⟩ : S47) [.string (⟨#[99]⟩ : ByteArray), .int .i64 1, .int .i64 0] from (k47_mkM _ _ _ (⟨(⟨#[99]⟩ : ByteArray), 1, 0⟩ : S47) )) (Reps.none _ _))))); intro v278 w98 ho99 hb hg_ hnew_; clear hg_ hnew_; (first | rw [← Ny277.out] at ho99 | (simp only [Int.reduceToNat] at ho99; rw [← Ny277.out] at ho99)); have HO279 := Aside0.mk (Kd.R_lower ho99 (below_size (zb0 HB.out))); replace HB := Aside0.mk (below_step (zb0 HB.out) hb); clear hb ho99) | ((with_reducible refine gate_dst (N := 15) rfl ?_); (try (refine gate_guard (by rfl) ?_; dsimp only)); refine Kd.R_lit k38 _ 38 ?hg (N := 15) ?hd (xs := ([(⟨0, 1⟩ : S38), (⟨1, 2⟩ : S38), (⟨2, 0⟩ : S38)] : List (S38))) (inner := [.int .i64 0, .int .i64 1, .int .i64 1, .int .i64 2, .int .i64 2, .int .i64 0]) (ok := fun _ => True) (okp := fun _ => True) ?hr ?hp (fun _ hk => hk) trivial (Below.refl _ _) (Nat.le_refl _) (by simp) ?_; (case hd => rfl); (case hg => rfl); (case hr => first | (go_simp; done) | (go_simp; rfl)); (case hp => exact (Reps.c2 (show Kd.M k38 _ _ _ (⟨0, 1⟩ : S38) [.int .i64 0, .int .i64 1] from (k38_mkM _ _ _ (⟨0, 1⟩ : S38) )) (Reps.c2 (show Kd.M k38 _ _ _ (⟨1, 2⟩ : S38) [.int .i64 1, .int .i64 2] from (k38_mkM _ _ _ (⟨1, 2⟩ : S38) )) (Reps.c2 (show Kd.M k38 _ _ _ (⟨2, 0⟩ : S38) [.int .i64 2, .int .i64 0] from (k38_mkM _ _ _ (⟨2, 0⟩ : S38) )) (Reps.none _ _))))); intro v281 w100 ho101 hb hg_ hnew_; clear hg_ hnew_; (first | rw [← Ny280.out] at ho101 | (simp only [Int.reduceToNat] at ho101; rw [← Ny280.out] at ho101)); replace HO279 := Aside0.mk (Kd.R_below (zr HO279.out) hb); have HO282 := Aside0.mk (Kd.R_lower ho101 (below_size (zb0 HB.out))); replace HB := Aside0.mk (below_step (zb0 HB.out) hb); clear hb ho101; obtain ⟨Ao102, co102, eo102⟩ := Kd.R_slice HO282.out; subst eo102; obtain ⟨Ao103, co103, eo103⟩ := Kd.R_slice HO279.out; subst eo103) | ((with_reducible refine gate_dst (N := 1) rfl ?_); (try (refine gate_guard (by rfl) ?_; dsimp only)); refine box_event ?hg (N := 1) ?hd (cs := #[.slice none 0 0, .slice none 0 0]) (t := 25) ?hr ?_; (case hd => rfl); (case hg => rfl); (case hr => first | (go_simp; done) | (go_simp; rfl)); intro gb283 hg w104 hbox hb; replace HO279 := Aside0.mk (Kd.R_below (zr HO279.out) hb); replace HO282 := Aside0.mk (Kd.R_below (zr HO282.out) hb); have BK283 := Aside0.mk (hbox); have GW283 := Aside0.mk ((by rw [hg]; exact (below_size (zb0 HB.out)) : w.heap.size ≤ gb283)); have GE283 := Aside0.mk ((by rw [hg]; exact (below_size (zb0 HB.out)) : w.heap.size ≤ gb283)); replace HB := Aside0.mk (below_step (zb0 HB.out) hb); clear hb hbox hg; have hcz105_0 : w104.cell? ⟨gb283, 0, none⟩ = some (.slice none 0 0) := (blk_cell BK283.out 0).trans rfl; have hcz105_1 : w104.cell? ⟨gb283, 1, none⟩ = some (.slice none 0 0) := (blk_cell BK283.out 1).trans rfl; have hfz105_0 := blk_frozen BK283.out 0; have hfz105_1 := blk_frozen BK283.out 1) | ((with_reducible refine gate_callee (f := 13) rfl ?_); refine goesL_ (some 19) rfl rfl Try.func13 (by kernel_rfl) rfl #[.agg #[.slice Ao103 y277.length co103, .slice Ao102 y280.length co102], .slice none 0 0, .int .i64 2] rfl am ?_; (refine (route_Table.calls k _ _ y277 _ _ y280 _ _ ([] : List Int) 2 t284 t287 _ ?side1 ?side2 ?side3 ?side4 ?side5 ?side6 A1.out).mono ?_); (case side1 => refine (Kd.R_reads' (e := 47) (base := w.heap.size) (ok := fun k_ => True) (n := y277.length) (c := co103) ?_).2.2; exact (by (with_reducible repeat (first | apply Kd.R_alloc | apply Kd.R_drewN | apply Kd.R_drew)); exact (Kd.R_mono (Kd.R_far (p := ⟨gb283, 1, none⟩) (Kd.R_far (p := ⟨gb283, 0, none⟩) (Kd.R_types HO279.out BK283.out (by decide)) (fun _ hk => hk.2) (.slice Ao103 y277.length co103)) (fun _ hk => hk.2) (.slice Ao102 y280.length co102)) (fun _ h_ => h_.1)))); (case side2 => exact (Kd.R_reads' HO279.out).2.1); (case side3 => refine (Kd.R_reads' (e := 38) (base := w.heap.size) (ok := fun k_ => True) (n := y280.length) (c := co102) ?_).2.2; exact (by (with_reducible repeat (first | apply Kd.R_alloc | apply Kd.R_drewN | apply Kd.R_drew)); exact (Kd.R_mono (Kd.R_far (p := ⟨gb283, 1, none⟩) (Kd.R_far (p := ⟨gb283, 0, none⟩) (Kd.R_types HO282.out BK283.out (by decide)) (fun _ hk => hk.2) (.slice Ao103 y277.length co103)) (fun _ hk => hk.2) (.slice Ao102 y280.length co102)) (fun _ h_ => h_.1)))); (case side4 => exact (Kd.R_reads' HO282.out).2.1); (case side5 => exact Kd.C_nil _ _); (case side6 => exact Nat.le_refl _); rintro e w106 ⟨v285, rfl, ho0, hb⟩; refine ⟨_, rfl, ?_⟩; replace HO279 := Aside0.mk (Kd.R_below (by (with_reducible repeat (first | apply Kd.R_alloc | apply Kd.R_drewN | apply Kd.R_drew)); exact (Kd.R_mono (Kd.R_far (p := ⟨gb283, 1, none⟩) (Kd.R_far (p := ⟨gb283, 0, none⟩) (Kd.R_types HO279.out BK283.out (by decide)) (fun _ hk => hk.2) (.slice Ao103 y277.length co103)) (fun _ hk => hk.2) (.slice Ao102 y280.length co102)) (fun _ h_ => h_.1))) hb); replace HO282 := Aside0.mk (Kd.R_below (by (with_reducible repeat (first | apply Kd.R_alloc | apply Kd.R_drewN | apply Kd.R_drew)); exact (Kd.R_mono (Kd.R_far (p := ⟨gb283, 1, none⟩) (Kd.R_far (p := ⟨gb283, 0, none⟩) (Kd.R_types HO282.out BK283.out (by decide)) (fun _ hk => hk.2) (.slice Ao103 y277.length co103)) (fun _ hk => hk.2) (.slice Ao102 y280.length co102)) (fun _ h_ => h_.1))) hb); have HO286 := Aside0.mk (Kd.R_lower ho0 (below_size (zb1 HB.out GE283.out))); replace BK283 := Aside0.mk (blk_below (g := gb283) (o := .cells #[.slice Ao103 y277.length co103, .slice Ao102 y280.length co102] 25 (0, 0)) (by (with_reducible repeat (first | refine blk_drewN ?_ _ | refine blk_drew ?_ | refine blk_alloc ?_ _)); refine blk_put (cs := #[.slice Ao103 y277.length co103, .slice none 0 0]) ?_ 1 _ rfl; (with_reducible repeat (first | refine blk_drewN ?_ _ | refine blk_drew ?_ | refine blk_alloc ?_ _)); refine blk_put (cs := #[.slice none 0 0, .slice none 0 0]) ?_ 0 _ rfl; (with_reducible repeat (first | refine blk_drewN ?_ _ | refine blk_drew ?_ | refine blk_alloc ?_ _)); exact BK283.out) hb); replace HB := Aside0.mk (below_step (zb1 HB.out GE283.out) hb); (try clear hb); (try clear ho0); have hcz107_0 : w106.cell? ⟨gb283, 0, none⟩ = some (.slice Ao103 y277.length co103) := (blk_cell BK283.out 0).trans rfl; have hcz107_1 : w106.cell? ⟨gb283, 1, none⟩ = some (.slice Ao102 y280.length co102) := (blk_cell BK283.out 1).trans rfl; have hfz107_0 := blk_frozen BK283.out 0; have hfz107_1 := blk_frozen BK283.out 1) | ((with_reducible refine gate_callee (f := 20) rfl ?_); refine goesL_ (some 24) rfl rfl Try.func20 (by kernel_rfl) rfl #[.agg #[.slice Ao103 y277.length co103, .slice Ao102 y280.length co102], .slice none 0 0, .int .i64 0] rfl am ?_; (refine (route_Loop.calls k _ _ y277 _ _ y280 _ _ ([] : List Int) 0 t288 t291 _ ?side1 ?side2 ?side3 ?side4 ?side5 ?side6 A2.out).mono ?_); (case side1 => exact zd (Kd.R_reads' HO279.out).2.2); (case side2 => exact (Kd.R_reads' HO279.out).2.1); (case side3 => exact zd (Kd.R_reads' HO282.out).2.2); (case side4 => exact (Kd.R_reads' HO282.out).2.1); (case side5 => exact Kd.C_nil _ _); (case side6 => exact Nat.le_refl _); rintro e w108 ⟨v289, rfl, ho0, hb⟩; refine ⟨_, rfl, ?_⟩; replace HO279 := Aside0.mk (Kd.R_below (zr HO279.out) hb); replace HO282 := Aside0.mk (Kd.R_below (zr HO282.out) hb); have HO290 := Aside0.mk (Kd.R_lower (Kd.R_new' ho0 (Kd.R_lt (zr HO286.out))) (below_size (zb1 HB.out GE283.out))); replace HO286 := Aside0.mk (Kd.R_elder' (zr HO286.out) (Kd.R_base ho0) hb); replace BK283 := Aside0.mk (blk_below (g := gb283) (o := .cells #[.slice Ao103 y277.length co103, .slice Ao102 y280.length co102] 25 (0, 0)) (zk BK283.out) hb); replace HB := Aside0.mk (below_step (zb1 HB.out GE283.out) hb); (try clear hb); (try clear ho0); have hcz109_0 : w108.cell? ⟨gb283, 0, none⟩ = some (.slice Ao103 y277.length co103) := (blk_cell BK283.out 0).trans rfl; have hcz109_1 : w108.cell? ⟨gb283, 1, none⟩ = some (.slice Ao102 y280.length co102) := (blk_cell BK283.out 1).trans rfl; have hfz109_0 := blk_frozen BK283.out 0; have hfz109_1 := blk_frozen BK283.out 1) | ((with_reducible refine gate_dst (N := 29) rfl ?_); (try (refine gate_guard (by rfl) ?_; dsimp only)); refine Kd.R_lit (Kd.int .i64) _ 3 ?hg (N := 29) ?hd (xs := ([1] : List Int)) (inner := [.int .i64 1]) (ok := fun _ => True) (okp := fun _ => True) ?hr ?hp (fun _ hk => hk) trivial (Below.refl _ _) (Nat.le_refl _) (by simp) ?_; (case hd => rfl); (case hg => rfl); (case hr => first | (go_simp; done) | (go_simp; rfl)); (case hp => exact (Reps.one (show Kd.M (Kd.int .i64) _ _ _ 1 [.int .i64 1] from rfl) (Reps.none _ _))); intro v293 w110 ho111 hb hg_ hnew_; clear hg_ hnew_; (first | rw [← Ny292.out] at ho111 | (simp only [Int.reduceToNat] at ho111; rw [← Ny292.out] at ho111)); replace HO279 := Aside0.mk (Kd.R_below (zr HO279.out) hb); replace HO282 := Aside0.mk (Kd.R_below (zr HO282.out) hb); have HO294 := Aside0.mk (Kd.R_lower (Kd.R_new' (Kd.R_new' ho111 (Kd.R_lt (zr HO286.out))) (Kd.R_lt (zr HO290.out))) (below_size (zb1 HB.out GE283.out))); replace HO286 := Aside0.mk (Kd.R_elder' (zr HO286.out) (Kd.R_base ho111) hb); replace HO290 := Aside0.mk (Kd.R_elder' (zr HO290.out) (Kd.R_base ho111) hb); replace BK283 := Aside0.mk (blk_below (g := gb283) (o := .cells #[.slice Ao103 y277.length co103, .slice Ao102 y280.length co102] 25 (0, 0)) (zk BK283.out) hb); replace HB := Aside0.mk (below_step (zb1 HB.out GE283.out) hb); clear hb ho111; obtain ⟨Ao112, co112, eo112⟩ := Kd.R_slice HO294.out; subst eo112) | ((with_reducible refine gate_callee (f := 19) rfl ?_); refine goesL_ (some 30) rfl rfl Try.func19 (by kernel_rfl) rfl #[.agg #[.slice Ao103 y277.length co103, .slice Ao102 y280.length co102], .slice none 0 0, .int .i64 0, .int .i64 2, .slice Ao112 y292.length co112] rfl am ?_; (refine (route_Around.calls k _ _ y277 _ _ y280 _ _ ([] : List Int) 0 2 _ _ y292 t295 t298 _ ?side1 ?side2 ?side3 ?side4 ?side5 ?side6 ?side7 ?side8 A3.out).mono ?_); (case side1 => exact zd (Kd.R_reads' HO279.out).2.2); (case side2 => exact (Kd.R_reads' HO279.out).2.1); (case side3 => exact zd (Kd.R_reads' HO282.out).2.2); (case side4 => exact (Kd.R_reads' HO282.out).2.1); (case side5 => exact Kd.C_nil _ _); (case side6 => exact Nat.le_refl _); (case side7 => exact zd (Kd.R_reads' HO294.out).2.2); (case side8 => exact (Kd.R_reads' HO294.out).2.1); rintro e w113 ⟨v296, rfl, ho0, hb⟩; refine ⟨_, rfl, ?_⟩; replace HO279 := Aside0.mk (Kd.R_below (zr HO279.out) hb); replace HO282 := Aside0.mk (Kd.R_below (zr HO282.out) hb); have HO297 := Aside0.mk (Kd.R_lower (Kd.R_new' (Kd.R_new' (Kd.R_new' ho0 (Kd.R_lt (zr HO286.out))) (Kd.R_lt (zr HO290.out))) (Kd.R_lt (zr HO294.out))) (below_size (zb1 HB.out GE283.out))); replace HO286 := Aside0.mk (Kd.R_elder' (zr HO286.out) (Kd.R_base ho0) hb); replace HO290 := Aside0.mk (Kd.R_elder' (zr HO290.out) (Kd.R_base ho0) hb); replace HO294 := Aside0.mk (Kd.R_elder' (zr HO294.out) (Kd.R_base ho0) hb); replace BK283 := Aside0.mk (blk_below (g := gb283) (o := .cells #[.slice Ao103 y277.length co103, .slice Ao102 y280.length co102] 25 (0, 0)) (zk BK283.out) hb); replace HB := Aside0.mk (below_step (zb1 HB.out GE283.out) hb); (try clear hb); (try clear ho0)))
  go_ret
  exact ⟨by first | rfl | (simp [errW_none, errW_some] <;> rfl) | (simp [*, errW_none, errW_some] <;> rfl), zb1 HB.out GE283.out⟩

 rw [if_pos c4] at H
 have c4b0 : (t287 == 0) = true := beq_iff_eq.mpr c4
 have c4b1 : (t287 != 0) = false := bne_eq_false_iff_eq.mpr c4
 clear c4
 obtain ⟨y299, hy299⟩ : ∃ y_ : List Int, y_ = (([1, 2, 0] : List Int)) := ⟨_, rfl⟩
 replace H : ((stillageref01_Ints.f k t284 y299).bind fun t302 => (if t302 = true then (if t291 = 0 then ((stillageref01_Ints.f k t288 (([1, 2, 3] : List Int))).bind fun t306 => (if t306 = true then (some (t298 == 80)) else (some false))) else (some false)) else (some false))) = some r := by first | (rw [hy299]; with_reducible exact H) | (have H2_ := (Option.bind_some _ _).symm.trans H; rw [hy299]; with_reducible exact H2_) | (have H2_ := (Option.bind_some _ _).symm.trans H; with_reducible exact H2_) | with_reducible exact H | (rw [hy299]; exact H) | exact H
 have Ny299 := Aside0.mk hy299
 clear hy299
 replace H := Option.bind_eq_some_iff.mp H; obtain ⟨t302, A50, H⟩ := H
 replace H : (if t302 = true then (if t291 = 0 then ((stillageref01_Ints.f k t288 (([1, 2, 3] : List Int))).bind fun t306 => (if t306 = true then (some (t298 == 80)) else (some false))) else (some false)) else (some false)) = some r := H
 have A5 := Aside0.mk A50
 clear A50
 by_cases c6 : t302 = true
 rotate_left
 ·replace c6 := Bool.eq_false_iff.mpr c6
  subst c6
  have H1 : (some false) = some r := by rw [if_neg (show ¬ (false = true) by decide)] at H; exact H
  clear H; have H := H1; clear H1
  obtain rfl := Option.some.inj H
  go_enter Try.func10, Try.ntmps10
  go_wp2_with (first | ((with_reducible refine gate_dst (N := 11) rfl ?_); (try (refine gate_guard (by rfl) ?_; dsimp only)); refine Kd.R_lit k47 _ 47 ?hg (N := 11) ?hd (xs := ([(⟨(⟨#[97]⟩ : ByteArray), 1, 0⟩ : S47), (⟨(⟨#[98]⟩ : ByteArray), 1, 0⟩ : S47), (⟨(⟨#[99]⟩ : ByteArray), 1, 0⟩ : S47)] : List (S47))) (inner := [.string (⟨#[97]⟩ : ByteArray), .int .i64 1, .int .i64 0, .string (⟨#[98]⟩ : ByteArray), .int .i64 1, .int .i64 0, .string (⟨#[99]⟩ : ByteArray), .int .i64 1, .int .i64 0]) (ok := fun _ => True) (okp := fun _ => True) ?hr ?hp (fun _ hk => hk) trivial (Below.refl _ _) (Nat.le_refl _) (by simp) ?_; (case hd => rfl); (case hg => rfl); (case hr => first | (go_simp; done) | (go_simp; rfl)); (case hp => exact (Reps.c3 (show Kd.M k47 _ _ _ (⟨(⟨#[97]⟩ : ByteArray), 1, 0⟩ : S47) [.string (⟨#[97]⟩ : ByteArray), .int .i64 1, .int .i64 0] from (k47_mkM _ _ _ (⟨(⟨#[97]⟩ : ByteArray), 1, 0⟩ : S47) )) (Reps.c3 (show Kd.M k47 _ _ _ (⟨(⟨#[98]⟩ : ByteArray), 1, 0⟩ : S47) [.string (⟨#[98]⟩ : ByteArray), .int .i64 1, .int .i64 0] from (k47_mkM _ _ _ (⟨(⟨#[98]⟩ : ByteArray), 1, 0⟩ : S47) )) (Reps.c3 (show Kd.M k47 _ _ _ (⟨(⟨#[99]⟩ : ByteArray), 1, 0⟩ : S47) [.string (⟨#[99]⟩ : ByteArray), .int .i64 1, .int .i64 0] from (k47_mkM _ _ _ (⟨(⟨#[99]⟩ : ByteArray), 1, 0⟩ : S47) )) (Reps.none _ _))))); intro v278 w78 ho79 hb hg_ hnew_; clear hg_ hnew_; (first | rw [← Ny277.out] at ho79 | (simp only [Int.reduceToNat] at ho79; rw [← Ny277.out] at ho79)); have HO279 := Aside0.mk (Kd.R_lower ho79 (below_size (zb0 HB.out))); replace HB := Aside0.mk (below_step (zb0 HB.out) hb); clear hb ho79) | ((with_reducible refine gate_dst (N := 15) rfl ?_); (try (refine gate_guard (by rfl) ?_; dsimp only)); refine Kd.R_lit k38 _ 38 ?hg (N := 15) ?hd (xs := ([(⟨0, 1⟩ : S38), (⟨1, 2⟩ : S38), (⟨2, 0⟩ : S38)] : List (S38))) (inner := [.int .i64 0, .int .i64 1, .int .i64 1, .int .i64 2, .int .i64 2, .int .i64 0]) (ok := fun _ => True) (okp := fun _ => True) ?hr ?hp (fun _ hk => hk) trivial (Below.refl _ _) (Nat.le_refl _) (by simp) ?_; (case hd => rfl); (case hg => rfl); (case hr => first | (go_simp; done) | (go_simp; rfl)); (case hp => exact (Reps.c2 (show Kd.M k38 _ _ _ (⟨0, 1⟩ : S38) [.int .i64 0, .int .i64 1] from (k38_mkM _ _ _ (⟨0, 1⟩ : S38) )) (Reps.c2 (show Kd.M k38 _ _ _ (⟨1, 2⟩ : S38) [.int .i64 1, .int .i64 2] from (k38_mkM _ _ _ (⟨1, 2⟩ : S38) )) (Reps.c2 (show Kd.M k38 _ _ _ (⟨2, 0⟩ : S38) [.int .i64 2, .int .i64 0] from (k38_mkM _ _ _ (⟨2, 0⟩ : S38) )) (Reps.none _ _))))); intro v281 w80 ho81 hb hg_ hnew_; clear hg_ hnew_; (first | rw [← Ny280.out] at ho81 | (simp only [Int.reduceToNat] at ho81; rw [← Ny280.out] at ho81)); replace HO279 := Aside0.mk (Kd.R_below (zr HO279.out) hb); have HO282 := Aside0.mk (Kd.R_lower ho81 (below_size (zb0 HB.out))); replace HB := Aside0.mk (below_step (zb0 HB.out) hb); clear hb ho81; obtain ⟨Ao82, co82, eo82⟩ := Kd.R_slice HO282.out; subst eo82; obtain ⟨Ao83, co83, eo83⟩ := Kd.R_slice HO279.out; subst eo83) | ((with_reducible refine gate_dst (N := 1) rfl ?_); (try (refine gate_guard (by rfl) ?_; dsimp only)); refine box_event ?hg (N := 1) ?hd (cs := #[.slice none 0 0, .slice none 0 0]) (t := 25) ?hr ?_; (case hd => rfl); (case hg => rfl); (case hr => first | (go_simp; done) | (go_simp; rfl)); intro gb283 hg w84 hbox hb; replace HO279 := Aside0.mk (Kd.R_below (zr HO279.out) hb); replace HO282 := Aside0.mk (Kd.R_below (zr HO282.out) hb); have BK283 := Aside0.mk (hbox); have GW283 := Aside0.mk ((by rw [hg]; exact (below_size (zb0 HB.out)) : w.heap.size ≤ gb283)); have GE283 := Aside0.mk ((by rw [hg]; exact (below_size (zb0 HB.out)) : w.heap.size ≤ gb283)); replace HB := Aside0.mk (below_step (zb0 HB.out) hb); clear hb hbox hg; have hcz85_0 : w84.cell? ⟨gb283, 0, none⟩ = some (.slice none 0 0) := (blk_cell BK283.out 0).trans rfl; have hcz85_1 : w84.cell? ⟨gb283, 1, none⟩ = some (.slice none 0 0) := (blk_cell BK283.out 1).trans rfl; have hfz85_0 := blk_frozen BK283.out 0; have hfz85_1 := blk_frozen BK283.out 1) | ((with_reducible refine gate_callee (f := 13) rfl ?_); refine goesL_ (some 19) rfl rfl Try.func13 (by kernel_rfl) rfl #[.agg #[.slice Ao83 y277.length co83, .slice Ao82 y280.length co82], .slice none 0 0, .int .i64 2] rfl am ?_; (refine (route_Table.calls k _ _ y277 _ _ y280 _ _ ([] : List Int) 2 t284 t287 _ ?side1 ?side2 ?side3 ?side4 ?side5 ?side6 A1.out).mono ?_); (case side1 => refine (Kd.R_reads' (e := 47) (base := w.heap.size) (ok := fun k_ => True) (n := y277.length) (c := co83) ?_).2.2; exact (by (with_reducible repeat (first | apply Kd.R_alloc | apply Kd.R_drewN | apply Kd.R_drew)); exact (Kd.R_mono (Kd.R_far (p := ⟨gb283, 1, none⟩) (Kd.R_far (p := ⟨gb283, 0, none⟩) (Kd.R_types HO279.out BK283.out (by decide)) (fun _ hk => hk.2) (.slice Ao83 y277.length co83)) (fun _ hk => hk.2) (.slice Ao82 y280.length co82)) (fun _ h_ => h_.1)))); (case side2 => exact (Kd.R_reads' HO279.out).2.1); (case side3 => refine (Kd.R_reads' (e := 38) (base := w.heap.size) (ok := fun k_ => True) (n := y280.length) (c := co82) ?_).2.2; exact (by (with_reducible repeat (first | apply Kd.R_alloc | apply Kd.R_drewN | apply Kd.R_drew)); exact (Kd.R_mono (Kd.R_far (p := ⟨gb283, 1, none⟩) (Kd.R_far (p := ⟨gb283, 0, none⟩) (Kd.R_types HO282.out BK283.out (by decide)) (fun _ hk => hk.2) (.slice Ao83 y277.length co83)) (fun _ hk => hk.2) (.slice Ao82 y280.length co82)) (fun _ h_ => h_.1)))); (case side4 => exact (Kd.R_reads' HO282.out).2.1); (case side5 => exact Kd.C_nil _ _); (case side6 => exact Nat.le_refl _); rintro e w86 ⟨v285, rfl, ho0, hb⟩; refine ⟨_, rfl, ?_⟩; replace HO279 := Aside0.mk (Kd.R_below (by (with_reducible repeat (first | apply Kd.R_alloc | apply Kd.R_drewN | apply Kd.R_drew)); exact (Kd.R_mono (Kd.R_far (p := ⟨gb283, 1, none⟩) (Kd.R_far (p := ⟨gb283, 0, none⟩) (Kd.R_types HO279.out BK283.out (by decide)) (fun _ hk => hk.2) (.slice Ao83 y277.length co83)) (fun _ hk => hk.2) (.slice Ao82 y280.length co82)) (fun _ h_ => h_.1))) hb); replace HO282 := Aside0.mk (Kd.R_below (by (with_reducible repeat (first | apply Kd.R_alloc | apply Kd.R_drewN | apply Kd.R_drew)); exact (Kd.R_mono (Kd.R_far (p := ⟨gb283, 1, none⟩) (Kd.R_far (p := ⟨gb283, 0, none⟩) (Kd.R_types HO282.out BK283.out (by decide)) (fun _ hk => hk.2) (.slice Ao83 y277.length co83)) (fun _ hk => hk.2) (.slice Ao82 y280.length co82)) (fun _ h_ => h_.1))) hb); have HO286 := Aside0.mk (Kd.R_lower ho0 (below_size (zb1 HB.out GE283.out))); replace BK283 := Aside0.mk (blk_below (g := gb283) (o := .cells #[.slice Ao83 y277.length co83, .slice Ao82 y280.length co82] 25 (0, 0)) (by (with_reducible repeat (first | refine blk_drewN ?_ _ | refine blk_drew ?_ | refine blk_alloc ?_ _)); refine blk_put (cs := #[.slice Ao83 y277.length co83, .slice none 0 0]) ?_ 1 _ rfl; (with_reducible repeat (first | refine blk_drewN ?_ _ | refine blk_drew ?_ | refine blk_alloc ?_ _)); refine blk_put (cs := #[.slice none 0 0, .slice none 0 0]) ?_ 0 _ rfl; (with_reducible repeat (first | refine blk_drewN ?_ _ | refine blk_drew ?_ | refine blk_alloc ?_ _)); exact BK283.out) hb); replace HB := Aside0.mk (below_step (zb1 HB.out GE283.out) hb); (try clear hb); (try clear ho0); have hcz87_0 : w86.cell? ⟨gb283, 0, none⟩ = some (.slice Ao83 y277.length co83) := (blk_cell BK283.out 0).trans rfl; have hcz87_1 : w86.cell? ⟨gb283, 1, none⟩ = some (.slice Ao82 y280.length co82) := (blk_cell BK283.out 1).trans rfl; have hfz87_0 := blk_frozen BK283.out 0; have hfz87_1 := blk_frozen BK283.out 1) | ((with_reducible refine gate_callee (f := 20) rfl ?_); refine goesL_ (some 24) rfl rfl Try.func20 (by kernel_rfl) rfl #[.agg #[.slice Ao83 y277.length co83, .slice Ao82 y280.length co82], .slice none 0 0, .int .i64 0] rfl am ?_; (refine (route_Loop.calls k _ _ y277 _ _ y280 _ _ ([] : List Int) 0 t288 t291 _ ?side1 ?side2 ?side3 ?side4 ?side5 ?side6 A2.out).mono ?_); (case side1 => exact zd (Kd.R_reads' HO279.out).2.2); (case side2 => exact (Kd.R_reads' HO279.out).2.1); (case side3 => exact zd (Kd.R_reads' HO282.out).2.2); (case side4 => exact (Kd.R_reads' HO282.out).2.1); (case side5 => exact Kd.C_nil _ _); (case side6 => exact Nat.le_refl _); rintro e w88 ⟨v289, rfl, ho0, hb⟩; refine ⟨_, rfl, ?_⟩; replace HO279 := Aside0.mk (Kd.R_below (zr HO279.out) hb); replace HO282 := Aside0.mk (Kd.R_below (zr HO282.out) hb); have HO290 := Aside0.mk (Kd.R_lower (Kd.R_new' ho0 (Kd.R_lt (zr HO286.out))) (below_size (zb1 HB.out GE283.out))); replace HO286 := Aside0.mk (Kd.R_elder' (zr HO286.out) (Kd.R_base ho0) hb); replace BK283 := Aside0.mk (blk_below (g := gb283) (o := .cells #[.slice Ao83 y277.length co83, .slice Ao82 y280.length co82] 25 (0, 0)) (zk BK283.out) hb); replace HB := Aside0.mk (below_step (zb1 HB.out GE283.out) hb); (try clear hb); (try clear ho0); have hcz89_0 : w88.cell? ⟨gb283, 0, none⟩ = some (.slice Ao83 y277.length co83) := (blk_cell BK283.out 0).trans rfl; have hcz89_1 : w88.cell? ⟨gb283, 1, none⟩ = some (.slice Ao82 y280.length co82) := (blk_cell BK283.out 1).trans rfl; have hfz89_0 := blk_frozen BK283.out 0; have hfz89_1 := blk_frozen BK283.out 1) | ((with_reducible refine gate_dst (N := 29) rfl ?_); (try (refine gate_guard (by rfl) ?_; dsimp only)); refine Kd.R_lit (Kd.int .i64) _ 3 ?hg (N := 29) ?hd (xs := ([1] : List Int)) (inner := [.int .i64 1]) (ok := fun _ => True) (okp := fun _ => True) ?hr ?hp (fun _ hk => hk) trivial (Below.refl _ _) (Nat.le_refl _) (by simp) ?_; (case hd => rfl); (case hg => rfl); (case hr => first | (go_simp; done) | (go_simp; rfl)); (case hp => exact (Reps.one (show Kd.M (Kd.int .i64) _ _ _ 1 [.int .i64 1] from rfl) (Reps.none _ _))); intro v293 w90 ho91 hb hg_ hnew_; clear hg_ hnew_; (first | rw [← Ny292.out] at ho91 | (simp only [Int.reduceToNat] at ho91; rw [← Ny292.out] at ho91)); replace HO279 := Aside0.mk (Kd.R_below (zr HO279.out) hb); replace HO282 := Aside0.mk (Kd.R_below (zr HO282.out) hb); have HO294 := Aside0.mk (Kd.R_lower (Kd.R_new' (Kd.R_new' ho91 (Kd.R_lt (zr HO286.out))) (Kd.R_lt (zr HO290.out))) (below_size (zb1 HB.out GE283.out))); replace HO286 := Aside0.mk (Kd.R_elder' (zr HO286.out) (Kd.R_base ho91) hb); replace HO290 := Aside0.mk (Kd.R_elder' (zr HO290.out) (Kd.R_base ho91) hb); replace BK283 := Aside0.mk (blk_below (g := gb283) (o := .cells #[.slice Ao83 y277.length co83, .slice Ao82 y280.length co82] 25 (0, 0)) (zk BK283.out) hb); replace HB := Aside0.mk (below_step (zb1 HB.out GE283.out) hb); clear hb ho91; obtain ⟨Ao92, co92, eo92⟩ := Kd.R_slice HO294.out; subst eo92) | ((with_reducible refine gate_callee (f := 19) rfl ?_); refine goesL_ (some 30) rfl rfl Try.func19 (by kernel_rfl) rfl #[.agg #[.slice Ao83 y277.length co83, .slice Ao82 y280.length co82], .slice none 0 0, .int .i64 0, .int .i64 2, .slice Ao92 y292.length co92] rfl am ?_; (refine (route_Around.calls k _ _ y277 _ _ y280 _ _ ([] : List Int) 0 2 _ _ y292 t295 t298 _ ?side1 ?side2 ?side3 ?side4 ?side5 ?side6 ?side7 ?side8 A3.out).mono ?_); (case side1 => exact zd (Kd.R_reads' HO279.out).2.2); (case side2 => exact (Kd.R_reads' HO279.out).2.1); (case side3 => exact zd (Kd.R_reads' HO282.out).2.2); (case side4 => exact (Kd.R_reads' HO282.out).2.1); (case side5 => exact Kd.C_nil _ _); (case side6 => exact Nat.le_refl _); (case side7 => exact zd (Kd.R_reads' HO294.out).2.2); (case side8 => exact (Kd.R_reads' HO294.out).2.1); rintro e w93 ⟨v296, rfl, ho0, hb⟩; refine ⟨_, rfl, ?_⟩; replace HO279 := Aside0.mk (Kd.R_below (zr HO279.out) hb); replace HO282 := Aside0.mk (Kd.R_below (zr HO282.out) hb); have HO297 := Aside0.mk (Kd.R_lower (Kd.R_new' (Kd.R_new' (Kd.R_new' ho0 (Kd.R_lt (zr HO286.out))) (Kd.R_lt (zr HO290.out))) (Kd.R_lt (zr HO294.out))) (below_size (zb1 HB.out GE283.out))); replace HO286 := Aside0.mk (Kd.R_elder' (zr HO286.out) (Kd.R_base ho0) hb); replace HO290 := Aside0.mk (Kd.R_elder' (zr HO290.out) (Kd.R_base ho0) hb); replace HO294 := Aside0.mk (Kd.R_elder' (zr HO294.out) (Kd.R_base ho0) hb); replace BK283 := Aside0.mk (blk_below (g := gb283) (o := .cells #[.slice Ao83 y277.length co83, .slice Ao82 y280.length co82] 25 (0, 0)) (zk BK283.out) hb); replace HB := Aside0.mk (below_step (zb1 HB.out GE283.out) hb); (try clear hb); (try clear ho0)) | ((with_reducible refine gate_dst (N := 37) rfl ?_); (try (refine gate_guard (by rfl) ?_; dsimp only)); refine Kd.R_lit (Kd.int .i64) _ 3 ?hg (N := 37) ?hd (xs := ([1, 2, 0] : List Int)) (inner := [.int .i64 1, .int .i64 2, .int .i64 0]) (ok := fun _ => True) (okp := fun _ => True) ?hr ?hp (fun _ hk => hk) trivial (Below.refl _ _) (Nat.le_refl _) (by simp) ?_; (case hd => rfl); (case hg => rfl); (case hr => first | (go_simp; done) | (go_simp; rfl)); (case hp => exact (Reps.one (show Kd.M (Kd.int .i64) _ _ _ 1 [.int .i64 1] from rfl) (Reps.one (show Kd.M (Kd.int .i64) _ _ _ 2 [.int .i64 2] from rfl) (Reps.one (show Kd.M (Kd.int .i64) _ _ _ 0 [.int .i64 0] from rfl) (Reps.none _ _))))); intro v300 w94 ho95 hb hg_ hnew_; clear hg_ hnew_; (first | rw [← Ny299.out] at ho95 | (simp only [Int.reduceToNat] at ho95; rw [← Ny299.out] at ho95)); replace HO279 := Aside0.mk (Kd.R_below (zr HO279.out) hb); replace HO282 := Aside0.mk (Kd.R_below (zr HO282.out) hb); have HO301 := Aside0.mk (Kd.R_lower (Kd.R_new' (Kd.R_new' (Kd.R_new' (Kd.R_new' ho95 (Kd.R_lt (zr HO286.out))) (Kd.R_lt (zr HO290.out))) (Kd.R_lt (zr HO294.out))) (Kd.R_lt (zr HO297.out))) (below_size (zb1 HB.out GE283.out))); replace HO286 := Aside0.mk (Kd.R_elder' (zr HO286.out) (Kd.R_base ho95) hb); replace HO290 := Aside0.mk (Kd.R_elder' (zr HO290.out) (Kd.R_base ho95) hb); replace HO294 := Aside0.mk (Kd.R_elder' (zr HO294.out) (Kd.R_base ho95) hb); replace HO297 := Aside0.mk (Kd.R_elder' (zr HO297.out) (Kd.R_base ho95) hb); replace BK283 := Aside0.mk (blk_below (g := gb283) (o := .cells #[.slice Ao83 y277.length co83, .slice Ao82 y280.length co82] 25 (0, 0)) (zk BK283.out) hb); replace HB := Aside0.mk (below_step (zb1 HB.out GE283.out) hb); clear hb ho95; obtain ⟨Ao96, co96, eo96⟩ := Kd.R_slice HO286.out; subst eo96; obtain ⟨Ao97, co97, eo97⟩ := Kd.R_slice HO301.out; subst eo97) | (go_at_call 15; (with_reducible refine (stillageref01_Ints.calls k _ _ t284 _ _ y299 false _ ?side1 ?side2 ?side3 ?side4 A5.out).mono ?_); (case side1 => exact zd (Kd.R_reads' HO286.out).2.2); (case side2 => exact (Kd.R_reads' HO286.out).2.1); (case side3 => exact zd (Kd.R_reads' HO301.out).2.2); (case side4 => exact (Kd.R_reads' HO301.out).2.1); rintro e w' ⟨rfl, ⟨nd, rfl⟩⟩))
  go_ret
  exact ⟨by first | rfl | (simp [errW_none, errW_some] <;> rfl) | (simp [*, errW_none, errW_some] <;> rfl), zb1 HB.out GE283.out⟩
 subst c6
 have H1 : (if t291 = 0 then ((stillageref01_Ints.f k t288 (([1, 2, 3] : List Int))).bind fun t306 => (if t306 = true then (some (t298 == 80)) else (some false))) else (some false)) = some r := by rw [if_pos rfl] at H; exact H
 clear H; have H := H1; clear H1
 by_cases c7 : t291 = 0
 rotate_left
 ·rw [if_neg c7] at H
  have c7b0 : (t291 == 0) = false := beq_eq_false_iff_ne.mpr c7
  have c7b1 : (t291 != 0) = true := bne_iff_ne.mpr c7
  obtain rfl := Option.some.inj H
  go_enter Try.func10, Try.ntmps10
  go_wp2_with (first | ((with_reducible refine gate_dst (N := 11) rfl ?_); (try (refine gate_guard (by rfl) ?_; dsimp only)); refine Kd.R_lit k47 _ 47 ?hg (N := 11) ?hd (xs := ([(⟨(⟨#[97]⟩ : ByteArray), 1, 0⟩ : S47), (⟨(⟨#[98]⟩ : ByteArray), 1, 0⟩ : S47), (⟨(⟨#[99]⟩ : ByteArray), 1, 0⟩ : S47)] : List (S47))) (inner := [.string (⟨#[97]⟩ : ByteArray), .int .i64 1, .int .i64 0, .string (⟨#[98]⟩ : ByteArray), .int .i64 1, .int .i64 0, .string (⟨#[99]⟩ : ByteArray), .int .i64 1, .int .i64 0]) (ok := fun _ => True) (okp := fun _ => True) ?hr ?hp (fun _ hk => hk) trivial (Below.refl _ _) (Nat.le_refl _) (by simp) ?_; (case hd => rfl); (case hg => rfl); (case hr => first | (go_simp; done) | (go_simp; rfl)); (case hp => exact (Reps.c3 (show Kd.M k47 _ _ _ (⟨(⟨#[97]⟩ : ByteArray), 1, 0⟩ : S47) [.string (⟨#[97]⟩ : ByteArray), .int .i64 1, .int .i64 0] from (k47_mkM _ _ _ (⟨(⟨#[97]⟩ : ByteArray), 1, 0⟩ : S47) )) (Reps.c3 (show Kd.M k47 _ _ _ (⟨(⟨#[98]⟩ : ByteArray), 1, 0⟩ : S47) [.string (⟨#[98]⟩ : ByteArray), .int .i64 1, .int .i64 0] from (k47_mkM _ _ _ (⟨(⟨#[98]⟩ : ByteArray), 1, 0⟩ : S47) )) (Reps.c3 (show Kd.M k47 _ _ _ (⟨(⟨#[99]⟩ : ByteArray), 1, 0⟩ : S47) [.string (⟨#[99]⟩ : ByteArray), .int .i64 1, .int .i64 0] from (k47_mkM _ _ _ (⟨(⟨#[99]⟩ : ByteArray), 1, 0⟩ : S47) )) (Reps.none _ _))))); intro v278 w58 ho59 hb hg_ hnew_; clear hg_ hnew_; (first | rw [← Ny277.out] at ho59 | (simp only [Int.reduceToNat] at ho59; rw [← Ny277.out] at ho59)); have HO279 := Aside0.mk (Kd.R_lower ho59 (below_size (zb0 HB.out))); replace HB := Aside0.mk (below_step (zb0 HB.out) hb); clear hb ho59) | ((with_reducible refine gate_dst (N := 15) rfl ?_); (try (refine gate_guard (by rfl) ?_; dsimp only)); refine Kd.R_lit k38 _ 38 ?hg (N := 15) ?hd (xs := ([(⟨0, 1⟩ : S38), (⟨1, 2⟩ : S38), (⟨2, 0⟩ : S38)] : List (S38))) (inner := [.int .i64 0, .int .i64 1, .int .i64 1, .int .i64 2, .int .i64 2, .int .i64 0]) (ok := fun _ => True) (okp := fun _ => True) ?hr ?hp (fun _ hk => hk) trivial (Below.refl _ _) (Nat.le_refl _) (by simp) ?_; (case hd => rfl); (case hg => rfl); (case hr => first | (go_simp; done) | (go_simp; rfl)); (case hp => exact (Reps.c2 (show Kd.M k38 _ _ _ (⟨0, 1⟩ : S38) [.int .i64 0, .int .i64 1] from (k38_mkM _ _ _ (⟨0, 1⟩ : S38) )) (Reps.c2 (show Kd.M k38 _ _ _ (⟨1, 2⟩ : S38) [.int .i64 1, .int .i64 2] from (k38_mkM _ _ _ (⟨1, 2⟩ : S38) )) (Reps.c2 (show Kd.M k38 _ _ _ (⟨2, 0⟩ : S38) [.int .i64 2, .int .i64 0] from (k38_mkM _ _ _ (⟨2, 0⟩ : S38) )) (Reps.none _ _))))); intro v281 w60 ho61 hb hg_ hnew_; clear hg_ hnew_; (first | rw [← Ny280.out] at ho61 | (simp only [Int.reduceToNat] at ho61; rw [← Ny280.out] at ho61)); replace HO279 := Aside0.mk (Kd.R_below (zr HO279.out) hb); have HO282 := Aside0.mk (Kd.R_lower ho61 (below_size (zb0 HB.out))); replace HB := Aside0.mk (below_step (zb0 HB.out) hb); clear hb ho61; obtain ⟨Ao62, co62, eo62⟩ := Kd.R_slice HO282.out; subst eo62; obtain ⟨Ao63, co63, eo63⟩ := Kd.R_slice HO279.out; subst eo63) | ((with_reducible refine gate_dst (N := 1) rfl ?_); (try (refine gate_guard (by rfl) ?_; dsimp only)); refine box_event ?hg (N := 1) ?hd (cs := #[.slice none 0 0, .slice none 0 0]) (t := 25) ?hr ?_; (case hd => rfl); (case hg => rfl); (case hr => first | (go_simp; done) | (go_simp; rfl)); intro gb283 hg w64 hbox hb; replace HO279 := Aside0.mk (Kd.R_below (zr HO279.out) hb); replace HO282 := Aside0.mk (Kd.R_below (zr HO282.out) hb); have BK283 := Aside0.mk (hbox); have GW283 := Aside0.mk ((by rw [hg]; exact (below_size (zb0 HB.out)) : w.heap.size ≤ gb283)); have GE283 := Aside0.mk ((by rw [hg]; exact (below_size (zb0 HB.out)) : w.heap.size ≤ gb283)); replace HB := Aside0.mk (below_step (zb0 HB.out) hb); clear hb hbox hg; have hcz65_0 : w64.cell? ⟨gb283, 0, none⟩ = some (.slice none 0 0) := (blk_cell BK283.out 0).trans rfl; have hcz65_1 : w64.cell? ⟨gb283, 1, none⟩ = some (.slice none 0 0) := (blk_cell BK283.out 1).trans rfl; have hfz65_0 := blk_frozen BK283.out 0; have hfz65_1 := blk_frozen BK283.out 1) | ((with_reducible refine gate_callee (f := 13) rfl ?_); refine goesL_ (some 19) rfl rfl Try.func13 (by kernel_rfl) rfl #[.agg #[.slice Ao63 y277.length co63, .slice Ao62 y280.length co62], .slice none 0 0, .int .i64 2] rfl am ?_; (refine (route_Table.calls k _ _ y277 _ _ y280 _ _ ([] : List Int) 2 t284 t287 _ ?side1 ?side2 ?side3 ?side4 ?side5 ?side6 A1.out).mono ?_); (case side1 => refine (Kd.R_reads' (e := 47) (base := w.heap.size) (ok := fun k_ => True) (n := y277.length) (c := co63) ?_).2.2; exact (by (with_reducible repeat (first | apply Kd.R_alloc | apply Kd.R_drewN | apply Kd.R_drew)); exact (Kd.R_mono (Kd.R_far (p := ⟨gb283, 1, none⟩) (Kd.R_far (p := ⟨gb283, 0, none⟩) (Kd.R_types HO279.out BK283.out (by decide)) (fun _ hk => hk.2) (.slice Ao63 y277.length co63)) (fun _ hk => hk.2) (.slice Ao62 y280.length co62)) (fun _ h_ => h_.1)))); (case side2 => exact (Kd.R_reads' HO279.out).2.1); (case side3 => refine (Kd.R_reads' (e := 38) (base := w.heap.size) (ok := fun k_ => True) (n := y280.length) (c := co62) ?_).2.2; exact (by (with_reducible repeat (first | apply Kd.R_alloc | apply Kd.R_drewN | apply Kd.R_drew)); exact (Kd.R_mono (Kd.R_far (p := ⟨gb283, 1, none⟩) (Kd.R_far (p := ⟨gb283, 0, none⟩) (Kd.R_types HO282.out BK283.out (by decide)) (fun _ hk => hk.2) (.slice Ao63 y277.length co63)) (fun _ hk => hk.2) (.slice Ao62 y280.length co62)) (fun _ h_ => h_.1)))); (case side4 => exact (Kd.R_reads' HO282.out).2.1); (case side5 => exact Kd.C_nil _ _); (case side6 => exact Nat.le_refl _); rintro e w66 ⟨v285, rfl, ho0, hb⟩; refine ⟨_, rfl, ?_⟩; replace HO279 := Aside0.mk (Kd.R_below (by (with_reducible repeat (first | apply Kd.R_alloc | apply Kd.R_drewN | apply Kd.R_drew)); exact (Kd.R_mono (Kd.R_far (p := ⟨gb283, 1, none⟩) (Kd.R_far (p := ⟨gb283, 0, none⟩) (Kd.R_types HO279.out BK283.out (by decide)) (fun _ hk => hk.2) (.slice Ao63 y277.length co63)) (fun _ hk => hk.2) (.slice Ao62 y280.length co62)) (fun _ h_ => h_.1))) hb); replace HO282 := Aside0.mk (Kd.R_below (by (with_reducible repeat (first | apply Kd.R_alloc | apply Kd.R_drewN | apply Kd.R_drew)); exact (Kd.R_mono (Kd.R_far (p := ⟨gb283, 1, none⟩) (Kd.R_far (p := ⟨gb283, 0, none⟩) (Kd.R_types HO282.out BK283.out (by decide)) (fun _ hk => hk.2) (.slice Ao63 y277.length co63)) (fun _ hk => hk.2) (.slice Ao62 y280.length co62)) (fun _ h_ => h_.1))) hb); have HO286 := Aside0.mk (Kd.R_lower ho0 (below_size (zb1 HB.out GE283.out))); replace BK283 := Aside0.mk (blk_below (g := gb283) (o := .cells #[.slice Ao63 y277.length co63, .slice Ao62 y280.length co62] 25 (0, 0)) (by (with_reducible repeat (first | refine blk_drewN ?_ _ | refine blk_drew ?_ | refine blk_alloc ?_ _)); refine blk_put (cs := #[.slice Ao63 y277.length co63, .slice none 0 0]) ?_ 1 _ rfl; (with_reducible repeat (first | refine blk_drewN ?_ _ | refine blk_drew ?_ | refine blk_alloc ?_ _)); refine blk_put (cs := #[.slice none 0 0, .slice none 0 0]) ?_ 0 _ rfl; (with_reducible repeat (first | refine blk_drewN ?_ _ | refine blk_drew ?_ | refine blk_alloc ?_ _)); exact BK283.out) hb); replace HB := Aside0.mk (below_step (zb1 HB.out GE283.out) hb); (try clear hb); (try clear ho0); have hcz67_0 : w66.cell? ⟨gb283, 0, none⟩ = some (.slice Ao63 y277.length co63) := (blk_cell BK283.out 0).trans rfl; have hcz67_1 : w66.cell? ⟨gb283, 1, none⟩ = some (.slice Ao62 y280.length co62) := (blk_cell BK283.out 1).trans rfl; have hfz67_0 := blk_frozen BK283.out 0; have hfz67_1 := blk_frozen BK283.out 1) | ((with_reducible refine gate_callee (f := 20) rfl ?_); refine goesL_ (some 24) rfl rfl Try.func20 (by kernel_rfl) rfl #[.agg #[.slice Ao63 y277.length co63, .slice Ao62 y280.length co62], .slice none 0 0, .int .i64 0] rfl am ?_; (refine (route_Loop.calls k _ _ y277 _ _ y280 _ _ ([] : List Int) 0 t288 t291 _ ?side1 ?side2 ?side3 ?side4 ?side5 ?side6 A2.out).mono ?_); (case side1 => exact zd (Kd.R_reads' HO279.out).2.2); (case side2 => exact (Kd.R_reads' HO279.out).2.1); (case side3 => exact zd (Kd.R_reads' HO282.out).2.2); (case side4 => exact (Kd.R_reads' HO282.out).2.1); (case side5 => exact Kd.C_nil _ _); (case side6 => exact Nat.le_refl _); rintro e w68 ⟨v289, rfl, ho0, hb⟩; refine ⟨_, rfl, ?_⟩; replace HO279 := Aside0.mk (Kd.R_below (zr HO279.out) hb); replace HO282 := Aside0.mk (Kd.R_below (zr HO282.out) hb); have HO290 := Aside0.mk (Kd.R_lower (Kd.R_new' ho0 (Kd.R_lt (zr HO286.out))) (below_size (zb1 HB.out GE283.out))); replace HO286 := Aside0.mk (Kd.R_elder' (zr HO286.out) (Kd.R_base ho0) hb); replace BK283 := Aside0.mk (blk_below (g := gb283) (o := .cells #[.slice Ao63 y277.length co63, .slice Ao62 y280.length co62] 25 (0, 0)) (zk BK283.out) hb); replace HB := Aside0.mk (below_step (zb1 HB.out GE283.out) hb); (try clear hb); (try clear ho0); have hcz69_0 : w68.cell? ⟨gb283, 0, none⟩ = some (.slice Ao63 y277.length co63) := (blk_cell BK283.out 0).trans rfl; have hcz69_1 : w68.cell? ⟨gb283, 1, none⟩ = some (.slice Ao62 y280.length co62) := (blk_cell BK283.out 1).trans rfl; have hfz69_0 := blk_frozen BK283.out 0; have hfz69_1 := blk_frozen BK283.out 1) | ((with_reducible refine gate_dst (N := 29) rfl ?_); (try (refine gate_guard (by rfl) ?_; dsimp only)); refine Kd.R_lit (Kd.int .i64) _ 3 ?hg (N := 29) ?hd (xs := ([1] : List Int)) (inner := [.int .i64 1]) (ok := fun _ => True) (okp := fun _ => True) ?hr ?hp (fun _ hk => hk) trivial (Below.refl _ _) (Nat.le_refl _) (by simp) ?_; (case hd => rfl); (case hg => rfl); (case hr => first | (go_simp; done) | (go_simp; rfl)); (case hp => exact (Reps.one (show Kd.M (Kd.int .i64) _ _ _ 1 [.int .i64 1] from rfl) (Reps.none _ _))); intro v293 w70 ho71 hb hg_ hnew_; clear hg_ hnew_; (first | rw [← Ny292.out] at ho71 | (simp only [Int.reduceToNat] at ho71; rw [← Ny292.out] at ho71)); replace HO279 := Aside0.mk (Kd.R_below (zr HO279.out) hb); replace HO282 := Aside0.mk (Kd.R_below (zr HO282.out) hb); have HO294 := Aside0.mk (Kd.R_lower (Kd.R_new' (Kd.R_new' ho71 (Kd.R_lt (zr HO286.out))) (Kd.R_lt (zr HO290.out))) (below_size (zb1 HB.out GE283.out))); replace HO286 := Aside0.mk (Kd.R_elder' (zr HO286.out) (Kd.R_base ho71) hb); replace HO290 := Aside0.mk (Kd.R_elder' (zr HO290.out) (Kd.R_base ho71) hb); replace BK283 := Aside0.mk (blk_below (g := gb283) (o := .cells #[.slice Ao63 y277.length co63, .slice Ao62 y280.length co62] 25 (0, 0)) (zk BK283.out) hb); replace HB := Aside0.mk (below_step (zb1 HB.out GE283.out) hb); clear hb ho71; obtain ⟨Ao72, co72, eo72⟩ := Kd.R_slice HO294.out; subst eo72) | ((with_reducible refine gate_callee (f := 19) rfl ?_); refine goesL_ (some 30) rfl rfl Try.func19 (by kernel_rfl) rfl #[.agg #[.slice Ao63 y277.length co63, .slice Ao62 y280.length co62], .slice none 0 0, .int .i64 0, .int .i64 2, .slice Ao72 y292.length co72] rfl am ?_; (refine (route_Around.calls k _ _ y277 _ _ y280 _ _ ([] : List Int) 0 2 _ _ y292 t295 t298 _ ?side1 ?side2 ?side3 ?side4 ?side5 ?side6 ?side7 ?side8 A3.out).mono ?_); (case side1 => exact zd (Kd.R_reads' HO279.out).2.2); (case side2 => exact (Kd.R_reads' HO279.out).2.1); (case side3 => exact zd (Kd.R_reads' HO282.out).2.2); (case side4 => exact (Kd.R_reads' HO282.out).2.1); (case side5 => exact Kd.C_nil _ _); (case side6 => exact Nat.le_refl _); (case side7 => exact zd (Kd.R_reads' HO294.out).2.2); (case side8 => exact (Kd.R_reads' HO294.out).2.1); rintro e w73 ⟨v296, rfl, ho0, hb⟩; refine ⟨_, rfl, ?_⟩; replace HO279 := Aside0.mk (Kd.R_below (zr HO279.out) hb); replace HO282 := Aside0.mk (Kd.R_below (zr HO282.out) hb); have HO297 := Aside0.mk (Kd.R_lower (Kd.R_new' (Kd.R_new' (Kd.R_new' ho0 (Kd.R_lt (zr HO286.out))) (Kd.R_lt (zr HO290.out))) (Kd.R_lt (zr HO294.out))) (below_size (zb1 HB.out GE283.out))); replace HO286 := Aside0.mk (Kd.R_elder' (zr HO286.out) (Kd.R_base ho0) hb); replace HO290 := Aside0.mk (Kd.R_elder' (zr HO290.out) (Kd.R_base ho0) hb); replace HO294 := Aside0.mk (Kd.R_elder' (zr HO294.out) (Kd.R_base ho0) hb); replace BK283 := Aside0.mk (blk_below (g := gb283) (o := .cells #[.slice Ao63 y277.length co63, .slice Ao62 y280.length co62] 25 (0, 0)) (zk BK283.out) hb); replace HB := Aside0.mk (below_step (zb1 HB.out GE283.out) hb); (try clear hb); (try clear ho0)) | ((with_reducible refine gate_dst (N := 37) rfl ?_); (try (refine gate_guard (by rfl) ?_; dsimp only)); refine Kd.R_lit (Kd.int .i64) _ 3 ?hg (N := 37) ?hd (xs := ([1, 2, 0] : List Int)) (inner := [.int .i64 1, .int .i64 2, .int .i64 0]) (ok := fun _ => True) (okp := fun _ => True) ?hr ?hp (fun _ hk => hk) trivial (Below.refl _ _) (Nat.le_refl _) (by simp) ?_; (case hd => rfl); (case hg => rfl); (case hr => first | (go_simp; done) | (go_simp; rfl)); (case hp => exact (Reps.one (show Kd.M (Kd.int .i64) _ _ _ 1 [.int .i64 1] from rfl) (Reps.one (show Kd.M (Kd.int .i64) _ _ _ 2 [.int .i64 2] from rfl) (Reps.one (show Kd.M (Kd.int .i64) _ _ _ 0 [.int .i64 0] from rfl) (Reps.none _ _))))); intro v300 w74 ho75 hb hg_ hnew_; clear hg_ hnew_; (first | rw [← Ny299.out] at ho75 | (simp only [Int.reduceToNat] at ho75; rw [← Ny299.out] at ho75)); replace HO279 := Aside0.mk (Kd.R_below (zr HO279.out) hb); replace HO282 := Aside0.mk (Kd.R_below (zr HO282.out) hb); have HO301 := Aside0.mk (Kd.R_lower (Kd.R_new' (Kd.R_new' (Kd.R_new' (Kd.R_new' ho75 (Kd.R_lt (zr HO286.out))) (Kd.R_lt (zr HO290.out))) (Kd.R_lt (zr HO294.out))) (Kd.R_lt (zr HO297.out))) (below_size (zb1 HB.out GE283.out))); replace HO286 := Aside0.mk (Kd.R_elder' (zr HO286.out) (Kd.R_base ho75) hb); replace HO290 := Aside0.mk (Kd.R_elder' (zr HO290.out) (Kd.R_base ho75) hb); replace HO294 := Aside0.mk (Kd.R_elder' (zr HO294.out) (Kd.R_base ho75) hb); replace HO297 := Aside0.mk (Kd.R_elder' (zr HO297.out) (Kd.R_base ho75) hb); replace BK283 := Aside0.mk (blk_below (g := gb283) (o := .cells #[.slice Ao63 y277.length co63, .slice Ao62 y280.length co62] 25 (0, 0)) (zk BK283.out) hb); replace HB := Aside0.mk (below_step (zb1 HB.out GE283.out) hb); clear hb ho75; obtain ⟨Ao76, co76, eo76⟩ := Kd.R_slice HO286.out; subst eo76; obtain ⟨Ao77, co77, eo77⟩ := Kd.R_slice HO301.out; subst eo77) | (go_at_call 15; (with_reducible refine (stillageref01_Ints.calls k _ _ t284 _ _ y299 true _ ?side1 ?side2 ?side3 ?side4 A5.out).mono ?_); (case side1 => exact zd (Kd.R_reads' HO286.out).2.2); (case side2 => exact (Kd.R_reads' HO286.out).2.1); (case side3 => exact zd (Kd.R_reads' HO301.out).2.2); (case side4 => exact (Kd.R_reads' HO301.out).2.1); rintro e w' ⟨rfl, ⟨nd, rfl⟩⟩))
  go_ret
  exact ⟨by first | rfl | (simp [errW_none, errW_some] <;> rfl) | (simp [*, errW_none, errW_some] <;> rfl), zb1 HB.out GE283.out⟩
 rw [if_pos c7] at H
 have c7b0 : (t291 == 0) = true := beq_iff_eq.mpr c7
 have c7b1 : (t291 != 0) = false := bne_eq_false_iff_eq.mpr c7
 clear c7
 obtain ⟨y303, hy303⟩ : ∃ y_ : List Int, y_ = (([1, 2, 3] : List Int)) := ⟨_, rfl⟩
 replace H : ((stillageref01_Ints.f k t288 y303).bind fun t306 => (if t306 = true then (some (t298 == 80)) else (some false))) = some r := by first | (rw [hy303]; with_reducible exact H) | (have H2_ := (Option.bind_some _ _).symm.trans H; rw [hy303]; with_reducible exact H2_) | (have H2_ := (Option.bind_some _ _).symm.trans H; with_reducible exact H2_) | with_reducible exact H | (rw [hy303]; exact H) | exact H
 have Ny303 := Aside0.mk hy303
 clear hy303
 replace H := Option.bind_eq_some_iff.mp H; obtain ⟨t306, A80, H⟩ := H
 replace H : (if t306 = true then (some (t298 == 80)) else (some false)) = some r := H
 have A8 := Aside0.mk A80
 clear A80
 by_cases c9 : t306 = true
 ·subst c9
  have H1 : (some (t298 == 80)) = some r := by rw [if_pos rfl] at H; exact H
  clear H; have H := H1; clear H1
  obtain rfl := Option.some.inj H
  go_enter Try.func10, Try.ntmps10
  go_wp2_with (first | ((with_reducible refine gate_dst (N := 11) rfl ?_); (try (refine gate_guard (by rfl) ?_; dsimp only)); refine Kd.R_lit k47 _ 47 ?hg (N := 11) ?hd (xs := ([(⟨(⟨#[97]⟩ : ByteArray), 1, 0⟩ : S47), (⟨(⟨#[98]⟩ : ByteArray), 1, 0⟩ : S47), (⟨(⟨#[99]⟩ : ByteArray), 1, 0⟩ : S47)] : List (S47))) (inner := [.string (⟨#[97]⟩ : ByteArray), .int .i64 1, .int .i64 0, .string (⟨#[98]⟩ : ByteArray), .int .i64 1, .int .i64 0, .string (⟨#[99]⟩ : ByteArray), .int .i64 1, .int .i64 0]) (ok := fun _ => True) (okp := fun _ => True) ?hr ?hp (fun _ hk => hk) trivial (Below.refl _ _) (Nat.le_refl _) (by simp) ?_; (case hd => rfl); (case hg => rfl); (case hr => first | (go_simp; done) | (go_simp; rfl)); (case hp => exact (Reps.c3 (show Kd.M k47 _ _ _ (⟨(⟨#[97]⟩ : ByteArray), 1, 0⟩ : S47) [.string (⟨#[97]⟩ : ByteArray), .int .i64 1, .int .i64 0] from (k47_mkM _ _ _ (⟨(⟨#[97]⟩ : ByteArray), 1, 0⟩ : S47) )) (Reps.c3 (show Kd.M k47 _ _ _ (⟨(⟨#[98]⟩ : ByteArray), 1, 0⟩ : S47) [.string (⟨#[98]⟩ : ByteArray), .int .i64 1, .int .i64 0] from (k47_mkM _ _ _ (⟨(⟨#[98]⟩ : ByteArray), 1, 0⟩ : S47) )) (Reps.c3 (show Kd.M k47 _ _ _ (⟨(⟨#[99]⟩ : ByteArray), 1, 0⟩ : S47) [.string (⟨#[99]⟩ : ByteArray), .int .i64 1, .int .i64 0] from (k47_mkM _ _ _ (⟨(⟨#[99]⟩ : ByteArray), 1, 0⟩ : S47) )) (Reps.none _ _))))); intro v278 w10 ho11 hb hg_ hnew_; clear hg_ hnew_; (first | rw [← Ny277.out] at ho11 | (simp only [Int.reduceToNat] at ho11; rw [← Ny277.out] at ho11)); have HO279 := Aside0.mk (Kd.R_lower ho11 (below_size (zb0 HB.out))); replace HB := Aside0.mk (below_step (zb0 HB.out) hb); clear hb ho11) | ((with_reducible refine gate_dst (N := 15) rfl ?_); (try (refine gate_guard (by rfl) ?_; dsimp only)); refine Kd.R_lit k38 _ 38 ?hg (N := 15) ?hd (xs := ([(⟨0, 1⟩ : S38), (⟨1, 2⟩ : S38), (⟨2, 0⟩ : S38)] : List (S38))) (inner := [.int .i64 0, .int .i64 1, .int .i64 1, .int .i64 2, .int .i64 2, .int .i64 0]) (ok := fun _ => True) (okp := fun _ => True) ?hr ?hp (fun _ hk => hk) trivial (Below.refl _ _) (Nat.le_refl _) (by simp) ?_; (case hd => rfl); (case hg => rfl); (case hr => first | (go_simp; done) | (go_simp; rfl)); (case hp => exact (Reps.c2 (show Kd.M k38 _ _ _ (⟨0, 1⟩ : S38) [.int .i64 0, .int .i64 1] from (k38_mkM _ _ _ (⟨0, 1⟩ : S38) )) (Reps.c2 (show Kd.M k38 _ _ _ (⟨1, 2⟩ : S38) [.int .i64 1, .int .i64 2] from (k38_mkM _ _ _ (⟨1, 2⟩ : S38) )) (Reps.c2 (show Kd.M k38 _ _ _ (⟨2, 0⟩ : S38) [.int .i64 2, .int .i64 0] from (k38_mkM _ _ _ (⟨2, 0⟩ : S38) )) (Reps.none _ _))))); intro v281 w12 ho13 hb hg_ hnew_; clear hg_ hnew_; (first | rw [← Ny280.out] at ho13 | (simp only [Int.reduceToNat] at ho13; rw [← Ny280.out] at ho13)); replace HO279 := Aside0.mk (Kd.R_below (zr HO279.out) hb); have HO282 := Aside0.mk (Kd.R_lower ho13 (below_size (zb0 HB.out))); replace HB := Aside0.mk (below_step (zb0 HB.out) hb); clear hb ho13; obtain ⟨Ao14, co14, eo14⟩ := Kd.R_slice HO282.out; subst eo14; obtain ⟨Ao15, co15, eo15⟩ := Kd.R_slice HO279.out; subst eo15) | ((with_reducible refine gate_dst (N := 1) rfl ?_); (try (refine gate_guard (by rfl) ?_; dsimp only)); refine box_event ?hg (N := 1) ?hd (cs := #[.slice none 0 0, .slice none 0 0]) (t := 25) ?hr ?_; (case hd => rfl); (case hg => rfl); (case hr => first | (go_simp; done) | (go_simp; rfl)); intro gb283 hg w16 hbox hb; replace HO279 := Aside0.mk (Kd.R_below (zr HO279.out) hb); replace HO282 := Aside0.mk (Kd.R_below (zr HO282.out) hb); have BK283 := Aside0.mk (hbox); have GW283 := Aside0.mk ((by rw [hg]; exact (below_size (zb0 HB.out)) : w.heap.size ≤ gb283)); have GE283 := Aside0.mk ((by rw [hg]; exact (below_size (zb0 HB.out)) : w.heap.size ≤ gb283)); replace HB := Aside0.mk (below_step (zb0 HB.out) hb); clear hb hbox hg; have hcz17_0 : w16.cell? ⟨gb283, 0, none⟩ = some (.slice none 0 0) := (blk_cell BK283.out 0).trans rfl; have hcz17_1 : w16.cell? ⟨gb283, 1, none⟩ = some (.slice none 0 0) := (blk_cell BK283.out 1).trans rfl; have hfz17_0 := blk_frozen BK283.out 0; have hfz17_1 := blk_frozen BK283.out 1) | ((with_reducible refine gate_callee (f := 13) rfl ?_); refine goesL_ (some 19) rfl rfl Try.func13 (by kernel_rfl) rfl #[.agg #[.slice Ao15 y277.length co15, .slice Ao14 y280.length co14], .slice none 0 0, .int .i64 2] rfl am ?_; (refine (route_Table.calls k _ _ y277 _ _ y280 _ _ ([] : List Int) 2 t284 t287 _ ?side1 ?side2 ?side3 ?side4 ?side5 ?side6 A1.out).mono ?_); (case side1 => refine (Kd.R_reads' (e := 47) (base := w.heap.size) (ok := fun k_ => True) (n := y277.length) (c := co15) ?_).2.2; exact (by (with_reducible repeat (first | apply Kd.R_alloc | apply Kd.R_drewN | apply Kd.R_drew)); exact (Kd.R_mono (Kd.R_far (p := ⟨gb283, 1, none⟩) (Kd.R_far (p := ⟨gb283, 0, none⟩) (Kd.R_types HO279.out BK283.out (by decide)) (fun _ hk => hk.2) (.slice Ao15 y277.length co15)) (fun _ hk => hk.2) (.slice Ao14 y280.length co14)) (fun _ h_ => h_.1)))); (case side2 => exact (Kd.R_reads' HO279.out).2.1); (case side3 => refine (Kd.R_reads' (e := 38) (base := w.heap.size) (ok := fun k_ => True) (n := y280.length) (c := co14) ?_).2.2; exact (by (with_reducible repeat (first | apply Kd.R_alloc | apply Kd.R_drewN | apply Kd.R_drew)); exact (Kd.R_mono (Kd.R_far (p := ⟨gb283, 1, none⟩) (Kd.R_far (p := ⟨gb283, 0, none⟩) (Kd.R_types HO282.out BK283.out (by decide)) (fun _ hk => hk.2) (.slice Ao15 y277.length co15)) (fun _ hk => hk.2) (.slice Ao14 y280.length co14)) (fun _ h_ => h_.1)))); (case side4 => exact (Kd.R_reads' HO282.out).2.1); (case side5 => exact Kd.C_nil _ _); (case side6 => exact Nat.le_refl _); rintro e w18 ⟨v285, rfl, ho0, hb⟩; refine ⟨_, rfl, ?_⟩; replace HO279 := Aside0.mk (Kd.R_below (by (with_reducible repeat (first | apply Kd.R_alloc | apply Kd.R_drewN | apply Kd.R_drew)); exact (Kd.R_mono (Kd.R_far (p := ⟨gb283, 1, none⟩) (Kd.R_far (p := ⟨gb283, 0, none⟩) (Kd.R_types HO279.out BK283.out (by decide)) (fun _ hk => hk.2) (.slice Ao15 y277.length co15)) (fun _ hk => hk.2) (.slice Ao14 y280.length co14)) (fun _ h_ => h_.1))) hb); replace HO282 := Aside0.mk (Kd.R_below (by (with_reducible repeat (first | apply Kd.R_alloc | apply Kd.R_drewN | apply Kd.R_drew)); exact (Kd.R_mono (Kd.R_far (p := ⟨gb283, 1, none⟩) (Kd.R_far (p := ⟨gb283, 0, none⟩) (Kd.R_types HO282.out BK283.out (by decide)) (fun _ hk => hk.2) (.slice Ao15 y277.length co15)) (fun _ hk => hk.2) (.slice Ao14 y280.length co14)) (fun _ h_ => h_.1))) hb); have HO286 := Aside0.mk (Kd.R_lower ho0 (below_size (zb1 HB.out GE283.out))); replace BK283 := Aside0.mk (blk_below (g := gb283) (o := .cells #[.slice Ao15 y277.length co15, .slice Ao14 y280.length co14] 25 (0, 0)) (by (with_reducible repeat (first | refine blk_drewN ?_ _ | refine blk_drew ?_ | refine blk_alloc ?_ _)); refine blk_put (cs := #[.slice Ao15 y277.length co15, .slice none 0 0]) ?_ 1 _ rfl; (with_reducible repeat (first | refine blk_drewN ?_ _ | refine blk_drew ?_ | refine blk_alloc ?_ _)); refine blk_put (cs := #[.slice none 0 0, .slice none 0 0]) ?_ 0 _ rfl; (with_reducible repeat (first | refine blk_drewN ?_ _ | refine blk_drew ?_ | refine blk_alloc ?_ _)); exact BK283.out) hb); replace HB := Aside0.mk (below_step (zb1 HB.out GE283.out) hb); (try clear hb); (try clear ho0); have hcz19_0 : w18.cell? ⟨gb283, 0, none⟩ = some (.slice Ao15 y277.length co15) := (blk_cell BK283.out 0).trans rfl; have hcz19_1 : w18.cell? ⟨gb283, 1, none⟩ = some (.slice Ao14 y280.length co14) := (blk_cell BK283.out 1).trans rfl; have hfz19_0 := blk_frozen BK283.out 0; have hfz19_1 := blk_frozen BK283.out 1) | ((with_reducible refine gate_callee (f := 20) rfl ?_); refine goesL_ (some 24) rfl rfl Try.func20 (by kernel_rfl) rfl #[.agg #[.slice Ao15 y277.length co15, .slice Ao14 y280.length co14], .slice none 0 0, .int .i64 0] rfl am ?_; (refine (route_Loop.calls k _ _ y277 _ _ y280 _ _ ([] : List Int) 0 t288 t291 _ ?side1 ?side2 ?side3 ?side4 ?side5 ?side6 A2.out).mono ?_); (case side1 => exact zd (Kd.R_reads' HO279.out).2.2); (case side2 => exact (Kd.R_reads' HO279.out).2.1); (case side3 => exact zd (Kd.R_reads' HO282.out).2.2); (case side4 => exact (Kd.R_reads' HO282.out).2.1); (case side5 => exact Kd.C_nil _ _); (case side6 => exact Nat.le_refl _); rintro e w20 ⟨v289, rfl, ho0, hb⟩; refine ⟨_, rfl, ?_⟩; replace HO279 := Aside0.mk (Kd.R_below (zr HO279.out) hb); replace HO282 := Aside0.mk (Kd.R_below (zr HO282.out) hb); have HO290 := Aside0.mk (Kd.R_lower (Kd.R_new' ho0 (Kd.R_lt (zr HO286.out))) (below_size (zb1 HB.out GE283.out))); replace HO286 := Aside0.mk (Kd.R_elder' (zr HO286.out) (Kd.R_base ho0) hb); replace BK283 := Aside0.mk (blk_below (g := gb283) (o := .cells #[.slice Ao15 y277.length co15, .slice Ao14 y280.length co14] 25 (0, 0)) (zk BK283.out) hb); replace HB := Aside0.mk (below_step (zb1 HB.out GE283.out) hb); (try clear hb); (try clear ho0); have hcz21_0 : w20.cell? ⟨gb283, 0, none⟩ = some (.slice Ao15 y277.length co15) := (blk_cell BK283.out 0).trans rfl; have hcz21_1 : w20.cell? ⟨gb283, 1, none⟩ = some (.slice Ao14 y280.length co14) := (blk_cell BK283.out 1).trans rfl; have hfz21_0 := blk_frozen BK283.out 0; have hfz21_1 := blk_frozen BK283.out 1) | ((with_reducible refine gate_dst (N := 29) rfl ?_); (try (refine gate_guard (by rfl) ?_; dsimp only)); refine Kd.R_lit (Kd.int .i64) _ 3 ?hg (N := 29) ?hd (xs := ([1] : List Int)) (inner := [.int .i64 1]) (ok := fun _ => True) (okp := fun _ => True) ?hr ?hp (fun _ hk => hk) trivial (Below.refl _ _) (Nat.le_refl _) (by simp) ?_; (case hd => rfl); (case hg => rfl); (case hr => first | (go_simp; done) | (go_simp; rfl)); (case hp => exact (Reps.one (show Kd.M (Kd.int .i64) _ _ _ 1 [.int .i64 1] from rfl) (Reps.none _ _))); intro v293 w22 ho23 hb hg_ hnew_; clear hg_ hnew_; (first | rw [← Ny292.out] at ho23 | (simp only [Int.reduceToNat] at ho23; rw [← Ny292.out] at ho23)); replace HO279 := Aside0.mk (Kd.R_below (zr HO279.out) hb); replace HO282 := Aside0.mk (Kd.R_below (zr HO282.out) hb); have HO294 := Aside0.mk (Kd.R_lower (Kd.R_new' (Kd.R_new' ho23 (Kd.R_lt (zr HO286.out))) (Kd.R_lt (zr HO290.out))) (below_size (zb1 HB.out GE283.out))); replace HO286 := Aside0.mk (Kd.R_elder' (zr HO286.out) (Kd.R_base ho23) hb); replace HO290 := Aside0.mk (Kd.R_elder' (zr HO290.out) (Kd.R_base ho23) hb); replace BK283 := Aside0.mk (blk_below (g := gb283) (o := .cells #[.slice Ao15 y277.length co15, .slice Ao14 y280.length co14] 25 (0, 0)) (zk BK283.out) hb); replace HB := Aside0.mk (below_step (zb1 HB.out GE283.out) hb); clear hb ho23; obtain ⟨Ao24, co24, eo24⟩ := Kd.R_slice HO294.out; subst eo24) | ((with_reducible refine gate_callee (f := 19) rfl ?_); refine goesL_ (some 30) rfl rfl Try.func19 (by kernel_rfl) rfl #[.agg #[.slice Ao15 y277.length co15, .slice Ao14 y280.length co14], .slice none 0 0, .int .i64 0, .int .i64 2, .slice Ao24 y292.length co24] rfl am ?_; (refine (route_Around.calls k _ _ y277 _ _ y280 _ _ ([] : List Int) 0 2 _ _ y292 t295 t298 _ ?side1 ?side2 ?side3 ?side4 ?side5 ?side6 ?side7 ?side8 A3.out).mono ?_); (case side1 => exact zd (Kd.R_reads' HO279.out).2.2); (case side2 => exact (Kd.R_reads' HO279.out).2.1); (case side3 => exact zd (Kd.R_reads' HO282.out).2.2); (case side4 => exact (Kd.R_reads' HO282.out).2.1); (case side5 => exact Kd.C_nil _ _); (case side6 => exact Nat.le_refl _); (case side7 => exact zd (Kd.R_reads' HO294.out).2.2); (case side8 => exact (Kd.R_reads' HO294.out).2.1); rintro e w25 ⟨v296, rfl, ho0, hb⟩; refine ⟨_, rfl, ?_⟩; replace HO279 := Aside0.mk (Kd.R_below (zr HO279.out) hb); replace HO282 := Aside0.mk (Kd.R_below (zr HO282.out) hb); have HO297 := Aside0.mk (Kd.R_lower (Kd.R_new' (Kd.R_new' (Kd.R_new' ho0 (Kd.R_lt (zr HO286.out))) (Kd.R_lt (zr HO290.out))) (Kd.R_lt (zr HO294.out))) (below_size (zb1 HB.out GE283.out))); replace HO286 := Aside0.mk (Kd.R_elder' (zr HO286.out) (Kd.R_base ho0) hb); replace HO290 := Aside0.mk (Kd.R_elder' (zr HO290.out) (Kd.R_base ho0) hb); replace HO294 := Aside0.mk (Kd.R_elder' (zr HO294.out) (Kd.R_base ho0) hb); replace BK283 := Aside0.mk (blk_below (g := gb283) (o := .cells #[.slice Ao15 y277.length co15, .slice Ao14 y280.length co14] 25 (0, 0)) (zk BK283.out) hb); replace HB := Aside0.mk (below_step (zb1 HB.out GE283.out) hb); (try clear hb); (try clear ho0)) | ((with_reducible refine gate_dst (N := 37) rfl ?_); (try (refine gate_guard (by rfl) ?_; dsimp only)); refine Kd.R_lit (Kd.int .i64) _ 3 ?hg (N := 37) ?hd (xs := ([1, 2, 0] : List Int)) (inner := [.int .i64 1, .int .i64 2, .int .i64 0]) (ok := fun _ => True) (okp := fun _ => True) ?hr ?hp (fun _ hk => hk) trivial (Below.refl _ _) (Nat.le_refl _) (by simp) ?_; (case hd => rfl); (case hg => rfl); (case hr => first | (go_simp; done) | (go_simp; rfl)); (case hp => exact (Reps.one (show Kd.M (Kd.int .i64) _ _ _ 1 [.int .i64 1] from rfl) (Reps.one (show Kd.M (Kd.int .i64) _ _ _ 2 [.int .i64 2] from rfl) (Reps.one (show Kd.M (Kd.int .i64) _ _ _ 0 [.int .i64 0] from rfl) (Reps.none _ _))))); intro v300 w26 ho27 hb hg_ hnew_; clear hg_ hnew_; (first | rw [← Ny299.out] at ho27 | (simp only [Int.reduceToNat] at ho27; rw [← Ny299.out] at ho27)); replace HO279 := Aside0.mk (Kd.R_below (zr HO279.out) hb); replace HO282 := Aside0.mk (Kd.R_below (zr HO282.out) hb); have HO301 := Aside0.mk (Kd.R_lower (Kd.R_new' (Kd.R_new' (Kd.R_new' (Kd.R_new' ho27 (Kd.R_lt (zr HO286.out))) (Kd.R_lt (zr HO290.out))) (Kd.R_lt (zr HO294.out))) (Kd.R_lt (zr HO297.out))) (below_size (zb1 HB.out GE283.out))); replace HO286 := Aside0.mk (Kd.R_elder' (zr HO286.out) (Kd.R_base ho27) hb); replace HO290 := Aside0.mk (Kd.R_elder' (zr HO290.out) (Kd.R_base ho27) hb); replace HO294 := Aside0.mk (Kd.R_elder' (zr HO294.out) (Kd.R_base ho27) hb); replace HO297 := Aside0.mk (Kd.R_elder' (zr HO297.out) (Kd.R_base ho27) hb); replace BK283 := Aside0.mk (blk_below (g := gb283) (o := .cells #[.slice Ao15 y277.length co15, .slice Ao14 y280.length co14] 25 (0, 0)) (zk BK283.out) hb); replace HB := Aside0.mk (below_step (zb1 HB.out GE283.out) hb); clear hb ho27; obtain ⟨Ao28, co28, eo28⟩ := Kd.R_slice HO286.out; subst eo28; obtain ⟨Ao29, co29, eo29⟩ := Kd.R_slice HO301.out; subst eo29) | (go_at_call 15; (with_reducible refine (stillageref01_Ints.calls k _ _ t284 _ _ y299 true _ ?side1 ?side2 ?side3 ?side4 A5.out).mono ?_); (case side1 => exact zd (Kd.R_reads' HO286.out).2.2); (case side2 => exact (Kd.R_reads' HO286.out).2.1); (case side3 => exact zd (Kd.R_reads' HO301.out).2.2); (case side4 => exact (Kd.R_reads' HO301.out).2.1); rintro e w' ⟨rfl, ⟨nd, rfl⟩⟩) | ((with_reducible refine gate_dst (N := 46) rfl ?_); (try (refine gate_guard (by rfl) ?_; dsimp only)); refine Kd.R_lit (Kd.int .i64) _ 3 ?hg (N := 46) ?hd (xs := ([1, 2, 3] : List Int)) (inner := [.int .i64 1, .int .i64 2, .int .i64 3]) (ok := fun _ => True) (okp := fun _ => True) ?hr ?hp (fun _ hk => hk) trivial (Below.refl _ _) (Nat.le_refl _) (by simp) ?_; (case hd => rfl); (case hg => rfl); (case hr => first | (go_simp; done) | (go_simp; rfl)); (case hp => exact (Reps.one (show Kd.M (Kd.int .i64) _ _ _ 1 [.int .i64 1] from rfl) (Reps.one (show Kd.M (Kd.int .i64) _ _ _ 2 [.int .i64 2] from rfl) (Reps.one (show Kd.M (Kd.int .i64) _ _ _ 3 [.int .i64 3] from rfl) (Reps.none _ _))))); intro v304 w30 ho31 hb hg_ hnew_; clear hg_ hnew_; (first | rw [← Ny303.out] at ho31 | (simp only [Int.reduceToNat] at ho31; rw [← Ny303.out] at ho31)); replace HO279 := Aside0.mk (Kd.R_below (zr HO279.out) hb); replace HO282 := Aside0.mk (Kd.R_below (zr HO282.out) hb); have HO305 := Aside0.mk (Kd.R_lower (Kd.R_new' (Kd.R_new' (Kd.R_new' (Kd.R_new' (Kd.R_new' ho31 (Kd.R_lt (zr HO286.out))) (Kd.R_lt (zr HO290.out))) (Kd.R_lt (zr HO294.out))) (Kd.R_lt (zr HO297.out))) (Kd.R_lt (zr HO301.out))) (below_size (zb1 HB.out GE283.out))); replace HO286 := Aside0.mk (Kd.R_elder' (zr HO286.out) (Kd.R_base ho31) hb); replace HO290 := Aside0.mk (Kd.R_elder' (zr HO290.out) (Kd.R_base ho31) hb); replace HO294 := Aside0.mk (Kd.R_elder' (zr HO294.out) (Kd.R_base ho31) hb); replace HO297 := Aside0.mk (Kd.R_elder' (zr HO297.out) (Kd.R_base ho31) hb); replace HO301 := Aside0.mk (Kd.R_elder' (zr HO301.out) (Kd.R_base ho31) hb); replace BK283 := Aside0.mk (blk_below (g := gb283) (o := .cells #[.slice Ao15 y277.length co15, .slice Ao14 y280.length co14] 25 (0, 0)) (zk BK283.out) hb); replace HB := Aside0.mk (below_step (zb1 HB.out GE283.out) hb); clear hb ho31; obtain ⟨Ao32, co32, eo32⟩ := Kd.R_slice HO290.out; subst eo32; obtain ⟨Ao33, co33, eo33⟩ := Kd.R_slice HO305.out; subst eo33) | (go_at_call 15; (with_reducible refine (stillageref01_Ints.calls k _ _ t288 _ _ y303 true _ ?side1 ?side2 ?side3 ?side4 A8.out).mono ?_); (case side1 => exact zd (Kd.R_reads' HO290.out).2.2); (case side2 => exact (Kd.R_reads' HO290.out).2.1); (case side3 => exact zd (Kd.R_reads' HO305.out).2.2); (case side4 => exact (Kd.R_reads' HO305.out).2.1); rintro e w' ⟨rfl, ⟨nd, rfl⟩⟩))
  go_ret
  exact ⟨by first | rfl | (simp [errW_none, errW_some] <;> rfl) | (simp [*, errW_none, errW_some] <;> rfl), zb1 HB.out GE283.out⟩
 replace c9 := Bool.eq_false_iff.mpr c9
 subst c9
 have H1 : (some false) = some r := by rw [if_neg (show ¬ (false = true) by decide)] at H; exact H
 clear H; have H := H1; clear H1
 obtain rfl := Option.some.inj H
 go_enter Try.func10, Try.ntmps10
 go_wp2_with (first | ((with_reducible refine gate_dst (N := 11) rfl ?_); (try (refine gate_guard (by rfl) ?_; dsimp only)); refine Kd.R_lit k47 _ 47 ?hg (N := 11) ?hd (xs := ([(⟨(⟨#[97]⟩ : ByteArray), 1, 0⟩ : S47), (⟨(⟨#[98]⟩ : ByteArray), 1, 0⟩ : S47), (⟨(⟨#[99]⟩ : ByteArray), 1, 0⟩ : S47)] : List (S47))) (inner := [.string (⟨#[97]⟩ : ByteArray), .int .i64 1, .int .i64 0, .string (⟨#[98]⟩ : ByteArray), .int .i64 1, .int .i64 0, .string (⟨#[99]⟩ : ByteArray), .int .i64 1, .int .i64 0]) (ok := fun _ => True) (okp := fun _ => True) ?hr ?hp (fun _ hk => hk) trivial (Below.refl _ _) (Nat.le_refl _) (by simp) ?_; (case hd => rfl); (case hg => rfl); (case hr => first | (go_simp; done) | (go_simp; rfl)); (case hp => exact (Reps.c3 (show Kd.M k47 _ _ _ (⟨(⟨#[97]⟩ : ByteArray), 1, 0⟩ : S47) [.string (⟨#[97]⟩ : ByteArray), .int .i64 1, .int .i64 0] from (k47_mkM _ _ _ (⟨(⟨#[97]⟩ : ByteArray), 1, 0⟩ : S47) )) (Reps.c3 (show Kd.M k47 _ _ _ (⟨(⟨#[98]⟩ : ByteArray), 1, 0⟩ : S47) [.string (⟨#[98]⟩ : ByteArray), .int .i64 1, .int .i64 0] from (k47_mkM _ _ _ (⟨(⟨#[98]⟩ : ByteArray), 1, 0⟩ : S47) )) (Reps.c3 (show Kd.M k47 _ _ _ (⟨(⟨#[99]⟩ : ByteArray), 1, 0⟩ : S47) [.string (⟨#[99]⟩ : ByteArray), .int .i64 1, .int .i64 0] from (k47_mkM _ _ _ (⟨(⟨#[99]⟩ : ByteArray), 1, 0⟩ : S47) )) (Reps.none _ _))))); intro v278 w34 ho35 hb hg_ hnew_; clear hg_ hnew_; (first | rw [← Ny277.out] at ho35 | (simp only [Int.reduceToNat] at ho35; rw [← Ny277.out] at ho35)); have HO279 := Aside0.mk (Kd.R_lower ho35 (below_size (zb0 HB.out))); replace HB := Aside0.mk (below_step (zb0 HB.out) hb); clear hb ho35) | ((with_reducible refine gate_dst (N := 15) rfl ?_); (try (refine gate_guard (by rfl) ?_; dsimp only)); refine Kd.R_lit k38 _ 38 ?hg (N := 15) ?hd (xs := ([(⟨0, 1⟩ : S38), (⟨1, 2⟩ : S38), (⟨2, 0⟩ : S38)] : List (S38))) (inner := [.int .i64 0, .int .i64 1, .int .i64 1, .int .i64 2, .int .i64 2, .int .i64 0]) (ok := fun _ => True) (okp := fun _ => True) ?hr ?hp (fun _ hk => hk) trivial (Below.refl _ _) (Nat.le_refl _) (by simp) ?_; (case hd => rfl); (case hg => rfl); (case hr => first | (go_simp; done) | (go_simp; rfl)); (case hp => exact (Reps.c2 (show Kd.M k38 _ _ _ (⟨0, 1⟩ : S38) [.int .i64 0, .int .i64 1] from (k38_mkM _ _ _ (⟨0, 1⟩ : S38) )) (Reps.c2 (show Kd.M k38 _ _ _ (⟨1, 2⟩ : S38) [.int .i64 1, .int .i64 2] from (k38_mkM _ _ _ (⟨1, 2⟩ : S38) )) (Reps.c2 (show Kd.M k38 _ _ _ (⟨2, 0⟩ : S38) [.int .i64 2, .int .i64 0] from (k38_mkM _ _ _ (⟨2, 0⟩ : S38) )) (Reps.none _ _))))); intro v281 w36 ho37 hb hg_ hnew_; clear hg_ hnew_; (first | rw [← Ny280.out] at ho37 | (simp only [Int.reduceToNat] at ho37; rw [← Ny280.out] at ho37)); replace HO279 := Aside0.mk (Kd.R_below (zr HO279.out) hb); have HO282 := Aside0.mk (Kd.R_lower ho37 (below_size (zb0 HB.out))); replace HB := Aside0.mk (below_step (zb0 HB.out) hb); clear hb ho37; obtain ⟨Ao38, co38, eo38⟩ := Kd.R_slice HO282.out; subst eo38; obtain ⟨Ao39, co39, eo39⟩ := Kd.R_slice HO279.out; subst eo39) | ((with_reducible refine gate_dst (N := 1) rfl ?_); (try (refine gate_guard (by rfl) ?_; dsimp only)); refine box_event ?hg (N := 1) ?hd (cs := #[.slice none 0 0, .slice none 0 0]) (t := 25) ?hr ?_; (case hd => rfl); (case hg => rfl); (case hr => first | (go_simp; done) | (go_simp; rfl)); intro gb283 hg w40 hbox hb; replace HO279 := Aside0.mk (Kd.R_below (zr HO279.out) hb); replace HO282 := Aside0.mk (Kd.R_below (zr HO282.out) hb); have BK283 := Aside0.mk (hbox); have GW283 := Aside0.mk ((by rw [hg]; exact (below_size (zb0 HB.out)) : w.heap.size ≤ gb283)); have GE283 := Aside0.mk ((by rw [hg]; exact (below_size (zb0 HB.out)) : w.heap.size ≤ gb283)); replace HB := Aside0.mk (below_step (zb0 HB.out) hb); clear hb hbox hg; have hcz41_0 : w40.cell? ⟨gb283, 0, none⟩ = some (.slice none 0 0) := (blk_cell BK283.out 0).trans rfl; have hcz41_1 : w40.cell? ⟨gb283, 1, none⟩ = some (.slice none 0 0) := (blk_cell BK283.out 1).trans rfl; have hfz41_0 := blk_frozen BK283.out 0; have hfz41_1 := blk_frozen BK283.out 1) | ((with_reducible refine gate_callee (f := 13) rfl ?_); refine goesL_ (some 19) rfl rfl Try.func13 (by kernel_rfl) rfl #[.agg #[.slice Ao39 y277.length co39, .slice Ao38 y280.length co38], .slice none 0 0, .int .i64 2] rfl am ?_; (refine (route_Table.calls k _ _ y277 _ _ y280 _ _ ([] : List Int) 2 t284 t287 _ ?side1 ?side2 ?side3 ?side4 ?side5 ?side6 A1.out).mono ?_); (case side1 => refine (Kd.R_reads' (e := 47) (base := w.heap.size) (ok := fun k_ => True) (n := y277.length) (c := co39) ?_).2.2; exact (by (with_reducible repeat (first | apply Kd.R_alloc | apply Kd.R_drewN | apply Kd.R_drew)); exact (Kd.R_mono (Kd.R_far (p := ⟨gb283, 1, none⟩) (Kd.R_far (p := ⟨gb283, 0, none⟩) (Kd.R_types HO279.out BK283.out (by decide)) (fun _ hk => hk.2) (.slice Ao39 y277.length co39)) (fun _ hk => hk.2) (.slice Ao38 y280.length co38)) (fun _ h_ => h_.1)))); (case side2 => exact (Kd.R_reads' HO279.out).2.1); (case side3 => refine (Kd.R_reads' (e := 38) (base := w.heap.size) (ok := fun k_ => True) (n := y280.length) (c := co38) ?_).2.2; exact (by (with_reducible repeat (first | apply Kd.R_alloc | apply Kd.R_drewN | apply Kd.R_drew)); exact (Kd.R_mono (Kd.R_far (p := ⟨gb283, 1, none⟩) (Kd.R_far (p := ⟨gb283, 0, none⟩) (Kd.R_types HO282.out BK283.out (by decide)) (fun _ hk => hk.2) (.slice Ao39 y277.length co39)) (fun _ hk => hk.2) (.slice Ao38 y280.length co38)) (fun _ h_ => h_.1)))); (case side4 => exact (Kd.R_reads' HO282.out).2.1); (case side5 => exact Kd.C_nil _ _); (case side6 => exact Nat.le_refl _); rintro e w42 ⟨v285, rfl, ho0, hb⟩; refine ⟨_, rfl, ?_⟩; replace HO279 := Aside0.mk (Kd.R_below (by (with_reducible repeat (first | apply Kd.R_alloc | apply Kd.R_drewN | apply Kd.R_drew)); exact (Kd.R_mono (Kd.R_far (p := ⟨gb283, 1, none⟩) (Kd.R_far (p := ⟨gb283, 0, none⟩) (Kd.R_types HO279.out BK283.out (by decide)) (fun _ hk => hk.2) (.slice Ao39 y277.length co39)) (fun _ hk => hk.2) (.slice Ao38 y280.length co38)) (fun _ h_ => h_.1))) hb); replace HO282 := Aside0.mk (Kd.R_below (by (with_reducible repeat (first | apply Kd.R_alloc | apply Kd.R_drewN | apply Kd.R_drew)); exact (Kd.R_mono (Kd.R_far (p := ⟨gb283, 1, none⟩) (Kd.R_far (p := ⟨gb283, 0, none⟩) (Kd.R_types HO282.out BK283.out (by decide)) (fun _ hk => hk.2) (.slice Ao39 y277.length co39)) (fun _ hk => hk.2) (.slice Ao38 y280.length co38)) (fun _ h_ => h_.1))) hb); have HO286 := Aside0.mk (Kd.R_lower ho0 (below_size (zb1 HB.out GE283.out))); replace BK283 := Aside0.mk (blk_below (g := gb283) (o := .cells #[.slice Ao39 y277.length co39, .slice Ao38 y280.length co38] 25 (0, 0)) (by (with_reducible repeat (first | refine blk_drewN ?_ _ | refine blk_drew ?_ | refine blk_alloc ?_ _)); refine blk_put (cs := #[.slice Ao39 y277.length co39, .slice none 0 0]) ?_ 1 _ rfl; (with_reducible repeat (first | refine blk_drewN ?_ _ | refine blk_drew ?_ | refine blk_alloc ?_ _)); refine blk_put (cs := #[.slice none 0 0, .slice none 0 0]) ?_ 0 _ rfl; (with_reducible repeat (first | refine blk_drewN ?_ _ | refine blk_drew ?_ | refine blk_alloc ?_ _)); exact BK283.out) hb); replace HB := Aside0.mk (below_step (zb1 HB.out GE283.out) hb); (try clear hb); (try clear ho0); have hcz43_0 : w42.cell? ⟨gb283, 0, none⟩ = some (.slice Ao39 y277.length co39) := (blk_cell BK283.out 0).trans rfl; have hcz43_1 : w42.cell? ⟨gb283, 1, none⟩ = some (.slice Ao38 y280.length co38) := (blk_cell BK283.out 1).trans rfl; have hfz43_0 := blk_frozen BK283.out 0; have hfz43_1 := blk_frozen BK283.out 1) | ((with_reducible refine gate_callee (f := 20) rfl ?_); refine goesL_ (some 24) rfl rfl Try.func20 (by kernel_rfl) rfl #[.agg #[.slice Ao39 y277.length co39, .slice Ao38 y280.length co38], .slice none 0 0, .int .i64 0] rfl am ?_; (refine (route_Loop.calls k _ _ y277 _ _ y280 _ _ ([] : List Int) 0 t288 t291 _ ?side1 ?side2 ?side3 ?side4 ?side5 ?side6 A2.out).mono ?_); (case side1 => exact zd (Kd.R_reads' HO279.out).2.2); (case side2 => exact (Kd.R_reads' HO279.out).2.1); (case side3 => exact zd (Kd.R_reads' HO282.out).2.2); (case side4 => exact (Kd.R_reads' HO282.out).2.1); (case side5 => exact Kd.C_nil _ _); (case side6 => exact Nat.le_refl _); rintro e w44 ⟨v289, rfl, ho0, hb⟩; refine ⟨_, rfl, ?_⟩; replace HO279 := Aside0.mk (Kd.R_below (zr HO279.out) hb); replace HO282 := Aside0.mk (Kd.R_below (zr HO282.out) hb); have HO290 := Aside0.mk (Kd.R_lower (Kd.R_new' ho0 (Kd.R_lt (zr HO286.out))) (below_size (zb1 HB.out GE283.out))); replace HO286 := Aside0.mk (Kd.R_elder' (zr HO286.out) (Kd.R_base ho0) hb); replace BK283 := Aside0.mk (blk_below (g := gb283) (o := .cells #[.slice Ao39 y277.length co39, .slice Ao38 y280.length co38] 25 (0, 0)) (zk BK283.out) hb); replace HB := Aside0.mk (below_step (zb1 HB.out GE283.out) hb); (try clear hb); (try clear ho0); have hcz45_0 : w44.cell? ⟨gb283, 0, none⟩ = some (.slice Ao39 y277.length co39) := (blk_cell BK283.out 0).trans rfl; have hcz45_1 : w44.cell? ⟨gb283, 1, none⟩ = some (.slice Ao38 y280.length co38) := (blk_cell BK283.out 1).trans rfl; have hfz45_0 := blk_frozen BK283.out 0; have hfz45_1 := blk_frozen BK283.out 1) | ((with_reducible refine gate_dst (N := 29) rfl ?_); (try (refine gate_guard (by rfl) ?_; dsimp only)); refine Kd.R_lit (Kd.int .i64) _ 3 ?hg (N := 29) ?hd (xs := ([1] : List Int)) (inner := [.int .i64 1]) (ok := fun _ => True) (okp := fun _ => True) ?hr ?hp (fun _ hk => hk) trivial (Below.refl _ _) (Nat.le_refl _) (by simp) ?_; (case hd => rfl); (case hg => rfl); (case hr => first | (go_simp; done) | (go_simp; rfl)); (case hp => exact (Reps.one (show Kd.M (Kd.int .i64) _ _ _ 1 [.int .i64 1] from rfl) (Reps.none _ _))); intro v293 w46 ho47 hb hg_ hnew_; clear hg_ hnew_; (first | rw [← Ny292.out] at ho47 | (simp only [Int.reduceToNat] at ho47; rw [← Ny292.out] at ho47)); replace HO279 := Aside0.mk (Kd.R_below (zr HO279.out) hb); replace HO282 := Aside0.mk (Kd.R_below (zr HO282.out) hb); have HO294 := Aside0.mk (Kd.R_lower (Kd.R_new' (Kd.R_new' ho47 (Kd.R_lt (zr HO286.out))) (Kd.R_lt (zr HO290.out))) (below_size (zb1 HB.out GE283.out))); replace HO286 := Aside0.mk (Kd.R_elder' (zr HO286.out) (Kd.R_base ho47) hb); replace HO290 := Aside0.mk (Kd.R_elder' (zr HO290.out) (Kd.R_base ho47) hb); replace BK283 := Aside0.mk (blk_below (g := gb283) (o := .cells #[.slice Ao39 y277.length co39, .slice Ao38 y280.length co38] 25 (0, 0)) (zk BK283.out) hb); replace HB := Aside0.mk (below_step (zb1 HB.out GE283.out) hb); clear hb ho47; obtain ⟨Ao48, co48, eo48⟩ := Kd.R_slice HO294.out; subst eo48) | ((with_reducible refine gate_callee (f := 19) rfl ?_); refine goesL_ (some 30) rfl rfl Try.func19 (by kernel_rfl) rfl #[.agg #[.slice Ao39 y277.length co39, .slice Ao38 y280.length co38], .slice none 0 0, .int .i64 0, .int .i64 2, .slice Ao48 y292.length co48] rfl am ?_; (refine (route_Around.calls k _ _ y277 _ _ y280 _ _ ([] : List Int) 0 2 _ _ y292 t295 t298 _ ?side1 ?side2 ?side3 ?side4 ?side5 ?side6 ?side7 ?side8 A3.out).mono ?_); (case side1 => exact zd (Kd.R_reads' HO279.out).2.2); (case side2 => exact (Kd.R_reads' HO279.out).2.1); (case side3 => exact zd (Kd.R_reads' HO282.out).2.2); (case side4 => exact (Kd.R_reads' HO282.out).2.1); (case side5 => exact Kd.C_nil _ _); (case side6 => exact Nat.le_refl _); (case side7 => exact zd (Kd.R_reads' HO294.out).2.2); (case side8 => exact (Kd.R_reads' HO294.out).2.1); rintro e w49 ⟨v296, rfl, ho0, hb⟩; refine ⟨_, rfl, ?_⟩; replace HO279 := Aside0.mk (Kd.R_below (zr HO279.out) hb); replace HO282 := Aside0.mk (Kd.R_below (zr HO282.out) hb); have HO297 := Aside0.mk (Kd.R_lower (Kd.R_new' (Kd.R_new' (Kd.R_new' ho0 (Kd.R_lt (zr HO286.out))) (Kd.R_lt (zr HO290.out))) (Kd.R_lt (zr HO294.out))) (below_size (zb1 HB.out GE283.out))); replace HO286 := Aside0.mk (Kd.R_elder' (zr HO286.out) (Kd.R_base ho0) hb); replace HO290 := Aside0.mk (Kd.R_elder' (zr HO290.out) (Kd.R_base ho0) hb); replace HO294 := Aside0.mk (Kd.R_elder' (zr HO294.out) (Kd.R_base ho0) hb); replace BK283 := Aside0.mk (blk_below (g := gb283) (o := .cells #[.slice Ao39 y277.length co39, .slice Ao38 y280.length co38] 25 (0, 0)) (zk BK283.out) hb); replace HB := Aside0.mk (below_step (zb1 HB.out GE283.out) hb); (try clear hb); (try clear ho0)) | ((with_reducible refine gate_dst (N := 37) rfl ?_); (try (refine gate_guard (by rfl) ?_; dsimp only)); refine Kd.R_lit (Kd.int .i64) _ 3 ?hg (N := 37) ?hd (xs := ([1, 2, 0] : List Int)) (inner := [.int .i64 1, .int .i64 2, .int .i64 0]) (ok := fun _ => True) (okp := fun _ => True) ?hr ?hp (fun _ hk => hk) trivial (Below.refl _ _) (Nat.le_refl _) (by simp) ?_; (case hd => rfl); (case hg => rfl); (case hr => first | (go_simp; done) | (go_simp; rfl)); (case hp => exact (Reps.one (show Kd.M (Kd.int .i64) _ _ _ 1 [.int .i64 1] from rfl) (Reps.one (show Kd.M (Kd.int .i64) _ _ _ 2 [.int .i64 2] from rfl) (Reps.one (show Kd.M (Kd.int .i64) _ _ _ 0 [.int .i64 0] from rfl) (Reps.none _ _))))); intro v300 w50 ho51 hb hg_ hnew_; clear hg_ hnew_; (first | rw [← Ny299.out] at ho51 | (simp only [Int.reduceToNat] at ho51; rw [← Ny299.out] at ho51)); replace HO279 := Aside0.mk (Kd.R_below (zr HO279.out) hb); replace HO282 := Aside0.mk (Kd.R_below (zr HO282.out) hb); have HO301 := Aside0.mk (Kd.R_lower (Kd.R_new' (Kd.R_new' (Kd.R_new' (Kd.R_new' ho51 (Kd.R_lt (zr HO286.out))) (Kd.R_lt (zr HO290.out))) (Kd.R_lt (zr HO294.out))) (Kd.R_lt (zr HO297.out))) (below_size (zb1 HB.out GE283.out))); replace HO286 := Aside0.mk (Kd.R_elder' (zr HO286.out) (Kd.R_base ho51) hb); replace HO290 := Aside0.mk (Kd.R_elder' (zr HO290.out) (Kd.R_base ho51) hb); replace HO294 := Aside0.mk (Kd.R_elder' (zr HO294.out) (Kd.R_base ho51) hb); replace HO297 := Aside0.mk (Kd.R_elder' (zr HO297.out) (Kd.R_base ho51) hb); replace BK283 := Aside0.mk (blk_below (g := gb283) (o := .cells #[.slice Ao39 y277.length co39, .slice Ao38 y280.length co38] 25 (0, 0)) (zk BK283.out) hb); replace HB := Aside0.mk (below_step (zb1 HB.out GE283.out) hb); clear hb ho51; obtain ⟨Ao52, co52, eo52⟩ := Kd.R_slice HO286.out; subst eo52; obtain ⟨Ao53, co53, eo53⟩ := Kd.R_slice HO301.out; subst eo53) | (go_at_call 15; (with_reducible refine (stillageref01_Ints.calls k _ _ t284 _ _ y299 true _ ?side1 ?side2 ?side3 ?side4 A5.out).mono ?_); (case side1 => exact zd (Kd.R_reads' HO286.out).2.2); (case side2 => exact (Kd.R_reads' HO286.out).2.1); (case side3 => exact zd (Kd.R_reads' HO301.out).2.2); (case side4 => exact (Kd.R_reads' HO301.out).2.1); rintro e w' ⟨rfl, ⟨nd, rfl⟩⟩) | ((with_reducible refine gate_dst (N := 46) rfl ?_); (try (refine gate_guard (by rfl) ?_; dsimp only)); refine Kd.R_lit (Kd.int .i64) _ 3 ?hg (N := 46) ?hd (xs := ([1, 2, 3] : List Int)) (inner := [.int .i64 1, .int .i64 2, .int .i64 3]) (ok := fun _ => True) (okp := fun _ => True) ?hr ?hp (fun _ hk => hk) trivial (Below.refl _ _) (Nat.le_refl _) (by simp) ?_; (case hd => rfl); (case hg => rfl); (case hr => first | (go_simp; done) | (go_simp; rfl)); (case hp => exact (Reps.one (show Kd.M (Kd.int .i64) _ _ _ 1 [.int .i64 1] from rfl) (Reps.one (show Kd.M (Kd.int .i64) _ _ _ 2 [.int .i64 2] from rfl) (Reps.one (show Kd.M (Kd.int .i64) _ _ _ 3 [.int .i64 3] from rfl) (Reps.none _ _))))); intro v304 w54 ho55 hb hg_ hnew_; clear hg_ hnew_; (first | rw [← Ny303.out] at ho55 | (simp only [Int.reduceToNat] at ho55; rw [← Ny303.out] at ho55)); replace HO279 := Aside0.mk (Kd.R_below (zr HO279.out) hb); replace HO282 := Aside0.mk (Kd.R_below (zr HO282.out) hb); have HO305 := Aside0.mk (Kd.R_lower (Kd.R_new' (Kd.R_new' (Kd.R_new' (Kd.R_new' (Kd.R_new' ho55 (Kd.R_lt (zr HO286.out))) (Kd.R_lt (zr HO290.out))) (Kd.R_lt (zr HO294.out))) (Kd.R_lt (zr HO297.out))) (Kd.R_lt (zr HO301.out))) (below_size (zb1 HB.out GE283.out))); replace HO286 := Aside0.mk (Kd.R_elder' (zr HO286.out) (Kd.R_base ho55) hb); replace HO290 := Aside0.mk (Kd.R_elder' (zr HO290.out) (Kd.R_base ho55) hb); replace HO294 := Aside0.mk (Kd.R_elder' (zr HO294.out) (Kd.R_base ho55) hb); replace HO297 := Aside0.mk (Kd.R_elder' (zr HO297.out) (Kd.R_base ho55) hb); replace HO301 := Aside0.mk (Kd.R_elder' (zr HO301.out) (Kd.R_base ho55) hb); replace BK283 := Aside0.mk (blk_below (g := gb283) (o := .cells #[.slice Ao39 y277.length co39, .slice Ao38 y280.length co38] 25 (0, 0)) (zk BK283.out) hb); replace HB := Aside0.mk (below_step (zb1 HB.out GE283.out) hb); clear hb ho55; obtain ⟨Ao56, co56, eo56⟩ := Kd.R_slice HO290.out; subst eo56; obtain ⟨Ao57, co57, eo57⟩ := Kd.R_slice HO305.out; subst eo57) | (go_at_call 15; (with_reducible refine (stillageref01_Ints.calls k _ _ t288 _ _ y303 false _ ?side1 ?side2 ?side3 ?side4 A8.out).mono ?_); (case side1 => exact zd (Kd.R_reads' HO290.out).2.2); (case side2 => exact (Kd.R_reads' HO290.out).2.1); (case side3 => exact zd (Kd.R_reads' HO305.out).2.2); (case side4 => exact (Kd.R_reads' HO305.out).2.1); rintro e w' ⟨rfl, ⟨nd, rfl⟩⟩))
 go_ret
 exact ⟨by first | rfl | (simp [errW_none, errW_some] <;> rfl) | (simp [*, errW_none, errW_some] <;> rfl), zb1 HB.out GE283.out⟩
/-! ### stillageref06_Name: function 38 -/
mutual
def stillageref06_Name.j0 : Nat → ByteArray → Bool → Option (Bool)
 | 0, _, _ => none
 | k + 1, x0, x13 => if x13 = true then (some false) else (stillageref06_Name.l0 k x0 0)
def stillageref06_Name.l0 : Nat → ByteArray → Int → Option (Bool)
 | 0, _, _ => none
 | k + 1, x0, x3 => if x3 < (x0.size : Int) then (if 0 ≤ x3 then (if (bt x0 x3) ≥ 97 then (if (bt x0 x3) ≥ 48 then (if ((bt x0 x3) ≤ 122) then (stillageref06_Name.l0 k x0 (wrap64 (x3 + 1))) else (if x3 = 0 then (some false) else (if ((bt x0 x3) ≤ 57) then (stillageref06_Name.l0 k x0 (wrap64 (x3 + 1))) else (some false)))) else (if ((bt x0 x3) ≤ 122) then (stillageref06_Name.l0 k x0 (wrap64 (x3 + 1))) else (if x3 = 0 then (some false) else (some false)))) else (if (bt x0 x3) ≥ 48 then (if x3 = 0 then (some false) else (if ((bt x0 x3) ≤ 57) then (stillageref06_Name.l0 k x0 (wrap64 (x3 + 1))) else (some false))) else (if x3 = 0 then (some false) else (some false)))) else (none)) else (some true)
end
def stillageref06_Name.f (k : Nat) (a0 : ByteArray) : Option (Bool) := if (a0.size : Int) < 1 then (stillageref06_Name.j0 k a0 true) else (stillageref06_Name.j0 k a0 (decide ((a0.size : Int) > 8)))
theorem stillageref06_Name.mono_l : ∀ k, (∀ y0 y1, LeO (stillageref06_Name.j0 k y0 y1) (stillageref06_Name.j0 (k + 1) y0 y1)) ∧ (∀ y0 y1, LeO (stillageref06_Name.l0 k y0 y1) (stillageref06_Name.l0 (k + 1) y0 y1))
 | 0 => ⟨fun _ _ r h => by simp [stillageref06_Name.j0] at h, fun _ _ r h => by simp [stillageref06_Name.l0] at h⟩
 | k + 1 => by
  obtain ⟨ih0, ih1⟩ := stillageref06_Name.mono_l k
  refine ⟨?_, ?_⟩
  ·intro y0 y1
   unfold stillageref06_Name.j0
   repeat' first
   | (with_reducible exact ih0 _ _)
   | (with_reducible exact ih1 _ _)
   | (with_reducible exact LeO.refl _)
   | (with_reducible exact LeO.none _)
   | (with_reducible refine LeO.ite ?_ ?_)
   | (with_reducible refine LeO.bind ?_ (fun _ => ?_))
   | exact ih0 _ _
   | exact ih1 _ _
   | exact LeO.none _
   | refine LeO.ite ?_ ?_
   | refine LeO.bind ?_ (fun _ => ?_)
  ·intro y0 y1
   unfold stillageref06_Name.l0
   repeat' first
   | (with_reducible exact ih0 _ _)
   | (with_reducible exact ih1 _ _)
   | (with_reducible exact LeO.refl _)
   | (with_reducible exact LeO.none _)
   | (with_reducible refine LeO.ite ?_ ?_)
   | (with_reducible refine LeO.bind ?_ (fun _ => ?_))
   | exact ih0 _ _
   | exact ih1 _ _
   | exact LeO.none _
   | refine LeO.ite ?_ ?_
   | refine LeO.bind ?_ (fun _ => ?_)
theorem stillageref06_Name.mono : ∀ a0 k, LeO (stillageref06_Name.f k a0) (stillageref06_Name.f (k + 1) a0) := by
 intro a0 k
 obtain ⟨ih0, ih1⟩ := stillageref06_Name.mono_l k
 unfold stillageref06_Name.f
 repeat' first
   | (with_reducible exact ih0 _ _)
   | (with_reducible exact ih1 _ _)
   | (with_reducible exact LeO.refl _)
   | (with_reducible exact LeO.none _)
   | (with_reducible refine LeO.ite ?_ ?_)
   | (with_reducible refine LeO.bind ?_ (fun _ => ?_))
   | exact ih0 _ _
   | exact ih1 _ _
   | exact LeO.none _
   | refine LeO.ite ?_ ?_
   | refine LeO.bind ?_ (fun _ => ?_)
set_option maxHeartbeats 8000000 in
set_option maxRecDepth 100000 in
theorem stillageref06_Name.calls (k : Nat) (a0 : ByteArray) (r : Bool) (w : World) (h : stillageref06_Name.f k a0 = some r) :
  Calls Try.prog 38 #[.string a0] w fun e w' => e = .returned (.bool r) ∧ Drawn0 w w' := by
 have H : (if (a0.size : Int) < 1 then (stillageref06_Name.j0 k a0 true) else (stillageref06_Name.j0 k a0 (decide ((a0.size : Int) > 8)))) = some r := h
 clear h
 have HC2 := Aside0.mk H
 clear H
 go_enter Try.func38, Try.ntmps38
 go_upto_region 1 with (fail)
 go_cut [13] (fun v13 wc => ∃ (kq : Nat) (x13_1 : Bool), v13 = .bool x13_1 ∧ Aside0 (stillageref06_Name.j0 kq a0 x13_1 = some r) ∧ Aside0 (kq ≤ k) ∧ Drawn0 w wc)
 case first =>
  have H := HC2.out
  clear HC2
  by_cases c3 : (a0.size : Int) < 1
  ·rw [if_pos c3] at H
   have c3b0 : decide ((a0.size : Int) < 1) = true := decide_eq_true c3
   have c3b1 : decide (a0.size < 1) = true := decide_eq_true (by omega)
   clear c3
   (first | rw [c3b0] | (simp only [i64_w, i32_w]; rw [c3b0]) | skip)
   have H' := Aside0.mk H; clear H
   go_wp2
   go_meet
   case rel => exact ⟨_, (true), rs, H', ⟨by first | omega | exact Nat.le_refl _⟩, by repeat (first | exact Drawn0.refl _ | apply Drawn0.step)⟩
  rw [if_neg c3] at H
  have c3b0 : decide ((a0.size : Int) < 1) = false := decide_eq_false c3
  have c3b1 : decide (a0.size < 1) = false := decide_eq_false (by omega)
  clear c3
  (first | rw [c3b0] | (simp only [i64_w, i32_w]; rw [c3b0]) | skip)
  have H' := Aside0.mk H; clear H
  go_wp2
  go_meet
  case rel => exact ⟨_, (decide ((a0.size : Int) > 8)), rs, H', ⟨by first | omega | exact Nat.le_refl _⟩, by repeat (first | exact Drawn0.refl _ | apply Drawn0.step)⟩
 case rest =>
  clear HC2
  obtain ⟨kq, x13_1, rfl, HA, HJ1, ⟨mc1, rfl⟩⟩ := hcut
  cases kq with
  | zero => exact absurd HA.out (by simp [stillageref06_Name.j0])
  | succ kj1 =>
   have H := HA.out
   clear HA
   simp only [stillageref06_Name.j0] at H
   by_cases c4 : x13_1 = true
   ·subst c4
    have H1 : (some false) = some r := by rw [if_pos rfl] at H; exact H
    clear H; have H := H1; clear H1
    obtain rfl := Option.some.inj H
    go_wp2
    go_ret
    exact ⟨by first | rfl | (simp; done) | (simp [*]; done), by repeat (first | exact Drawn0.refl _ | apply Drawn0.step)⟩
   replace c4 := Bool.eq_false_iff.mpr c4
   subst c4
   have H1 : (stillageref06_Name.l0 kj1 a0 0) = some r := by rw [if_neg (show ¬ (false = true) by decide)] at H; exact H
   clear H; have H := H1; clear H1
   have H' := Aside0.mk H; clear H
   go_wp2
   go_loopg [3] kj1 (fun kq v3 w' => ∃ (x3_2 : Int), v3 = .int .i64 x3_2 ∧ Aside0 (stillageref06_Name.l0 kq a0 x3_2 = some r) ∧ Aside0 (kq ≤ kj1) ∧ Drawn0 w w')
   case atStart => exact ⟨(0), rs, H', ⟨Nat.le_refl _⟩, by repeat (first | exact Drawn0.refl _ | apply Drawn0.step)⟩
   case round =>
    clear H'
    obtain ⟨x3_2, rfl, HA, HK2, ⟨m2, rfl⟩⟩ := hrel
    cases gk with
    | zero => exact absurd HA.out (by simp [stillageref06_Name.l0])
    | succ k2 =>
     have H := HA.out
     clear HA
     simp only [stillageref06_Name.l0] at H
     by_cases c5 : x3_2 < (a0.size : Int)
     rotate_left
     ·rw [if_neg c5] at H
      have c5b0 : decide (x3_2 < (a0.size : Int)) = false := decide_eq_false c5
      clear c5
      obtain rfl := Option.some.inj H
      go_wp2
      go_ret
      exact ⟨by first | rfl | (simp; done) | (simp [*]; done), by repeat (first | exact Drawn0.refl _ | apply Drawn0.step)⟩

     rw [if_pos c5] at H
     have c5b0 : decide (x3_2 < (a0.size : Int)) = true := decide_eq_true c5
     clear c5
     by_cases c6 : 0 ≤ x3_2
     rotate_left; ·rw [if_neg c6] at H; exact absurd H (by simp)
     rw [if_pos c6] at H
     have c6b0 : decide (0 ≤ x3_2) = true := decide_eq_true c6
     clear c6
     by_cases c8 : (bt a0 x3_2) ≥ 97
     rotate_left
     ·rw [if_neg c8] at H
      have c8b0 : decide (97 ≤ (bt a0 x3_2)) = false := decide_eq_false c8
      clear c8
      by_cases c19 : (bt a0 x3_2) ≥ 48
      rotate_left
      ·rw [if_neg c19] at H
       have c19b0 : decide (48 ≤ (bt a0 x3_2)) = false := decide_eq_false c19
       clear c19
       by_cases c23 : x3_2 = 0
       rotate_left
       ·rw [if_neg c23] at H
        have c23b0 : (x3_2 == 0) = false := beq_eq_false_iff_ne.mpr c23
        have c23b1 : (x3_2 != 0) = true := bne_iff_ne.mpr c23
        obtain rfl := Option.some.inj H
        have p7 : 0 ≤ (x3_2 : Int) := oda
        have q7 : x3_2 < (a0.size : Int) := oda
        have hx7 := bt_at a0 x3_2
        replace p7 := eq_true p7
        replace q7 := eq_true q7
        have p18 : 0 ≤ (x3_2 : Int) := oda
        have q18 : x3_2 < (a0.size : Int) := oda
        have hx18 := bt_at a0 x3_2
        replace p18 := eq_true p18
        replace q18 := eq_true q18
        go_wp2
        go_ret
        exact ⟨by first | rfl | (simp; done) | (simp [*]; done), by repeat (first | exact Drawn0.refl _ | apply Drawn0.step)⟩
       rw [if_pos c23] at H
       have c23b0 : (x3_2 == 0) = true := beq_iff_eq.mpr c23
       have c23b1 : (x3_2 != 0) = false := bne_eq_false_iff_eq.mpr c23
       clear c23
       obtain rfl := Option.some.inj H
       have p7 : 0 ≤ (x3_2 : Int) := oda
       have q7 : x3_2 < (a0.size : Int) := oda
       have hx7 := bt_at a0 x3_2
       replace p7 := eq_true p7
       replace q7 := eq_true q7
       have p18 : 0 ≤ (x3_2 : Int) := oda
       have q18 : x3_2 < (a0.size : Int) := oda
       have hx18 := bt_at a0 x3_2
       replace p18 := eq_true p18
       replace q18 := eq_true q18
       go_wp2
       go_ret
       exact ⟨by first | rfl | (simp; done) | (simp [*]; done), by repeat (first | exact Drawn0.refl _ | apply Drawn0.step)⟩
      rw [if_pos c19] at H
      have c19b0 : decide (48 ≤ (bt a0 x3_2)) = true := decide_eq_true c19
      clear c19
      by_cases c21 : x3_2 = 0
      ·rw [if_pos c21] at H
       have c21b0 : (x3_2 == 0) = true := beq_iff_eq.mpr c21
       have c21b1 : (x3_2 != 0) = false := bne_eq_false_iff_eq.mpr c21
       clear c21
       obtain rfl := Option.some.inj H
       have p7 : 0 ≤ (x3_2 : Int) := oda
       have q7 : x3_2 < (a0.size : Int) := oda
       have hx7 := bt_at a0 x3_2
       replace p7 := eq_true p7
       replace q7 := eq_true q7
       have p18 : 0 ≤ (x3_2 : Int) := oda
       have q18 : x3_2 < (a0.size : Int) := oda
       have hx18 := bt_at a0 x3_2
       replace p18 := eq_true p18
       replace q18 := eq_true q18
       have p20 : 0 ≤ (x3_2 : Int) := oda
       have q20 : x3_2 < (a0.size : Int) := oda
       have hx20 := bt_at a0 x3_2
       replace p20 := eq_true p20
       replace q20 := eq_true q20
       go_wp2
       go_ret
       exact ⟨by first | rfl | (simp; done) | (simp [*]; done), by repeat (first | exact Drawn0.refl _ | apply Drawn0.step)⟩
      rw [if_neg c21] at H
      have c21b0 : (x3_2 == 0) = false := beq_eq_false_iff_ne.mpr c21
      have c21b1 : (x3_2 != 0) = true := bne_iff_ne.mpr c21
      by_cases c22 : ((bt a0 x3_2) ≤ 57)
      rotate_left
      ·rw [if_neg c22] at H
       have c22b0 : decide ((bt a0 x3_2) ≤ 57) = false := decide_eq_false c22
       clear c22
       obtain rfl := Option.some.inj H
       have p7 : 0 ≤ (x3_2 : Int) := oda
       have q7 : x3_2 < (a0.size : Int) := oda
       have hx7 := bt_at a0 x3_2
       replace p7 := eq_true p7
       replace q7 := eq_true q7
       have p18 : 0 ≤ (x3_2 : Int) := oda
       have q18 : x3_2 < (a0.size : Int) := oda
       have hx18 := bt_at a0 x3_2
       replace p18 := eq_true p18
       replace q18 := eq_true q18
       have p20 : 0 ≤ (x3_2 : Int) := oda
       have q20 : x3_2 < (a0.size : Int) := oda
       have hx20 := bt_at a0 x3_2
       replace p20 := eq_true p20
       replace q20 := eq_true q20
       go_wp2
       go_ret
       exact ⟨by first | rfl | (simp; done) | (simp [*]; done), by repeat (first | exact Drawn0.refl _ | apply Drawn0.step)⟩
      rw [if_pos c22] at H
      have c22b0 : decide ((bt a0 x3_2) ≤ 57) = true := decide_eq_true c22
      clear c22
      have H' := Aside0.mk H; clear H
      have p7 : 0 ≤ (x3_2 : Int) := oda
      have q7 : x3_2 < (a0.size : Int) := oda
      have hx7 := bt_at a0 x3_2
      replace p7 := eq_true p7
      replace q7 := eq_true q7
      have p18 : 0 ≤ (x3_2 : Int) := oda
      have q18 : x3_2 < (a0.size : Int) := oda
      have hx18 := bt_at a0 x3_2
      replace p18 := eq_true p18
      replace q18 := eq_true q18
      have p20 : 0 ≤ (x3_2 : Int) := oda
      have q20 : x3_2 < (a0.size : Int) := oda
      have hx20 := bt_at a0 x3_2
      replace p20 := eq_true p20
      replace q20 := eq_true q20
      go_wp2
      go_roundg k2
      case measure => have := HJ1.out; have := HK2.out; omega
      case rel => exact ⟨(wrap64 (x3_2 + 1)), rs, H', ⟨by have := HJ1.out; have := HK2.out; omega⟩, by repeat (first | exact Drawn0.refl _ | apply Drawn0.step)⟩
     rw [if_pos c8] at H
     have c8b0 : decide (97 ≤ (bt a0 x3_2)) = true := decide_eq_true c8
     clear c8
     by_cases c11 : (bt a0 x3_2) ≥ 48
     rotate_left
     ·rw [if_neg c11] at H
      have c11b0 : decide (48 ≤ (bt a0 x3_2)) = false := decide_eq_false c11
      clear c11
      by_cases c16 : ((bt a0 x3_2) ≤ 122)
      ·rw [if_pos c16] at H
       have c16b0 : decide ((bt a0 x3_2) ≤ 122) = true := decide_eq_true c16
       clear c16
       have H' := Aside0.mk H; clear H
       have p7 : 0 ≤ (x3_2 : Int) := oda
       have q7 : x3_2 < (a0.size : Int) := oda
       have hx7 := bt_at a0 x3_2
       replace p7 := eq_true p7
       replace q7 := eq_true q7
       have p9 : 0 ≤ (x3_2 : Int) := oda
       have q9 : x3_2 < (a0.size : Int) := oda
       have hx9 := bt_at a0 x3_2
       replace p9 := eq_true p9
       replace q9 := eq_true q9
       have p10 : 0 ≤ (x3_2 : Int) := oda
       have q10 : x3_2 < (a0.size : Int) := oda
       have hx10 := bt_at a0 x3_2
       replace p10 := eq_true p10
       replace q10 := eq_true q10
       go_wp2
       go_roundg k2
       case measure => have := HJ1.out; have := HK2.out; omega
       case rel => exact ⟨(wrap64 (x3_2 + 1)), rs, H', ⟨by have := HJ1.out; have := HK2.out; omega⟩, by repeat (first | exact Drawn0.refl _ | apply Drawn0.step)⟩
      rw [if_neg c16] at H
      have c16b0 : decide ((bt a0 x3_2) ≤ 122) = false := decide_eq_false c16
      clear c16
      by_cases c17 : x3_2 = 0
      rotate_left
      ·rw [if_neg c17] at H
       have c17b0 : (x3_2 == 0) = false := beq_eq_false_iff_ne.mpr c17
       have c17b1 : (x3_2 != 0) = true := bne_iff_ne.mpr c17
       obtain rfl := Option.some.inj H
       have p7 : 0 ≤ (x3_2 : Int) := oda
       have q7 : x3_2 < (a0.size : Int) := oda
       have hx7 := bt_at a0 x3_2
       replace p7 := eq_true p7
       replace q7 := eq_true q7
       have p9 : 0 ≤ (x3_2 : Int) := oda
       have q9 : x3_2 < (a0.size : Int) := oda
       have hx9 := bt_at a0 x3_2
       replace p9 := eq_true p9
       replace q9 := eq_true q9
       have p10 : 0 ≤ (x3_2 : Int) := oda
       have q10 : x3_2 < (a0.size : Int) := oda
       have hx10 := bt_at a0 x3_2
       replace p10 := eq_true p10
       replace q10 := eq_true q10
       go_wp2
       go_ret
       exact ⟨by first | rfl | (simp; done) | (simp [*]; done), by repeat (first | exact Drawn0.refl _ | apply Drawn0.step)⟩
      rw [if_pos c17] at H
      have c17b0 : (x3_2 == 0) = true := beq_iff_eq.mpr c17
      have c17b1 : (x3_2 != 0) = false := bne_eq_false_iff_eq.mpr c17
      clear c17
      obtain rfl := Option.some.inj H
      have p7 : 0 ≤ (x3_2 : Int) := oda
      have q7 : x3_2 < (a0.size : Int) := oda
      have hx7 := bt_at a0 x3_2
      replace p7 := eq_true p7
      replace q7 := eq_true q7
      have p9 : 0 ≤ (x3_2 : Int) := oda
      have q9 : x3_2 < (a0.size : Int) := oda
      have hx9 := bt_at a0 x3_2
      replace p9 := eq_true p9
      replace q9 := eq_true q9
      have p10 : 0 ≤ (x3_2 : Int) := oda
      have q10 : x3_2 < (a0.size : Int) := oda
      have hx10 := bt_at a0 x3_2
      replace p10 := eq_true p10
      replace q10 := eq_true q10
      go_wp2
      go_ret
      exact ⟨by first | rfl | (simp; done) | (simp [*]; done), by repeat (first | exact Drawn0.refl _ | apply Drawn0.step)⟩
     rw [if_pos c11] at H
     have c11b0 : decide (48 ≤ (bt a0 x3_2)) = true := decide_eq_true c11
     clear c11
     by_cases c13 : ((bt a0 x3_2) ≤ 122)
     ·rw [if_pos c13] at H
      have c13b0 : decide ((bt a0 x3_2) ≤ 122) = true := decide_eq_true c13
      clear c13
      have H' := Aside0.mk H; clear H
      have p7 : 0 ≤ (x3_2 : Int) := oda
      have q7 : x3_2 < (a0.size : Int) := oda
      have hx7 := bt_at a0 x3_2
      replace p7 := eq_true p7
      replace q7 := eq_true q7
      have p9 : 0 ≤ (x3_2 : Int) := oda
      have q9 : x3_2 < (a0.size : Int) := oda
      have hx9 := bt_at a0 x3_2
      replace p9 := eq_true p9
      replace q9 := eq_true q9
      have p10 : 0 ≤ (x3_2 : Int) := oda
      have q10 : x3_2 < (a0.size : Int) := oda
      have hx10 := bt_at a0 x3_2
      replace p10 := eq_true p10
      replace q10 := eq_true q10
      have p12 : 0 ≤ (x3_2 : Int) := oda
      have q12 : x3_2 < (a0.size : Int) := oda
      have hx12 := bt_at a0 x3_2
      replace p12 := eq_true p12
      replace q12 := eq_true q12
      go_wp2
      go_roundg k2
      case measure => have := HJ1.out; have := HK2.out; omega
      case rel => exact ⟨(wrap64 (x3_2 + 1)), rs, H', ⟨by have := HJ1.out; have := HK2.out; omega⟩, by repeat (first | exact Drawn0.refl _ | apply Drawn0.step)⟩
     rw [if_neg c13] at H
     have c13b0 : decide ((bt a0 x3_2) ≤ 122) = false := decide_eq_false c13
     clear c13
     by_cases c14 : x3_2 = 0
     ·rw [if_pos c14] at H
      have c14b0 : (x3_2 == 0) = true := beq_iff_eq.mpr c14
      have c14b1 : (x3_2 != 0) = false := bne_eq_false_iff_eq.mpr c14
      clear c14
      obtain rfl := Option.some.inj H
      have p7 : 0 ≤ (x3_2 : Int) := oda
      have q7 : x3_2 < (a0.size : Int) := oda
      have hx7 := bt_at a0 x3_2
      replace p7 := eq_true p7
      replace q7 := eq_true q7
      have p9 : 0 ≤ (x3_2 : Int) := oda
      have q9 : x3_2 < (a0.size : Int) := oda
      have hx9 := bt_at a0 x3_2
      replace p9 := eq_true p9
      replace q9 := eq_true q9
      have p10 : 0 ≤ (x3_2 : Int) := oda
      have q10 : x3_2 < (a0.size : Int) := oda
      have hx10 := bt_at a0 x3_2
      replace p10 := eq_true p10
      replace q10 := eq_true q10
      have p12 : 0 ≤ (x3_2 : Int) := oda
      have q12 : x3_2 < (a0.size : Int) := oda
      have hx12 := bt_at a0 x3_2
      replace p12 := eq_true p12
      replace q12 := eq_true q12
      go_wp2
      go_ret
      exact ⟨by first | rfl | (simp; done) | (simp [*]; done), by repeat (first | exact Drawn0.refl _ | apply Drawn0.step)⟩
     rw [if_neg c14] at H
     have c14b0 : (x3_2 == 0) = false := beq_eq_false_iff_ne.mpr c14
     have c14b1 : (x3_2 != 0) = true := bne_iff_ne.mpr c14
     by_cases c15 : ((bt a0 x3_2) ≤ 57)
     rotate_left
     ·rw [if_neg c15] at H
      have c15b0 : decide ((bt a0 x3_2) ≤ 57) = false := decide_eq_false c15
      clear c15
      obtain rfl := Option.some.inj H
      have p7 : 0 ≤ (x3_2 : Int) := oda
      have q7 : x3_2 < (a0.size : Int) := oda
      have hx7 := bt_at a0 x3_2
      replace p7 := eq_true p7
      replace q7 := eq_true q7
      have p9 : 0 ≤ (x3_2 : Int) := oda
      have q9 : x3_2 < (a0.size : Int) := oda
      have hx9 := bt_at a0 x3_2
      replace p9 := eq_true p9
      replace q9 := eq_true q9
      have p10 : 0 ≤ (x3_2 : Int) := oda
      have q10 : x3_2 < (a0.size : Int) := oda
      have hx10 := bt_at a0 x3_2
      replace p10 := eq_true p10
      replace q10 := eq_true q10
      have p12 : 0 ≤ (x3_2 : Int) := oda
      have q12 : x3_2 < (a0.size : Int) := oda
      have hx12 := bt_at a0 x3_2
      replace p12 := eq_true p12
      replace q12 := eq_true q12
      go_wp2
      go_ret
      exact ⟨by first | rfl | (simp; done) | (simp [*]; done), by repeat (first | exact Drawn0.refl _ | apply Drawn0.step)⟩
     rw [if_pos c15] at H
     have c15b0 : decide ((bt a0 x3_2) ≤ 57) = true := decide_eq_true c15
     clear c15
     have H' := Aside0.mk H; clear H
     have p7 : 0 ≤ (x3_2 : Int) := oda
     have q7 : x3_2 < (a0.size : Int) := oda
     have hx7 := bt_at a0 x3_2
     replace p7 := eq_true p7
     replace q7 := eq_true q7
     have p9 : 0 ≤ (x3_2 : Int) := oda
     have q9 : x3_2 < (a0.size : Int) := oda
     have hx9 := bt_at a0 x3_2
     replace p9 := eq_true p9
     replace q9 := eq_true q9
     have p10 : 0 ≤ (x3_2 : Int) := oda
     have q10 : x3_2 < (a0.size : Int) := oda
     have hx10 := bt_at a0 x3_2
     replace p10 := eq_true p10
     replace q10 := eq_true q10
     have p12 : 0 ≤ (x3_2 : Int) := oda
     have q12 : x3_2 < (a0.size : Int) := oda
     have hx12 := bt_at a0 x3_2
     replace p12 := eq_true p12
     replace q12 := eq_true q12
     go_wp2
     go_roundg k2
     case measure => have := HJ1.out; have := HK2.out; omega
     case rel => exact ⟨(wrap64 (x3_2 + 1)), rs, H', ⟨by have := HJ1.out; have := HK2.out; omega⟩, by repeat (first | exact Drawn0.refl _ | apply Drawn0.step)⟩
/-! ### stillageref06_Find: function 39 -/
def stillageref06_Find.l0 : Nat → ByteArray → Int → Int → List (S47) → List (S38) → Option (Int)
 | 0, _, _, _, _, _ => none
 | k + 1, x1, x8, x9, x308000, x308001 => if x9 < x8 then (if 0 ≤ x9 then (if x9 < (x308000.length : Int) then (if ((rd_T47 x308000 x9).f0).toList = x1.toList then (some x9) else (stillageref06_Find.l0 k x1 x8 (wrap64 (x9 + 1)) x308000 x308001)) else (none)) else (none)) else (some (-1))
def stillageref06_Find.f (k : Nat) (l0_0 : List (S47)) (l0_1 : List (S38)) (a1 : ByteArray) : Option (Int) := stillageref06_Find.l0 k a1 (l0_0.length : Int) 0 l0_0 l0_1
theorem stillageref06_Find.mono_l : ∀ k, (∀ y0 y1 y2 y3 y4, LeO (stillageref06_Find.l0 k y0 y1 y2 y3 y4) (stillageref06_Find.l0 (k + 1) y0 y1 y2 y3 y4))
 | 0 => fun _ _ _ _ _ r h => by simp [stillageref06_Find.l0] at h
 | k + 1 => by
  have ih0 := stillageref06_Find.mono_l k
  ·intro y0 y1 y2 y3 y4
   unfold stillageref06_Find.l0
   repeat' first
   | (with_reducible exact ih0 _ _ _ _ _)
   | (with_reducible exact LeO.refl _)
   | (with_reducible exact LeO.none _)
   | (with_reducible refine LeO.ite ?_ ?_)
   | (with_reducible refine LeO.bind ?_ (fun _ => ?_))
   | exact ih0 _ _ _ _ _
   | exact LeO.none _
   | refine LeO.ite ?_ ?_
   | refine LeO.bind ?_ (fun _ => ?_)
theorem stillageref06_Find.mono : ∀ a0 a1 a2 k, LeO (stillageref06_Find.f k a0 a1 a2) (stillageref06_Find.f (k + 1) a0 a1 a2) := by
 intro a0 a1 a2 k
 have ih0 := stillageref06_Find.mono_l k
 unfold stillageref06_Find.f
 repeat' first
   | (with_reducible exact ih0 _ _ _ _ _)
   | (with_reducible exact LeO.refl _)
   | (with_reducible exact LeO.none _)
   | (with_reducible refine LeO.ite ?_ ?_)
   | (with_reducible refine LeO.bind ?_ (fun _ => ?_))
   | exact ih0 _ _ _ _ _
   | exact LeO.none _
   | refine LeO.ite ?_ ?_
   | refine LeO.bind ?_ (fun _ => ?_)
set_option maxHeartbeats 8000000 in
set_option maxRecDepth 100000 in
theorem stillageref06_Find.calls (k : Nat) (A0_0 : Option Addr) (c0_0 : Nat) (l0_0 : List (S47)) (A0_1 : Option Addr) (c0_1 : Nat) (l0_1 : List (S38)) (a1 : ByteArray) (r : Int) (w : World) (hr0_0 : Kd.C k47 w A0_0 l0_0.length l0_0) (hc0_0 : l0_0.length ≤ c0_0) (hr0_1 : Kd.C k38 w A0_1 l0_1.length l0_1) (hc0_1 : l0_1.length ≤ c0_1) (h : stillageref06_Find.f k l0_0 l0_1 a1 = some r) :
  Calls Try.prog 39 #[.agg #[.slice A0_0 l0_0.length c0_0, .slice A0_1 l0_1.length c0_1], .string a1] w fun e w' => e = .returned (.int .i64 r) ∧ Below w.heap.size w w' := by
 have hu25 := Try.underlying25
 have HR0_0 := Aside0.mk hr0_0
 have HC0_0 := Aside0.mk hc0_0
 clear hr0_0 hc0_0
 have HR0_1 := Aside0.mk hr0_1
 have HC0_1 := Aside0.mk hc0_1
 clear hr0_1 hc0_1
 have HB := Aside0.mk (Below.refl w.heap.size w)
 have H : (stillageref06_Find.l0 k a1 (l0_0.length : Int) 0 l0_0 l0_1) = some r := h
 clear h
 have H' := Aside0.mk H; clear H
 go_enter Try.func39, Try.ntmps39
 go_wp2_with (first | ((with_reducible refine gate_dst (N := 2) rfl ?_); refine box_event ?hg (N := 2) ?hd (cs := #[.slice A0_0 l0_0.length c0_0, .slice A0_1 l0_1.length c0_1]) (t := 25) ?hr ?_; (case hd => rfl); (case hg => rfl); (case hr => first | (go_simp; done) | (go_simp; rfl)); intro gb307 hg w3 hbox hb; have BK307 := Aside0.mk (hbox); have GW307 := Aside0.mk ((by rw [hg]; exact (below_size (zb0 HB.out)) : w.heap.size ≤ gb307)); have GE307 := Aside0.mk ((by rw [hg]; exact (below_size (zb0 HB.out)) : w.heap.size ≤ gb307)); replace HB := Aside0.mk (below_step (zb0 HB.out) hb); clear hb hbox hg; have hcz4_0 : w3.cell? ⟨gb307, 0, none⟩ = some (.slice A0_0 l0_0.length c0_0) := (blk_cell BK307.out 0).trans rfl; have hcz4_1 : w3.cell? ⟨gb307, 1, none⟩ = some (.slice A0_1 l0_1.length c0_1) := (blk_cell BK307.out 1).trans rfl; have hfz4_0 := blk_frozen BK307.out 0; have hfz4_1 := blk_frozen BK307.out 1))
 go_loopg [9] k (fun kq v9 w' => ∃ (x9_1 : Int), v9 = .int .i64 x9_1 ∧ Aside0 (stillageref06_Find.l0 kq a1 (l0_0.length : Int) x9_1 l0_0 l0_1 = some r) ∧ Aside0 (kq ≤ k) ∧ Aside0 (w'.heap[gb307]? = some (.cells #[(.slice A0_0 l0_0.length c0_0), (.slice A0_1 l0_1.length c0_1)] 25 (0, 0))) ∧ Aside0 (Below w.heap.size w w'))
 case atStart => exact ⟨(0), rs, H', ⟨Nat.le_refl _⟩, ⟨zk BK307.out⟩, ⟨zb1 HB.out GE307.out⟩⟩
 case round =>
  clear H'
  obtain ⟨x9_1, rfl, HA, HK1, BK307, HB⟩ := hrel
  cases gk with
  | zero => exact absurd HA.out (by simp [stillageref06_Find.l0])
  | succ k1 =>
   have H := HA.out
   clear HA
   simp only [stillageref06_Find.l0] at H
   by_cases c5 : x9_1 < (l0_0.length : Int)
   rotate_left
   ·rw [if_neg c5] at H
    have c5b0 : decide (x9_1 < (l0_0.length : Int)) = false := decide_eq_false c5
    clear c5
    obtain rfl := Option.some.inj H
    go_wp2
    go_ret
    exact ⟨by first | rfl | (simp [errW_none, errW_some] <;> rfl) | (simp [*, errW_none, errW_some] <;> rfl), zb1 HB.out GE307.out⟩

   rw [if_pos c5] at H
   have c5b0 : decide (x9_1 < (l0_0.length : Int)) = true := decide_eq_true c5
   clear c5
   by_cases c6 : 0 ≤ x9_1
   rotate_left; ·rw [if_neg c6] at H; exact absurd H (by simp)
   rw [if_pos c6] at H
   have c6b0 : decide (0 ≤ x9_1) = true := decide_eq_true c6
   clear c6
   by_cases c7 : x9_1 < (l0_0.length : Int)
   rotate_left; ·rw [if_neg c7] at H; exact absurd H (by simp)
   rw [if_pos c7] at H
   have c7b0 : decide (x9_1 < (l0_0.length : Int)) = true := decide_eq_true c7
   clear c7
   by_cases c8 : ((rd_T47 l0_0 x9_1).f0).toList = a1.toList
   ·rw [if_pos c8] at H
    have c8b0 : (((rd_T47 l0_0 x9_1).f0).toList == a1.toList) = true := beq_iff_eq.mpr c8
    have c8b1 : (((rd_T47 l0_0 x9_1).f0).toList != a1.toList) = false := bne_eq_false_iff_eq.mpr c8
    clear c8
    obtain rfl := Option.some.inj H
    have hcz9_0 : wr.cell? ⟨gb307, 0, none⟩ = some (.slice A0_0 l0_0.length c0_0) := (blk_cell BK307.out 0).trans rfl
    have hcz9_1 : wr.cell? ⟨gb307, 1, none⟩ = some (.slice A0_1 l0_1.length c0_1) := (blk_cell BK307.out 1).trans rfl
    have hfz9_0 := blk_frozen BK307.out 0
    have hfz9_1 := blk_frozen BK307.out 1
    have p308 : 0 ≤ (x9_1 : Int) := oda
    have q308 : x9_1 < (l0_0.length : Int) := oda
    obtain ⟨ad308, e308, hx308_0, hx308_1, hx308_2⟩ := at_T47 HR0_0.out x9_1 p308 q308
    cases e308
    replace hx308_0 := zx HB.out hx308_0
    replace hx308_1 := zx HB.out hx308_1
    replace hx308_2 := zx HB.out hx308_2
    replace p308 := eq_true p308
    replace q308 := eq_true q308
    go_wp2
    go_ret
    exact ⟨by first | rfl | (simp [errW_none, errW_some] <;> rfl) | (simp [*, errW_none, errW_some] <;> rfl), zb1 HB.out GE307.out⟩
   rw [if_neg c8] at H
   have c8b0 : (((rd_T47 l0_0 x9_1).f0).toList == a1.toList) = false := beq_eq_false_iff_ne.mpr c8
   have c8b1 : (((rd_T47 l0_0 x9_1).f0).toList != a1.toList) = true := bne_iff_ne.mpr c8
   have H' := Aside0.mk H; clear H
   have hcz10_0 : wr.cell? ⟨gb307, 0, none⟩ = some (.slice A0_0 l0_0.length c0_0) := (blk_cell BK307.out 0).trans rfl
   have hcz10_1 : wr.cell? ⟨gb307, 1, none⟩ = some (.slice A0_1 l0_1.length c0_1) := (blk_cell BK307.out 1).trans rfl
   have hfz10_0 := blk_frozen BK307.out 0
   have hfz10_1 := blk_frozen BK307.out 1
   have p308 : 0 ≤ (x9_1 : Int) := oda
   have q308 : x9_1 < (l0_0.length : Int) := oda
   obtain ⟨ad308, e308, hx308_0, hx308_1, hx308_2⟩ := at_T47 HR0_0.out x9_1 p308 q308
   cases e308
   replace hx308_0 := zx HB.out hx308_0
   replace hx308_1 := zx HB.out hx308_1
   replace hx308_2 := zx HB.out hx308_2
   replace p308 := eq_true p308
   replace q308 := eq_true q308
   go_wp2
   go_roundg k1
   case measure => have := HK1.out; omega
   case rel => exact ⟨(wrap64 (x9_1 + 1)), rs, H', ⟨by have := HK1.out; omega⟩, ⟨zk BK307.out⟩, ⟨zb1 HB.out GE307.out⟩⟩
end Go.Proofs.Ytbbdgndaaajejaa.PRoutePaths
