-- The walk of stillagelaw01.CrcOwn: a closure that keeps the list; by hand.
import Derived.Test.YtpcgjnjgenfhiaaPCrcOwnx
namespace Go.Proofs.Ytpcgjnjgenfhiaa.PCrcOwn
open Go.RowKit Go.Proofs.YtpcgjnjgenfhiaaW.PrintWords Go.Proofs.YtpcgjnjgenfhiaaW.PrintLast Go.Proofs.YtpcgjnjgenfhiaaW.PrintMore
set_option linter.unusedVariables false
set_option linter.unusedSimpArgs false
theorem info5 : (Try.prog.info? 5).map (fun i => (i.zero, i.size, i.bytes)) = some (some (.int .u8 0), 1, 1) := by kernel_rfl
set_option maxHeartbeats 2000000 in
set_option maxRecDepth 100000 in
theorem put.calls (k : Nat) (B : Nat) (A : Option Addr) (c : Nat) (l : List Int) (y r : Int) (W : World) (h0 : 0 ≤ y) (h1 : y ≤ 65535) (hb : W.cell? ⟨B, 0, none⟩ = some (.slice A l.length c))
    (hl : Kd.C (Kd.int .u8) W A l.length l) (hn : l.length ≤ 4000) (hs : crc_Sum.f k (l ++ [y / 256, y % 256]) = some r) :
    Calls Try.prog 18 #[.int .u16 y, .pointer (some ⟨B, 0, none⟩)] W fun e w' => e = .returned (.int .u16 r) ∧ Below W.heap.size W w' := by
  have hlt : B < W.heap.size := World.block_lt_of_cell? W _ hb
  have HL := Aside0.mk hl
  have HS := Aside0.mk hs
  have HN := Aside0.mk hn
  clear hl hs hn
  go_enter Try.func18, Try.ntmps18
  go_wp2_with ((with_reducible refine gate_builtin (b := .append) (xs := #[.tmp 4, .tmp 5]) rfl ?_); at_builtin; refine Kd.R_append_rows (Kd.int .u8) (w0 := W) W.heap.size rfl (.tmp 4) (.tmp 5) 26 5 (.int .u8 0) 1 rfl Try.underlying26 info5 rfl (by decide) (by omega) (.slice (some ⟨W.heap.size, 0, none⟩) 0 0) [] l A _ _ (fun _ => True) (fun _ => False) rfl rfl ?aO ?aR (fun _ _ h => h) (fun _ h => h.elim) ?aF ?aB ?aS ?aL ?_)
  case aO => exact ⟨fun _ _ => trivial, [], by simpa using World.ownsRow_made W #[] 0 (Nat.le_refl _) (Nat.zero_le _) (by simp), Reps.none _ _⟩
  case aR => exact Kd.C_below HL.out (below_alloc (Below.refl _ _) _)
  case aF => exact (fun _ _ => trivial)
  case aB => exact below_alloc (Below.refl _ _) _
  case aS => simp
  case aL => have := HN.out; simp; omega
  intro v1 w1 ho hb1 hg hat
  have HO := Aside0.mk ho
  have HB := Aside0.mk hb1
  have hz : W.heap.size ≤ w1.heap.size := hb1.size
  clear ho hb1 hg hat hb
  go_wp2_with ((with_reducible refine gate_builtin (b := .append) (xs := #[.tmp 6, .tmp 13]) rfl ?_); at_builtin; refine Kd.R_append_rows (Kd.int .u8) (w0 := W) W.heap.size rfl (.tmp 6) (.tmp 13) 26 5 (.int .u8 0) 1 rfl Try.underlying26 info5 rfl (by decide) (by omega) v1 ([] ++ l) [y / 256, y % 256] (some ⟨w1.heap.size, 0, none⟩) 2 2 (fun _ => True) (fun _ => False) rfl rfl ?bO ?bR (fun _ _ h => h) (fun _ h => h.elim) ?bF ?bB ?bS ?bL ?_)
  case bO => (with_reducible repeat (first | apply Kd.R_alloc | apply Kd.R_drewN | apply Kd.R_drew)); exact HO.out
  case bR =>
    have e1 : IntKind.u16.wrap (y.tdiv 256) % 256 = y / 256 := by rw [Int.tdiv_eq_ediv_of_nonneg h0]; simp [IntKind.wrap, IntKind.bits, IntKind.signed]; omega
    rw [e1]
    exact C_lit (xs := [y / 256, y % 256]) (heap_alloc_new _ _) (by simp)
  case bF => exact (fun _ _ => trivial)
  case bB => exact below_alloc HB.out _
  case bS => simp; omega
  case bL => have := HN.out; simp; omega
  intro v2 w2 ho2 hb2 hg hat
  have hs := HS.out
  clear HS
  replace ho2 : Kd.R (Kd.int .u8) 5 w2 W.heap.size (fun _ => True) v2 (l ++ [y / 256, y % 256]) := ho2
  generalize l ++ [y / 256, y % 256] = L at hs ho2
  have HS := Aside0.mk hs
  clear hs
  obtain ⟨A2, c2, rfl, hc2, hr2⟩ := Kd.R_reads ho2
  have HO2 := Aside0.mk hr2
  have HC2 := Aside0.mk hc2
  have HB2 := Aside0.mk hb2
  clear ho2 hb2 hg hat hr2 hc2 HO
  go_wp2_with (go_at_call 14; refine (crc_Sum.calls k _ _ _ r _ HO2.out HC2.out HS.out).mono ?_; rintro e w' ⟨rfl, ⟨nd, rfl⟩⟩)
  go_ret
  exact ⟨rfl, by repeat (first | (with_reducible first | exact HB2.out | apply below_alloc | apply pw_below_drewN | apply below_drew1) | exact HB2.out)⟩
set_option maxHeartbeats 2000000 in
set_option maxRecDepth 100000 in
theorem own_long (A : Option Addr) (c : Nat) (l : List Int) (x : Int) (w : World) (hn : 4000 < l.length) (hm : l.length ≤ 140737488351232) :
    Calls Try.prog 6 #[.slice A l.length c, .int .u16 x] w fun e w' => e = .returned (.bool true) ∧ Below w.heap.size w w' := by
  have HB := Aside0.mk (Below.refl w.heap.size w)
  have HA : Aside0 (stillagelaw01_awake.f = some true) := ⟨rfl⟩
  go_enter Try.func6, Try.ntmps6
  go_wp2_with (first | ((with_reducible refine gate_dst (N := 2) rfl ?_); refine box_event ?hg (N := 2) ?hd (cs := #[.slice A l.length c]) (t := 26) ?hr ?_; (case hd => rfl); (case hg => rfl); (case hr => first | (go_simp; done) | (go_simp; rfl)); intro gb hg w5 hbox hb; have n0_ := Aside0.mk (below_step (by repeat (first | (with_reducible first | exact HB.out | apply below_alloc | apply pw_below_drewN | apply below_drew1) | exact HB.out)) hb); have n1_ := Aside0.mk (hbox); clear HB; have HB := n0_; have BK := n1_; clear n0_ n1_; clear hb hbox hg) | ((with_reducible refine gate_callee (f := 11) rfl ?_); refine goesL_ (some 7) rfl rfl Try.func11 (by kernel_rfl) rfl #[] rfl (by (try simp only [List.map_toArray, List.map_cons, List.map_nil]); first | done | rfl) ?_; (with_reducible refine (stillagelaw01_awake.calls true _ HA.out).mono ?_); rintro e w6 ⟨rfl, hb⟩; refine ⟨_, rfl, ?_⟩; have n0_ := Aside0.mk (below_step (by repeat (first | (with_reducible first | exact HB.out | apply below_alloc | apply pw_below_drewN | apply below_drew1) | exact HB.out)) hb); have n1_ := Aside0.mk (blk_below BK.out hb); clear HB BK; have HB := n0_; have BK := n1_; clear n0_ n1_ hb; have hcx : w6.cell? ⟨gb, 0, none⟩ = some (.slice A l.length c) := (blk_cell BK.out 0).trans rfl) | ((with_reducible refine gate_callee (f := 11) rfl ?_); refine goesL_ (some 14) rfl rfl Try.func11 (by kernel_rfl) rfl #[] rfl (by (try simp only [List.map_toArray, List.map_cons, List.map_nil]); first | done | rfl) ?_; (with_reducible refine (stillagelaw01_awake.calls true _ HA.out).mono ?_); rintro e w6 ⟨rfl, hb⟩; refine ⟨_, rfl, ?_⟩; have n0_ := Aside0.mk (below_step (by repeat (first | (with_reducible first | exact HB.out | apply below_alloc | apply pw_below_drewN | apply below_drew1) | exact HB.out)) hb); have n1_ := Aside0.mk (blk_below BK.out hb); clear HB BK; have HB := n0_; have BK := n1_; clear n0_ n1_ hb))
  go_ret
  exact ⟨rfl, by repeat (first | (with_reducible first | exact HB.out | apply below_alloc | apply pw_below_drewN | apply below_drew1) | exact HB.out)⟩
set_option maxHeartbeats 2000000 in
set_option maxRecDepth 100000 in
theorem own_short (k : Nat) (A : Option Addr) (c : Nat) (l : List Int) (x s r : Int) (w : World) (hr : Kd.C (Kd.int .u8) w A l.length l) (hc : l.length ≤ c) (hn : l.length ≤ 4000) (hx0 : 0 ≤ x) (hx1 : x ≤ 65535)
    (hs : crc_Sum.f k l = some s) (hs0 : 0 ≤ s) (hs1 : s ≤ 65535) (hz : crc_Sum.f k (l ++ [s / 256, s % 256]) = some 0) (hp : crc_Sum.f k (l ++ [x / 256, x % 256]) = some r) (he : (r == 0) = (x == s)) :
    Calls Try.prog 6 #[.slice A l.length c, .int .u16 x] w fun e w' => e = .returned (.bool true) ∧ Below w.heap.size w w' := by
  have HB := Aside0.mk (Below.refl w.heap.size w)
  have HA : Aside0 (stillagelaw01_awake.f = some true) := ⟨rfl⟩
  have HR := Aside0.mk hr
  have HC := Aside0.mk hc
  have HS := Aside0.mk hs
  have HZ := Aside0.mk hz
  have HP := Aside0.mk hp
  have HE := Aside0.mk he
  clear hr hc hs hz hp he
  go_enter Try.func6, Try.ntmps6
  go_wp2_with (first | ((with_reducible refine gate_dst (N := 2) rfl ?_); refine box_event ?hg (N := 2) ?hd (cs := #[.slice A l.length c]) (t := 26) ?hr ?_; (case hd => rfl); (case hg => rfl); (case hr => first | (go_simp; done) | (go_simp; rfl)); intro gb hg w5 hbox hb; have n0_ := Aside0.mk (below_step (by repeat (first | (with_reducible first | exact HB.out | apply below_alloc | apply pw_below_drewN | apply below_drew1) | exact HB.out)) hb); have n1_ := Aside0.mk (hbox); clear HB; have HB := n0_; have BK := n1_; clear n0_ n1_; clear hb hbox hg) | ((with_reducible refine gate_callee (f := 11) rfl ?_); refine goesL_ (some 7) rfl rfl Try.func11 (by kernel_rfl) rfl #[] rfl (by (try simp only [List.map_toArray, List.map_cons, List.map_nil]); first | done | rfl) ?_; (with_reducible refine (stillagelaw01_awake.calls true _ HA.out).mono ?_); rintro e w6 ⟨rfl, hb⟩; refine ⟨_, rfl, ?_⟩; have n0_ := Aside0.mk (below_step (by repeat (first | (with_reducible first | exact HB.out | apply below_alloc | apply pw_below_drewN | apply below_drew1) | exact HB.out)) hb); have n1_ := Aside0.mk (blk_below BK.out hb); clear HB BK; have HB := n0_; have BK := n1_; clear n0_ n1_ hb; have hcx : w6.cell? ⟨gb, 0, none⟩ = some (.slice A l.length c) := (blk_cell BK.out 0).trans rfl) | ((with_reducible refine gate_callee (f := 14) rfl ?_); refine goesL_ (some 16) rfl rfl Try.func14 (by kernel_rfl) rfl #[.slice A l.length c] rfl (by (try simp only [List.map_toArray, List.map_cons, List.map_nil]); first | done | rfl) ?_; (with_reducible refine (crc_Sum.calls k _ _ l s _ ?side1 ?side2 HS.out).mono ?_); (case side1 => exact Kd.C_below HR.out (by repeat (first | (with_reducible first | exact HB.out | apply below_alloc | apply pw_below_drewN | apply below_drew1) | exact HB.out))); (case side2 => exact HC.out); rintro e w' ⟨rfl, ⟨nd, rfl⟩⟩; refine ⟨_, rfl, ?_⟩) | fail)
  refine (put.calls k gb A c l s 0 _ hs0 hs1 ((blk_cell (blk_drewN BK.out _) 0).trans rfl) (Kd.C_below HR.out (by repeat (first | (with_reducible first | exact HB.out | apply below_alloc | apply pw_below_drewN | apply below_drew1) | exact HB.out))) hn HZ.out).mono ?_
  rintro e w7 ⟨rfl, hb⟩
  have n0_ := Aside0.mk (below_step (by repeat (first | (with_reducible first | exact HB.out | apply below_alloc | apply pw_below_drewN | apply below_drew1) | exact HB.out)) hb)
  have n1_ := Aside0.mk (blk_below (by first | exact BK.out | exact blk_drewN BK.out _) hb)
  clear HB BK
  have HB := n0_
  have BK := n1_
  clear n0_ n1_ hb
  go_wp2_with fail
  refine (put.calls k gb A c l x r _ hx0 hx1 ((blk_cell BK.out 0).trans rfl) (Kd.C_below HR.out (by repeat (first | (with_reducible first | exact HB.out | apply below_alloc | apply pw_below_drewN | apply below_drew1) | exact HB.out))) hn HP.out).mono ?_
  rintro e w8 ⟨rfl, hb⟩
  have n0_ := Aside0.mk (below_step (by repeat (first | (with_reducible first | exact HB.out | apply below_alloc | apply pw_below_drewN | apply below_drew1) | exact HB.out)) hb)
  have n1_ := Aside0.mk (blk_below (by first | exact BK.out | exact blk_drewN BK.out _) hb)
  clear HB BK
  have HB := n0_
  have BK := n1_
  clear n0_ n1_ hb
  go_wp2_with fail
  go_ret
  exact ⟨by rw [HE.out]; simp, (by repeat (first | (with_reducible first | exact HB.out | apply below_alloc | apply pw_below_drewN | apply below_drew1) | exact HB.out))⟩
end Go.Proofs.Ytpcgjnjgenfhiaa.PCrcOwn
