/- An intake takes a piece: the way on which it is taken, and all ways together. -/
import Derived.Test.YtjigeblechiffaaIn5
namespace Go.Proofs.Ytjigeblechiffaa.PIntake
open Go.RowKit Go.Proofs.YtjigeblechiffaaW.PrintWords Go.Proofs.YtjigeblechiffaaW.PrintLast Go.Proofs.YtjigeblechiffaaW.PrintMore
attribute [local go_sem] max2_int min2_int max_two min_two max_three min_three max_four min_four   -- for this text's walks alone
set_option linter.unusedVariables false
set_option linter.unusedSimpArgs false
variable {w0 w w1 : World} {B : Nat} {s : St}
theorem RV_of_R {w : World} {base : Nat} {ok : Nat → Prop} {v : Value} {d : List Int} (h : Kd.R kb 5 w base ok v d) (hB : B + 2 < base) : RV B w v (d, v.ownBlock) := ⟨own_weaken (Kd.own_of_R h) hB, rfl⟩
theorem u16_wrap (n : Int) : IntKind.u16.wrap n = n % 65536 := by simp [IntKind.wrap, IntKind.bits, IntKind.signed]
theorem drain_none {k : Nat} {s : St} (h : at_ s.next s.came = none) : drain (k + 1) s = s := by rw [drain, h]
theorem drain_some {k : Nat} {s : St} {r : P} (h : at_ s.next s.came = some r) (hf : (s.queue.length : Int) < 2 * s.window) :
    drain (k + 1) s = drain k { s with came := cut s.next s.came, queue := s.queue ++ [r], next := IntKind.u16.wrap (s.next + 1) } := by rw [drain, h]; simp only; rw [if_pos hf]
theorem drain_full {k : Nat} {s : St} {r : P} (h : at_ s.next s.came = some r) (hf : ¬ (s.queue.length : Int) < 2 * s.window) : drain (k + 1) s = s := by rw [drain, h]; simp only; rw [if_neg hf]

set_option maxHeartbeats 8000000 in
set_option maxRecDepth 100000 in
theorem Take_ok (h : IV w0 B w s) (x : Int) (hx16 : 0 ≤ x ∧ x < 65536) (A : Option Addr) (c : Nat) (d : List Int) (hc : d.length ≤ c) (hD : Kd.C kb w A d.length d) (hd : ¬ 256 < d.length) (hx : at_ x s.came = none) (hb : within x (IntKind.u16.wrap (s.next - IntKind.u16.wrap s.window)) s.window = false)
    (hw : within x s.next s.window = true) (hq : (s.queue.length : Int) < s.window) :
    Calls Try.prog 11 #[.pointer (some ⟨B + 2, 0, none⟩), .int .u16 x, .slice A d.length c] w fun e w' => ∃ t : Option Nat, e = .returned (.int .i64 0) ∧ (∀ k, t = some k → w.heap.size ≤ k) ∧ IV w0 B w' (drain (s.came.length + 2) { s with came := s.came ++ [(x, (d, t))] }) ∧ Kp B w w' := by
  have HALL : Aside0 (∀ n, IV w0 B (w.drewN n) s ∧ Kd.C kb (w.drewN n) A d.length d ∧ Kp B w (w.drewN n)) := ⟨fun n => ⟨h.drewN n, Kd.C_drewN hD n, Kp.below (pw_below_drewN (Below.refl _ _) n)⟩⟩
  have HALL2 : ∀ {w1 : World}, IV w0 B w1 s ∧ Kd.C kb w1 A d.length d ∧ Kp B w w1 → Aside0 (∀ n, IV w0 B (w1.drewN n) s ∧ Kd.C kb (w1.drewN n) A d.length d ∧ Kp B w (w1.drewN n)) := fun ⟨a, b, e⟩ => ⟨fun n => ⟨a.drewN n, Kd.C_drewN b n, e.trans (Kp.below (pw_below_drewN (Below.refl _ _) n))⟩⟩
  have h2 := h.cell2
  have h1 := h.cell1
  have h0 := h.cell0
  obtain ⟨v, hl, _⟩ := h.look x
  rw [hx] at hl
  have hl0 := hl 0
  rw [show w.drewN 0 = w from rfl] at hl0
  have hg : decide (256 < (d.length : Int)) = false := decide_eq_false (by omega)
  have hW : ∀ w, Calls Try.prog 18 #[.int .u16 x, .int .u16 (IntKind.u16.wrap (s.next - IntKind.u16.wrap s.window)), .int .i64 s.window] w fun e w' => e = .returned (.bool false) ∧ w' = w := fun w => by
    have := Within_calls x (IntKind.u16.wrap (s.next - IntKind.u16.wrap s.window)) s.window w
    rw [hb] at this
    exact this
  have hV : ∀ w, Calls Try.prog 18 #[.int .u16 x, .int .u16 s.next, .int .i64 s.window] w fun e w' => e = .returned (.bool true) ∧ w' = w := fun w => by
    have := Within_calls x s.next s.window w
    rw [hw] at this
    exact this
  have hqq : decide (s.window ≤ (s.queue.length : Int)) = false := decide_eq_false (by omega)
  have HC := Aside0.mk hc
  have HX := Aside0.mk hx
  have HX16 := Aside0.mk hx16
  have HF : Aside0 (slices_Clone_byte_byte.f d = some d) := ⟨by unfold slices_Clone_byte_byte.f; rw [if_pos (by omega)]⟩
  clear h hl hd hx hb hw hq hc hD hx16
  go_enter Try.func11, Try.ntmps11
  go_wp2
  go_quiet ((go_at_call 18; exact Calls.quiet_of_same (hW _)))
  have HA := HALL.out nq
  have HALL := HALL2 HA
  have h3 := HA.1.cell3
  have h1 := HA.1.cell1
  have h0 := HA.1.cell0
  have hlen := HA.1.len
  clear HA h2 hl0 hW
  generalize w.drewN nq = wa at HALL h3 h1 h0 hlen ⊢
  go_wp2
  go_quiet ((go_at_call 18; exact Calls.quiet_of_same (hV _)))
  have HA := HALL.out nq
  clear HALL hlen h3 h1 h0 hV hqq hg
  generalize wa.drewN nq = wc at HA ⊢
  clear wa
  have HI := Aside0.mk (HA.1.drew)
  have HD2 := Aside0.mk (Kd.C_drew HA.2.1)
  have HP := Aside0.mk (HA.2.2.trans (Kp.below (below_drew (Below.refl _ _))))
  have hd2 := HI.out.cell2
  have HB := Aside0.mk (blk_lt HI.out.str)
  clear HA HALL2
  go_wp2
  refine start_ (n := 8) (S := fun w' => w'.cell? ⟨B + 2, 2, none⟩ = some (.map (some B))) (ds := [7]) #[false, false, false, false, false, false, false, false] (by kernel_rfl) rfl rfl (hd2) (fun hHeld => ?_)
  generalize wc.drew = wd at HI HD2 HP HB hd2 hHeld ⊢
  refine pure_ (i := 0) (N := some 68) (v := ?_) (a' := ?_) #[true, false, false, false, false, false, false, false] rfl rfl (by kernel_rfl) (fun _ _ _ h => h) (Or.inl ⟨by rfl, ?_⟩) ?_ ?_
  rotate_left
  · intro w'
    go_simp
    with_reducible rfl
  rotate_left
  · simp only [Act.put, List.setIfInBounds_toArray, List.set_cons_zero, List.set_cons_succ, i64_w, i32_w]
    rfl
  refine pure_ (i := 1) (N := some 69) (v := ?_) (a' := ?_) #[true, true, false, false, false, false, false, false] rfl rfl (by kernel_rfl) (fun _ _ _ h => h) (Or.inl ⟨by rfl, ?_⟩) ?_ ?_
  rotate_left
  · intro w'
    go_simp
    with_reducible rfl
  rotate_left
  · simp only [Act.put, List.setIfInBounds_toArray, List.set_cons_zero, List.set_cons_succ, i64_w, i32_w]
    rfl
  refine pure_ (i := 2) (N := some 70) (v := ?_) (a' := ?_) #[true, true, true, false, false, false, false, false] rfl rfl (by kernel_rfl) (fun _ _ _ h => h) (Or.inl ⟨by rfl, ?_⟩) ?_ ?_
  rotate_left
  · intro w'
    go_simp
    with_reducible rfl
  rotate_left
  · simp only [Act.put, List.setIfInBounds_toArray, List.set_cons_zero, List.set_cons_succ, i64_w, i32_w]
    rfl
  refine pure_ (i := 4) (N := some 72) (v := ?_) (a' := ?_) #[true, true, true, false, true, false, false, false] rfl rfl (by kernel_rfl) (fun _ _ _ h => h) (Or.inl ⟨by rfl, ?_⟩) ?_ ?_
  rotate_left
  · intro w'
    go_simp
    with_reducible rfl
  rotate_left
  · simp only [Act.put, List.setIfInBounds_toArray, List.set_cons_zero, List.set_cons_succ, i64_w, i32_w]
    rfl
  refine pure_ (i := 5) (N := some 73) (v := ?_) (a' := ?_) #[true, true, true, false, true, true, false, false] rfl rfl (by kernel_rfl) (fun _ _ _ h => h) (Or.inl ⟨by rfl, ?_⟩) ?_ ?_
  rotate_left
  · intro w'
    go_simp
    with_reducible rfl
  rotate_left
  · simp only [Act.put, List.setIfInBounds_toArray, List.set_cons_zero, List.set_cons_succ, i64_w, i32_w]
    rfl
  refine take_ (i := 3) (N := some 71) (v := ?_) (a' := ?_) #[true, true, true, true, true, true, false, false] rfl rfl (by kernel_rfl) (fun _ _ _ h => h) (Or.inl ⟨by rfl, ?_⟩) hHeld ?_ ?_
  rotate_left
  · intro w' s0
    go_simp
    with_reducible rfl
  rotate_left
  · simp only [Act.put, List.setIfInBounds_toArray, List.set_cons_zero, List.set_cons_succ, i64_w, i32_w]
    rfl
  refine one_ (i := 6) (N := some 74) #[true, true, true, true, true, true, true, false] rfl rfl (by kernel_rfl) (by decide) (fun K hK => ?_)
  refine goes_ Try.func19 (by kernel_rfl) rfl #[.slice A d.length c] (by rfl) rfl rfl (by simp only [List.map_toArray, List.map_cons, List.map_nil]; rfl) ?_
  with_reducible refine (slices_Clone_byte_byte.calls A c d d _ HD2.out HC.out HF.out).mono ?_
  rintro e w3 ⟨v1, rfl, hr, hb⟩
  refine ⟨_, rfl, ?_⟩
  have hI3 := HI.out.grow hb
  have hV3 := RV_of_R hr HB.out
  have hP3 := HP.out.trans (Kp.below hb)
  have HTG := Aside0.mk (fun k (hk : v1.ownBlock = some k) => Nat.le_trans HP.out.1 (Kd.R_base hr k hk))
  obtain ⟨w4, hup, hI4, hP4⟩ := hI3.put HX16.out HX.out hV3
  have HI4 := Aside0.mk hI4
  have HP4 := Aside0.mk (hP3.trans hP4)
  have h32 := hI3.cell2
  clear hI3 hV3 hP3 hI4 hP4 hr hb HI HP HB HD2 HC HF HX hd2
  refine hK.out _ _ (h32) (fun hHeld => ?_)
  clear hK K
  refine norm_ (a' := ?_) ?_ ?_
  rotate_left
  · show Act.put _ (some 74) _ = _
    simp only [Act.put, List.setIfInBounds_toArray, List.set_cons_zero, List.set_cons_succ, i64_w, i32_w]
    rfl
  refine last_ (i := 7) (N := none) #[true, true, true, true, true, true, true, true] rfl rfl (by kernel_rfl) (by decide) (fun K hK => ?_)
  refine skip_ (w1 := ?_) (by rfl) rfl ?_ ?_
  rotate_left
  · go_simp
    rfl
  refine hK.out _ _ ?_
  clear hK K
  refine done_ (by kernel_rfl) ?_
  go_wp2
  go_loopg [] (s.came.length + 2) (fun kq wr => ∃ s' : St, Aside0 (IV w0 B wr s') ∧ Aside0 (drain kq s' = drain (s.came.length + 2) { s with came := s.came ++ [(x, (d, v1.ownBlock))] }) ∧ Aside0 (s'.came.length < kq) ∧ Aside0 (Kp B w wr))
  case atStart => exact ⟨_, HI4, ⟨rfl⟩, ⟨by simp⟩, HP4⟩
  case round =>
    obtain ⟨s', HI, HE, HL, HP⟩ := hrel
    clear HI4 HP4
    cases gk with
    | zero => exact absurd HL.out (by omega)
    | succ kq =>
    have h2 := HI.out.cell2
    have h1 := HI.out.cell1
    obtain ⟨vv, hl, hvr⟩ := HI.out.look s'.next
    have HQ : Aside0 (∀ n, IV w0 B (wr.drewN n) s' ∧ Kp B w (wr.drewN n) ∧ ∀ r : P, at_ s'.next s'.came = some r → RV B (wr.drewN n) vv r) :=
      ⟨fun n => ⟨HI.out.drewN n, HP.out.trans (Kp.below (pw_below_drewN (Below.refl _ _) n)), fun r hr => (hvr r hr).below (pw_below_drewN (Below.refl _ _) n)⟩⟩
    clear hvr HI HP
    cases hat : at_ s'.next s'.came with
    | none =>
      rw [hat] at hl
      have H := HE.out
      rw [drain_none hat] at H
      have HE := Aside0.mk H
      clear H hat
      go_wp2
      go_quiet (fail)
      have HA := HQ.out nq
      have HR := Aside0.mk HA
      clear HA
      go_wp2
      go_ret
      refine ⟨v1.ownBlock, rfl, HTG.out, ?_, HR.out.2.1⟩
      rw [← HE.out]
      exact HR.out.1
    | some r =>
      rw [hat] at hl
      have HAT := Aside0.mk hat
      clear hat
      go_wp2
      go_quiet (fail)
      have HA := HQ.out nq
      clear HQ h1 h2 hl
      generalize wr.drewN nq = wq at HA ⊢
      clear wr
      obtain ⟨hI, hP, hV⟩ := HA
      have hV := hV r HAT.out
      have h3 := hI.cell3
      by_cases hroom : (s'.queue.length : Int) < 2 * s'.window
      · obtain ⟨buf, snt, rcv, hch, hsz, hI1, hP1⟩ := hI.send hV hroom
        have H := HE.out
        rw [drain_some HAT.out hroom] at H
        have HE := Aside0.mk H
        have HI1 := Aside0.mk hI1
        have HP1 := Aside0.mk (hP.trans hP1)
        clear hI hP hV hroom H hI1 hP1
        go_upto_region 14 with fail
        refine wp_sel (v := .tuple #[goInt 0, .bool false]) (w' := wq.setChan (B + 1) (2 * s'.window).toNat (buf.push vv) false (snt + 1) rcv false) (cases := #[Go.Conc.scase (B + 1) vv (.slice none 0 0)]) rfl rfl (by rfl) ?r1 ?r2 ?r3
        case r1 => go_simp; rfl
        case r2 => exact fun fr cs es he => Go.Conc.step_lone_select_send_room he hch hsz
        generalize wq.setChan (B + 1) (2 * s'.window).toNat (buf.push vv) false (snt + 1) rcv false = w2 at HI1 HP1 ⊢
        clear hch hsz h3
        simp only [wpOps]
        go_simp
        refine .inl (.inl ?_)
        rename_i K hK
        refine hK _ _ ?_
        clear hK K
        go_wp2
        have HI2 := Aside0.mk HI1.out.drew
        have HP2 := Aside0.mk (HP1.out.trans (Kp.below (below_drew (Below.refl _ _))))
        obtain ⟨w5, hdel, hI5, hP5⟩ := HI2.out.del s'.next
        have hd2 : w2.drew.cell? ⟨B + 2, 2, none⟩ = some (.map (some B)) := HI2.out.cell2
        have hd1 : w2.drew.cell? ⟨B + 2, 1, none⟩ = some (.int .u16 s'.next) := HI2.out.cell1
        have HI5 := Aside0.mk hI5
        have HP5 := Aside0.mk (HP2.out.trans hP5)
        clear HI1 HP1 hI5 hP5
        refine start_ (n := 9) (S := fun w' => w'.cell? ⟨B + 2, 2, none⟩ = some (.map (some B)) ∧ w'.cell? ⟨B + 2, 1, none⟩ = some (.int .u16 s'.next)) (ds := [8]) #[false, false, false, false, false, false, false, false, false] (by kernel_rfl) rfl rfl ⟨hd2, hd1⟩ (fun hHeld => ?_)
        generalize w2.drew = w2d at HI2 HP2 hd2 hd1 hdel hHeld ⊢
        refine pure_ (i := 0) (N := some 97) (v := ?_) (a' := ?_) #[true, false, false, false, false, false, false, false, false] rfl rfl (by kernel_rfl) (fun _ _ _ h => h) (Or.inl ⟨by rfl, ?_⟩) ?_ ?_
        rotate_left
        · intro w'
          go_simp
          with_reducible rfl
        rotate_left
        · simp only [Act.put, List.setIfInBounds_toArray, List.set_cons_zero, List.set_cons_succ, i64_w, i32_w]
          rfl
        refine pure_ (i := 1) (N := some 98) (v := ?_) (a' := ?_) #[true, true, false, false, false, false, false, false, false] rfl rfl (by kernel_rfl) (fun _ _ _ h => h) (Or.inl ⟨by rfl, ?_⟩) ?_ ?_
        rotate_left
        · intro w'
          go_simp
          with_reducible rfl
        rotate_left
        · simp only [Act.put, List.setIfInBounds_toArray, List.set_cons_zero, List.set_cons_succ, i64_w, i32_w]
          rfl
        refine pure_ (i := 2) (N := some 99) (v := ?_) (a' := ?_) #[true, true, true, false, false, false, false, false, false] rfl rfl (by kernel_rfl) (fun _ _ _ h => h) (Or.inl ⟨by rfl, ?_⟩) ?_ ?_
        rotate_left
        · intro w'
          go_simp
          with_reducible rfl
        rotate_left
        · simp only [Act.put, List.setIfInBounds_toArray, List.set_cons_zero, List.set_cons_succ, i64_w, i32_w]
          rfl
        refine pure_ (i := 4) (N := some 101) (v := ?_) (a' := ?_) #[true, true, true, false, true, false, false, false, false] rfl rfl (by kernel_rfl) (fun _ _ _ h => h) (Or.inl ⟨by rfl, ?_⟩) ?_ ?_
        rotate_left
        · intro w'
          go_simp
          with_reducible rfl
        rotate_left
        · simp only [Act.put, List.setIfInBounds_toArray, List.set_cons_zero, List.set_cons_succ, i64_w, i32_w]
          rfl
        refine pure_ (i := 5) (N := some 102) (v := ?_) (a' := ?_) #[true, true, true, false, true, true, false, false, false] rfl rfl (by kernel_rfl) (fun _ _ _ h => h) (Or.inl ⟨by rfl, ?_⟩) ?_ ?_
        rotate_left
        · intro w'
          go_simp
          with_reducible rfl
        rotate_left
        · simp only [Act.put, List.setIfInBounds_toArray, List.set_cons_zero, List.set_cons_succ, i64_w, i32_w]
          rfl
        refine pure_ (i := 6) (N := some 103) (v := ?_) (a' := ?_) #[true, true, true, false, true, true, true, false, false] rfl rfl (by kernel_rfl) (fun _ _ _ h => h) (Or.inl ⟨by rfl, ?_⟩) ?_ ?_
        rotate_left
        · intro w'
          go_simp
          with_reducible rfl
        rotate_left
        · simp only [Act.put, List.setIfInBounds_toArray, List.set_cons_zero, List.set_cons_succ, i64_w, i32_w]
          rfl
        refine take_ (i := 3) (N := some 100) (v := ?_) (a' := ?_) #[true, true, true, true, true, true, true, false, false] rfl rfl (by kernel_rfl) (fun _ _ _ h => h) (Or.inl ⟨by rfl, ?_⟩) hHeld ?_ ?_
        rotate_left
        · rintro w' ⟨s0, s1⟩
          go_simp
          with_reducible rfl
        rotate_left
        · simp only [Act.put, List.setIfInBounds_toArray, List.set_cons_zero, List.set_cons_succ, i64_w, i32_w]
          rfl
        refine take_ (i := 7) (N := some 104) (v := ?_) (a' := ?_) #[true, true, true, true, true, true, true, true, false] rfl rfl (by kernel_rfl) (fun _ _ _ h => h) (Or.inl ⟨by rfl, ?_⟩) hHeld ?_ ?_
        rotate_left
        · rintro w' ⟨s0, s1⟩
          go_simp
          with_reducible rfl
        rotate_left
        · simp only [Act.put, List.setIfInBounds_toArray, List.set_cons_zero, List.set_cons_succ, i64_w, i32_w]
          rfl
        refine last_ (i := 8) (N := none) #[true, true, true, true, true, true, true, true, true] rfl rfl (by kernel_rfl) (by decide) (fun K hK => ?_)
        refine value_ (w1 := w5) (v := .tuple #[]) (by rfl) rfl ?_ ?_
        · go_simp
        refine hK.out _ _ ?_
        clear hK K
        refine done_ (by kernel_rfl) ?_
        have hc1 : w5.cell? ⟨B + 2, 1, none⟩ = some (.int .u16 s'.next) := HI5.out.cell1
        have hf1 : w5.frozen? ⟨B + 2, 1, none⟩ = false := blk_frozen HI5.out.str 1
        clear hd2 hd1 hdel HI2 HP2
        go_wp2
        go_roundg kq
        case measure => omega
        case rel => exact ⟨_, ⟨(HI5.out.step (y := IntKind.u16.wrap (s'.next + 1)) (by rw [u16_wrap]; omega)).1⟩, HE, ⟨by have := HL.out; have := cut_len HAT.out; simp only; omega⟩, ⟨HP5.out.trans (HI5.out.step (y := IntKind.u16.wrap (s'.next + 1)) (by rw [u16_wrap]; omega)).2⟩⟩
      · have H := HE.out
        rw [drain_full HAT.out hroom] at H
        have HE := Aside0.mk H
        obtain ⟨buf, snt, rcv, hch, hrq⟩ := hI.ch
        have hsz : (2 * s'.window).toNat ≤ buf.size := by have := hrq.len; rw [Array.length_toList] at this; omega
        have HR := Aside0.mk hI
        have HP := Aside0.mk hP
        clear hI hP hV hroom H hrq
        go_upto_region 14 with fail
        refine wp_sel (v := .tuple #[goInt (-1), .bool false]) (w' := wq) (cases := #[Go.Conc.scase (B + 1) vv (.slice none 0 0)]) rfl rfl (by rfl) ?q1 ?q2 ?q3
        case q1 => go_simp; rfl
        case q2 => exact fun fr cs es he => Go.Conc.step_lone_select_send_full he hch hsz
        clear hch hsz h3
        simp only [wpOps]
        go_simp
        refine .inl (.inl ?_)
        rename_i K hK
        refine hK _ _ ?_
        clear hK K
        go_wp2
        go_ret
        refine ⟨v1.ownBlock, rfl, HTG.out, ?_, HP.out⟩
        rw [← HE.out]
        exact HR.out

/-- Take, on all its ways. -/
theorem Take_calls (h : IV w0 B w s) (x : Int) (hx16 : 0 ≤ x ∧ x < 65536) (A : Option Addr) (c : Nat) (d : List Int) (hc : d.length ≤ c) (hD : Kd.C kb w A d.length d) :
    Calls Try.prog 11 #[.pointer (some ⟨B + 2, 0, none⟩), .int .u16 x, .slice A d.length c] w fun e w' => ∃ t : Option Nat, e = .returned (.int .i64 (takeF s x (d, t)).2) ∧ (∀ k, t = some k → w.heap.size ≤ k) ∧ IV w0 B w' (takeF s x (d, t)).1 ∧ Kp B w w' := by
  have still : ∀ n, IV w0 B (w.drewN n) s ∧ Kp B w (w.drewN n) := fun n => ⟨h.drewN n, Kp.below (pw_below_drewN (Below.refl _ _) n)⟩
  have none_ : ∀ k : Nat, (none : Option Nat) = some k → w.heap.size ≤ k := fun k hk => by cases hk
  unfold takeF
  by_cases h1 : 256 < d.length
  · simp only [if_pos h1]
    exact (Take_long h x A c d h1 (Kd.C_max hD)).mono fun _ _ ⟨a, b⟩ => ⟨none, a, none_, b ▸ h, b ▸ Kp.refl B w⟩
  simp only [if_neg h1]
  cases h2 : (at_ x s.came).isSome with
  | true => exact (Take_waits h x A c d h1 h2).mono fun _ _ ⟨a, n, b⟩ => ⟨none, a, none_, b ▸ still n⟩
  | false =>
  cases h3 : within x (IntKind.u16.wrap (s.next - IntKind.u16.wrap s.window)) s.window with
  | true => exact (Take_behind h x A c d h1 h2 h3).mono fun _ _ ⟨a, n, b⟩ => ⟨none, a, none_, b ▸ still n⟩
  | false =>
  simp only [Bool.or_false, Bool.false_eq_true, if_false]
  cases h4 : (!within x s.next s.window || decide (s.window ≤ (s.queue.length : Int))) with
  | true => exact (Take_far h x A c d h1 h2 h3 h4).mono fun _ _ ⟨a, n, b⟩ => ⟨none, a, none_, b ▸ still n⟩
  | false =>
  simp only [Bool.false_eq_true, if_false]
  simp only [Bool.or_eq_false_iff, Bool.not_eq_false', decide_eq_false_iff_not, Int.not_le] at h4
  exact Take_ok h x hx16 A c d hc hD h1 (by simpa using h2) h3 h4.1 h4.2
end Go.Proofs.Ytjigeblechiffaa.PIntake
