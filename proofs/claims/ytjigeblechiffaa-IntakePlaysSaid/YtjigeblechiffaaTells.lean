/- Does the intake tell what the reference tells: stillagelaw04.tells. -/
import Derived.Test.YtjigeblechiffaaRt
import Derived.Test.YtjigeblechiffaaIn3
namespace Go.Proofs.Ytjigeblechiffaa.PPlays
open Go.RowKit Go.Proofs.YtjigeblechiffaaW.PrintWords Go.Proofs.YtjigeblechiffaaW.PrintLast Go.Proofs.YtjigeblechiffaaW.PrintMore
open PIntake PRef
open POrder (In16)
attribute [local go_sem] max2_int min2_int max_two min_two max_three min_three max_four min_four   -- for this text's walks alone
set_option linter.unusedVariables false
set_option linter.unusedSimpArgs false
/-- The intake, and the reference's intake beside it. -/
structure TM (w0 w : World) (B g base : Nat) (wr : World) (s : St) (W : Int) (A : Option Addr) (c : Nat) (L : List S70) (A' : Option Addr) (c' : Nat) (Q : List ByteArray) : Prop where
  iv : IV w0 B wr s
  kp : Kp B w wr
  far : B + 2 < g ∧ B + 2 < base
  b3 : wr.heap[g]? = some (.cells #[.int .i64 W, .int .u16 s.next, .slice A L.length c, .slice A' Q.length c'] 45 (0, 0))
  r1 : Rd k70 wr base A L
  c1 : L.length ≤ c
  r2 : Rd Kd.string wr base A' Q
  c2 : Q.length ≤ c'
  kl : L.map S70.f0 = s.came.map (·.1)
  ql : Q.length = s.queue.length
variable {w0 w wr w1 : World} {B g base : Nat} {s : St} {W : Int} {A A' : Option Addr} {c c' : Nat} {L : List S70} {Q : List ByteArray}
theorem Rd.kp {α : Type} {d : Kd α} {L' : List α} (hK : ∀ (w w1 : World) x cs, d.K w x cs → d.K w1 x cs) (h : Rd d wr base A L') (hb : B + 2 < base) (hP : Kp B wr w1) : Rd d w1 base A L' :=
  h.step (hK _ _) hP.1 (fun ad e => hP.2 _ (h.2 ad e).2 (.inr (by have := (h.2 ad e).1; omega)))
theorem TM.move (h : TM w0 w B g base wr s W A c L A' c' Q) (hI : IV w0 B w1 s) (hP : Kp B wr w1) : TM w0 w B g base w1 s W A c L A' c' Q :=
  ⟨hI, h.kp.trans hP, h.far, (hP.2 _ (blk_lt h.b3) (.inr h.far.1)).trans h.b3, Rd.kp (fun _ _ => K70) h.r1 h.far.2 hP, h.c1, Rd.kp (fun _ _ => KStr) h.r2 h.far.2 hP, h.c2, h.kl, h.ql⟩
theorem TM.grow (h : TM w0 w B g base wr s W A c L A' c' Q) (hb : Below wr.heap.size wr w1) : TM w0 w B g base w1 s W A c L A' c' Q := h.move (h.iv.grow hb) (Kp.below hb)
theorem TM.cell0 (h : TM w0 w B g base wr s W A c L A' c' Q) : wr.cell? ⟨g, 0, none⟩ = some (.int .i64 W) := (blk_cell h.b3 0).trans rfl
theorem TM.cell1 (h : TM w0 w B g base wr s W A c L A' c' Q) : wr.cell? ⟨g, 1, none⟩ = some (.int .u16 s.next) := (blk_cell h.b3 1).trans rfl
theorem TM.cell2 (h : TM w0 w B g base wr s W A c L A' c' Q) : wr.cell? ⟨g, 2, none⟩ = some (.slice A L.length c) := (blk_cell h.b3 2).trans rfl
theorem TM.cell3 (h : TM w0 w B g base wr s W A c L A' c' Q) : wr.cell? ⟨g, 3, none⟩ = some (.slice A' Q.length c') := (blk_cell h.b3 3).trans rfl
theorem TM.k1 (h : TM w0 w B g base wr s W A c L A' c' Q) : Kd.C k70 wr A L.length L := h.r1.1
theorem TM.k2 (h : TM w0 w B g base wr s W A c L A' c' Q) : Kd.C Kd.string wr A' Q.length Q := h.r2.1
theorem TM.ready (h : TM w0 w B g base wr s W A c L A' c' Q) : Calls Try.prog 13 #[.pointer (some ⟨B + 2, 0, none⟩)] wr fun e w' => e = .returned (.int .i64 (Q.length : Int)) ∧ w' = wr := by
  have := Ready_calls h.iv
  rwa [← h.ql] at this
theorem TM.waits (h : TM w0 w B g base wr s W A c L A' c' Q) (hs : s.came.length ≤ 1000) : ∃ k R, stillageref04_Waiting.f k W s.next L Q = some R ∧ POrder.Ord s.next (s.came.map (·.1)) R := by
  have hL : L.length = s.came.length := by have := congrArg List.length h.kl; simpa using this
  have hp0 : ∀ p ∈ L, In16 p.f0 := fun p hp => by
    have hp' : p.f0 ∈ s.came.map (·.1) := by rw [← h.kl]; exact List.mem_map_of_mem hp
    obtain ⟨q, hq, e⟩ := List.mem_map.1 hp'
    have := h.iv.keys.1 q hq
    rw [← e]
    exact this
  obtain ⟨k, R, h1, h2⟩ := (Waiting_e W s.next L Q hp0 h.iv.nxt (by omega)).get
  rw [h.kl] at h2
  exact ⟨k, R, h1, h2⟩
theorem same_true (R : List Int) (h : R.length ≤ 100000) : ∃ k, stillageref03_Same.f k R R = some true := by
  obtain ⟨k, r, h1, h2⟩ := (Same_e R R h).get
  exact ⟨k, by rw [h1, h2.2 rfl]⟩
set_option maxHeartbeats 8000000 in
set_option maxRecDepth 100000 in
theorem tells_calls (h : IV w0 B w s) (hs : s.came.length ≤ 1000) (W : Int) (A : Option Addr) (c : Nat) (L : List S70) (A' : Option Addr) (c' : Nat) (Q : List ByteArray) (base : Nat) (hB : B + 2 < base) (r1 : Rd k70 w base A L) (hc : L.length ≤ c)
    (r2 : Rd Kd.string w base A' Q) (hc' : Q.length ≤ c') (hL : L.map S70.f0 = s.came.map (·.1)) (hQ : Q.length = s.queue.length) :
    Calls Try.prog 17 #[.pointer (some ⟨B + 2, 0, none⟩), .agg #[.int .i64 W, .int .u16 s.next, .slice A L.length c, .slice A' Q.length c']] w fun e w' => e = .returned (.bool true) ∧ IV w0 B w' s ∧ Kp B w w' := by
  have hu45 := Try.underlying45
  have HS := Aside0.mk hs
  have hBl := below_alloc (Below.refl w.heap.size w) (.cells #[.int .i64 W, .int .u16 s.next, .slice A L.length c, .slice A' Q.length c'] 45)
  have HM : Aside0 (TM w0 w B w.heap.size base (w.alloc (.cells #[.int .i64 W, .int .u16 s.next, .slice A L.length c, .slice A' Q.length c'] 45)) s W A c L A' c' Q) :=
    ⟨⟨h.grow hBl, Kp.below hBl, ⟨blk_lt h.str, hB⟩, blk_new w _, r1.below hBl, hc, r2.below hBl, hc', hL, hQ⟩⟩
  clear h hs hB r1 hc r2 hc' hL hQ hBl
  go_enter Try.func17, Try.ntmps17
  go_upto_region 1 with fail
  generalize w.alloc (.cells #[.int .i64 W, .int .u16 s.next, .slice A L.length c, .slice A' Q.length c'] 45) = wa at HM ⊢
  generalize w.heap.size = g at HM ⊢
  have HM := Aside0.mk (HM.out.grow (below_drew (Below.refl _ wa)))
  obtain ⟨kw, R', hkw, hR'⟩ := HM.out.waits HS.out
  have HW := Aside0.mk hkw
  have HWO := Aside0.mk hR'
  clear hkw hR'
  refine start_ (n := 21) (S := fun w' => w'.cell? ⟨g, 0, none⟩ = some (.int .i64 W) ∧ w'.cell? ⟨g, 1, none⟩ = some (.int .u16 s.next) ∧ w'.cell? ⟨g, 2, none⟩ = some (.slice A L.length c) ∧ w'.cell? ⟨g, 3, none⟩ = some (.slice A' Q.length c')) (ds := []) #[false, false, false, false, false, false, false, false, false, false, false, false, false, false, false, false, false, false, false, false, false] (by kernel_rfl) rfl rfl ⟨HM.out.cell0, HM.out.cell1, HM.out.cell2, HM.out.cell3⟩ (fun hHeld => ?_)
  generalize wa.drew = wd at HM hHeld ⊢
  refine pure_ (i := 0) (N := some 5) (v := ?_) (a' := ?_) #[true, false, false, false, false, false, false, false, false, false, false, false, false, false, false, false, false, false, false, false, false] rfl rfl (by kernel_rfl) (fun _ _ _ h => h) (Or.inl ⟨by rfl, ?_⟩) ?_ ?_
  rotate_left
  · intro w'
    go_simp
    with_reducible rfl
  rotate_left
  · simp only [Act.put, List.setIfInBounds_toArray, List.set_cons_zero, List.set_cons_succ, i64_w, i32_w]
    rfl
  refine pure_ (i := 2) (N := some 7) (v := ?_) (a' := ?_) #[true, false, true, false, false, false, false, false, false, false, false, false, false, false, false, false, false, false, false, false, false] rfl rfl (by kernel_rfl) (fun _ _ _ h => h) (Or.inl ⟨by rfl, ?_⟩) ?_ ?_
  rotate_left
  · intro w'
    go_simp
    with_reducible rfl
  rotate_left
  · simp only [Act.put, List.setIfInBounds_toArray, List.set_cons_zero, List.set_cons_succ, i64_w, i32_w]
    rfl
  refine take_ (i := 3) (N := some 8) (v := ?_) (a' := ?_) #[true, false, true, true, false, false, false, false, false, false, false, false, false, false, false, false, false, false, false, false, false] rfl rfl (by kernel_rfl) (fun _ _ _ h => h) (Or.inl ⟨by rfl, ?_⟩) hHeld ?_ ?_
  rotate_left
  · rintro w' ⟨s0, s1, s2, s3⟩
    go_simp
    with_reducible rfl
  rotate_left
  · simp only [Act.put, List.setIfInBounds_toArray, List.set_cons_zero, List.set_cons_succ, i64_w, i32_w]
    rfl
  refine one_ (i := 1) (N := some 6) #[true, true, true, true, false, false, false, false, false, false, false, false, false, false, false, false, false, false, false, false, false] rfl rfl (by kernel_rfl) (by decide) (fun K hK => ?_)
  refine goes_ Try.func14 (by kernel_rfl) rfl #[.pointer (some ⟨B + 2, 0, none⟩)] (by rfl) rfl rfl (by simp only [List.map_toArray, List.map_cons, List.map_nil]; rfl) ?_
  with_reducible refine (Next_calls HM.out.iv).mono ?_
  rintro e w1 ⟨rfl, rfl⟩
  refine ⟨_, rfl, ?_⟩
  refine hK.out _ _ ⟨HM.out.cell0, HM.out.cell1, HM.out.cell2, HM.out.cell3⟩ (fun hHeld => ?_)
  clear hK K
  refine norm_ (a' := ?_) ?_ ?_
  rotate_left
  · show Act.put _ (some 6) _ = _
    simp only [Act.put, List.setIfInBounds_toArray, List.set_cons_zero, List.set_cons_succ, i64_w, i32_w]
    rfl
  refine pure_ (i := 4) (N := some 9) (v := ?_) (a' := ?_) #[true, true, true, true, true, false, false, false, false, false, false, false, false, false, false, false, false, false, false, false, false] rfl rfl (by kernel_rfl) (fun _ _ _ h => h) (Or.inl ⟨by rfl, ?_⟩) ?_ ?_
  rotate_left
  · intro w'
    go_simp
    with_reducible rfl
  rotate_left
  · simp only [Act.put, List.setIfInBounds_toArray, List.set_cons_zero, List.set_cons_succ, i64_w, i32_w]
    rfl
  refine pure_ (i := 5) (N := some 10) (v := ?_) (a' := ?_) #[true, true, true, true, true, true, false, false, false, false, false, false, false, false, false, false, false, false, false, false, false] rfl rfl (by kernel_rfl) (fun _ _ _ h => h) (Or.inl ⟨by rfl, ?_⟩) ?_ ?_
  rotate_left
  · intro w'
    go_simp
    with_reducible rfl
  rotate_left
  · simp only [Act.put, List.setIfInBounds_toArray, List.set_cons_zero, List.set_cons_succ, i64_w, i32_w]
    rfl
  refine pure_ (i := 6) (N := some 11) (v := ?_) (a' := ?_) #[true, true, true, true, true, true, true, false, false, false, false, false, false, false, false, false, false, false, false, false, false] rfl rfl (by kernel_rfl) (fun _ _ _ h => h) (Or.inl ⟨by rfl, ?_⟩) ?_ ?_
  rotate_left
  · intro w'
    go_simp
    with_reducible rfl
  rotate_left
  · simp only [Act.put, List.setIfInBounds_toArray, List.set_cons_zero, List.set_cons_succ, i64_w, i32_w]
    rfl
  refine pure_ (i := 8) (N := some 13) (v := ?_) (a' := ?_) #[true, true, true, true, true, true, true, false, true, false, false, false, false, false, false, false, false, false, false, false, false] rfl rfl (by kernel_rfl) (fun _ _ _ h => h) (Or.inl ⟨by rfl, ?_⟩) ?_ ?_
  rotate_left
  · intro w'
    go_simp
    with_reducible rfl
  rotate_left
  · simp only [Act.put, List.setIfInBounds_toArray, List.set_cons_zero, List.set_cons_succ, i64_w, i32_w]
    rfl
  refine take_ (i := 9) (N := some 14) (v := ?_) (a' := ?_) #[true, true, true, true, true, true, true, false, true, true, false, false, false, false, false, false, false, false, false, false, false] rfl rfl (by kernel_rfl) (fun _ _ _ h => h) (Or.inl ⟨by rfl, ?_⟩) hHeld ?_ ?_
  rotate_left
  · rintro w' ⟨s0, s1, s2, s3⟩
    go_simp
    with_reducible rfl
  rotate_left
  · simp only [Act.put, List.setIfInBounds_toArray, List.set_cons_zero, List.set_cons_succ, i64_w, i32_w]
    rfl
  refine pure_ (i := 10) (N := some 15) (v := ?_) (a' := ?_) #[true, true, true, true, true, true, true, false, true, true, true, false, false, false, false, false, false, false, false, false, false] rfl rfl (by kernel_rfl) (fun _ _ _ h => h) (Or.inl ⟨by rfl, ?_⟩) ?_ ?_
  rotate_left
  · intro w'
    go_simp
    with_reducible rfl
  rotate_left
  · simp only [Act.put, List.setIfInBounds_toArray, List.set_cons_zero, List.set_cons_succ, i64_w, i32_w]
    rfl
  refine one_ (i := 7) (N := some 12) #[true, true, true, true, true, true, true, true, true, true, true, false, false, false, false, false, false, false, false, false, false] rfl rfl (by kernel_rfl) (by decide) (fun K hK => ?_)
  refine goes_ Try.func13 (by kernel_rfl) rfl #[.pointer (some ⟨B + 2, 0, none⟩)] (by rfl) rfl rfl (by simp only [List.map_toArray, List.map_cons, List.map_nil]; rfl) ?_
  with_reducible refine (HM.out.ready).mono ?_
  rintro e w1 ⟨rfl, rfl⟩
  refine ⟨_, rfl, ?_⟩
  refine hK.out _ _ ⟨HM.out.cell0, HM.out.cell1, HM.out.cell2, HM.out.cell3⟩ (fun hHeld => ?_)
  clear hK K
  refine norm_ (a' := ?_) ?_ ?_
  rotate_left
  · show Act.put _ (some 12) _ = _
    simp only [Act.put, List.setIfInBounds_toArray, List.set_cons_zero, List.set_cons_succ, i64_w, i32_w]
    rfl
  refine pure_ (i := 11) (N := some 16) (v := ?_) (a' := ?_) #[true, true, true, true, true, true, true, true, true, true, true, true, false, false, false, false, false, false, false, false, false] rfl rfl (by kernel_rfl) (fun _ _ _ h => h) (Or.inl ⟨by rfl, ?_⟩) ?_ ?_
  rotate_left
  · intro w'
    go_simp
    with_reducible rfl
  rotate_left
  · simp only [Act.put, List.setIfInBounds_toArray, List.set_cons_zero, List.set_cons_succ, i64_w, i32_w]
    rfl
  refine pure_ (i := 12) (N := some 17) (v := ?_) (a' := ?_) #[true, true, true, true, true, true, true, true, true, true, true, true, true, false, false, false, false, false, false, false, false] rfl rfl (by kernel_rfl) (fun _ _ _ h => h) (Or.inl ⟨by rfl, ?_⟩) ?_ ?_
  rotate_left
  · intro w'
    go_simp
    with_reducible rfl
  rotate_left
  · simp only [Act.put, List.setIfInBounds_toArray, List.set_cons_zero, List.set_cons_succ, i64_w, i32_w]
    rfl
  refine pure_ (i := 13) (N := some 18) (v := ?_) (a' := ?_) #[true, true, true, true, true, true, true, true, true, true, true, true, true, true, false, false, false, false, false, false, false] rfl rfl (by kernel_rfl) (fun _ _ _ h => h) (Or.inl ⟨by rfl, ?_⟩) ?_ ?_
  rotate_left
  · intro w'
    go_simp
    with_reducible rfl
  rotate_left
  · simp only [Act.put, List.setIfInBounds_toArray, List.set_cons_zero, List.set_cons_succ, i64_w, i32_w]
    rfl
  refine pure_ (i := 14) (N := some 19) (v := ?_) (a' := ?_) #[true, true, true, true, true, true, true, true, true, true, true, true, true, true, true, false, false, false, false, false, false] rfl rfl (by kernel_rfl) (fun _ _ _ h => h) (Or.inl ⟨by rfl, ?_⟩) ?_ ?_
  rotate_left
  · intro w'
    go_simp
    with_reducible rfl
  rotate_left
  · simp only [Act.put, List.setIfInBounds_toArray, List.set_cons_zero, List.set_cons_succ, i64_w, i32_w]
    rfl
  refine take_ (i := 16) (N := some 21) (v := ?_) (a' := ?_) #[true, true, true, true, true, true, true, true, true, true, true, true, true, true, true, false, true, false, false, false, false] rfl rfl (by kernel_rfl) (fun _ _ _ h => h) (Or.inl ⟨by rfl, ?_⟩) hHeld ?_ ?_
  rotate_left
  · rintro w' ⟨s0, s1, s2, s3⟩
    go_simp
    with_reducible rfl
  rotate_left
  · simp only [Act.put, List.setIfInBounds_toArray, List.set_cons_zero, List.set_cons_succ, i64_w, i32_w]
    rfl
  refine one_ (i := 15) (N := some 20) #[true, true, true, true, true, true, true, true, true, true, true, true, true, true, true, true, true, false, false, false, false] rfl rfl (by kernel_rfl) (by decide) (fun K hK => ?_)
  refine goes_ Try.func15 (by kernel_rfl) rfl #[.pointer (some ⟨B + 2, 0, none⟩)] (by rfl) rfl rfl (by simp only [List.map_toArray, List.map_cons, List.map_nil]; rfl) ?_
  with_reducible refine (Waiting_calls HM.out.iv HS.out).mono ?_
  rintro e w9 ⟨v, R, rfl, hRl, hO, hP, hI, hKp⟩
  refine ⟨_, rfl, ?_⟩
  obtain rfl := hO.eq HWO.out
  obtain ⟨A9, c9, rfl⟩ := POrder.Kd.P_slice hP
  have HC9 := Aside0.mk (POrder.Kd.P_reads' hP).2
  have HM := Aside0.mk (HM.out.move hI hKp)
  obtain ⟨ks, hks⟩ := same_true R (by rw [hRl]; have := HS.out; omega)
  have HSm := Aside0.mk hks
  clear hRl hO hP hI hKp hks HWO
  refine hK.out _ _ ⟨HM.out.cell0, HM.out.cell1, HM.out.cell2, HM.out.cell3⟩ (fun hHeld => ?_)
  clear hK K
  refine norm_ (a' := ?_) ?_ ?_
  rotate_left
  · show Act.put _ (some 20) _ = _
    simp only [Act.put, List.setIfInBounds_toArray, List.set_cons_zero, List.set_cons_succ, i64_w, i32_w]
    rfl
  refine one_ (i := 17) (N := some 22) #[true, true, true, true, true, true, true, true, true, true, true, true, true, true, true, true, true, true, false, false, false] rfl rfl (by kernel_rfl) (by decide) (fun K hK => ?_)
  refine goes_ Try.func26 (by kernel_rfl) rfl #[.agg #[.int .i64 W, .int .u16 s.next, .slice A L.length c, .slice A' Q.length c']] (by rfl) rfl rfl (by simp only [List.map_toArray, List.map_cons, List.map_nil]; rfl) ?_
  with_reducible refine (stillageref04_Waiting.calls kw W s.next A c L A' c' Q R _ HM.out.k1 HM.out.c1 HM.out.k2 HM.out.c2 HW.out).mono ?_
  rintro e w10 ⟨v2, rfl, hO2, hB⟩
  refine ⟨_, rfl, ?_⟩
  obtain ⟨A10, c10, rfl, h1, h2⟩ := Kd.R_reads hO2
  have HC10 := Aside0.mk (And.intro h1 h2)
  have HC9 := Aside0.mk (And.intro HC9.out.1 (Kd.C_below HC9.out.2 hB))
  have HM := Aside0.mk (HM.out.grow hB)
  clear h1 h2 hO2 hB HW
  refine hK.out _ _ ⟨HM.out.cell0, HM.out.cell1, HM.out.cell2, HM.out.cell3⟩ (fun hHeld => ?_)
  clear hK K
  refine norm_ (a' := ?_) ?_ ?_
  rotate_left
  · show Act.put _ (some 22) _ = _
    simp only [Act.put, List.setIfInBounds_toArray, List.set_cons_zero, List.set_cons_succ, i64_w, i32_w]
    rfl
  refine one_ (i := 18) (N := some 23) #[true, true, true, true, true, true, true, true, true, true, true, true, true, true, true, true, true, true, true, false, false] rfl rfl (by kernel_rfl) (by decide) (fun K hK => ?_)
  refine goes_ Try.func25 (by kernel_rfl) rfl #[.slice A9 R.length c9, .slice A10 R.length c10] (by rfl) rfl rfl (by simp only [List.map_toArray, List.map_cons, List.map_nil]; rfl) ?_
  with_reducible refine (stillageref03_Same.calls ks A9 c9 R A10 c10 R true _ HC9.out.2 HC9.out.1 HC10.out.2 HC10.out.1 HSm.out).mono ?_
  rintro e w11 ⟨rfl, m, rfl⟩
  refine ⟨_, rfl, ?_⟩
  have HM := Aside0.mk (HM.out.grow (pw_below_drewN (Below.refl _ _) m))
  refine hK.out _ _ ⟨HM.out.cell0, HM.out.cell1, HM.out.cell2, HM.out.cell3⟩ (fun hHeld => ?_)
  clear hK K
  refine norm_ (a' := ?_) ?_ ?_
  rotate_left
  · show Act.put _ (some 23) _ = _
    simp only [Act.put, List.setIfInBounds_toArray, List.set_cons_zero, List.set_cons_succ, i64_w, i32_w]
    rfl
  refine pure_ (i := 19) (N := some 24) (v := ?_) (a' := ?_) #[true, true, true, true, true, true, true, true, true, true, true, true, true, true, true, true, true, true, true, true, false] rfl rfl (by kernel_rfl) (fun _ _ _ h => h) (Or.inl ⟨by rfl, ?_⟩) ?_ ?_
  rotate_left
  · intro w'
    go_simp
    with_reducible rfl
  rotate_left
  · simp only [Act.put, List.setIfInBounds_toArray, List.set_cons_zero, List.set_cons_succ, i64_w, i32_w]
    rfl
  refine pure_ (i := 20) (N := some 4) (v := ?_) (a' := ?_) #[true, true, true, true, true, true, true, true, true, true, true, true, true, true, true, true, true, true, true, true, true] rfl rfl (by kernel_rfl) (fun _ _ _ h => h) (Or.inl ⟨by rfl, ?_⟩) ?_ ?_
  rotate_left
  · intro w'
    go_simp
    with_reducible rfl
  rotate_left
  · simp only [Act.put, List.setIfInBounds_toArray, List.set_cons_zero, List.set_cons_succ, i64_w, i32_w]
    rfl
  refine done_ (by kernel_rfl) ?_
  go_wp2
  go_ret
  exact ⟨rfl, HM.out.iv, HM.out.kp⟩
end Go.Proofs.Ytjigeblechiffaa.PPlays
