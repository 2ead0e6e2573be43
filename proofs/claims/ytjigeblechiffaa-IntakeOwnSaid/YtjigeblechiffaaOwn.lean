/- IntakeOwn: pieces that are handed in aren't kept, and what is got is new memory. -/
import Derived.Test.YtjigeblechiffaaWait
import Derived.Test.YtjigeblechiffaaOwnP
namespace Go.Proofs.Ytjigeblechiffaa.PIntake
open Go.RowKit Go.Proofs.YtjigeblechiffaaW.PrintWords Go.Proofs.YtjigeblechiffaaW.PrintLast Go.Proofs.YtjigeblechiffaaW.PrintMore
attribute [local go_sem] max2_int min2_int max_two min_two max_three min_three max_four min_four   -- for this text's walks alone
set_option linter.unusedVariables false
set_option linter.unusedSimpArgs false
variable {w0 w w1 : World} {B : Nat} {s : St}
def dat (l : List (List Int)) (k : Nat) : List Int := (l.getD k []).take 200
theorem at_row {A : Option Addr} {l : List (List Int)} (h : Kd.C (Kd.slice 5 kb) w A l.length l) {k : Nat} (hk : k < l.length) :
    ∃ (ad : Addr) (A1 : Option Addr) (c1 : Nat), A = some ad ∧ w.cell? (ad.add k) = some (.slice A1 (l.getD k []).length c1) ∧ (l.getD k []).length ≤ c1 ∧ Kd.C kb w A1 (l.getD k []).length (l.getD k []) := by
  obtain ⟨ad, rfl, hc⟩ := h.2.2 (by omega)
  have hg : l[k]? = some (l.getD k []) := by simp [List.getD_eq_getElem?_getD, List.getElem?_eq_getElem hk]
  obtain ⟨cs, hl, ⟨A1, c1, rfl, h1, h2⟩, hu⟩ := hc k _ hg
  have := hu 0 _ rfl
  simp only [Nat.add_zero] at this
  refine ⟨ad, A1, c1, rfl, ?_, h1, h2⟩
  have e : k * (Kd.slice 5 kb).sz = k := by show k * 1 = k; omega
  rw [e] at this
  exact this
theorem o_min (len : Nat) (m : Int) : (if m < (len : Int) then m else (len : Int)) = min m (len : Int) := by split <;> omega
theorem o_min60 (len : Nat) : (if (60 : Int) < (len : Int) then (60 : Int) else (len : Int)) = ((min len 60 : Nat) : Int) := by split <;> omega
theorem o_min200 (len : Nat) : (if (200 : Int) < (len : Int) then (200 : Int) else (len : Int)) = ((min 200 len : Nat) : Int) := by split <;> omega
theorem w64 {x : Int} (h : -9223372036854775808 ≤ x ∧ x < 9223372036854775808) : wrap64 x = x := by unfold wrap64; omega
theorem o_u16 (b p : Int) : IntKind.u16.wrap (b + IntKind.u16.wrap p) = (b + p) % 65536 := by rw [u16_wrap, u16_wrap]; omega
theorem OwnAt.few {f : Int} {n k : Nat} {D : Nat → List Int} {s : St} (h : OwnAt f n k D s) (hn : n ≤ 60) : s.came.length ≤ 1000 := by
  rcases h with ⟨_, h⟩ | ⟨_, h, _⟩
  · have := h.len; omega
  · rw [h]; simp
theorem take_min (l : List Int) : l.take (min 200 l.length) = l.take 200 := by
  rcases Nat.le_total 200 l.length with h | h
  · rw [Nat.min_eq_left h]
  · rw [Nat.min_eq_right h, List.take_length, List.take_of_length_le h]
theorem dat_len (l : List (List Int)) (k : Nat) : (dat l k).length ≤ 200 := by unfold dat; rw [List.length_take]; omega
theorem R_kp {base : Nat} {v : Value} {xs : List Int} (h : Kd.R kb 5 w base (fun _ => True) v xs) (hP : Kp B w w1) (hb : B + 2 < base) : Kd.R kb 5 w1 base (fun _ => True) v xs :=
  Kd.R_of_own (own_move (Kd.own_of_R h) (fun k hk => hP.2 k (own_lt (Kd.own_of_R h) k hk) (.inr (by have := own_base (Kd.own_of_R h) k hk; omega)))) (fun _ _ => trivial)
theorem o_meas {j n kq : Nat} (h : j < n) (h2 : n - j < kq) : kq - 1 < kq := by omega
theorem o_next {j n kq : Nat} (h : j < n) (h2 : n - j < kq) : j + 1 ≤ n ∧ n - (j + 1) < kq - 1 := by omega
theorem o_succ {j n : Nat} (h : n ≤ 1000) (hj : j < n) : wrap64 ((j : Int) + 1) = ((j + 1 : Nat) : Int) := by rw [w64 (by omega)]; rfl
theorem R_form {e base n c : Nat} {ok : Nat → Prop} {A : Option Addr} {xs : List Int} (h : Kd.R kb e w base ok (.slice A n c) xs) (hn : 0 < n) : ∃ g, A = some ⟨g, 0, none⟩ ∧ base ≤ g := by
  rcases (Kd.own_of_R h).2 with ⟨h1, h2⟩ | ⟨g, cap, cur, h1, h2, _⟩
  · injection h1 with h1 h3 h4; omega
  · injection h1 with h1 h3 h4
    exact ⟨g, h1, h2⟩

/-- What waits to be got once all is in: the pieces from m on. -/
def OwnQ (n : Nat) (D : Nat → List Int) (m : Nat) (s : St) : Prop := s.came = [] ∧ s.queue.map (·.1) = ((List.range n).map D).drop m ∧ (tags s).Nodup
theorem own_pop {n m : Nat} {D : Nat → List Int} {s : St} (h : OwnQ n D m s) (hm : m < n) : ∃ p q, s.queue = p :: q ∧ p.1 = D m ∧ OwnQ n D (m + 1) { s with queue := q } ∧ (∀ g, p.2 = some g → g ∉ tags { s with queue := q }) := by
  obtain ⟨h1, h2, h3⟩ := h
  have hl : s.queue.length = n - m := by
    have := congrArg List.length h2
    simpa using this
  cases hq : s.queue with
  | nil => rw [hq] at hl; simp at hl; omega
  | cons p q =>
    have hd : ((List.range n).map D).drop m = D m :: ((List.range n).map D).drop (m + 1) := by
      rw [List.drop_eq_getElem_cons (by simpa using hm)]
      simp
    rw [hq, hd, List.map_cons] at h2
    injection h2 with h4 h5
    have ht : tags s = p.2.toList ++ tags { s with queue := q } := by
      unfold tags vals
      simp only [h1, hq, List.map_nil, List.nil_append]
      cases hp : p.2 <;> simp [hp]
    rw [ht] at h3
    have h6 := List.nodup_append.1 h3
    refine ⟨p, q, rfl, h4, ⟨h1, h5, h6.2.1⟩, fun g hg hm => ?_⟩
    rw [hg] at h6
    exact h6.2.2 g (by simp) g hm rfl
theorem R_drewN {e base : Nat} {v : Value} {xs : List Int} (h : Kd.R kb e w base (fun _ => True) v xs) (m : Nat) : Kd.R kb e (w.drewN m) base (fun _ => True) v xs :=
  Kd.R_of_own (pw_own_drewN (Kd.own_of_R h) m) (fun _ _ => trivial)
theorem o_last {m n : Nat} (h : m < n) : m + 1 ≤ n ∧ n - (m + 1) < n - m := by omega
theorem own_end {n m : Nat} {D : Nat → List Int} {s : St} (h : OwnQ n D m s) (hm : ¬ m < n) : s.queue.length = 0 := by
  have := congrArg List.length h.2.1
  simp at this
  omega

set_option maxHeartbeats 8000000 in
set_option maxRecDepth 100000 in
theorem Own_walk (b : Int) (A : Option Addr) (c : Nat) (l : List (List Int)) (hb : 0 ≤ b ∧ b < 65536) (hc : l.length ≤ c) (w : World) (hr : Kd.C (Kd.slice 5 kb) w A l.length l) :
    Calls Try.prog 7 #[.int .u16 b, .slice A l.length c] w fun e w' => e = .returned (.bool true) ∧ Below w.heap.size w w' := by
  have HF := Aside0.mk hb
  have HR := Aside0.mk hr
  have HC := Aside0.mk hc
  clear hb hr hc
  go_enter Try.func7, Try.ntmps7
  go_upto_region 6 with (first
    | (go_at_call 9; refine (awake_calls w).mono ?_; rintro e w1 ⟨rfl, hB⟩; have HB := Aside0.mk hB; clear hB)
    | (go_at_call 10; refine (New_ok HB.out 64 b (by decide) HF.out).mono ?_; rintro e w2 ⟨rfl, hI⟩; have HI := Aside0.mk hI; clear hI HB))
  generalize w1.heap.size = B at HI ⊢
  go_upto_region 7 with fail
  obtain ⟨n, hn, hn1, hn2⟩ : ∃ n : Nat, n = min l.length 60 ∧ n ≤ l.length ∧ n ≤ 60 := ⟨_, rfl, Nat.min_le_left _ _, Nat.min_le_right _ _⟩
  rw [o_min60, ← hn]
  clear hn
  have HN := Aside0.mk (And.intro hn1 hn2)
  have hn3 : wrap64 ((n : Int) - 1) = (n : Int) - 1 := w64 (by omega)
  clear hn1 hn2
  go_wp2
  go_loopg [8] (n + 1) (fun kq v8 wr => ∃ (k : Nat) (s : St), v8 = .int .i64 ((k : Int) - 1) ∧ Aside0 (IV w B wr s) ∧ Aside0 (OwnAt b n k (dat l) s ∧ (tags s).Nodup) ∧ Aside0 (k ≤ n ∧ k < kq))
  case atStart =>
    exact ⟨n, _, congrArg (Value.int .i64) (by first | rfl | exact hn3), HI, ⟨own_start b HF.out n (dat l), by simp [tags, vals]⟩, ⟨by omega⟩⟩
  case round =>
    obtain ⟨k, s, rfl, HI', HS, HK⟩ := hrel
    clear HI hn3
    cases k with
    | succ k =>
      have hkn : k < l.length := by have := HK.out.1; have := HN.out.1; omega
      have he : ((k + 1 : Nat) : Int) - 1 = (k : Int) := by omega
      have hge : decide (0 ≤ (k : Int)) = true := decide_eq_true (by omega)
      have hk3 : wrap64 ((k : Int) - 1) = (k : Int) - 1 := w64 (by have := HK.out.1; have := HN.out.2; omega)
      rw [he]
      have q1 := eq_true (Int.natCast_nonneg k)
      have q2 := eq_true (Int.ofNat_lt.2 hkn : (k : Int) < (l.length : Int))
      obtain ⟨ad, A1, c1, rfl, hx, hlc, hC1⟩ := at_row (Kd.C_below HR.out HI'.out.below) hkn
      generalize hrow : l.getD k [] = row at hx hlc hC1
      have HROW := Aside0.mk hrow
      have hmin := o_min200 row.length
      have HC1 := Aside0.mk (Kd.C_drew (Kd.C_take hC1 (Nat.min_le_right 200 row.length)))
      have HLC := Aside0.mk hlc
      have hm1 := eq_true (show ((min 200 row.length : Nat) : Int) ≤ (c1 : Int) by omega)
      have hm2 := eq_true (show (0 : Int) ≤ ((min 200 row.length : Nat) : Int) by omega)
      clear he hkn hlc hC1 hrow
      have HI1 := Aside0.mk HI'.out.drew
      have hcd : wr.drew.cell? (ad.add k) = some (.slice A1 row.length c1) := hx
      clear HI' hx
      go_wp2
      refine start_ (n := 14) (S := fun w' => w'.cell? (ad.add k) = some (.slice A1 row.length c1)) (ds := []) #[false, false, false, false, false, false, false, false, false, false, false, false, false, false] (by kernel_rfl) rfl rfl (hcd) (fun hHeld => ?_)
      generalize wr.drew = wd at HI1 HC1 hcd hHeld ⊢
      refine pure_ (i := 1) (N := some 40) (v := ?_) (a' := ?_) #[false, true, false, false, false, false, false, false, false, false, false, false, false, false] rfl rfl (by kernel_rfl) (fun _ _ _ h => h) (Or.inl ⟨by rfl, ?_⟩) ?_ ?_
      rotate_left
      · intro w'
        go_simp
        with_reducible rfl
      rotate_left
      · simp only [Act.put, List.setIfInBounds_toArray, List.set_cons_zero, List.set_cons_succ, i64_w, i32_w]
        rfl
      refine pure_ (i := 2) (N := some 41) (v := ?_) (a' := ?_) #[false, true, true, false, false, false, false, false, false, false, false, false, false, false] rfl rfl (by kernel_rfl) (fun _ _ _ h => h) (Or.inl ⟨by rfl, ?_⟩) ?_ ?_
      rotate_left
      · intro w'
        go_simp
        with_reducible rfl
      rotate_left
      · simp only [Act.put, List.setIfInBounds_toArray, List.set_cons_zero, List.set_cons_succ, i64_w, i32_w]
        rfl
      refine pure_ (i := 3) (N := some 42) (v := ?_) (a' := ?_) #[false, true, true, true, false, false, false, false, false, false, false, false, false, false] rfl rfl (by kernel_rfl) (fun _ _ _ h => h) (Or.inl ⟨by rfl, ?_⟩) ?_ ?_
      rotate_left
      · intro w'
        go_simp
        with_reducible rfl
      rotate_left
      · simp only [Act.put, List.setIfInBounds_toArray, List.set_cons_zero, List.set_cons_succ, i64_w, i32_w]
        rfl
      refine pure_ (i := 5) (N := some 44) (v := ?_) (a' := ?_) #[false, true, true, true, false, true, false, false, false, false, false, false, false, false] rfl rfl (by kernel_rfl) (fun _ _ _ h => h) (Or.inl ⟨by rfl, ?_⟩) ?_ ?_
      rotate_left
      · intro w'
        go_simp
        with_reducible rfl
      rotate_left
      · simp only [Act.put, List.setIfInBounds_toArray, List.set_cons_zero, List.set_cons_succ, i64_w, i32_w]
        rfl
      refine pure_ (i := 6) (N := some 45) (v := ?_) (a' := ?_) #[false, true, true, true, false, true, true, false, false, false, false, false, false, false] rfl rfl (by kernel_rfl) (fun _ _ _ h => h) (Or.inl ⟨by rfl, ?_⟩) ?_ ?_
      rotate_left
      · intro w'
        go_simp
        with_reducible rfl
      rotate_left
      · simp only [Act.put, List.setIfInBounds_toArray, List.set_cons_zero, List.set_cons_succ, i64_w, i32_w]
        rfl
      refine pure_ (i := 7) (N := some 46) (v := ?_) (a' := ?_) #[false, true, true, true, false, true, true, true, false, false, false, false, false, false] rfl rfl (by kernel_rfl) (fun _ _ _ h => h) (Or.inl ⟨by rfl, ?_⟩) ?_ ?_
      rotate_left
      · intro w'
        go_simp
        with_reducible rfl
      rotate_left
      · simp only [Act.put, List.setIfInBounds_toArray, List.set_cons_zero, List.set_cons_succ, i64_w, i32_w]
        rfl
      refine take_ (i := 4) (N := some 43) (v := ?_) (a' := ?_) #[false, true, true, true, true, true, true, true, false, false, false, false, false, false] rfl rfl (by kernel_rfl) (fun _ _ _ h => h) (Or.inl ⟨by rfl, ?_⟩) hHeld ?_ ?_
      rotate_left
      · intro w' s0
        go_simp
        with_reducible rfl
      rotate_left
      · simp only [Act.put, List.setIfInBounds_toArray, List.set_cons_zero, List.set_cons_succ, i64_w, i32_w]
        rfl
      refine take_ (i := 8) (N := some 47) (v := ?_) (a' := ?_) #[false, true, true, true, true, true, true, true, true, false, false, false, false, false] rfl rfl (by kernel_rfl) (fun _ _ _ h => h) (Or.inl ⟨by rfl, ?_⟩) hHeld ?_ ?_
      rotate_left
      · intro w' s0
        go_simp
        with_reducible rfl
      rotate_left
      · simp only [Act.put, List.setIfInBounds_toArray, List.set_cons_zero, List.set_cons_succ, i64_w, i32_w]
        rfl
      refine pure_ (i := 9) (N := some 48) (v := ?_) (a' := ?_) #[false, true, true, true, true, true, true, true, true, true, false, false, false, false] rfl rfl (by kernel_rfl) (fun _ _ _ h => h) (Or.inl ⟨by rfl, ?_⟩) ?_ ?_
      rotate_left
      · intro w'
        go_simp
        with_reducible rfl
      rotate_left
      · simp only [Act.put, List.setIfInBounds_toArray, List.set_cons_zero, List.set_cons_succ, i64_w, i32_w]
        rfl
      refine pure_ (i := 10) (N := some 49) (v := ?_) (a' := ?_) #[false, true, true, true, true, true, true, true, true, true, true, false, false, false] rfl rfl (by kernel_rfl) (fun _ _ _ h => h) (Or.inl ⟨by rfl, ?_⟩) ?_ ?_
      rotate_left
      · intro w'
        go_simp
        with_reducible rfl
      rotate_left
      · simp only [Act.put, List.setIfInBounds_toArray, List.set_cons_zero, List.set_cons_succ, i64_w, i32_w]
        rfl
      refine pure_ (i := 11) (N := some 50) (v := ?_) (a' := ?_) #[false, true, true, true, true, true, true, true, true, true, true, true, false, false] rfl rfl (by kernel_rfl) (fun _ _ _ h => h) (Or.inl ⟨by rfl, ?_⟩) ?_ ?_
      rotate_left
      · intro w'
        go_simp
        with_reducible rfl
      rotate_left
      · simp only [Act.put, List.setIfInBounds_toArray, List.set_cons_zero, List.set_cons_succ, i64_w, i32_w]
        rfl
      refine one_ (i := 0) (N := some 39) #[true, true, true, true, true, true, true, true, true, true, true, true, false, false] rfl rfl (by kernel_rfl) (by decide) (fun K hK => ?_)
      refine value_ (w1 := ?_) (v := ?_) (by rfl) rfl ?_ ?_
      rotate_left 2
      · go_simp
        constructor
        · rfl
        · rfl
      refine hK.out _ _ (pw_cell_below (below_alloc (Below.refl _ _) _) hcd) (fun hHeld => ?_)
      clear hK K
      refine norm_ (a' := ?_) ?_ ?_
      rotate_left
      · show Act.put _ (some 39) _ = _
        simp only [Act.put, List.setIfInBounds_toArray, List.set_cons_zero, List.set_cons_succ, i64_w, i32_w]
        rfl
      refine one_ (i := 12) (N := some 51) #[true, true, true, true, true, true, true, true, true, true, true, true, true, false] rfl rfl (by kernel_rfl) (by decide) (fun K hK => ?_)
      refine Kd.R_append_rows_step (Kd.int .u8) (w0 := wd) wd.heap.size (by rfl) (.tmp 39) (.tmp 50) 31 5 (.int .u8 0) 1 rfl Try.underlying31 info5 rfl (by decide) (by omega) (.slice (some ⟨wd.heap.size, 0, none⟩) 0 0) [] (row.take (min 200 row.length)) _ _ _ (fun _ => True) (fun _ => False) rfl rfl ?aO ?aR (fun _ _ h => h) (fun _ h => h.elim) ?aF ?aB ?aS ?aL ?_
      case aO => exact ⟨fun _ _ => trivial, [], by simpa using World.ownsRow_made wd #[] 0 (Nat.le_refl _) (Nat.zero_le _) (by simp), Reps.none _ _⟩
      case aR => have hcc := Kd.C_below HC1.out (below_alloc (Below.refl _ _) (.cells #[] 5)); rw [List.length_take, Nat.min_eq_left (Nat.min_le_right _ _)] at hcc; exact hcc
      case aF => exact (fun _ _ => trivial)
      case aB => exact below_alloc (Below.refl _ _) _
      case aS => simp
      case aL => simp; omega
      intro v1 w6 ho hbl hg hat
      rw [List.nil_append] at ho
      have HO := Aside0.mk ho
      have HI6 := Aside0.mk (HI1.out.grow hbl)
      have hcd6 := pw_cell_below hbl hcd
      have hsz6 := hbl.size
      clear ho hbl hg hat
      refine hK.out _ _ (hcd6) (fun hHeld => ?_)
      clear hK K
      refine norm_ (a' := ?_) ?_ ?_
      rotate_left
      · show Act.put _ (some 51) _ = _
        simp only [Act.put, List.setIfInBounds_toArray, List.set_cons_zero, List.set_cons_succ, i64_w, i32_w]
        rfl
      refine pure_ (i := 13) (N := some 9) (v := ?_) (a' := ?_) #[true, true, true, true, true, true, true, true, true, true, true, true, true, true] rfl rfl (by kernel_rfl) (fun _ _ _ h => h) (Or.inl ⟨by rfl, ?_⟩) ?_ ?_
      rotate_left
      · intro w'
        go_simp
        with_reducible rfl
      rotate_left
      · simp only [Act.put, List.setIfInBounds_toArray, List.set_cons_zero, List.set_cons_succ, i64_w, i32_w]
        rfl
      refine done_ (by kernel_rfl) ?_
      rw [take_min] at HO
      have hdk : row.take 200 = dat l k := by unfold dat; rw [HROW.out]
      rw [hdk] at HO
      obtain ⟨A6, c6, rfl, hc6, hC6⟩ := Kd.R_reads HO.out
      have HCC := Aside0.mk (And.intro hc6 hC6)
      have HSTEP : Aside0 (∀ t, ∃ s', takeF s ((b + k) % 65536) (dat l k, t) = (s', 0) ∧ OwnAt b n k (dat l) s' ∧ (vals s').Perm ((dat l k, t) :: vals s)) := ⟨fun t => HS.out.1.step HN.out.2 HF.out (dat_len l k) t⟩
      have HT0 : Aside0 (∀ g ∈ tags s, g < wd.heap.size) := ⟨fun g hg => (HI1.out.tag g hg).2⟩
      have HBB := Aside0.mk (show B + 2 < wd.heap.size from blk_lt HI1.out.str)
      have HSZ := Aside0.mk (show ∀ g, (Value.slice A6 (dat l k).length c6).ownBlock = some g → wd.heap.size ≤ g ∧ g < w6.heap.size from fun g hg => ⟨own_base (Kd.own_of_R HO.out) g hg, own_lt (Kd.own_of_R HO.out) g hg⟩)
      have HS6 := Aside0.mk (show wd.heap.size ≤ w6.heap.size from hsz6)
      have hk1 : IntKind.u16.wrap (b + IntKind.u16.wrap (k : Int)) = (b + k) % 65536 := o_u16 b k
      generalize wd.heap.size = base at HO HT0 HBB HSZ HS6
      clear HI1 HC1 hcd hcd6 hm1 hm2 hmin HLC hc6 hC6 hdk q1 q2 hHeld hsz6
      go_upto_region 13 with (go_at_call 11; refine (Take_calls HI6.out _ (by omega) A6 c6 (dat l k) HCC.out.1 HCC.out.2).mono ?_; rintro e w7 ⟨t, rfl, ht, hI, hP⟩; obtain ⟨s', he, hs', hv'⟩ := HSTEP.out t; rw [he] at hI ⊢; simp only at hI ⊢; have HI7 := Aside0.mk hI; have HO7 := Aside0.mk (R_kp HO.out hP HBB.out); have HV := Aside0.mk hv'; have HTT := Aside0.mk ht; have HS' := Aside0.mk hs'; clear hI hP he hs' hv' ht HO HI6 HSTEP)
      have HG : Aside0 (∀ g, (Value.slice A6 (dat l k).length c6).ownBlock = some g → B + 2 < g ∧ g ∉ tags s') := ⟨fun g hg => by
        have h1 := HSZ.out g hg
        have h2 := HBB.out
        exact ⟨by omega, tags_sub HV.out (fun hm => by have := HT0.out g hm; omega) (fun k hk e => by have := HTT.out k hk; omega)⟩⟩
      have HND : Aside0 ((tags s').Nodup) := ⟨tags_new HV.out HS.out.2 (fun k hk hm => by have := HTT.out k hk; have := HT0.out k hm; have := HS6.out; omega)⟩
      have HDL := Aside0.mk (dat_len l k)
      clear HV HTT HT0 HSZ HS6 HCC
      go_wp2
      go_loopg [62] ((dat l k).length + 1) (fun kq v62 wr => ∃ (j : Nat) (zs : List Int), v62 = .int .i64 (j : Int) ∧ Aside0 (IV w B wr s') ∧ Aside0 (Kd.R kb 5 wr base (fun _ => True) (.slice A6 (dat l k).length c6) zs) ∧ Aside0 (j ≤ (dat l k).length ∧ (dat l k).length - j < kq))
      case atStart => exact ⟨0, _, rfl, HI7, HO7, ⟨by omega⟩⟩
      case round =>
        clear HI7 HO7
        obtain ⟨j, zs, rfl, HI, HZ, HJ⟩ := hrel
        by_cases hlt : j < (dat l k).length
        · have h1 : decide ((j : Int) < ((dat l k).length : Int)) = true := decide_eq_true (Int.ofNat_lt.2 hlt)
          have HLT := Aside0.mk hlt
          have q1 := eq_true (Int.natCast_nonneg j)
          have q2 := eq_true (Int.ofNat_lt.2 hlt : (j : Int) < ((dat l k).length : Int))
          obtain ⟨G, rfl, hG⟩ := R_form HZ.out (by omega)
          obtain ⟨hcj, hfj⟩ := Kd.R_celln (0 : Int) HZ.out (j : Int) (Int.natCast_nonneg j) (Int.ofNat_lt.2 hlt)
          simp only [Int.toNat_natCast] at hcj hfj
          have hk5 : wrap64 ((j : Int) + 1) = ((j + 1 : Nat) : Int) := o_succ (n := (dat l k).length) (by have := HDL.out; omega) hlt
          generalize rdOf (0 : Int) zs (j : Int) = z at hcj
          clear hlt hG
          go_upto_region 17 with fail
          have HI2 := Aside0.mk (HI.out.setTag (HG.out G rfl).1 (HG.out G rfl).2 j (.int .u8 ((z + 1) % 256)))
          have HZ2 := (Kd.R_putg HZ.out (j : Int) ((z + 1) % 256)).1
          simp only [Int.toNat_natCast] at HZ2
          have HZ3 := Aside0.mk HZ2
          clear HI HZ HZ2 hcj hfj
          generalize wr.setCell ⟨G, j, none⟩ (.int .u8 ((z + 1) % 256)) = w8 at HI2 HZ3 ⊢
          go_wp2
          go_roundg (gk - 1)
          case measure => exact o_meas HLT.out HJ.out.2
          case rel =>
            exact ⟨j + 1, _, congrArg (Value.int .i64) (by first | exact hk5 | exact (Int.natCast_succ j).symm | (simp; done)), HI2, HZ3, ⟨o_next HLT.out HJ.out.2⟩⟩
        · have h1 : decide ((j : Int) < ((dat l k).length : Int)) = false := decide_eq_false (fun h => hlt (Int.ofNat_lt.1 h))
          have HT9 : Aside0 (∀ g ∈ tags s', g < wr.heap.size) := ⟨fun g hg => (HI.out.tag g hg).2⟩
          have HB9 := Aside0.mk (show B + 2 < wr.heap.size from blk_lt HI.out.str)
          have hk3 : wrap64 ((k : Int) - 1) = (k : Int) - 1 := w64 (by have := HK.out.1; have := HN.out.2; omega)
          clear hlt HZ HJ
          generalize (j : Int) = κ at h1 ⊢
          go_wp2_with (go_at_call 15; refine (Waiting_calls HI.out (HS'.out.few HN.out.2)).mono ?_; rintro e w9 ⟨v, R, rfl, hRl, _, hRP, hI, _⟩; have HI9 := Aside0.mk hI; obtain ⟨A9, c9, rfl⟩ := POrder.Kd.P_slice hRP; have HRP := Aside0.mk hRP; have HRL := Aside0.mk (show R.length ≤ 1000 by rw [hRl]; exact HS'.out.few HN.out.2); clear hI hRP hRl HI)
          generalize wr.heap.size = base9 at HT9 HB9 HRP
          go_loopg [76] (R.length + 1) (fun kq v76 wr => ∃ (j : Nat) (zs : List Int), v76 = .int .i64 (j : Int) ∧ Aside0 (IV w B wr s') ∧ Aside0 (POrder.Kd.P (Kd.int .u16) 22 wr base9 (fun _ => True) (.slice A9 R.length c9) zs) ∧ Aside0 (j ≤ R.length ∧ R.length - j < kq))
          case atStart => exact ⟨0, _, rfl, HI9, HRP, ⟨by omega⟩⟩
          case round =>
            clear HI9 HRP h1
            obtain ⟨j, zs, rfl, HI, HZ, HJ⟩ := hrel
            by_cases hlt : j < R.length
            · have h1 : decide ((j : Int) < (R.length : Int)) = true := decide_eq_true (Int.ofNat_lt.2 hlt)
              have HLT := Aside0.mk hlt
              have q1 := eq_true (Int.natCast_nonneg j)
              have q2 := eq_true (Int.ofNat_lt.2 hlt : (j : Int) < (R.length : Int))
              have hzl := (POrder.Kd.P_reads' HZ.out).1
              obtain ⟨g9, cap9, hv9, hg9, _⟩ := POrder.Kd.P_form HZ.out (by omega)
              injection hv9 with hA9 hA8 hA7
              clear hA8 hA7
              subst hA9
              obtain ⟨hcj, hfj⟩ := POrder.Kd.P_celln 0 HZ.out (j : Int) (Int.natCast_nonneg j) (Int.ofNat_lt.2 hlt)
              simp only [Int.toNat_natCast] at hcj hfj
              have hk5 : wrap64 ((j : Int) + 1) = ((j + 1 : Nat) : Int) := o_succ HRL.out hlt
              generalize rd zs (j : Int) = z at hcj
              have HGG := Aside0.mk (show B + 2 < g9 ∧ g9 ∉ tags s' from ⟨by have := HB9.out; omega, fun hm => by have := HT9.out g9 hm; omega⟩)
              clear hlt hzl hg9
              go_upto_region 23 with fail
              have HI2 := Aside0.mk (HI.out.setTag HGG.out.1 HGG.out.2 j (.int .u16 7))
              have HZ2 := (POrder.Kd.P_putg HZ.out (j : Int) 7).1
              simp only [Int.toNat_natCast] at HZ2
              have HZ3 := Aside0.mk HZ2
              clear HI HZ HZ2 hcj hfj
              generalize wr.setCell ⟨g9, j, none⟩ (.int .u16 7) = w10 at HI2 HZ3 ⊢
              go_wp2
              go_roundg (gk - 1)
              case measure => exact o_meas HLT.out HJ.out.2
              case rel => exact ⟨j + 1, _, congrArg (Value.int .i64) (by first | exact hk5 | exact (Int.natCast_succ j).symm | (simp; done)), HI2, HZ3, ⟨o_next HLT.out HJ.out.2⟩⟩
            · have h1 : decide ((j : Int) < (R.length : Int)) = false := decide_eq_false (fun h => hlt (Int.ofNat_lt.1 h))
              clear hlt HZ HJ
              generalize (j : Int) = κ2 at h1 ⊢
              go_wp2
              go_roundg (k + 1)
              case measure => exact HK.out.2
              case rel => exact ⟨k, s', congrArg (Value.int .i64) (by first | exact hk3 | rfl), HI, ⟨HS'.out, HND.out⟩, ⟨by have := HK.out.1; omega⟩⟩
    | zero =>
      have hfin : Fin_ n (dat l) s := by
        rcases HS.out.1 with ⟨h, _⟩ | ⟨_, h⟩
        · exact absurd h (Nat.lt_irrefl 0)
        · exact h
      rw [show (((0 : Nat) : Int) - 1) = (-1 : Int) from rfl]
      have HM : Aside0 (OwnQ n (dat l) 0 s) := ⟨hfin.1, by simpa using hfin.2, HS.out.2⟩
      clear hfin HS HK
      go_wp2
      go_loopg [13] (n + 1) (fun kq v13 wr => ∃ (m : Nat) (s' : St), v13 = .int .i64 (m : Int) ∧ Aside0 (IV w B wr s') ∧ Aside0 (OwnQ n (dat l) m s') ∧ Aside0 (m ≤ n ∧ n - m < kq))
      case atStart => exact ⟨0, s, rfl, HI', HM, ⟨by omega⟩⟩
      case round =>
        clear HI' HM
        obtain ⟨m, s', rfl, HI, HQ, HJ⟩ := hrel
        by_cases hlt : m < n
        · have h1 : decide ((m : Int) < (n : Int)) = true := decide_eq_true (Int.ofNat_lt.2 hlt)
          have HLT := Aside0.mk hlt
          have q3 := eq_true (Int.ofNat_lt.2 hlt : (m : Int) < (n : Int))
          have hml : m < l.length := Nat.lt_of_lt_of_le hlt HN.out.1
          obtain ⟨p, q, hq, hp, hQ2, hpt⟩ := own_pop HQ.out hlt
          have HPQ := Aside0.mk hq
          have HPP := Aside0.mk hp
          have HQ2 := Aside0.mk hQ2
          have HPT := Aside0.mk hpt
          clear hlt hq hp hQ2 hpt HQ
          go_upto_region 28 with (go_at_call 12; refine (Get_some HI.out HPQ.out).mono ?_; rintro e w6 ⟨v, rfl, hI, hV, _⟩; have HI2 := Aside0.mk hI; have HV := Aside0.mk hV; clear hI hV HI)
          have hR0 : Kd.R kb 5 w6 (B + 3) (fun _ => True) v (dat l m) := by
            have := HV.out.1
            rw [HPP.out] at this
            exact Kd.R_of_own this (fun _ _ => trivial)
          obtain ⟨A6, c6, rfl, hc6, hC6⟩ := Kd.R_reads hR0
          have HZ0 := Aside0.mk hR0
          have q1 := eq_true (Int.natCast_nonneg m)
          have q2 := eq_true (Int.ofNat_lt.2 hml : (m : Int) < (l.length : Int))
          obtain ⟨ad, A1, c1, rfl, hx, hlc, hC1⟩ := at_row (Kd.C_below HR.out HI2.out.below) hml
          have hdk : (l.getD m []).take (min 200 (l.getD m []).length) = dat l m := take_min _
          have hcL := Kd.C_take hC1 (Nat.min_le_right 200 (l.getD m []).length)
          rw [List.length_take, Nat.min_eq_left (Nat.min_le_right _ _), hdk] at hcL
          generalize (l.getD m []).length = len at hx hlc hcL
          have hmin := o_min200 len
          have hm1 := eq_true (show ((min 200 len : Nat) : Int) ≤ (c1 : Int) by omega)
          have hm2 := eq_true (show (0 : Int) ≤ ((min 200 len : Nat) : Int) by omega)
          have hs1 := fun nq_ : Nat => Kd.C_string (P := Try.prog) (c := c6) Try.underlying31 Try.underlying5 Try.underlying9 (Kd.C_drewN hC6 nq_)
          have hs2 := fun nq_ : Nat => Kd.C_string (P := Try.prog) (c := c1) Try.underlying31 Try.underlying5 Try.underlying9 (Kd.C_drewN hcL nq_)
          clear hR0 hc6 hC6 hml hlc hC1 hdk hcL
          go_quiet (fail)
          have HG : Aside0 (∀ g, (Value.slice A6 (dat l m).length c6).ownBlock = some g → B + 2 < g ∧ g ∉ tags { s' with queue := q }) := ⟨fun g hg => ⟨own_base (Kd.own_of_R HZ0.out) g hg, HPT.out g (HV.out.2.symm.trans hg)⟩⟩
          have HDL := Aside0.mk (dat_len l m)
          clear HV HPT HPP HPQ hs1 hs2 hx hmin hm1 hm2 q1 q2 q3 h1
          go_wp2
          go_loopg [114] ((dat l m).length + 1) (fun kq v114 wr => ∃ (j : Nat) (zs : List Int), v114 = .int .i64 (j : Int) ∧ Aside0 (IV w B wr { s' with queue := q }) ∧ Aside0 (Kd.R kb 5 wr (B + 3) (fun _ => True) (.slice A6 (dat l m).length c6) zs) ∧ Aside0 (j ≤ (dat l m).length ∧ (dat l m).length - j < kq))
          case atStart => exact ⟨0, _, rfl, ⟨HI2.out.drewN nq⟩, ⟨R_drewN HZ0.out nq⟩, ⟨by omega⟩⟩
          case round =>
            clear HI2 HZ0
            obtain ⟨j, zs, rfl, HI, HZ, HK⟩ := hrel
            by_cases hlt : j < (dat l m).length
            · have h1 : decide ((j : Int) < ((dat l m).length : Int)) = true := decide_eq_true (Int.ofNat_lt.2 hlt)
              have HLT2 := Aside0.mk hlt
              have q1 := eq_true (Int.natCast_nonneg j)
              have q2 := eq_true (Int.ofNat_lt.2 hlt : (j : Int) < ((dat l m).length : Int))
              obtain ⟨G, rfl, hG⟩ := R_form HZ.out (by omega)
              obtain ⟨hcj, hfj⟩ := Kd.R_celln (0 : Int) HZ.out (j : Int) (Int.natCast_nonneg j) (Int.ofNat_lt.2 hlt)
              simp only [Int.toNat_natCast] at hcj hfj
              have hk5 : wrap64 ((j : Int) + 1) = ((j + 1 : Nat) : Int) := o_succ (n := (dat l m).length) (by have := HDL.out; omega) hlt
              generalize rdOf (0 : Int) zs (j : Int) = z at hcj
              clear hlt hG
              go_upto_region 34 with fail
              have HI3 := Aside0.mk (HI.out.setTag (HG.out G rfl).1 (HG.out G rfl).2 j (.int .u8 ((z + 1) % 256)))
              have HZ2 := (Kd.R_putg HZ.out (j : Int) ((z + 1) % 256)).1
              simp only [Int.toNat_natCast] at HZ2
              have HZ3 := Aside0.mk HZ2
              clear HI HZ HZ2 hcj hfj
              generalize wr.setCell ⟨G, j, none⟩ (.int .u8 ((z + 1) % 256)) = w8 at HI3 HZ3 ⊢
              go_wp2
              go_roundg (gk - 1)
              case measure => exact o_meas HLT2.out HK.out.2
              case rel => exact ⟨j + 1, _, congrArg (Value.int .i64) (by first | exact hk5 | exact (Int.natCast_succ j).symm | (simp; done)), HI3, HZ3, ⟨o_next HLT2.out HK.out.2⟩⟩
            · have h1 : decide ((j : Int) < ((dat l m).length : Int)) = false := decide_eq_false (fun h => hlt (Int.ofNat_lt.1 h))
              have hk6 : wrap64 ((m : Int) + 1) = ((m + 1 : Nat) : Int) := o_succ (n := n) (by have := HN.out.2; omega) HLT.out
              clear hlt HZ HK
              generalize (j : Int) = κ at h1 ⊢
              go_wp2
              go_roundg (n - m)
              case measure => exact HJ.out.2
              case rel => exact ⟨m + 1, _, congrArg (Value.int .i64) (by first | exact hk6 | exact (Int.natCast_succ m).symm | (simp; done)), HI, HQ2, ⟨o_last HLT.out⟩⟩
        · have h1 : decide ((m : Int) < (n : Int)) = false := decide_eq_false (fun h => hlt (Int.ofNat_lt.1 h))
          have HE : Aside0 (s'.queue.length = 0) := ⟨own_end HQ.out hlt⟩
          have hr9 := Ready_calls HI.out
          rw [HE.out] at hr9
          have hr9 := Aside0.mk hr9
          clear hlt HQ HJ HE
          generalize (m : Int) = κ at h1 ⊢
          go_wp2_with (go_at_call 13; refine hr9.out.mono ?_; rintro e w9 ⟨rfl, rfl⟩)
          go_ret
          exact ⟨rfl, HI.out.below⟩
end Go.Proofs.Ytjigeblechiffaa.PIntake
