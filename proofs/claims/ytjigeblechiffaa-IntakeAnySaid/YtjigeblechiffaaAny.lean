/- IntakeAny: whatever the order in which the pieces of a window come, the same are got. -/
import Derived.Test.YtjigeblechiffaaWait
import Derived.Test.YtjigeblechiffaaAnyP
namespace Go.Proofs.Ytjigeblechiffaa.PIntake
open Go.RowKit Go.Proofs.YtjigeblechiffaaW.PrintWords Go.Proofs.YtjigeblechiffaaW.PrintLast Go.Proofs.YtjigeblechiffaaW.PrintMore
attribute [local go_sem] max2_int min2_int max_two min_two max_three min_three max_four min_four   -- for this text's walks alone
set_option linter.unusedVariables false
set_option linter.unusedSimpArgs false
variable {w0 w w1 : World} {B G : Nat} {s : St}
def encN (xs : List Nat) : Array Value := (xs.map fun x : Nat => Value.int .i64 (x : Int)).toArray
def RowN (w : World) (G : Nat) (xs : List Nat) : Prop := w.heap[G]? = some (.cells (encN xs) 3 (0, 0))
theorem RowN.cell {xs : List Nat} (h : RowN w G xs) {i : Nat} (hi : i < xs.length) : w.cell? ⟨G, i, none⟩ = some (.int .i64 ((xs.getD i 0 : Nat) : Int)) := by
  refine (blk_cell h i).trans ?_
  simp [encN, List.getD_eq_getElem?_getD, List.getElem?_eq_getElem hi]
theorem RowN.frozen {xs : List Nat} (h : RowN w G xs) (i : Nat) : w.frozen? ⟨G, i, none⟩ = false := blk_frozen h i
theorem RowN.set {xs : List Nat} (h : RowN w G xs) (i y : Nat) : RowN (w.setCell ⟨G, i, none⟩ (.int .i64 (y : Int))) G (xs.set i y) :=
  blk_put h i _ (by simp [encN, List.map_set])
theorem RowN.below {xs : List Nat} (h : RowN w G xs) (hb : Below w.heap.size w w1) : RowN w1 G xs := blk_below h hb
theorem RowN.kp {xs : List Nat} (h : RowN w G xs) (hk : Kp B w w1) (hG : B + 2 < G) : RowN w1 G xs := (hk.2 G (blk_lt h) (.inr hG)).trans h
theorem RowN.made (w : World) (n : Nat) : RowN (w.alloc (.cells (madeCells #[.int .i64 0] n) 3)) w.heap.size (List.replicate n 0) := by
  have := blk_new w (.cells (madeCells #[.int .i64 0] n) 3)
  have e : madeCells #[.int .i64 0] n = encN (List.replicate n 0) := by
    apply Array.ext'
    rw [toList_madeCells_one]
    simp [encN]
  rw [e] at this ⊢
  exact this
theorem IV.setFar (h : IV w0 B w s) (hG : B + 2 < G) (hc : s.came = []) (hq : s.queue = []) (i : Nat) (v : Value) : IV w0 B (w.setCell ⟨G, i, none⟩ v) s := by
  have hk : KeepBut w (w.setCell ⟨G, i, none⟩ v) G none := (KeepBut.refl w G none).set_ i v
  have hf : ∀ {k : Nat} {o : Obj}, w.heap[k]? = some o → k ≠ G → (w.setCell ⟨G, i, none⟩ v).heap[k]? = some o := fun ho hne => hk.blk ho hne (by simp)
  refine ⟨h.lo, below_set h.below (by have := h.lo; omega), h.win, h.nxt, hf h.str (by omega), h.stm_same (fun o ho => hf ho (by omega)), ?_, ?_, h.full⟩
  · obtain ⟨es, cl, vs, a, b, c⟩ := h.mp
    rw [hc] at c ⊢
    cases vs with
    | nil => exact ⟨es, cl, [], hf a (by omega), b, trivial⟩
    | cons _ _ => exact c.elim
  · obtain ⟨bf, sn, rc, e, f⟩ := h.ch
    rw [hq] at f ⊢
    refine ⟨bf, sn, rc, hf e (by omega), ?_⟩
    cases hb : bf.toList with
    | nil => trivial
    | cons _ _ => rw [hb] at f; exact f.elim
theorem info_p {o : Option TypeInfo} {z : Value} {a b : Nat} (h : o.map (fun i => (i.zero, i.size, i.bytes)) = some (some z, a, b)) : ∃ i, o = some i ∧ i.zero = some z ∧ i.size = a ∧ i.bytes = b := by
  cases o with
  | none => cases h
  | some i => simp at h; exact ⟨i, rfl, h.1, h.2.1, h.2.2⟩
theorem a_min (len : Nat) : (if (40 : Int) < (len : Int) then (40 : Int) else (len : Int)) = ((min len 40 : Nat) : Int) := by
  split <;> omega
theorem w64 {x : Int} (h : -9223372036854775808 ≤ x ∧ x < 9223372036854775808) : wrap64 x = x := by unfold wrap64; omega
theorem a_succ {k n : Nat} (h : n ≤ 40) (hk : k < n) : wrap64 ((k : Int) + 1) = ((k + 1 : Nat) : Int) := by rw [w64 (by omega)]; rfl
theorem a_mod {k n : Nat} (h : n ≤ 40) (hk : k < n) : IntKind.u64.wrap (wrap64 ((k : Int) + 1)) = (k : Int) + 1 := by
  have e : ∀ n, IntKind.u64.wrap n = n % 18446744073709551616 := by intro n; simp [IntKind.wrap, IntKind.bits, IntKind.signed]
  rw [e, w64 (by omega)]
  omega
theorem a_j (p : Int) {k n : Nat} (h : n ≤ 40) (hk : k < n) : ∃ j : Nat, wrap64 ((IntKind.u64.wrap p).tmod ((k : Int) + 1)) = (j : Int) ∧ j ≤ k := by
  have h0 : 0 ≤ IntKind.u64.wrap p := by
    have : IntKind.u64.wrap p = p % 18446744073709551616 := by simp [IntKind.wrap, IntKind.bits, IntKind.signed]
    rw [this]; omega
  rw [Int.tmod_eq_emod_of_nonneg h0]
  generalize IntKind.u64.wrap p = u at h0
  have h1 := Int.emod_nonneg u (b := (k : Int) + 1) (by omega)
  have h2 := Int.emod_lt_of_pos u (b := (k : Int) + 1) (by omega)
  generalize u % ((k : Int) + 1) = m at h1 h2
  obtain ⟨j, rfl⟩ := Int.eq_ofNat_of_zero_le h1
  exact ⟨j, w64 (by omega), by omega⟩
theorem a_u16 (b p : Int) : IntKind.u16.wrap (b + IntKind.u16.wrap p) = (b + p) % 65536 := by rw [u16_wrap, u16_wrap]; omega
theorem a_u8 {x : Nat} (h : x < 40) : IntKind.u8.wrap (x : Int) = (x : Int) := by
  have : IntKind.u8.wrap (x : Int) = (x : Int) % 256 := by simp [IntKind.wrap, IntKind.bits, IntKind.signed]
  omega
theorem C_first {w : World} {A : Option Addr} {x : Int} (h : Kd.C kb w A ([x] : List Int).length [x]) : ∃ ad, A = some ad ∧ w.cell? ad = some (.int .u8 x) := by
  obtain ⟨ad, rfl, hc⟩ := h.2.2 (by simp)
  obtain ⟨c, hl, hk, hu⟩ := hc 0 x rfl
  have hk : c = [.int .u8 x] := hk
  subst hk
  have := hu 0 _ rfl
  refine ⟨ad, rfl, ?_⟩
  simpa [Addr.add] using this
theorem a_w {m n : Nat} (h : m < n) (hn : n ≤ 40) : -9223372036854775808 ≤ (m : Int) ∧ (m : Int) < 9223372036854775808 := by omega
theorem a_tl {xs : List Nat} {m n : Nat} (h : m < n) (hn : n ≤ 40) : (xs.take m).length < 40 := by rw [List.length_take]; omega
theorem a_meas {k n kq : Nat} (h : k < n) (h2 : n - k < kq) : kq - 1 < kq := by omega
theorem a_next {k n kq : Nat} (h : k < n) (h2 : n - k < kq) : k + 1 ≤ n ∧ n - (k + 1) < kq - 1 := by omega
/-- A number of the order that hasn't come yet. -/
theorem a_new {xs : List Nat} {n m : Nat} (hp : xs.Perm (List.range n)) (hm : m < n) : xs.getD m 0 < n ∧ xs.getD m 0 ∉ xs.take m ∧ xs.take (m + 1) = xs.take m ++ [xs.getD m 0] := by
  have hl : xs.length = n := by rw [hp.length_eq, List.length_range]
  have hml : m < xs.length := by omega
  have hg : xs.getD m 0 = xs[m] := by simp [List.getD_eq_getElem?_getD, List.getElem?_eq_getElem hml]
  have ht : xs.take (m + 1) = xs.take m ++ [xs[m]] := by rw [List.take_add_one, List.getElem?_eq_getElem hml]; rfl
  rw [hg]
  refine ⟨List.mem_range.1 (hp.mem_iff.1 (List.getElem_mem hml)), fun h => ?_, ht⟩
  have hn : (xs.take (m + 1)).Nodup := (hp.symm.nodup List.nodup_range).sublist (List.take_sublist _ _)
  rw [ht, List.nodup_append] at hn
  exact hn.2.2 _ h _ (by simp) rfl
theorem a_queue {n m : Nat} (h : m < n) : ((List.range n).map (fun j : Nat => [(j : Int)])).drop m = [(m : Int)] :: ((List.range n).map (fun j : Nat => [(j : Int)])).drop (m + 1) := by
  rw [List.drop_eq_getElem_cons (by simpa using h)]
  simp

set_option maxHeartbeats 8000000 in
set_option maxRecDepth 100000 in
theorem Any_walk (b : Int) (A : Option Addr) (c : Nat) (l : List Int) (hb : 0 ≤ b ∧ b < 65536) (hc : l.length ≤ c) (w : World) (hr : Kd.C (Kd.int .i64) w A l.length l) :
    Calls Try.prog 8 #[.int .u16 b, .slice A l.length c] w fun e w' => e = .returned (.bool true) ∧ Below w.heap.size w w' := by
  have HF := Aside0.mk hb
  have HR := Aside0.mk hr
  have HC := Aside0.mk hc
  have HM := Aside0.mk (Kd.C_max hr)
  clear hb hr hc
  go_enter Try.func8, Try.ntmps8
  go_upto_region 6 with (first
    | (go_at_call 9; refine (awake_calls w).mono ?_; rintro e w1 ⟨rfl, hB⟩; have HB := Aside0.mk hB; clear hB)
    | (go_at_call 10; refine (New_ok HB.out 64 b (by decide) HF.out).mono ?_; rintro e w2 ⟨rfl, hI⟩; have HI := Aside0.mk hI; clear hI HB))
  generalize w1.heap.size = B at HI ⊢
  go_upto_region 7 with fail
  obtain ⟨n, hn, hn1, hn2⟩ : ∃ n : Nat, n = min l.length 40 ∧ n ≤ l.length ∧ n ≤ 40 := ⟨_, rfl, Nat.min_le_left _ _, Nat.min_le_right _ _⟩
  rw [a_min, ← hn]
  clear hn
  have HN := Aside0.mk (And.intro hn1 hn2)
  have info3 : (Try.prog.info? 3).map (fun i => (i.zero, i.size, i.bytes)) = some (some (.int .i64 0), 1, 8) := by kernel_rfl
  obtain ⟨i3, hi, hz0, hz1, hz2⟩ := Go.Proofs.Ytjigeblechiffaa.PIntake.info_p info3
  have hmk : ∀ w, (Instr.makeSlice 23 (.int .i64 (n : Int)) (.int .i64 (n : Int))).run Try.prog w = .ok (.slice (some ⟨w.heap.size, 0, none⟩) n n) (w.alloc (.cells (madeCells #[.int .i64 0] n) 3)) := fun w => by
    have := run_makeSlice (w := w) 23 3 i3 (.int .i64 0) Try.underlying23 hi hz0 .i64 .i64 (n : Int) (n : Int) (by omega) (by omega) (by rw [hz1]; omega) (by rw [hz2]; omega) (by omega)
    rw [hz1] at this
    simp only [Nat.mul_one, Int.toNat_natCast] at this
    exact this
  clear hn1 hn2 hi hz0 hz1 hz2 info3
  go_upto_region 8 with fail
  have HG := Aside0.mk (RowN.made w2 n)
  have HBG := Aside0.mk (show B + 2 < w2.heap.size from blk_lt HI.out.str)
  have HI := Aside0.mk (HI.out.alloc (.cells (madeCells #[.int .i64 0] n) 3))
  generalize w2.alloc (.cells (madeCells #[.int .i64 0] n) 3) = w3 at HG HI ⊢
  generalize w2.heap.size = G at HG HBG ⊢
  clear hmk
  go_wp2
  go_loopg [36] (n + 1) (fun kq v36 wr => ∃ (k : Nat) (xs : List Nat), v36 = .int .i64 (k : Int) ∧ Aside0 (IV w B wr ⟨64, b, [], []⟩) ∧ Aside0 (RowN wr G xs) ∧ Aside0 (xs.length = n ∧ (xs.take k).Perm (List.range k)) ∧ Aside0 (k ≤ n ∧ n - k < kq))
  case atStart => exact ⟨0, _, rfl, HI, HG, ⟨by simp, by simp⟩, ⟨by omega⟩⟩
  case round =>
    clear HI HG
    obtain ⟨k, xs, rfl, HI, HG, HX, HK⟩ := hrel
    by_cases hlt : k < n
    · have h1 : decide ((k : Int) < (n : Int)) = true := decide_eq_true (Int.ofNat_lt.2 hlt)
      have HLT := Aside0.mk hlt
      have q1 := eq_true (Int.natCast_nonneg k)
      have q2 := eq_true (Int.ofNat_lt.2 hlt : (k : Int) < (n : Int))
      have hck := HG.out.cell (i := k) (by rw [HX.out.1]; exact hlt)
      have hfk := HG.out.frozen k
      clear hlt
      go_upto_region 12 with fail
      have HI1 := Aside0.mk (HI.out.setFar HBG.out rfl rfl k (.int .i64 (k : Int)))
      have HG1 := Aside0.mk (HG.out.set k k)
      generalize wr.setCell ⟨G, k, none⟩ (.int .i64 (k : Int)) = w4 at HI1 HG1 ⊢
      clear hck hfk HI HG
      have hkl : k < l.length := Nat.lt_of_lt_of_le HLT.out HN.out.1
      obtain ⟨ad, rfl, hx⟩ := Kd.at_int (Kd.C_below HR.out HI1.out.below) (k : Int) (Int.natCast_nonneg k) (Int.ofNat_lt.2 hkl)
      simp only [Int.toNat_natCast] at hx
      have q3 := eq_true (Int.ofNat_lt.2 hkl : (k : Int) < (l.length : Int))
      generalize rd l (k : Int) = p at hx
      have hm := a_mod HN.out.2 HLT.out
      have hne : ((k : Int) + 1 = 0) = False := eq_false (by omega)
      clear hkl
      go_upto_region 13 with fail
      obtain ⟨j, hj, hjk⟩ := a_j p HN.out.2 HLT.out
      rw [hj]
      clear hj hx hm hne q3
      have HJ := Aside0.mk hjk
      generalize hys : xs.set k k = ys at HG1
      have HYS := Aside0.mk hys
      have HJL := Aside0.mk (show j < ys.length by rw [← hys]; simp; have := HX.out.1; have := HLT.out; omega)
      have HKL := Aside0.mk (show k < ys.length by rw [← hys]; simp; have := HX.out.1; have := HLT.out; omega)
      have hjn : j < n := Nat.lt_of_le_of_lt hjk HLT.out
      have q4 := eq_true (Int.natCast_nonneg j)
      have q5 := eq_true (Int.ofNat_lt.2 hjn : (j : Int) < (n : Int))
      clear hjk hys hjn
      have HI5 := Aside0.mk HI1.out.drew
      have HG5 := Aside0.mk (HG1.out.below (below_drew (Below.refl _ _)))
      have hcj := HG5.out.cell HJL.out
      have hck := HG5.out.cell HKL.out
      clear HI1 HG1
      generalize w4 = w5 at HI5 HG5 hcj hck ⊢
      refine start_ (n := 16) (S := fun w' => w'.cell? ⟨G, j, none⟩ = some (.int .i64 (((ys.getD j 0 : Nat)) : Int)) ∧ w'.cell? ⟨G, k, none⟩ = some (.int .i64 (((ys.getD k 0 : Nat)) : Int))) (ds := [13, 15]) #[false, false, false, false, false, false, false, false, false, false, false, false, false, false, false, false] (by kernel_rfl) rfl rfl ⟨hcj, hck⟩ (fun hHeld => ?_)
      generalize w5.drew = wd at HI5 HG5 hcj hck hHeld ⊢
      have hfk := HG5.out.frozen k
      refine pure_ (i := 0) (N := some 53) (v := ?_) (a' := ?_) #[true, false, false, false, false, false, false, false, false, false, false, false, false, false, false, false] rfl rfl (by kernel_rfl) (fun _ _ _ h => h) (Or.inl ⟨by rfl, ?_⟩) ?_ ?_
      rotate_left
      · intro w'
        go_simp
        with_reducible rfl
      rotate_left
      · simp only [Act.put, List.setIfInBounds_toArray, List.set_cons_zero, List.set_cons_succ, i64_w, i32_w]
        rfl
      refine pure_ (i := 1) (N := some 54) (v := ?_) (a' := ?_) #[true, true, false, false, false, false, false, false, false, false, false, false, false, false, false, false] rfl rfl (by kernel_rfl) (fun _ _ _ h => h) (Or.inl ⟨by rfl, ?_⟩) ?_ ?_
      rotate_left
      · intro w'
        go_simp
        with_reducible rfl
      rotate_left
      · simp only [Act.put, List.setIfInBounds_toArray, List.set_cons_zero, List.set_cons_succ, i64_w, i32_w]
        rfl
      refine pure_ (i := 2) (N := some 55) (v := ?_) (a' := ?_) #[true, true, true, false, false, false, false, false, false, false, false, false, false, false, false, false] rfl rfl (by kernel_rfl) (fun _ _ _ h => h) (Or.inl ⟨by rfl, ?_⟩) ?_ ?_
      rotate_left
      · intro w'
        go_simp
        with_reducible rfl
      rotate_left
      · simp only [Act.put, List.setIfInBounds_toArray, List.set_cons_zero, List.set_cons_succ, i64_w, i32_w]
        rfl
      refine pure_ (i := 3) (N := some 56) (v := ?_) (a' := ?_) #[true, true, true, true, false, false, false, false, false, false, false, false, false, false, false, false] rfl rfl (by kernel_rfl) (fun _ _ _ h => h) (Or.inl ⟨by rfl, ?_⟩) ?_ ?_
      rotate_left
      · intro w'
        go_simp
        with_reducible rfl
      rotate_left
      · simp only [Act.put, List.setIfInBounds_toArray, List.set_cons_zero, List.set_cons_succ, i64_w, i32_w]
        rfl
      refine pure_ (i := 4) (N := some 57) (v := ?_) (a' := ?_) #[true, true, true, true, true, false, false, false, false, false, false, false, false, false, false, false] rfl rfl (by kernel_rfl) (fun _ _ _ h => h) (Or.inl ⟨by rfl, ?_⟩) ?_ ?_
      rotate_left
      · intro w'
        go_simp
        with_reducible rfl
      rotate_left
      · simp only [Act.put, List.setIfInBounds_toArray, List.set_cons_zero, List.set_cons_succ, i64_w, i32_w]
        rfl
      refine pure_ (i := 5) (N := some 58) (v := ?_) (a' := ?_) #[true, true, true, true, true, true, false, false, false, false, false, false, false, false, false, false] rfl rfl (by kernel_rfl) (fun _ _ _ h => h) (Or.inl ⟨by rfl, ?_⟩) ?_ ?_
      rotate_left
      · intro w'
        go_simp
        with_reducible rfl
      rotate_left
      · simp only [Act.put, List.setIfInBounds_toArray, List.set_cons_zero, List.set_cons_succ, i64_w, i32_w]
        rfl
      refine pure_ (i := 6) (N := some 59) (v := ?_) (a' := ?_) #[true, true, true, true, true, true, true, false, false, false, false, false, false, false, false, false] rfl rfl (by kernel_rfl) (fun _ _ _ h => h) (Or.inl ⟨by rfl, ?_⟩) ?_ ?_
      rotate_left
      · intro w'
        go_simp
        with_reducible rfl
      rotate_left
      · simp only [Act.put, List.setIfInBounds_toArray, List.set_cons_zero, List.set_cons_succ, i64_w, i32_w]
        rfl
      refine pure_ (i := 8) (N := some 61) (v := ?_) (a' := ?_) #[true, true, true, true, true, true, true, false, true, false, false, false, false, false, false, false] rfl rfl (by kernel_rfl) (fun _ _ _ h => h) (Or.inl ⟨by rfl, ?_⟩) ?_ ?_
      rotate_left
      · intro w'
        go_simp
        with_reducible rfl
      rotate_left
      · simp only [Act.put, List.setIfInBounds_toArray, List.set_cons_zero, List.set_cons_succ, i64_w, i32_w]
        rfl
      refine pure_ (i := 9) (N := some 62) (v := ?_) (a' := ?_) #[true, true, true, true, true, true, true, false, true, true, false, false, false, false, false, false] rfl rfl (by kernel_rfl) (fun _ _ _ h => h) (Or.inl ⟨by rfl, ?_⟩) ?_ ?_
      rotate_left
      · intro w'
        go_simp
        with_reducible rfl
      rotate_left
      · simp only [Act.put, List.setIfInBounds_toArray, List.set_cons_zero, List.set_cons_succ, i64_w, i32_w]
        rfl
      refine pure_ (i := 10) (N := some 63) (v := ?_) (a' := ?_) #[true, true, true, true, true, true, true, false, true, true, true, false, false, false, false, false] rfl rfl (by kernel_rfl) (fun _ _ _ h => h) (Or.inl ⟨by rfl, ?_⟩) ?_ ?_
      rotate_left
      · intro w'
        go_simp
        with_reducible rfl
      rotate_left
      · simp only [Act.put, List.setIfInBounds_toArray, List.set_cons_zero, List.set_cons_succ, i64_w, i32_w]
        rfl
      refine take_ (i := 7) (N := some 60) (v := ?_) (a' := ?_) #[true, true, true, true, true, true, true, true, true, true, true, false, false, false, false, false] rfl rfl (by kernel_rfl) (fun _ _ _ h => h) (Or.inl ⟨by rfl, ?_⟩) hHeld ?_ ?_
      rotate_left
      · rintro w' ⟨s0, s1⟩
        go_simp
        with_reducible rfl
      rotate_left
      · simp only [Act.put, List.setIfInBounds_toArray, List.set_cons_zero, List.set_cons_succ, i64_w, i32_w]
        rfl
      refine take_ (i := 11) (N := some 64) (v := ?_) (a' := ?_) #[true, true, true, true, true, true, true, true, true, true, true, true, false, false, false, false] rfl rfl (by kernel_rfl) (fun _ _ _ h => h) (Or.inl ⟨by rfl, ?_⟩) hHeld ?_ ?_
      rotate_left
      · rintro w' ⟨s0, s1⟩
        go_simp
        with_reducible rfl
      rotate_left
      · simp only [Act.put, List.setIfInBounds_toArray, List.set_cons_zero, List.set_cons_succ, i64_w, i32_w]
        rfl
      refine pure_ (i := 12) (N := some 65) (v := ?_) (a' := ?_) #[true, true, true, true, true, true, true, true, true, true, true, true, true, false, false, false] rfl rfl (by kernel_rfl) (fun _ _ _ h => h) (Or.inl ⟨by rfl, ?_⟩) ?_ ?_
      rotate_left
      · intro w'
        go_simp
        with_reducible rfl
      rotate_left
      · simp only [Act.put, List.setIfInBounds_toArray, List.set_cons_zero, List.set_cons_succ, i64_w, i32_w]
        rfl
      refine last_ (i := 13) (N := none) #[true, true, true, true, true, true, true, true, true, true, true, true, true, true, false, false] rfl rfl (by kernel_rfl) (by decide) (fun K hK => ?_)
      refine skip_ (w1 := wd.setCell ⟨G, k, none⟩ (.int .i64 (((ys.getD j 0 : Nat)) : Int))) (by rfl) rfl ?_ ?_
      · go_simp
      refine hK.out _ _ ?_
      clear hK K
      have HG6 := Aside0.mk (HG5.out.set k (ys.getD j 0))
      have HI6 := Aside0.mk (HI5.out.setFar HBG.out rfl rfl k (.int .i64 (((ys.getD j 0 : Nat)) : Int)))
      generalize wd.setCell ⟨G, k, none⟩ (.int .i64 (((ys.getD j 0 : Nat)) : Int)) = we at HG6 HI6 ⊢
      have hfj := HG6.out.frozen j
      have hcj2 := HG6.out.cell (i := j) (by simpa using HJL.out)
      clear HG5 HI5 hcj hck hfk hHeld
      refine pure_ (i := 14) (N := some 66) (v := ?_) (a' := ?_) #[true, true, true, true, true, true, true, true, true, true, true, true, true, true, true, false] rfl rfl (by kernel_rfl) (fun _ _ _ h => h) (Or.inl ⟨by rfl, ?_⟩) ?_ ?_
      rotate_left
      · intro w'
        go_simp
        with_reducible rfl
      rotate_left
      · simp only [Act.put, List.setIfInBounds_toArray, List.set_cons_zero, List.set_cons_succ, i64_w, i32_w]
        rfl
      refine last_ (i := 15) (N := none) #[true, true, true, true, true, true, true, true, true, true, true, true, true, true, true, true] rfl rfl (by kernel_rfl) (by decide) (fun K hK => ?_)
      refine skip_ (w1 := we.setCell ⟨G, j, none⟩ (.int .i64 (((ys.getD k 0 : Nat)) : Int))) (by rfl) rfl ?_ ?_
      · go_simp
      refine hK.out _ _ ?_
      clear hK K
      refine done_ (by kernel_rfl) ?_
      have HI7 := Aside0.mk (HI6.out.setFar HBG.out rfl rfl j (.int .i64 (((ys.getD k 0 : Nat)) : Int)))
      have HG7 := Aside0.mk (HG6.out.set j (ys.getD k 0))
      generalize we.setCell ⟨G, j, none⟩ (.int .i64 (((ys.getD k 0 : Nat)) : Int)) = w7 at HI7 HG7 ⊢
      have hk5 : wrap64 ((k : Int) + 1) = ((k + 1 : Nat) : Int) := a_succ HN.out.2 HLT.out
      clear HG6 HI6 hfj hcj2
      go_wp2
      go_roundg (gk - 1)
      case measure => exact a_meas HLT.out HK.out.2
      case rel =>
        refine ⟨k + 1, _, congrArg (Value.int .i64) (by first | exact hk5 | exact (Int.natCast_succ k).symm | (simp; done)), HI7, HG7, ⟨?_, ?_⟩, ⟨a_next HLT.out HK.out.2⟩⟩
        · rw [← HYS.out]; simp; exact HX.out.1
        · have := shuffle (by rw [HX.out.1]; exact HLT.out) HJ.out HX.out.2
          rw [HYS.out] at this
          exact this
    · have h1 : decide ((k : Int) < (n : Int)) = false := decide_eq_false (fun h => hlt (Int.ofNat_lt.1 h))
      have HXS : Aside0 (xs.Perm (List.range n)) := ⟨by
        have h2 := HX.out.2
        have hkn : k = n := by have := HK.out.1; omega
        rw [hkn, List.take_of_length_le (Nat.le_of_eq HX.out.1)] at h2
        exact h2⟩
      have HXL := Aside0.mk HX.out.1
      clear hlt HX HK
      generalize (k : Int) = κ at h1 ⊢
      go_wp2
      go_loopg [70] (n + 1) (fun kq v70 wr => ∃ (m N : Nat) (s : St), v70 = .int .i64 (m : Int) ∧ Aside0 (IV w B wr s) ∧ Aside0 (RowN wr G xs) ∧ Aside0 (AnyI b (xs.take m) N s ∧ N ∉ xs.take m) ∧ Aside0 (m ≤ n ∧ n - m < kq))
      case atStart => exact ⟨0, 0, _, rfl, HI, HG, ⟨any_start b HF.out, by simp⟩, ⟨by omega⟩⟩
      case round =>
        clear HI HG h1
        obtain ⟨m, N, s, rfl, HI, HG, HS, HK⟩ := hrel
        by_cases hlt : m < n
        · have h1 : decide ((m : Int) < (n : Int)) = true := decide_eq_true (Int.ofNat_lt.2 hlt)
          have HLT := Aside0.mk hlt
          have q1 := eq_true (Int.natCast_nonneg m)
          have q2 := eq_true (Int.ofNat_lt.2 hlt : (m : Int) < (n : Int))
          have hcm := HG.out.cell (i := m) (by rw [HXL.out]; exact hlt)
          obtain ⟨hx1, hx2, hx3⟩ := a_new HXS.out hlt
          generalize xs.getD m 0 = x at hcm hx1 hx2 hx3
          have hx40 : x < 40 := Nat.lt_of_lt_of_le hx1 HN.out.2
          obtain ⟨s', N', ht, hI', hN'⟩ := any_take HF.out HS.out.1 (a_tl (xs := xs) hlt HN.out.2) hx40 hx2
          rw [← hx3] at hI' hN'
          have HT := Aside0.mk ht
          have HS' := Aside0.mk (And.intro hI' hN')
          have hk1 : IntKind.u16.wrap (b + IntKind.u16.wrap (x : Int)) = (b + x) % 65536 := a_u16 b x
          have hk2 : IntKind.u8.wrap (x : Int) = (x : Int) := a_u8 hx40
          have hk5 : wrap64 ((m : Int) + 1) = ((m + 1 : Nat) : Int) := a_succ HN.out.2 hlt
          clear hlt hx1 hx2 hx3 hx40 ht hI' hN' HS
          go_wp2_with (go_at_call 11; refine (Take_to (HI.out.alloc _) _ (by omega) _ 1 [(x : Int)] (by simp) (C_one (blk_new _ _)) HT.out).mono ?_; rintro e w5 ⟨rfl, hI, hP⟩; have HI2 := Aside0.mk hI; have HG2 := Aside0.mk ((HG.out.below (below_alloc (Below.refl _ _) _)).kp hP HBG.out); clear hI hP HI HG)
          go_roundg (gk - 1)
          case measure => exact a_meas HLT.out HK.out.2
          case rel => exact ⟨m + 1, N', s', congrArg (Value.int .i64) (by first | exact hk5 | exact (Int.natCast_succ m).symm | (simp; done)), HI2, HG2, HS', ⟨a_next HLT.out HK.out.2⟩⟩
        · have h1 : decide ((m : Int) < (n : Int)) = false := decide_eq_false (fun h => hlt (Int.ofNat_lt.1 h))
          have HE : Aside0 (N = n ∧ s.came = []) := ⟨by
            have hmn : m = n := by have := HK.out.1; omega
            have h2 := HS.out
            rw [hmn, List.take_of_length_le (Nat.le_of_eq HXL.out)] at h2
            exact any_end h2.1 h2.2 HXS.out⟩
          have HQ : Aside0 (s.came = [] ∧ s.next = (b + n) % 65536 ∧ s.queue = ((List.range n).map (fun j : Nat => [(j : Int)])).drop 0) := ⟨HE.out.2, by rw [HS.out.1.nxt, HE.out.1], by rw [HS.out.1.que, HE.out.1]; rfl⟩
          clear hlt HS HE HK HG
          generalize (m : Int) = κ2 at h1 ⊢
          go_wp2
          go_loopg [13] (n + 1) (fun kq v13 wr => ∃ (m : Nat) (s : St), v13 = .int .i64 (m : Int) ∧ Aside0 (IV w B wr s) ∧ Aside0 (s.came = [] ∧ s.next = (b + n) % 65536 ∧ s.queue = ((List.range n).map (fun j : Nat => [(j : Int)])).drop m) ∧ Aside0 (m ≤ n ∧ n - m < kq))
          case atStart => exact ⟨0, s, rfl, HI, HQ, ⟨by omega⟩⟩
          case round =>
            clear HI HQ h1
            obtain ⟨m, s, rfl, HI, HQ, HK⟩ := hrel
            by_cases hlt : m < n
            · have h1 : decide ((m : Int) < (n : Int)) = true := decide_eq_true (Int.ofNat_lt.2 hlt)
              have HLT := Aside0.mk hlt
              have q2 := eq_true (Int.ofNat_lt.2 hlt : (m : Int) < (n : Int))
              have hq := HQ.out.2.2
              rw [a_queue hlt] at hq
              have HQQ := Aside0.mk hq
              have hv : wrap64 (m : Int) = (m : Int) := w64 (a_w hlt HN.out.2)
              have hk5 : wrap64 ((m : Int) + 1) = ((m + 1 : Nat) : Int) := a_succ HN.out.2 hlt
              clear hlt hq
              go_wp2_with (go_at_call 12; refine (Get_some HI.out HQQ.out).mono ?_; rintro e w6 ⟨v, rfl, hI, hV, _⟩; have HI2 := Aside0.mk hI; obtain ⟨A1, c1, rfl, hc1, hC1, _⟩ := hV; obtain ⟨a1, rfl, hx1⟩ := C_first hC1; clear hI HI hC1 hc1)
              go_roundg (gk - 1)
              case measure => exact a_meas HLT.out HK.out.2
              case rel => exact ⟨m + 1, _, congrArg (Value.int .i64) (by first | exact hk5 | exact (Int.natCast_succ m).symm | (simp; done)), HI2, ⟨HQ.out.1, HQ.out.2.1, rfl⟩, ⟨a_next HLT.out HK.out.2⟩⟩
            · have h1 : decide ((m : Int) < (n : Int)) = false := decide_eq_false (fun h => hlt (Int.ofNat_lt.1 h))
              have hq : s.queue = [] := by
                rw [HQ.out.2.2]
                have : m = n := by have := HK.out.1; omega
                rw [this]
                simp
              have HR13 : Aside0 (∀ {w' : World}, IV w B w' s → Calls Try.prog 13 #[.pointer (some ⟨B + 2, 0, none⟩)] w' fun e w'' => e = .returned (.int .i64 0) ∧ w'' = w') := ⟨fun h => by have := Ready_calls h; rw [hq] at this; exact this⟩
              have HR14 : Aside0 (∀ {w' : World}, IV w B w' s → Calls Try.prog 14 #[.pointer (some ⟨B + 2, 0, none⟩)] w' fun e w'' => e = .returned (.int .u16 ((b + n) % 65536)) ∧ w'' = w') := ⟨fun h => by have := Next_calls h; rw [HQ.out.2.1] at this; exact this⟩
              have HC0 := Aside0.mk HQ.out.1
              have hk1 : IntKind.u16.wrap (b + IntKind.u16.wrap (n : Int)) = (b + n) % 65536 := a_u16 b n
              clear hlt hq HQ HK
              generalize (m : Int) = κ3 at h1 ⊢
              go_wp2_with (first
                | (go_at_call 13; refine (HR13.out HI.out).mono ?_; rintro e w4 ⟨rfl, rfl⟩)
                | (go_at_call 15; refine (Waiting_calls HI.out (by rw [HC0.out]; simp)).mono ?_; rintro e w5 ⟨v, R, rfl, hRl, _, hRP, hI, _⟩; obtain ⟨A5, c5, rfl⟩ := POrder.Kd.P_slice hRP; rw [HC0.out] at hRl; simp only [hRl, List.length_nil]; have HI3 := Aside0.mk hI; clear hI HI hRP hRl)
                | (go_at_call 14; refine (HR14.out HI3.out).mono ?_; rintro e w4 ⟨rfl, rfl⟩))
              go_ret
              exact ⟨rfl, HI3.out.below⟩
end Go.Proofs.Ytjigeblechiffaa.PIntake
