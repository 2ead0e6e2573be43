/- IntakeOnce: pieces that come in any order are got in order, each once. -/
import Derived.Test.YtjigeblechiffaaIn7
namespace Go.Proofs.Ytjigeblechiffaa.PIntake
open Go.RowKit Go.Proofs.YtjigeblechiffaaW.PrintWords Go.Proofs.YtjigeblechiffaaW.PrintLast Go.Proofs.YtjigeblechiffaaW.PrintMore
attribute [local go_sem] max2_int min2_int max_two min_two max_three min_three max_four min_four   -- for this text's walks alone
set_option linter.unusedVariables false
set_option linter.unusedSimpArgs false
variable {w0 w w1 : World} {B : Nat} {s : St}
/-- The bytes of piece n. -/
def phi (n : Nat) : List Int := [(n : Int) % 256, (n : Int) / 256 % 256]
structure Onc (W f : Int) (got : Nat) (s : St) : Prop where
  win : s.window = W
  nxt : s.next = (f + (got + s.queue.length : Nat)) % 65536
  que : ∀ (j : Nat) (r : List Int), s.queue[j]? = some r → r = phi (got + j)
  cam : ∀ p ∈ s.came, ∃ n : Nat, n < 10000 ∧ p.1 = (f + n) % 65536 ∧ p.2 = phi n

theorem onc_start (W f : Int) (hf : 0 ≤ f ∧ f < 65536) : Onc W f 0 ⟨W, f, [], []⟩ := ⟨rfl, by simp; omega, fun j r h => by simp at h, fun p h => by cases h⟩

theorem onc_drain {W f : Int} {got : Nat} (hW : 1 ≤ W ∧ W ≤ 64) (hg : got ≤ 600) : ∀ (k : Nat) {s : St}, Onc W f got s → Onc W f got (drain k s)
  | 0, s, h => h
  | k + 1, s, h => by
    cases ha : at_ s.next s.came with
    | none => rw [drain_none ha]; exact h
    | some r =>
      by_cases hf : (s.queue.length : Int) < 2 * s.window
      · rw [drain_some ha hf]
        have hlen : (s.queue.length : Int) < 128 := by have := h.win; omega
        refine onc_drain hW hg k ⟨h.win, ?_, ?_, fun p hp => h.cam p (mem_cut hp)⟩
        · simp only; rw [u16_wrap, h.nxt, List.length_append, List.length_singleton]; push_cast; omega
        · intro j r' hj
          simp only at hj
          rw [List.getElem?_append] at hj
          split at hj
          · exact h.que j r' hj
          · rename_i hjl
            obtain ⟨n, hn, h1, h2⟩ := h.cam _ (at_mem ha)
            have h3 := h.nxt
            simp only at h1 h2
            have hjj : j - s.queue.length = 0 := by
              rcases Nat.eq_zero_or_pos (j - s.queue.length) with e | e
              · exact e
              · rw [List.getElem?_eq_none (by simpa using Nat.succ_le_of_lt e)] at hj; cases hj
            rw [hjj] at hj
            simp only [List.getElem?_cons_zero, Option.some.injEq] at hj
            rw [← hj, h2]
            have : n = got + j := by
              rw [h3] at h1
              push_cast at h1
              omega
            rw [this]
      · rw [drain_full ha hf]; exact h

theorem onc_take {W f : Int} {got : Nat} {s : St} (hW : 1 ≤ W ∧ W ≤ 64) (hg : got ≤ 600) (h : Onc W f got s) (n : Nat) (hn : n < 10000) : Onc W f got (takeF s ((f + n) % 65536) (phi n)).1 := by
  unfold takeF
  split
  · exact h
  split
  · exact h
  split
  · exact h
  refine onc_drain hW hg _ ⟨h.win, h.nxt, h.que, fun p hp => ?_⟩
  rcases List.mem_append.1 hp with hp | hp
  · exact h.cam p hp
  · rw [List.mem_singleton] at hp
    subst hp
    exact ⟨n, hn, rfl, rfl⟩

theorem onc_pop {W f : Int} {got : Nat} {s : St} {r : List Int} {q : List (List Int)} (h : Onc W f got s) (hq : s.queue = r :: q) : r = phi got ∧ Onc W f (got + 1) { s with queue := q } := by
  refine ⟨h.que 0 r (by rw [hq]; rfl), h.win, ?_, fun j r' hj => ?_, h.cam⟩
  · rw [h.nxt, hq]; simp only [List.length_cons]; push_cast; omega
  · rw [show got + 1 + j = got + (j + 1) from by omega]
    exact h.que (j + 1) r' (by rw [hq]; exact hj)

theorem wlaw (a : Int) : 1 ≤ wrap64 (wrap64 ((IntKind.u64.wrap a).tmod 64) + 1) ∧ wrap64 (wrap64 ((IntKind.u64.wrap a).tmod 64) + 1) ≤ 64 := by
  have h0 : 0 ≤ IntKind.u64.wrap a := by
    have : IntKind.u64.wrap a = a % 18446744073709551616 := by simp [IntKind.wrap, IntKind.bits, IntKind.signed]
    rw [this]; omega
  rw [Int.tmod_eq_emod_of_nonneg h0]
  generalize IntKind.u64.wrap a = u at h0
  unfold wrap64
  omega
theorem nlaw (p W : Int) (got : Nat) (hW : 1 ≤ W ∧ W ≤ 64) (hg : got ≤ 600) :
    ∃ n : Int, wrap64 (wrap64 ((got : Int) + wrap64 ((IntKind.u64.wrap p).tmod (2 * W + 2))) - 1) = n ∧ -1 ≤ n ∧ n < 1000 := by
  have h0 : 0 ≤ IntKind.u64.wrap p := by
    have : IntKind.u64.wrap p = p % 18446744073709551616 := by simp [IntKind.wrap, IntKind.bits, IntKind.signed]
    rw [this]; omega
  rw [Int.tmod_eq_emod_of_nonneg h0]
  generalize IntKind.u64.wrap p = u at h0
  have h1 := Int.emod_nonneg u (b := 2 * W + 2) (by omega)
  have h2 := Int.emod_lt_of_pos u (b := 2 * W + 2) (by omega)
  generalize u % (2 * W + 2) = m at h1 h2
  refine ⟨_, rfl, ?_⟩
  unfold wrap64
  omega
theorem C_pair {w : World} {A : Option Addr} {x y : Int} (h : Kd.C kb w A ([x, y] : List Int).length [x, y]) : ∃ ad, A = some ad ∧ w.cell? ad = some (.int .u8 x) ∧ w.cell? { ad with off := ad.off + 1, spot := none } = some (.int .u8 y) := by
  obtain ⟨ad, rfl, h0⟩ := Kd.at_int h 0 (by omega) (by simp)
  obtain ⟨ad', e, h1⟩ := Kd.at_int h 1 (by omega) (by simp)
  cases e
  exact ⟨ad, rfl, by simpa [Addr.add, rd] using h0, by simpa [Addr.add, rd] using h1⟩

theorem w64 {x : Int} (h : -9223372036854775808 ≤ x ∧ x < 9223372036854775808) : wrap64 x = x := by unfold wrap64; omega
theorem r_succ (k : Nat) (h : k < 10000) : wrap64 ((k : Int) + 1) = ((k + 1 : Nat) : Int) := by rw [w64 (by omega)]; rfl
theorem r_bytes (g : Nat) (h : g < 10000) : (wrap64 (wrap64 ((g : Int) % 256) + 256 * ((g : Int) / 256 % 256)) != (g : Int)) = false ∧ ((g : Int) % 256 + 256 * ((g : Int) / 256 % 256) != (g : Int)) = false := by
  refine ⟨?_, by rw [bne_eq_false_iff_eq]; omega⟩
  have h1 : 0 ≤ (g : Int) % 256 ∧ (g : Int) % 256 < 256 := by omega
  have h2 : 0 ≤ (g : Int) / 256 % 256 ∧ (g : Int) / 256 % 256 < 256 := by omega
  rw [bne_eq_false_iff_eq, w64 (x := (g : Int) % 256) (by omega), w64 (by omega)]
  omega
theorem r_k {got k kq : Nat} (h : got ≤ k ∧ k ≤ 500 ∧ 500 - k < kq) : k < 10000 := by omega
theorem r_got {got k kq : Nat} (h : got ≤ k ∧ k ≤ 500 ∧ 500 - k < kq) : got < 10000 := by omega
theorem r_600 {got k kq : Nat} (h : got ≤ k ∧ k ≤ 500 ∧ 500 - k < kq) : got ≤ 600 := by omega
theorem r_meas {got k kq : Nat} (h : got ≤ k ∧ k ≤ 500 ∧ 500 - k < kq) : kq - 1 < kq := by omega
theorem r_next {got k kq n : Nat} (h : got ≤ k ∧ k ≤ 500 ∧ 500 - k < kq) (h' : k < n ∧ k < 500) : got ≤ k + 1 ∧ k + 1 ≤ 500 ∧ 500 - (k + 1) < kq - 1 := by omega
theorem r_next' {got k kq n : Nat} (h : got ≤ k ∧ k ≤ 500 ∧ 500 - k < kq) (h' : k < n ∧ k < 500) : got + 1 ≤ k + 1 ∧ k + 1 ≤ 500 ∧ 500 - (k + 1) < kq - 1 := by omega
theorem r_start {got k kq n : Nat} {W win : Int} (h : got ≤ k ∧ k ≤ 500 ∧ 500 - k < kq) (hf : (n : Int) ≤ 2 * win) (hw : win = W) (hW : 1 ≤ W ∧ W ≤ 64) : got + n ≤ 700 ∧ n < n + 1 := by omega
theorem r_u16 (b : Int) (g : Nat) : IntKind.u16.wrap (b + IntKind.u16.wrap (g : Int)) = (b + g) % 65536 := by rw [u16_wrap, u16_wrap]; omega
theorem r_pos (n : Nat) : decide (0 < (n : Int) + 1) = true := decide_eq_true (by omega)
theorem r_3000 {g n kq : Nat} (h : g + n ≤ 700 ∧ n < kq) : decide ((g : Int) < 3000) = true := decide_eq_true (by omega)
theorem r_got2 {g n kq : Nat} (h : g + n ≤ 700 ∧ n < kq) : g < 10000 := by omega
theorem r_meas2 {g n kq : Nat} (h : g + n ≤ 700 ∧ n < kq) : kq - 1 < kq := by omega
theorem r_next2 {g kq : Nat} {l : List (List Int)} {r : List Int} {q : List (List Int)} (h : g + l.length ≤ 700 ∧ l.length < kq) (hl : l = r :: q) : g + 1 + q.length ≤ 700 ∧ q.length < kq - 1 := by
  subst hl
  simp only [List.length_cons] at h
  omega
theorem r_m {m : Nat} (h : -1 ≤ (m : Int) ∧ (m : Int) < 1000) : m < 10000 := by omega

set_option maxHeartbeats 8000000 in
set_option maxRecDepth 100000 in
theorem Once_walk (a b : Int) (A : Option Addr) (c : Nat) (l : List Int) (hb : 0 ≤ b ∧ b < 65536) (hc : l.length ≤ c) (w : World) (hr : Kd.C (Kd.int .i64) w A l.length l) :
    Calls Try.prog 3 #[.int .i64 a, .int .u16 b, .slice A l.length c] w fun e w' => e = .returned (.bool true) ∧ Below w.heap.size w w' := by
  have HF := Aside0.mk hb
  have HW := Aside0.mk (wlaw a)
  have HR := Aside0.mk hr
  have HC := Aside0.mk hc
  have HM := Aside0.mk (Kd.C_max hr)
  clear hb hr hc
  go_enter Try.func3, Try.ntmps3
  go_upto_region 4 with (go_at_call 9; refine (awake_calls w).mono ?_; rintro e w1 ⟨rfl, hB⟩; have HB := Aside0.mk hB; clear hB)
  generalize wrap64 (wrap64 ((IntKind.u64.wrap a).tmod 64) + 1) = W at HW ⊢
  go_wp2_with (go_at_call 10; refine (New_ok HB.out W b HW.out HF.out).mono ?_; rintro e w2 ⟨rfl, hI⟩; have HI := Aside0.mk hI; clear hI HB)
  generalize w1.heap.size = B at HI ⊢
  go_loopg [9, 10] (501) (fun kq v9 v10 wr => ∃ (k got : Nat) (s : St), v9 = .int .i64 (got : Int) ∧ v10 = .int .i64 (k : Int) ∧ Aside0 (IV w B wr s) ∧ Aside0 (Onc W b got s) ∧ Aside0 (got ≤ k ∧ k ≤ 500 ∧ 500 - k < kq))
  case atStart => exact ⟨0, 0, _, rfl, rfl, HI, ⟨onc_start W b HF.out⟩, ⟨by omega⟩⟩
  case round =>
    obtain ⟨k, got, s, rfl, rfl, HI', HO, HK⟩ := hrel
    clear HI
    by_cases hlt : k < l.length ∧ k < 500
    · have h1 : decide ((k : Int) < (l.length : Int)) = true := decide_eq_true (by omega)
      have h2 : decide ((k : Int) < 500) = true := decide_eq_true (by omega)
      obtain ⟨ad, rfl, hx⟩ := Kd.at_int (Kd.C_below HR.out HI'.out.below) (k : Int) (by omega) (by omega)
      simp only [Int.toNat_natCast] at hx
      have q1 := eq_true (show 0 ≤ (k : Int) by omega)
      have q2 := eq_true (show (k : Int) < (l.length : Int) by omega)
      have hm : IntKind.u64.wrap (wrap64 (wrap64 (2 * W) + 2)) = 2 * W + 2 := by
        have := HW.out
        have e : ∀ n, IntKind.u64.wrap n = n % 18446744073709551616 := by intro n; simp [IntKind.wrap, IntKind.bits, IntKind.signed]
        rw [e]; unfold wrap64; omega
      have hne : (2 * W + 2 = 0) = False := eq_false (by have := HW.out; omega)
      generalize hp : rd l (k : Int) = p at hx
      have HPE := Aside0.mk hp
      have HKL := Aside0.mk hlt
      clear hp hlt
      go_upto_region 12 with fail
      obtain ⟨n, hn, hn1, hn2⟩ := nlaw p W got HW.out (r_600 HK.out)
      rw [hn]
      have HN := Aside0.mk (And.intro hn1 hn2)
      clear hn hn1 hn2 hm hne h1 h2
      by_cases hn0 : 0 ≤ n
      · obtain ⟨m, rfl⟩ := Int.eq_ofNat_of_zero_le hn0
        have hge : decide (0 ≤ (m : Int)) = true := decide_eq_true (by omega)
        have hk1 : IntKind.u16.wrap (b + IntKind.u16.wrap (m : Int)) = (b + m) % 65536 := by rw [u16_wrap, u16_wrap]; omega
        have e8 : ∀ n, IntKind.u8.wrap n = n % 256 := by intro n; simp [IntKind.wrap, IntKind.bits, IntKind.signed]
        have hk2 : IntKind.u8.wrap (m : Int) = (m : Int) % 256 := e8 _
        have HO1 := Aside0.mk (onc_take HW.out (r_600 HK.out) HO.out m (r_m HN.out))
        clear hn0 HO e8 q1 q2
        go_upto_region 14 with (go_at_call 11; refine (Take_calls (HI'.out.alloc _) _ _ 2 (phi m) (by simp [phi]) (C_two (blk_new _ _))).mono ?_; rintro e w5 ⟨rfl, hI, hP⟩; have HI1 := Aside0.mk hI; clear hI hP HI')
        clear hx
        generalize (takeF s ((b + ↑m) % 65536) (phi m)).1 = s1 at HI1 HO1
        obtain ⟨ad', e, hx⟩ := Kd.at_int (Kd.C_below HR.out HI1.out.below) (k : Int) (Int.natCast_nonneg k) (Int.ofNat_lt.2 HKL.out.1)
        cases e
        simp only [Int.toNat_natCast] at hx
        rw [HPE.out] at hx
        have hk5 : wrap64 ((k : Int) + 1) = ((k + 1 : Nat) : Int) := r_succ k (r_k HK.out)
        have p1 := eq_true (Int.natCast_nonneg k)
        have p2 := eq_true (Int.ofNat_lt.2 HKL.out.1)
        by_cases h3 : p.tmod 3 = 0
        · cases hq : s1.queue with
          | nil =>
            have HQ := Aside0.mk hq
            clear hq
            go_wp2_with (go_at_call 12; refine (Get_none HI1.out HQ.out).mono ?_; rintro e w6 ⟨rfl, rfl⟩)
            go_roundg (gk - 1)
            case measure => exact r_meas HK.out
            case rel => exact ⟨k + 1, got, s1, rfl, congrArg (Value.int .i64) (by first | exact hk5 | exact (Int.natCast_succ k).symm | (simp; done)), HI1, HO1, ⟨r_next HK.out HKL.out⟩⟩
          | cons r q =>
            obtain ⟨hr0, hO2⟩ := onc_pop HO1.out hq
            subst hr0
            have HQ := Aside0.mk hq
            have HO2 := Aside0.mk hO2
            have hv := Aside0.mk (r_bytes got (r_got HK.out))
            have hk6 : wrap64 ((got : Int) + 1) = ((got + 1 : Nat) : Int) := r_succ got (r_got HK.out)
            clear hq hO2
            go_wp2_with (go_at_call 12; refine (Get_some HI1.out HQ.out).mono ?_; rintro e w6 ⟨v, rfl, hI, hV, _⟩; have HI2 := Aside0.mk hI; obtain ⟨A1, c1, rfl, hc1, hC1, _⟩ := hV; obtain ⟨a1, rfl, hy0, hy1⟩ := C_pair hC1; have hy2 : (phi got).length = 2 := rfl; rw [hy2]; clear hI HI1 hC1 hc1 hy2)
            go_quiet (fail)
            first | rw [hv.out.1] | rw [hv.out.2]
            go_wp2
            go_roundg (gk - 1)
            case measure => exact r_meas HK.out
            case rel => exact ⟨k + 1, got + 1, _, congrArg (Value.int .i64) (by first | exact hk6 | exact (Int.natCast_succ got).symm | (simp; done)), congrArg (Value.int .i64) (by first | exact hk5 | exact (Int.natCast_succ k).symm | (simp; done)), ⟨HI2.out.drewN nq⟩, HO2, ⟨r_next' HK.out HKL.out⟩⟩
        · have h3b : (p.tmod 3 == 0) = false := beq_eq_false_iff_ne.mpr h3
          have h3c : (p.tmod 3 != 0) = true := bne_iff_ne.mpr h3
          clear h3
          go_wp2
          go_roundg (gk - 1)
          case measure => exact r_meas HK.out
          case rel => exact ⟨k + 1, got, s1, rfl, congrArg (Value.int .i64) (by first | exact hk5 | exact (Int.natCast_succ k).symm | (simp; done)), HI1, HO1, ⟨r_next HK.out HKL.out⟩⟩
      · have hge : decide (0 ≤ n) = false := decide_eq_false hn0
        have HI1 := HI'
        have HO1 := HO
        clear HI' HO q1 q2
        generalize s = s1 at HI1 HO1
        go_upto_region 14 with fail
        have hk5 : wrap64 ((k : Int) + 1) = ((k + 1 : Nat) : Int) := r_succ k (r_k HK.out)
        have p1 := eq_true (Int.natCast_nonneg k)
        have p2 := eq_true (Int.ofNat_lt.2 HKL.out.1)
        by_cases h3 : p.tmod 3 = 0
        · cases hq : s1.queue with
          | nil =>
            have HQ := Aside0.mk hq
            clear hq
            go_wp2_with (go_at_call 12; refine (Get_none HI1.out HQ.out).mono ?_; rintro e w6 ⟨rfl, rfl⟩)
            go_roundg (gk - 1)
            case measure => exact r_meas HK.out
            case rel => exact ⟨k + 1, got, s1, rfl, congrArg (Value.int .i64) (by first | exact hk5 | exact (Int.natCast_succ k).symm | (simp; done)), HI1, HO1, ⟨r_next HK.out HKL.out⟩⟩
          | cons r q =>
            obtain ⟨hr0, hO2⟩ := onc_pop HO1.out hq
            subst hr0
            have HQ := Aside0.mk hq
            have HO2 := Aside0.mk hO2
            have hv := Aside0.mk (r_bytes got (r_got HK.out))
            have hk6 : wrap64 ((got : Int) + 1) = ((got + 1 : Nat) : Int) := r_succ got (r_got HK.out)
            clear hq hO2
            go_wp2_with (go_at_call 12; refine (Get_some HI1.out HQ.out).mono ?_; rintro e w6 ⟨v, rfl, hI, hV, _⟩; have HI2 := Aside0.mk hI; obtain ⟨A1, c1, rfl, hc1, hC1, _⟩ := hV; obtain ⟨a1, rfl, hy0, hy1⟩ := C_pair hC1; have hy2 : (phi got).length = 2 := rfl; rw [hy2]; clear hI HI1 hC1 hc1 hy2)
            go_quiet (fail)
            first | rw [hv.out.1] | rw [hv.out.2]
            go_wp2
            go_roundg (gk - 1)
            case measure => exact r_meas HK.out
            case rel => exact ⟨k + 1, got + 1, _, congrArg (Value.int .i64) (by first | exact hk6 | exact (Int.natCast_succ got).symm | (simp; done)), congrArg (Value.int .i64) (by first | exact hk5 | exact (Int.natCast_succ k).symm | (simp; done)), ⟨HI2.out.drewN nq⟩, HO2, ⟨r_next' HK.out HKL.out⟩⟩
        · have h3b : (p.tmod 3 == 0) = false := beq_eq_false_iff_ne.mpr h3
          have h3c : (p.tmod 3 != 0) = true := bne_iff_ne.mpr h3
          clear h3
          go_wp2
          go_roundg (gk - 1)
          case measure => exact r_meas HK.out
          case rel => exact ⟨k + 1, got, s1, rfl, congrArg (Value.int .i64) (by first | exact hk5 | exact (Int.natCast_succ k).symm | (simp; done)), HI1, HO1, ⟨r_next HK.out HKL.out⟩⟩
    · by_cases hlt2 : k < l.length
      · have h1 : decide ((k : Int) < (l.length : Int)) = true := decide_eq_true (by omega)
        have h2 : decide ((k : Int) < 500) = false := decide_eq_false (by omega)
        clear hlt hlt2
        generalize (k : Int) = κ at h1 h2 ⊢
        go_wp2
        go_loopg [9] (s.queue.length + 1) (fun kq v9 wr => ∃ (got : Nat) (s : St), v9 = .int .i64 (got : Int) ∧ Aside0 (IV w B wr s) ∧ Aside0 (Onc W b got s) ∧ Aside0 (got + s.queue.length ≤ 700 ∧ s.queue.length < kq))
        case atStart => exact ⟨got, s, rfl, HI', HO, ⟨r_start HK.out HI'.out.full HO.out.win HW.out⟩⟩
        case round =>
          clear HI' HO HK
          obtain ⟨got, s, rfl, HI, HO, HK⟩ := hrel
          cases hq : s.queue with
          | nil =>
            have hR := Ready_calls HI.out
            rw [hq, show ((([] : List (List Int)).length : Nat) : Int) = 0 from rfl] at hR
            have hN := Next_calls HI.out
            rw [HO.out.nxt, hq, show (got + ([] : List (List Int)).length : Nat) = got from rfl] at hN
            have HRn := Aside0.mk hR
            have HNn := Aside0.mk hN
            have hk4 : IntKind.u16.wrap (b + IntKind.u16.wrap (got : Int)) = (b + got) % 65536 := r_u16 b got
            clear hR hN hq
            go_wp2_with (first | (go_at_call 13; refine HRn.out.mono ?_; rintro e w4 ⟨rfl, rfl⟩) | (go_at_call 14; refine HNn.out.mono ?_; rintro e w4 ⟨rfl, rfl⟩))
            go_ret
            exact ⟨rfl, HI.out.below⟩
          | cons r q =>
            have hR := Ready_calls HI.out
            rw [hq, show (((r :: q).length : Nat) : Int) = (q.length : Int) + 1 from rfl] at hR
            have HRn := Aside0.mk hR
            obtain ⟨hr0, hO2⟩ := onc_pop HO.out hq
            subst hr0
            have HQ := Aside0.mk hq
            have HO2 := Aside0.mk hO2
            have hpos : decide (0 < (q.length : Int) + 1) = true := r_pos q.length
            have h3000 : decide ((got : Int) < 3000) = true := r_3000 HK.out
            have hv := Aside0.mk (r_bytes got (r_got2 HK.out))
            have hk6 : wrap64 ((got : Int) + 1) = ((got + 1 : Nat) : Int) := r_succ got (r_got2 HK.out)
            clear hq hO2 hR
            go_wp2_with (first
              | (go_at_call 13; refine HRn.out.mono ?_; rintro e w4 ⟨rfl, rfl⟩)
              | (go_at_call 12; refine (Get_some HI.out HQ.out).mono ?_; rintro e w6 ⟨v, rfl, hI, hV, _⟩; have HI2 := Aside0.mk hI; obtain ⟨A1, c1, rfl, hc1, hC1, _⟩ := hV; obtain ⟨a1, rfl, hy0, hy1⟩ := C_pair hC1; have hy2 : (phi got).length = 2 := rfl; rw [hy2]; clear hI HI hC1 hc1 hy2))
            go_quiet (fail)
            first | rw [hv.out.1] | rw [hv.out.2]
            go_wp2
            go_roundg (gk - 1)
            case measure => exact r_meas2 HK.out
            case rel => exact ⟨got + 1, _, congrArg (Value.int .i64) (by first | exact hk6 | exact (Int.natCast_succ got).symm | (simp; done)), ⟨HI2.out.drewN nq⟩, HO2, ⟨r_next2 HK.out HQ.out⟩⟩
      · have h1 : decide ((k : Int) < (l.length : Int)) = false := decide_eq_false (by omega)
        clear hlt hlt2
        generalize (k : Int) = κ at h1 ⊢
        go_wp2
        go_loopg [9] (s.queue.length + 1) (fun kq v9 wr => ∃ (got : Nat) (s : St), v9 = .int .i64 (got : Int) ∧ Aside0 (IV w B wr s) ∧ Aside0 (Onc W b got s) ∧ Aside0 (got + s.queue.length ≤ 700 ∧ s.queue.length < kq))
        case atStart => exact ⟨got, s, rfl, HI', HO, ⟨r_start HK.out HI'.out.full HO.out.win HW.out⟩⟩
        case round =>
          clear HI' HO HK
          obtain ⟨got, s, rfl, HI, HO, HK⟩ := hrel
          cases hq : s.queue with
          | nil =>
            have hR := Ready_calls HI.out
            rw [hq, show ((([] : List (List Int)).length : Nat) : Int) = 0 from rfl] at hR
            have hN := Next_calls HI.out
            rw [HO.out.nxt, hq, show (got + ([] : List (List Int)).length : Nat) = got from rfl] at hN
            have HRn := Aside0.mk hR
            have HNn := Aside0.mk hN
            have hk4 : IntKind.u16.wrap (b + IntKind.u16.wrap (got : Int)) = (b + got) % 65536 := r_u16 b got
            clear hR hN hq
            go_wp2_with (first | (go_at_call 13; refine HRn.out.mono ?_; rintro e w4 ⟨rfl, rfl⟩) | (go_at_call 14; refine HNn.out.mono ?_; rintro e w4 ⟨rfl, rfl⟩))
            go_ret
            exact ⟨rfl, HI.out.below⟩
          | cons r q =>
            have hR := Ready_calls HI.out
            rw [hq, show (((r :: q).length : Nat) : Int) = (q.length : Int) + 1 from rfl] at hR
            have HRn := Aside0.mk hR
            obtain ⟨hr0, hO2⟩ := onc_pop HO.out hq
            subst hr0
            have HQ := Aside0.mk hq
            have HO2 := Aside0.mk hO2
            have hpos : decide (0 < (q.length : Int) + 1) = true := r_pos q.length
            have h3000 : decide ((got : Int) < 3000) = true := r_3000 HK.out
            have hv := Aside0.mk (r_bytes got (r_got2 HK.out))
            have hk6 : wrap64 ((got : Int) + 1) = ((got + 1 : Nat) : Int) := r_succ got (r_got2 HK.out)
            clear hq hO2 hR
            go_wp2_with (first
              | (go_at_call 13; refine HRn.out.mono ?_; rintro e w4 ⟨rfl, rfl⟩)
              | (go_at_call 12; refine (Get_some HI.out HQ.out).mono ?_; rintro e w6 ⟨v, rfl, hI, hV, _⟩; have HI2 := Aside0.mk hI; obtain ⟨A1, c1, rfl, hc1, hC1, _⟩ := hV; obtain ⟨a1, rfl, hy0, hy1⟩ := C_pair hC1; have hy2 : (phi got).length = 2 := rfl; rw [hy2]; clear hI HI hC1 hc1 hy2))
            go_quiet (fail)
            first | rw [hv.out.1] | rw [hv.out.2]
            go_wp2
            go_roundg (gk - 1)
            case measure => exact r_meas2 HK.out
            case rel => exact ⟨got + 1, _, congrArg (Value.int .i64) (by first | exact hk6 | exact (Int.natCast_succ got).symm | (simp; done)), ⟨HI2.out.drewN nq⟩, HO2, ⟨r_next2 HK.out HQ.out⟩⟩
end Go.Proofs.Ytjigeblechiffaa.PIntake
