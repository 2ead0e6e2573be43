/- IntakeFills: a window is filled from behind. -/
import Derived.Test.YtjigeblechiffaaIn7
namespace Go.Proofs.Ytjigeblechiffaa.PIntake
open Go.RowKit Go.Proofs.YtjigeblechiffaaW.PrintWords Go.Proofs.YtjigeblechiffaaW.PrintLast Go.Proofs.YtjigeblechiffaaW.PrintMore
attribute [local go_sem] max2_int min2_int max_two min_two max_three min_three max_four min_four   -- for this text's walks alone
set_option linter.unusedVariables false
set_option linter.unusedSimpArgs false
variable {w0 w w1 : World} {B : Nat} {s : St}
/-! ### what is told, in plain words -/
/-- The state while the window is filled from behind, down to k. -/
structure Fil (W f : Int) (k : Nat) (s : St) : Prop where
  win : s.window = W
  nxt : s.next = f
  que : s.queue = []
  len : s.came.length + k = W.toNat
  low : ∀ n : Nat, n < k → at_ ((f + n) % 65536) s.came = none
  high : ∀ n : Nat, k ≤ n → (n : Int) < W → at_ ((f + n) % 65536) s.came = some [(n : Int)]

theorem fil_start (W f : Int) (h : 1 ≤ W ∧ W ≤ 64) : Fil W f W.toNat ⟨W, f, [], []⟩ := ⟨rfl, rfl, rfl, by simp, fun _ _ => rfl, fun n h1 h2 => by omega⟩

theorem fil_put {W f : Int} {k : Nat} {s : St} (hW : 1 ≤ W ∧ W ≤ 64) (hf : 0 ≤ f ∧ f < 65536) (h : Fil W f (k + 1) s) :
    takeF s ((f + k) % 65536) [(k : Int)] = (drain (s.came.length + 2) { s with came := s.came ++ [((f + k) % 65536, [(k : Int)])] }, 0) := by
  have hk : (k : Int) < W := by have := h.len; omega
  unfold takeF
  rw [if_neg (by simp), if_neg, if_neg]
  · rw [within_iff, h.nxt, h.win, h.que]
    have : ((f + k) % 65536 - f) % 65536 = k := by omega
    rw [this]
    simp
    omega
  · rw [h.low k (by omega), within_iff, u16_wrap, u16_wrap, h.nxt, h.win]
    have : ((f + k) % 65536 - (f - W % 65536) % 65536) % 65536 = k + W := by omega
    rw [this]
    simp
    omega

theorem fil_step {W f : Int} {k : Nat} {s : St} (hW : 1 ≤ W ∧ W ≤ 64) (hf : 0 ≤ f ∧ f < 65536) (h : Fil W f (k + 1) s) (hk : 0 < k) :
    ∃ s', takeF s ((f + k) % 65536) [(k : Int)] = (s', 0) ∧ Fil W f k s' := by
  have hkW : (k : Int) < W := by have := h.len; omega
  refine ⟨{ s with came := s.came ++ [((f + k) % 65536, [(k : Int)])] }, ?_, ?_⟩
  · rw [fil_put hW hf h]
    rw [drain_none]
    simp only
    have h0 := h.low 0 (by omega)
    rw [h.nxt]
    simp only [Int.natCast_zero, Int.add_zero] at h0
    have he : f % 65536 = f := by omega
    rw [he] at h0
    rw [at_app_none h0, if_neg (by omega)]
  · refine ⟨h.win, h.nxt, h.que, by have := h.len; simp; omega, fun n hn => ?_, fun n h1 h2 => ?_⟩
    · simp only
      rw [at_app_none (h.low n (by omega)), if_neg (by omega)]
    · simp only
      by_cases e : n = k
      · subst e
        rw [at_app_none (h.low n (by omega)), if_pos rfl]
      · exact at_app_some (h.high n (by omega) h2)

theorem drain_all (W f : Int) (hW : 1 ≤ W ∧ W ≤ 64) (hf : 0 ≤ f ∧ f < 65536) : ∀ (m : Nat) (N k : Nat) (s : St), N + m = W.toNat → m < k → s.window = W → s.next = (f + N) % 65536 → s.came.length = m →
    s.queue = (List.range N).map (fun j : Nat => [(j : Int)]) → (∀ n : Nat, N ≤ n → (n : Int) < W → at_ ((f + n) % 65536) s.came = some [(n : Int)]) →
    drain k s = ⟨W, (f + W) % 65536, [], (List.range W.toNat).map (fun j : Nat => [(j : Int)])⟩
  | 0, N, k, ⟨w, nx, cm, q⟩, h1, h2, h3, h4, h5, h6, h7 => by
    obtain ⟨k, rfl⟩ : ∃ m, k = m + 1 := ⟨k - 1, by omega⟩
    simp only at h3 h4 h5 h6 h7
    have hc : cm = [] := List.eq_nil_of_length_eq_zero h5
    have hN : N = W.toNat := by omega
    subst hc hN h3 h4 h6
    rw [drain_none rfl]
    have : ((w.toNat : Nat) : Int) = w := by omega
    rw [this]
  | m + 1, N, k, ⟨w, nx, cm, q⟩, h1, h2, h3, h4, h5, h6, h7 => by
    obtain ⟨k, rfl⟩ : ∃ m, k = m + 1 := ⟨k - 1, by omega⟩
    simp only at h3 h4 h5 h6 h7
    have hN := h7 N (Nat.le_refl _) (by omega)
    rw [drain_some (r := [(N : Int)]) (by simp only; rw [h4]; exact hN) (by simp only; rw [h6, h3]; simp; omega)]
    refine drain_all W f hW hf m (N + 1) k _ (by omega) (by omega) h3 ?_ ?_ ?_ ?_
    · simp only; rw [u16_wrap, h4]; push_cast; omega
    · simp only
      rw [h4]
      have := cut_len hN
      omega
    · simp only; rw [h6, List.range_succ, List.map_append]; rfl
    · intro n hn hn2
      simp only
      rw [h4, at_cut_ne (by omega)]
      exact h7 n (by omega) hn2

theorem fil_last {W f : Int} {s : St} (hW : 1 ≤ W ∧ W ≤ 64) (hf : 0 ≤ f ∧ f < 65536) (h : Fil W f 1 s) :
    takeF s (f % 65536) [0] = (⟨W, (f + W) % 65536, [], (List.range W.toNat).map (fun j : Nat => [(j : Int)])⟩, 0) := by
  have := fil_put (k := 0) hW hf h
  simp only [Int.natCast_zero, Int.add_zero] at this
  rw [this]
  refine congrArg (fun x => (x, (0 : Int))) (drain_all W f hW hf W.toNat 0 _ _ (by omega) (by have := h.len; omega) h.win ?_ ?_ ?_ ?_)
  · simp only; rw [h.nxt]; omega
  · have := h.len; simp; omega
  · simp only; rw [h.que]; rfl
  · intro n h0 hn
    simp only
    by_cases e : n = 0
    · subst e
      rw [Int.natCast_zero, Int.add_zero]
      have h0 := h.low 0 (by omega)
      rw [Int.natCast_zero, Int.add_zero] at h0
      rw [at_app_none h0, if_pos rfl]
    · exact at_app_some (h.high n (by omega) hn)

theorem tf1 (W f : Int) (q : List (List Int)) (hW : 1 ≤ W ∧ W ≤ 64) (hq : q.length = W.toNat) : takeF ⟨W, (f + W) % 65536, [], q⟩ ((f + W) % 65536) [] = (⟨W, (f + W) % 65536, [], q⟩, 40) := by
  unfold takeF
  rw [if_neg (by simp), if_neg, if_pos]
  · simp only [Bool.or_eq_true, decide_eq_true_eq]; right; omega
  · simp only [at_, Option.isSome_none, Bool.false_or]
    rw [within_iff, u16_wrap, u16_wrap]
    have : ((f + W) % 65536 - ((f + W) % 65536 - W % 65536) % 65536) % 65536 = W := by omega
    rw [this]; simp
theorem tf2 (W f : Int) (q : List (List Int)) (hW : 1 ≤ W ∧ W ≤ 64) (hq : q.length + 1 = W.toNat) : takeF ⟨W, (f + W) % 65536, [], q⟩ ((f + W) % 65536) [] = (⟨W, (f + W + 1) % 65536, [], q ++ [[]]⟩, 0) := by
  unfold takeF
  rw [if_neg (by simp), if_neg, if_neg]
  · refine congrArg (fun x => (x, (0 : Int))) ?_
    rw [drain_some (r := []) (by simp [at_]) (by simp only; omega)]
    simp only [List.nil_append, cut, if_true, List.length_nil]
    rw [drain_none rfl, u16_wrap]
    have : ((f + W) % 65536 + 1) % 65536 = (f + W + 1) % 65536 := by omega
    rw [this]
  · rw [within_iff]
    simp
    omega
  · simp only [at_, Option.isSome_none, Bool.false_or]
    rw [within_iff, u16_wrap, u16_wrap]
    have : ((f + W) % 65536 - ((f + W) % 65536 - W % 65536) % 65536) % 65536 = W := by omega
    rw [this]; simp
theorem tf3 (W f : Int) (q : List (List Int)) (hW : 1 ≤ W ∧ W ≤ 64) : takeF ⟨W, (f + W + 1) % 65536, [], q⟩ ((f + 1) % 65536) [] = (⟨W, (f + W + 1) % 65536, [], q⟩, 2) := by
  unfold takeF
  rw [if_neg (by simp), if_pos]
  simp only [at_, Option.isSome_none, Bool.false_or]
  rw [within_iff, u16_wrap, u16_wrap]
  have : ((f + 1) % 65536 - ((f + W + 1) % 65536 - W % 65536) % 65536) % 65536 = 0 := by omega
  rw [this]; simp; omega
theorem wlaw (a : Int) : 1 ≤ wrap64 (wrap64 ((IntKind.u64.wrap a).tmod 64) + 1) ∧ wrap64 (wrap64 ((IntKind.u64.wrap a).tmod 64) + 1) ≤ 64 := by
  have h0 : 0 ≤ IntKind.u64.wrap a := by
    have : IntKind.u64.wrap a = a % 18446744073709551616 := by simp [IntKind.wrap, IntKind.bits, IntKind.signed]
    rw [this]; omega
  rw [Int.tmod_eq_emod_of_nonneg h0]
  generalize IntKind.u64.wrap a = u at h0
  unfold wrap64
  omega

theorem C_first {w : World} {A : Option Addr} {x : Int} (h : Kd.C kb w A ([x] : List Int).length [x]) : ∃ ad, A = some ad ∧ w.cell? ad = some (.int .u8 x) := by
  obtain ⟨ad, rfl, hc⟩ := h.2.2 (by simp)
  obtain ⟨c, hl, hk, hu⟩ := hc 0 x rfl
  have hk : c = [.int .u8 x] := hk
  subst hk
  have := hu 0 _ rfl
  refine ⟨ad, rfl, ?_⟩
  simpa [Addr.add] using this
/-- What is known of the state at the head of a round. -/
def FilAt (W f : Int) (k : Nat) (s : St) : Prop := (0 < k ∧ Fil W f k s) ∨ (k = 0 ∧ s = ⟨W, (f + W) % 65536, [], (List.range W.toNat).map (fun j : Nat => [(j : Int)])⟩)
theorem FilAt.step {W f : Int} {k : Nat} {s : St} (hW : 1 ≤ W ∧ W ≤ 64) (hf : 0 ≤ f ∧ f < 65536) (h : FilAt W f (k + 1) s) : s.queue = [] ∧ (k : Int) < W ∧ ∃ s', takeF s ((f + k) % 65536) [(k : Int)] = (s', 0) ∧ FilAt W f k s' := by
  rcases h with ⟨_, h⟩ | ⟨h, _⟩
  · refine ⟨h.que, by have := h.len; omega, ?_⟩
    by_cases hk : 0 < k
    · obtain ⟨s', a, b⟩ := fil_step hW hf h hk
      exact ⟨s', a, .inl ⟨hk, b⟩⟩
    · obtain rfl : k = 0 := by omega
      have := fil_last hW hf h
      simp only [Int.natCast_zero, Int.add_zero]
      exact ⟨_, this, .inr ⟨rfl, rfl⟩⟩
  · omega

set_option maxHeartbeats 8000000 in
set_option maxRecDepth 100000 in
theorem Fills_walk (a b : Int) (hb : 0 ≤ b ∧ b < 65536) (w : World) : Calls Try.prog 4 #[.int .i64 a, .int .u16 b] w fun e w' => e = .returned (.bool true) ∧ Below w.heap.size w w' := by
  have HF := Aside0.mk hb
  have HW := Aside0.mk (wlaw a)
  clear hb
  go_enter Try.func4, Try.ntmps4
  go_upto_region 4 with (go_at_call 9; refine (awake_calls w).mono ?_; rintro e w1 ⟨rfl, hB⟩; have HB := Aside0.mk hB; clear hB)
  generalize wrap64 (wrap64 ((IntKind.u64.wrap a).tmod 64) + 1) = W at HW ⊢
  go_wp2_with (go_at_call 10; refine (New_ok HB.out W b HW.out HF.out).mono ?_; rintro e w2 ⟨rfl, hI⟩; have HI := Aside0.mk hI; clear hI HB)
  generalize w1.heap.size = B at HI ⊢
  go_loopg [7] (W.toNat + 1) (fun kq v7 wr => ∃ (k : Nat) (s : St), v7 = .int .i64 ((k : Int) - 1) ∧ Aside0 (IV w B wr s) ∧ Aside0 (FilAt W b k s) ∧ Aside0 (k < kq))
  case atStart =>
    refine ⟨W.toNat, _, ?_, HI, ⟨.inl ⟨by have := HW.out; omega, fil_start W b HW.out⟩⟩, ⟨by omega⟩⟩
    have := HW.out
    congr 1
    unfold wrap64
    omega
  case round =>
    obtain ⟨k, s, rfl, HI', HS, HK⟩ := hrel
    clear HI
    cases k with
    | succ k =>
      obtain ⟨hq, hkW, s', ht, hs'⟩ := HS.out.step HW.out HF.out
      have HT := Aside0.mk ht
      have HS' := Aside0.mk hs'
      have he : ((k + 1 : Nat) : Int) - 1 = (k : Int) := by omega
      have hge : decide (0 ≤ (k : Int)) = true := decide_eq_true (by omega)
      have hR : ∀ w', IV w B w' s → Calls Try.prog 13 #[.pointer (some ⟨B + 2, 0, none⟩)] w' fun e w'' => e = .returned (.int .i64 0) ∧ w'' = w' := fun w' h => by
        have := Ready_calls h
        rw [hq] at this
        exact this
      have HR := Aside0.mk hR
      have hk1 : IntKind.u16.wrap (b + IntKind.u16.wrap (k : Int)) = (b + k) % 65536 := by rw [u16_wrap, u16_wrap]; omega
      have hk2 : IntKind.u8.wrap (k : Int) = (k : Int) := by
        have : IntKind.u8.wrap (k : Int) = (k : Int) % 256 := by simp [IntKind.wrap, IntKind.bits, IntKind.signed]
        have := HW.out
        omega
      have hk3 : wrap64 ((k : Int) - 1) = (k : Int) - 1 := by unfold wrap64; have := HW.out; omega
      rw [he]
      clear hq hkW ht hs' HS he hR
      go_wp2_with (first
        | (go_at_call 13; refine (HR.out _ HI'.out).mono ?_; rintro e w4 ⟨rfl, rfl⟩)
        | (go_at_call 11; refine (Take_to (HI'.out.alloc _) _ _ 1 [(k : Int)] (by simp) (C_one (blk_new _ _)) HT.out).mono ?_; rintro e w5 ⟨rfl, hI, _⟩; have HI2 := Aside0.mk hI; clear hI HI'))
      go_roundg (gk - 1)
      case measure => have := HK.out; omega
      case rel => exact ⟨k, s', by rw [hk3], HI2, HS', ⟨by have := HK.out; omega⟩⟩
    | zero =>
      have hsf := (HS.out.resolve_left (by omega)).2
      subst hsf
      obtain ⟨q, hq, hl⟩ : ∃ q : List (List Int), (List.range W.toNat).map (fun j : Nat => [(j : Int)]) = [0] :: q ∧ q.length + 1 = W.toNat := by
        obtain ⟨m, hm⟩ : ∃ m, W.toNat = m + 1 := ⟨W.toNat - 1, by have := HW.out; omega⟩
        rw [hm, List.range_succ_eq_map]
        exact ⟨_, rfl, by simp⟩
      rw [hq] at HI'
      have HL := Aside0.mk hl
      have hR : ∀ {w' : World} {s : St}, s.queue.length = W.toNat → IV w B w' s → Calls Try.prog 13 #[.pointer (some ⟨B + 2, 0, none⟩)] w' fun e w'' => e = .returned (.int .i64 W) ∧ w'' = w' := fun hs h => by
        have := Ready_calls h
        rw [hs] at this
        rwa [show ((W.toNat : Nat) : Int) = W from by have := HW.out; omega] at this
      have HR := Aside0.mk @hR
      have hk4 : IntKind.u16.wrap (b + IntKind.u16.wrap W) = (b + W) % 65536 := by rw [u16_wrap, u16_wrap]; omega
      have hk5 : IntKind.u16.wrap (b + 1) = (b + 1) % 65536 := u16_wrap _
      have T1 := Aside0.mk (tf1 W b ([0] :: q) HW.out (by simpa using hl))
      have T2 := Aside0.mk (tf2 W b q HW.out hl)
      have T3 := Aside0.mk (tf3 W b (q ++ [[]]) HW.out)
      clear HS HK hq hl hR
      go_wp2_with (first
        | (go_at_call 13; refine (HR.out (by have := HL.out; simpa using this) HI'.out).mono ?_; rintro e w4 ⟨rfl, rfl⟩)
        | (go_at_call 14; refine (Next_calls HI'.out).mono ?_; rintro e w4 ⟨rfl, rfl⟩)
        | (go_at_call 11; refine (Take_nil HI'.out _ T1.out).mono ?_; rintro e w5 ⟨rfl, hI, _⟩; have HI2 := Aside0.mk hI; clear hI HI')
        | (go_at_call 12; refine (Get_some HI2.out rfl).mono ?_; rintro e w6 ⟨v, rfl, hI, hV, _⟩; have HI3 := Aside0.mk hI; obtain ⟨A1, c1, rfl, hc1, hC1, _⟩ := hV; obtain ⟨a1, rfl, hx1⟩ := C_first hC1; clear hI HI2 hC1 hc1)
        | (go_at_call 14; refine (Next_calls HI3.out).mono ?_; rintro e w7 ⟨rfl, rfl⟩)
        | (go_at_call 11; refine (Take_nil HI3.out _ T2.out).mono ?_; rintro e w8 ⟨rfl, hI, _⟩; have HI4 := Aside0.mk hI; clear hI HI3)
        | (go_at_call 13; refine (HR.out (by have := HL.out; simpa using this) HI4.out).mono ?_; rintro e w9 ⟨rfl, rfl⟩)
        | (go_at_call 11; refine (Take_nil HI4.out _ T3.out).mono ?_; rintro e w10 ⟨rfl, hI, _⟩; have HI5 := Aside0.mk hI; clear hI HI4))
      go_ret
      exact ⟨rfl, HI5.out.below⟩
end Go.Proofs.Ytjigeblechiffaa.PIntake
