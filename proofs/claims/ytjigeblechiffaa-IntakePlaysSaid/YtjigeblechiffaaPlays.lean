/- IntakePlays: whatever comes and whenever something is got, an intake answers as the reference. -/
import Derived.Test.YtjigeblechiffaaTells
import Derived.Test.YtjigeblechiffaaPlaysP
import Derived.Test.YtjigeblechiffaaOwnP
namespace Go.Proofs.Ytjigeblechiffaa.PPlays
open Go.RowKit Go.Proofs.YtjigeblechiffaaW.PrintWords Go.Proofs.YtjigeblechiffaaW.PrintLast Go.Proofs.YtjigeblechiffaaW.PrintMore
open PIntake PRef
open POrder (In16)
attribute [local go_sem] max2_int min2_int max_two min_two max_three min_three max_four min_four   -- for this text's walks alone
set_option linter.unusedVariables false
set_option linter.unusedSimpArgs false
/-- One step of the script. -/
structure S47 where
  f0 : Bool
  f1 : Int
  f2 : List Int
def z47 : S47 := ⟨false, 0, []⟩
def k47 : Kd S47 := Kd.iso (Kd.pair Kd.bool (Kd.pair (Kd.int .u16) (Kd.slice 5 (Kd.int .u8)))) (fun x : S47 => (x.f0, x.f1, x.f2))
theorem k47_open {w : World} {x : S47} {cs : List Value} (h : k47.K w x cs) : ∃ A0 c0, cs = [.bool x.f0, .int .u16 x.f1, .slice A0 x.f2.length c0] ∧ x.f2.length ≤ c0 ∧ (Kd.int .u8).C w A0 x.f2.length x.f2 := by
  obtain ⟨_, _, rfl, rfl, ⟨_, _, rfl, rfl, ⟨A0, c0, rfl, h1, h2⟩⟩⟩ := h
  exact ⟨A0, c0, rfl, h1, h2⟩
theorem at_T47 {w : World} {A : Option Addr} {n : Nat} {xs : List S47} (h : Kd.C k47 w A n xs) (i : Nat) (hi : i < n) : ∃ ad A1 c1, A = some ad ∧ w.cell? (ad.add (i * 3)) = some (.bool (xs.getD i z47).f0) ∧
    w.cell? ⟨(ad.add (i * 3)).block, (ad.add (i * 3)).off + 1, none⟩ = some (.int .u16 (xs.getD i z47).f1) ∧ w.cell? ⟨(ad.add (i * 3)).block, (ad.add (i * 3)).off + 2, none⟩ = some (.slice A1 (xs.getD i z47).f2.length c1) ∧
    (xs.getD i z47).f2.length ≤ c1 ∧ Kd.C (Kd.int .u8) w A1 (xs.getD i z47).f2.length (xs.getD i z47).f2 := by
  obtain ⟨ad, c, e, _, hK, hc0⟩ := Kd.C_get h z47 (i : Int) (Int.natCast_nonneg i) (Int.ofNat_lt.2 hi)
  rw [Int.toNat_natCast] at hK hc0
  have hc : ∀ j u, c[j]? = some u → w.cell? (ad.add (i * 3 + j)) = some u := hc0
  obtain ⟨A1, c1, rfl, h1, h2⟩ := k47_open hK
  exact ⟨ad, A1, c1, e, hc 0 _ rfl, by rw [← add_field _ _ 1 (by omega)]; exact hc 1 _ rfl, by rw [← add_field _ _ 2 (by omega)]; exact hc 2 _ rfl, h1, h2⟩
/-- The reference's intake in memory. -/
structure MB (B g base : Nat) (wr : World) (W n : Int) (A : Option Addr) (c : Nat) (L : List S70) (A' : Option Addr) (c' : Nat) (Q : List ByteArray) : Prop where
  far : B + 2 < g ∧ B + 2 < base
  b3 : wr.heap[g]? = some (.cells #[.int .i64 W, .int .u16 n, .slice A L.length c, .slice A' Q.length c'] 45 (0, 0))
  r1 : Rd k70 wr base A L
  f1 : ∀ ad, A = some ad → ad.block ≠ g
  c1 : L.length ≤ c
  r2 : Rd Kd.string wr base A' Q
  f2 : ∀ ad, A' = some ad → ad.block ≠ g
  c2 : Q.length ≤ c'
variable {w0 w wr w1 : World} {B g base : Nat} {s : St} {W n : Int} {A A' : Option Addr} {c c' : Nat} {L : List S70} {Q : List ByteArray}
theorem MB.move (h : MB B g base wr W n A c L A' c' Q) (hP : Kp B wr w1) : MB B g base w1 W n A c L A' c' Q :=
  ⟨h.far, (hP.2 _ (blk_lt h.b3) (.inr h.far.1)).trans h.b3, Rd.kp (fun _ _ => K70) h.r1 h.far.2 hP, h.f1, h.c1, Rd.kp (fun _ _ => KStr) h.r2 h.far.2 hP, h.f2, h.c2⟩
theorem MB.grow (h : MB B g base wr W n A c L A' c' Q) (hb : Below wr.heap.size wr w1) : MB B g base w1 W n A c L A' c' Q := h.move (Kp.below hb)
theorem MB.cell0 (h : MB B g base wr W n A c L A' c' Q) : wr.cell? ⟨g, 0, none⟩ = some (.int .i64 W) := (blk_cell h.b3 0).trans rfl
theorem MB.cell1 (h : MB B g base wr W n A c L A' c' Q) : wr.cell? ⟨g, 1, none⟩ = some (.int .u16 n) := (blk_cell h.b3 1).trans rfl
theorem MB.cell2 (h : MB B g base wr W n A c L A' c' Q) : wr.cell? ⟨g, 2, none⟩ = some (.slice A L.length c) := (blk_cell h.b3 2).trans rfl
theorem MB.cell3 (h : MB B g base wr W n A c L A' c' Q) : wr.cell? ⟨g, 3, none⟩ = some (.slice A' Q.length c') := (blk_cell h.b3 3).trans rfl
theorem MB.k1 (h : MB B g base wr W n A c L A' c' Q) : Kd.C k70 wr A L.length L := h.r1.1
theorem MB.k2 (h : MB B g base wr W n A c L A' c' Q) : Kd.C Kd.string wr A' Q.length Q := h.r2.1
theorem MB.setQueue (h : MB B g base wr W n A c L A' c' Q) {A2 : Option Addr} {Q2 : List ByteArray} {c2 : Nat} (r : Rd Kd.string wr base A2 Q2) (f : ∀ ad, A2 = some ad → ad.block ≠ g) (hc : Q2.length ≤ c2) :
    MB B g base (wr.setCell ⟨g, 3, none⟩ (.slice A2 Q2.length c2)) W n A c L A2 c2 Q2 :=
  ⟨h.far, blk_put h.b3 3 _ rfl, h.r1.far (b := 0) (fun _ _ => K70) h.f1 _ _, h.f1, h.c1, r.far (b := 0) (fun _ _ => KStr) f _ _, f, hc⟩
def wput (wr : World) (g : Nat) (W n : Int) (A : Option Addr) (c : Nat) (L : List S70) (A' : Option Addr) (c' : Nat) (Q : List ByteArray) : World :=
  (((wr.setCell ⟨g, 0, none⟩ (.int .i64 W)).setCell ⟨g, 1, none⟩ (.int .u16 n)).setCell ⟨g, 2, none⟩ (.slice A L.length c)).setCell ⟨g, 3, none⟩ (.slice A' Q.length c')
theorem MB.setAll (h : MB B g base wr W n A c L A' c' Q) {n2 : Int} {A1 A2 : Option Addr} {L2 : List S70} {Q2 : List ByteArray} {k1 k2 : Nat} (r1 : Rd k70 wr base A1 L2) (f1 : ∀ ad, A1 = some ad → ad.block ≠ g) (hc1 : L2.length ≤ k1)
    (r2 : Rd Kd.string wr base A2 Q2) (f2 : ∀ ad, A2 = some ad → ad.block ≠ g) (hc2 : Q2.length ≤ k2) : MB B g base (wput wr g W n2 A1 k1 L2 A2 k2 Q2) W n2 A1 k1 L2 A2 k2 Q2 :=
  ⟨h.far, blk_put (blk_put (blk_put (blk_put h.b3 0 _ rfl) 1 _ rfl) 2 _ rfl) 3 _ rfl,
   (((r1.far (b := 0) (fun _ _ => K70) f1 _ _).far (b := 0) (fun _ _ => K70) f1 _ _).far (b := 0) (fun _ _ => K70) f1 _ _).far (b := 0) (fun _ _ => K70) f1 _ _, f1, hc1,
   (((r2.far (b := 0) (fun _ _ => KStr) f2 _ _).far (b := 0) (fun _ _ => KStr) f2 _ _).far (b := 0) (fun _ _ => KStr) f2 _ _).far (b := 0) (fun _ _ => KStr) f2 _ _, f2, hc2⟩
/-- What is written into the reference's block leaves the intake. -/
theorem IV.setFar_ {k : Nat} (h : IV w0 B w s) (hG : B + 2 < k) (hn : k ∉ tags s) (i : Nat) (v : Value) : IV w0 B (w.setCell ⟨k, i, none⟩ v) s := h.setTag hG hn i v
theorem first_str {w : World} {A : Option Addr} {Q : List ByteArray} (h : Kd.C Kd.string w A Q.length Q) (hp : 0 < Q.length) : ∃ ad, A = some ad ∧ w.cell? ad = some (.string (Q.getD 0 ⟨#[]⟩)) := by
  obtain ⟨ad, cs, e, _, hK, hc⟩ := Kd.C_get h (⟨#[]⟩ : ByteArray) 0 (Int.le_refl _) (by omega)
  have hK : cs = [.string (Q.getD 0 ⟨#[]⟩)] := hK
  subst hK
  exact ⟨ad, e, hc 0 _ rfl⟩
theorem MB.tail {ad : Addr} {x : ByteArray} {Q' : List ByteArray} (h : MB B g base wr W n A c L (some ad) c' Q) (hQ : Q = x :: Q') :
    Rd Kd.string wr base (if c' = 1 then some ad else some (⟨ad.block, ad.off + 1, none⟩ : Addr)) Q' ∧ (∀ a, (if c' = 1 then some ad else some (⟨ad.block, ad.off + 1, none⟩ : Addr)) = some a → a.block ≠ g) ∧ Q'.length ≤ c' - 1 := by
  have hl : 1 ≤ Q.length := by rw [hQ]; simp
  have h1 := Kd.C_drop (m := 1) h.r2.1 hl h.c2
  have h2 : Q.drop 1 = Q' := by rw [hQ]; rfl
  rw [h2] at h1
  have hb : ∀ a, (if c' = 1 then some ad else some (⟨ad.block, ad.off + 1, none⟩ : Addr)) = some a → a.block = ad.block := fun a e => by
    split at e <;> (injection e with e; rw [← e])
  refine ⟨⟨h1, fun a e => by rw [hb a e]; exact h.r2.2 ad rfl⟩, fun a e => by rw [hb a e]; exact h.f2 ad rfl, ?_⟩
  have := h.c2
  rw [hQ, List.length_cons] at this
  omega
theorem get_tags {r : P} {q : List P} {G : Nat} (hq : s.queue = r :: q) (h : G ∉ tags s) : G ∉ tags { s with queue := q } := fun hm => h (by
  obtain ⟨p, hp, hk⟩ := List.mem_filterMap.1 hm
  refine List.mem_filterMap.2 ⟨p, ?_, hk⟩
  rcases List.mem_append.1 hp with hp | hp
  · exact List.mem_append_left _ hp
  · exact List.mem_append_right _ (by rw [hq]; exact List.mem_cons_of_mem _ hp))
theorem take_tags {x : Int} {d : P} {G : Nat} (h : G ∉ tags s) (ht : ∀ k, d.2 = some k → k ≠ G) : G ∉ tags (takeF s x d).1 := by
  unfold takeF
  split
  · exact h
  split
  · exact h
  split
  · exact h
  refine tags_sub (s := s) (d := d.1) (t := d.2) ((drain_vals _ _).trans ?_) h ht
  unfold vals
  simp only [List.map_append, List.map_cons, List.map_nil, List.append_assoc]
  refine (List.perm_append_comm_assoc _ _ _).trans ?_
  rw [List.singleton_append]
theorem in16_of {x : Int} (h : In16 x) : 0 ≤ x ∧ x < 65536 := h
theorem enc_keys (s : St) : (enc s).map S70.f0 = s.came.map (·.1) := by simp [enc, e70]
theorem enc_q (s : St) : (encQ s).length = s.queue.length := by simp [encQ]
theorem p_next {k : Nat} (h : k < 200) : k + 1 ≤ 200 ∧ 200 - (k + 1) < 200 - k := by omega
set_option maxHeartbeats 8000000 in
set_option maxRecDepth 100000 in
theorem Plays_walk (W b : Int) (A : Option Addr) (c : Nat) (l : List S47) (hb : 0 ≤ b ∧ b < 65536) (hc : l.length ≤ c) (hw : ∀ o ∈ l, In16 o.f1 ∧ o.f2.length ≤ 140737488351232) (w : World) (hr : Kd.C k47 w A l.length l) :
    Calls Try.prog 6 #[.int .i64 W, .int .u16 b, .slice A l.length c] w fun e w' => e = .returned (.bool true) ∧ Below w.heap.size w w' := by
  have HF := Aside0.mk hb
  have HR := Aside0.mk hr
  have HC := Aside0.mk hc
  have HW0 := Aside0.mk hw
  have hu45 := Try.underlying45
  have hu47 := Try.underlying47
  clear hb hr hc hw
  go_enter Try.func6, Try.ntmps6
  by_cases hW : 1 ≤ W ∧ W ≤ 64
  · have HW := Aside0.mk hW
    have g1 : decide (W < 1) = false := decide_eq_false (by omega)
    have g2 : decide (64 < W) = false := decide_eq_false (by omega)
    have g3 := eq_false (show ¬ W < 1 by omega)
    have g4 := eq_false (show ¬ 64 < W by omega)
    clear hW
    go_upto_region 8 with (first
      | (go_at_call 9; refine (awake_calls w).mono ?_; rintro e w1 ⟨rfl, hB⟩; have HB := Aside0.mk hB; clear hB)
      | (go_at_call 10; refine (New_ok HB.out W b HW.out HF.out).mono ?_; rintro e w2 ⟨rfl, hI⟩; have HI := Aside0.mk hI; clear hI HB))
    generalize w1.heap.size = B at HI ⊢
    clear g1 g2 g3 g4
    go_upto_region 9 with fail
    have HI1 := Aside0.mk (HI.out.alloc (.cells #[.int .i64 W, .int .u16 b, .slice none 0 0, .slice none 0 0] 45))
    have HM1 : Aside0 (MB B w2.heap.size (w2.heap.size + 1) (w2.alloc (.cells #[.int .i64 W, .int .u16 b, .slice none 0 0, .slice none 0 0] 45)) W b none 0 [] none 0 []) :=
      ⟨⟨⟨blk_lt HI.out.str, Nat.lt_succ_of_lt (blk_lt HI.out.str)⟩, blk_new w2 _, Rd.nil _ _ _, (fun ad e => by cases e), Nat.le_refl _, Rd.nil _ _ _, (fun ad e => by cases e), Nat.le_refl _⟩⟩
    generalize w2.alloc (.cells #[.int .i64 W, .int .u16 b, .slice none 0 0, .slice none 0 0] 45) = w3 at HI1 HM1 ⊢
    generalize w2.heap.size = g at HM1 ⊢
    clear HI
    have HP : Aside0 (PInv W ⟨W, b, [], []⟩) := ⟨⟨rfl, HW.out, HF.out, (fun q hq => by cases hq), by simp, by have := HW.out; simp; omega⟩⟩
    go_wp2
    go_loopg [10] 201 (fun kq v10 wr => ∃ (k : Nat) (s : St) (A1 : Option Addr) (c1 : Nat) (A2 : Option Addr) (c2 : Nat), v10 = .int .i64 (k : Int) ∧ Aside0 (IV w B wr s) ∧ Aside0 (MB B g (g + 1) wr W s.next A1 c1 (enc s) A2 c2 (encQ s)) ∧ Aside0 (PInv W s) ∧ Aside0 (g ∉ tags s) ∧ Aside0 (k ≤ 200 ∧ 200 - k < kq))
    case atStart => exact ⟨0, _, none, 0, none, 0, rfl, HI1, HM1, HP, ⟨by simp [tags, vals]⟩, ⟨by omega⟩⟩
    case round =>
      clear HI1 HM1 HP
      obtain ⟨k, s, A1, c1, A2, c2, rfl, HI, HM, HP, HT, HK⟩ := hrel
      by_cases hkl : k < l.length ∧ k < 200
      · obtain ⟨hk1, hk2⟩ := hkl
        have q1 := eq_true (Int.natCast_nonneg k)
        have q2 := eq_true (Int.ofNat_lt.2 hk1 : (k : Int) < (l.length : Int))
        have q3 := eq_true (show (k : Int) < 200 by omega)
        have d2 := decide_eq_true (Int.ofNat_lt.2 hk1 : (k : Int) < (l.length : Int))
        have d3 := decide_eq_true (show (k : Int) < 200 by omega)
        have HK2 := Aside0.mk hk2
        obtain ⟨ad, A5, c5, rfl, hT0, hT1, hT2, hc5, hC5⟩ := at_T47 HR.out k hk1
        have hin : In16 (l.getD k z47).f1 ∧ (l.getD k z47).f2.length ≤ 140737488351232 := HW0.out _ (by rw [List.getD_eq_getElem?_getD, List.getElem?_eq_getElem hk1]; exact List.getElem_mem hk1)
        obtain ⟨op, hop⟩ : ∃ op, op = l.getD k z47 := ⟨_, rfl⟩
        rw [← hop] at hT0 hT1 hT2 hc5 hC5 hin
        clear hop
        obtain ⟨gt, sq, data⟩ := op
        simp only at hT0 hT1 hT2 hc5 hC5 hin
        have HIN := Aside0.mk hin.1
        have HDB := Aside0.mk hin.2
        have HC0 := Aside0.mk (And.intro hc5 hC5)
        have hT0 := (HI.out.below.cell (World.block_lt_of_cell? w _ hT0)).trans hT0
        have hT1 := (HI.out.below.cell (World.block_lt_of_cell? w _ hT1)).trans hT1
        have hT2 := (HI.out.below.cell (World.block_lt_of_cell? w _ hT2)).trans hT2
        have hkk : wrap64 ((k : Int) + 1) = ((k + 1 : Nat) : Int) := wnext k (by omega)
        clear hk1 hk2 hin hc5 hC5
        have hT0b : wr.cell? ((ad.add (k * 3)).add 0) = some (.bool gt) := hT0
        have hT1b : wr.cell? ((ad.add (k * 3)).add 1) = some (.int .u16 sq) := hT1
        have hT2b : wr.cell? ((ad.add (k * 3)).add 2) = some (.slice A5 data.length c5) := hT2
        go_upto_region 13 with fail
        have hbl := below_alloc (Below.refl wr.heap.size wr) (.cells #[.bool gt, .int .u16 sq, .slice A5 data.length c5] 47)
        have HI4 := Aside0.mk (HI.out.grow hbl)
        have HM4 := Aside0.mk (HM.out.grow hbl)
        have HO4 := Aside0.mk (And.intro (blk_lt HI.out.str) (blk_new wr (.cells #[.bool gt, .int .u16 sq, .slice A5 data.length c5] 47)))
        generalize wr.alloc (.cells #[.bool gt, .int .u16 sq, .slice A5 data.length c5] 47) = w4 at HI4 HM4 HO4 ⊢
        generalize wr.heap.size = g11 at HO4 ⊢
        clear HI HM hbl hT0 hT1 hT2 hT0b hT1b hT2b q1 q2 q3 d2 d3
        have hO0 : w4.cell? ⟨g11, 0, none⟩ = some (.bool gt) := (blk_cell HO4.out.2 0).trans rfl
        cases gt with
        | true =>
          cases hq : s.queue with
          | nil =>
            have hql : (encQ s).length = 0 := by simp [encQ, hq]
            have hc3 : w4.cell? ⟨g, 3, none⟩ = some (.slice A2 0 c2) := by rw [← hql]; exact HM4.out.cell3
            have HQE := Aside0.mk hq
            clear hq hql
            go_wp2_with (go_at_call 12; refine (Get_none HI4.out HQE.out).mono ?_; rintro e w5 ⟨rfl, rfl⟩)
            go_roundg (200 - k)
            case measure => exact HK.out.2
            case rel => exact ⟨k + 1, s, A1, c1, A2, c2, congrArg (Value.int .i64) (by first | exact hkk | exact (Int.natCast_succ k).symm | (simp; done)), HI4, HM4, HP, HT, ⟨p_next HK2.out⟩⟩
          | cons r q =>
            have hql : (encQ s).length = q.length + 1 := by simp [encQ, hq]
            have hqe : encQ s = strOfNums r.1 :: encQ { s with queue := q } := by simp [encQ, hq]
            have HQE := Aside0.mk (And.intro hq hqe)
            have HQL := Aside0.mk hql
            obtain ⟨qn, hqn⟩ : ∃ qn, qn = (encQ s).length := ⟨_, rfl⟩
            have HQN := Aside0.mk hqn
            have hqp : 0 < qn := by omega
            have z1 := eq_false (show ¬ (qn : Int) = 0 by omega)
            have z2 := eq_true (show (0 : Int) < (qn : Int) by omega)
            have z3 := eq_true (show (1 : Int) ≤ (qn : Int) by omega)
            have z4 := eq_true (show (qn : Int) ≤ (c2 : Int) by have := HM4.out.c2; omega)
            have z5 := eq_false (show ¬ qn = 0 by omega)
            have z6 := eq_true (show 1 ≤ qn by omega)
            have z8 := eq_true (show 0 < qn by omega)
            have z7 : ((qn : Int) == 0) = false := beq_eq_false_iff_ne.mpr (by omega)
            have hc3 : w4.cell? ⟨g, 3, none⟩ = some (.slice A2 qn c2) := by rw [hqn]; exact HM4.out.cell3
            clear hq hql hqe hqn hqp
            go_upto_region 15 with (go_at_call 12; refine (Get_some HI4.out HQE.out.1).mono ?_; rintro e w5 ⟨v, rfl, hI, hV, hKp⟩; have HI5 := Aside0.mk hI; have HM5 := Aside0.mk (HM4.out.move hKp); have HV := Aside0.mk hV; clear hI hV hKp HI4 HO4)
            obtain ⟨A6, c6, rfl, hc6, hC6⟩ := Kd.R_reads (Kd.R_of_own (enc := Value.int .u8) (h1 := fun _ => rfl) (ok := fun _ => True) HV.out.1 (fun _ _ => trivial))
            obtain ⟨ad2, rfl, hx2⟩ := first_str HM5.out.k2 (by rw [HQE.out.2]; simp)
            rw [HQE.out.2] at hx2
            have hx2 : w5.cell? ad2 = some (.string (strOfNums r.1)) := hx2
            have hs1 := fun nq_ : Nat => Kd.C_string (P := Try.prog) (c := c6) Try.underlying31 Try.underlying5 Try.underlying9 (Kd.C_drewN hC6 nq_)
            clear hc3 hc6 hC6 HV hO0
            have hc3 : w5.cell? ⟨g, 3, none⟩ = some (.slice (some ad2) qn c2) := by rw [HQN.out]; exact HM5.out.cell3
            have hf3 := blk_frozen HM5.out.b3 3
            go_upto_region 18 with fail
            go_quiet (fail)
            have HI6 := Aside0.mk (HI5.out.drewN nq)
            have HM6 := Aside0.mk (HM5.out.grow (pw_below_drewN (Below.refl _ w5) nq))
            generalize w5.drewN nq = w6 at HI6 HM6 ⊢
            clear hc3 hf3 hs1 hx2 HM5 HI5
            have hc3 : w6.cell? ⟨g, 3, none⟩ = some (.slice (some ad2) qn c2) := by rw [HQN.out]; exact HM6.out.cell3
            have hf3 := blk_frozen HM6.out.b3 3
            have hqt := HM6.out.tail HQE.out.2
            have hqn1 : qn - 1 = (encQ { s with queue := q }).length := by rw [HQN.out, HQL.out]; simp [encQ]
            have HT6 := Aside0.mk (get_tags HQE.out.1 HT.out)
            have HP6 := Aside0.mk (HP.out.get HQE.out.1)
            have HQT := Aside0.mk hqt
            have HQ1 := Aside0.mk hqn1
            obtain ⟨s', hs'⟩ : ∃ s' : St, s' = { s with queue := q } := ⟨_, rfl⟩
            have e1 : s.next = s'.next := by rw [hs']
            have e2 : enc s = enc s' := by rw [hs']; rfl
            rw [← hs'] at HQT HQ1 HI6 HP6 HT6
            rw [e1, e2] at HM6
            clear hqt hqn1 e1 e2 hs' HQE HQL
            go_upto_region 26 with fail
            rw [HQ1.out]
            generalize (if c2 = 1 then some ad2 else some (⟨ad2.block, ad2.off + 1, none⟩ : Addr)) = AA at HQT ⊢
            have HM7 := Aside0.mk (HM6.out.setQueue HQT.out.1 HQT.out.2.1 HQT.out.2.2)
            have HI7 := Aside0.mk (HI6.out.setTag HM6.out.far.1 HT6.out 3 (.slice AA (encQ s').length (c2 - 1)))
            generalize w6.setCell ⟨g, 3, none⟩ (.slice AA (encQ s').length (c2 - 1)) = w7 at HM7 HI7 ⊢
            clear hc3 hf3 HM6 HI6 HQ1 HQN z1 z2 z3 z4 z5 z6 z7 z8 hx2
            have hz0 := HM7.out.cell0
            have hz1 := HM7.out.cell1
            have hz2 := HM7.out.cell2
            have hz3 := HM7.out.cell3
            go_wp2_with (go_at_call 17; refine (tells_calls HI7.out HP6.out.few.1 W A1 c1 (enc s') AA (c2 - 1) (encQ s') (g + 1) HM7.out.far.2 HM7.out.r1 HM7.out.c1 HM7.out.r2 HM7.out.c2 (enc_keys s') (enc_q s')).mono ?_; rintro e w8 ⟨rfl, hI, hKp⟩; have HI8 := Aside0.mk hI; have HM8 := Aside0.mk (HM7.out.move hKp); clear hI hKp)
            go_roundg (200 - k)
            case measure => exact HK.out.2
            case rel => exact ⟨k + 1, s', _, _, _, _, congrArg (Value.int .i64) (by first | exact hkk | exact (Int.natCast_succ k).symm | (simp; done)), HI8, HM8, HP6, HT6, ⟨p_next HK2.out⟩⟩
        | false =>
          go_upto_region 21 with fail
          have HI5 := Aside0.mk (HI4.out.grow (below_drew (Below.refl _ w4)))
          have HM5 := Aside0.mk (HM4.out.grow (below_drew (Below.refl _ w4)))
          have HO5 := Aside0.mk (And.intro HO4.out.1 (blk_drew HO4.out.2))
          clear HI4 HM4 HO4 hO0
          refine start_ (n := 9) (S := fun w' => w'.cell? ⟨g11, 1, none⟩ = some (.int .u16 sq) ∧ w'.cell? ⟨g11, 2, none⟩ = some (.slice A5 data.length c5)) (ds := []) #[false, false, false, false, false, false, false, false, false] (by kernel_rfl) rfl rfl ⟨(blk_cell HO5.out.2 1).trans rfl, (blk_cell HO5.out.2 2).trans rfl⟩ (fun hHeld => ?_)
          generalize w4.drew = wd at HI5 HM5 HO5 hHeld ⊢
          refine pure_ (i := 0) (N := some 92) (v := ?_) (a' := ?_) #[true, false, false, false, false, false, false, false, false] rfl rfl (by kernel_rfl) (fun _ _ _ h => h) (Or.inl ⟨by rfl, ?_⟩) ?_ ?_
          rotate_left
          · intro w'
            go_simp
            with_reducible rfl
          rotate_left
          · simp only [Act.put, List.setIfInBounds_toArray, List.set_cons_zero, List.set_cons_succ, i64_w, i32_w]
            rfl
          refine pure_ (i := 1) (N := some 93) (v := ?_) (a' := ?_) #[true, true, false, false, false, false, false, false, false] rfl rfl (by kernel_rfl) (fun _ _ _ h => h) (Or.inl ⟨by rfl, ?_⟩) ?_ ?_
          rotate_left
          · intro w'
            go_simp
            with_reducible rfl
          rotate_left
          · simp only [Act.put, List.setIfInBounds_toArray, List.set_cons_zero, List.set_cons_succ, i64_w, i32_w]
            rfl
          refine pure_ (i := 4) (N := some 96) (v := ?_) (a' := ?_) #[true, true, false, false, true, false, false, false, false] rfl rfl (by kernel_rfl) (fun _ _ _ h => h) (Or.inl ⟨by rfl, ?_⟩) ?_ ?_
          rotate_left
          · intro w'
            go_simp
            with_reducible rfl
          rotate_left
          · simp only [Act.put, List.setIfInBounds_toArray, List.set_cons_zero, List.set_cons_succ, i64_w, i32_w]
            rfl
          refine take_ (i := 2) (N := some 94) (v := ?_) (a' := ?_) #[true, true, true, false, true, false, false, false, false] rfl rfl (by kernel_rfl) (fun _ _ _ h => h) (Or.inl ⟨by rfl, ?_⟩) hHeld ?_ ?_
          rotate_left
          · rintro w' ⟨s0, s1⟩
            go_simp
            with_reducible rfl
          rotate_left
          · simp only [Act.put, List.setIfInBounds_toArray, List.set_cons_zero, List.set_cons_succ, i64_w, i32_w]
            rfl
          refine take_ (i := 5) (N := some 97) (v := ?_) (a' := ?_) #[true, true, true, false, true, true, false, false, false] rfl rfl (by kernel_rfl) (fun _ _ _ h => h) (Or.inl ⟨by rfl, ?_⟩) hHeld ?_ ?_
          rotate_left
          · rintro w' ⟨s0, s1⟩
            go_simp
            with_reducible rfl
          rotate_left
          · simp only [Act.put, List.setIfInBounds_toArray, List.set_cons_zero, List.set_cons_succ, i64_w, i32_w]
            rfl
          refine one_ (i := 3) (N := some 95) #[true, true, true, true, true, true, false, false, false] rfl rfl (by kernel_rfl) (by decide) (fun K hK => ?_)
          refine value_ (w1 := ?_) (v := ?_) (by rfl) rfl ?_ ?_
          rotate_left 2
          · go_simp
            constructor
            · rfl
            · rfl
          refine hK.out _ _ ⟨(blk_cell (blk_below HO5.out.2 (below_alloc (Below.refl wd.heap.size wd) _)) 1).trans rfl, (blk_cell (blk_below HO5.out.2 (below_alloc (Below.refl wd.heap.size wd) _)) 2).trans rfl⟩ (fun hHeld => ?_)
          clear hK K
          refine norm_ (a' := ?_) ?_ ?_
          rotate_left
          · show Act.put _ (some 95) _ = _
            simp only [Act.put, List.setIfInBounds_toArray, List.set_cons_zero, List.set_cons_succ, i64_w, i32_w]
            rfl
          refine one_ (i := 6) (N := some 98) #[true, true, true, true, true, true, true, false, false] rfl rfl (by kernel_rfl) (by decide) (fun K hK => ?_)
          refine Kd.R_append_rows_step (Kd.int .u8) (Rr := (Kd.int .u8).K wd) (w0 := wd) wd.heap.size (by rfl) (.tmp 95) (.tmp 97) 31 5 (.int .u8 0) 1 rfl Try.underlying31 PRef.info5 rfl (by decide) (by omega) (.slice (some ⟨wd.heap.size, 0, none⟩) 0 0) [] data _ _ _ (fun _ => True) (fun _ => False) rfl rfl ?aO ?aR (fun _ _ h => h) (fun _ h => h.elim) (fun _ _ => trivial) (below_alloc (Below.refl wd.heap.size wd) (.cells #[] 5)) (below_alloc (Below.refl wd.heap.size wd) (.cells #[] 5)).size ?aL ?_
          case aO => exact ⟨fun _ _ => trivial, [], by simpa using World.ownsRow_made wd #[] 0 (Nat.le_refl _) (Nat.zero_le _) (by simp), Reps.none _ _⟩
          case aR => exact Kd.C_below HC0.out.2 (HI5.out.grow (below_alloc (Below.refl wd.heap.size wd) (.cells #[] 5))).below
          case aL => have := HDB.out; simp; omega
          intro v1 w6 ho hb hg hat
          rw [List.nil_append] at ho
          obtain ⟨A6, c6, rfl, hc6, hC6⟩ := Kd.R_reads ho
          have HI6 := Aside0.mk (HI5.out.grow hb)
          have HM6 := Aside0.mk (HM5.out.grow hb)
          have HO6 := Aside0.mk (And.intro HO5.out.1 (blk_below HO5.out.2 hb))
          have HD6 := Aside0.mk (And.intro hc6 hC6)
          clear HI5 HM5 HO5 ho hb hg hat hc6 hC6
          refine hK.out _ _ ⟨(blk_cell HO6.out.2 1).trans rfl, (blk_cell HO6.out.2 2).trans rfl⟩ (fun hHeld => ?_)
          clear hK K
          refine norm_ (a' := ?_) ?_ ?_
          rotate_left
          · show Act.put _ (some 98) _ = _
            simp only [Act.put, List.setIfInBounds_toArray, List.set_cons_zero, List.set_cons_succ, i64_w, i32_w]
            rfl
          refine one_ (i := 7) (N := some 99) #[true, true, true, true, true, true, true, true, false] rfl rfl (by kernel_rfl) (by decide) (fun K hK => ?_)
          refine goes_ Try.func11 (by kernel_rfl) rfl #[.pointer (some ⟨B + 2, 0, none⟩), .int .u16 sq, .slice A6 data.length c6] (by rfl) rfl rfl (by simp only [List.map_toArray, List.map_cons, List.map_nil]; rfl) ?_
          with_reducible refine (Take_calls HI6.out sq (in16_of HIN.out) A6 c6 data HD6.out.1 HD6.out.2).mono ?_
          rintro e w7 ⟨tg, rfl, htg, hI, hKp⟩
          refine ⟨_, rfl, ?_⟩
          have HI7 := Aside0.mk hI
          have HM7 := Aside0.mk (HM6.out.move hKp)
          have HO7 := Aside0.mk ((hKp.2 _ (blk_lt HO6.out.2) (.inr HO6.out.1)).trans HO6.out.2)
          have HT7 := Aside0.mk (take_tags (x := sq) (d := (data, tg)) HT.out (fun k hk => by have := htg k hk; have := blk_lt HM6.out.b3; omega))
          clear HI6 HM6 HO6 HD6 hI hKp htg
          refine hK.out _ _ ⟨(blk_cell HO7.out 1).trans rfl, (blk_cell HO7.out 2).trans rfl⟩ (fun hHeld => ?_)
          clear hK K
          refine norm_ (a' := ?_) ?_ ?_
          rotate_left
          · show Act.put _ (some 99) _ = _
            simp only [Act.put, List.setIfInBounds_toArray, List.set_cons_zero, List.set_cons_succ, i64_w, i32_w]
            rfl
          refine pure_ (i := 8) (N := some 14) (v := ?_) (a' := ?_) #[true, true, true, true, true, true, true, true, true] rfl rfl (by kernel_rfl) (fun _ _ _ h => h) (Or.inl ⟨by rfl, ?_⟩) ?_ ?_
          rotate_left
          · intro w'
            go_simp
            with_reducible rfl
          rotate_left
          · simp only [Act.put, List.setIfInBounds_toArray, List.set_cons_zero, List.set_cons_succ, i64_w, i32_w]
            rfl
          refine done_ (by kernel_rfl) ?_
          clear HT hHeld
          obtain ⟨hpt, hP7⟩ := plays_take HP.out HIN.out data tg (strOfNums_size data)
          have hrt := rTake_calls W s.next A1 c1 (enc s) A2 c2 (encQ s) sq (strOfNums data) (g + 1) w7 HW.out HP.out.nn HIN.out (by have := HP.out.few.1; simpa [enc] using this) (by have := HP.out.few.2; simpa [encQ] using this) (blk_lt HM7.out.b3) HM7.out.r1 HM7.out.c1 HM7.out.r2 HM7.out.c2
          rw [hpt] at hrt
          simp only at hrt
          have HRT := Aside0.mk hrt
          have HP7 := Aside0.mk hP7
          generalize (takeF s sq (data, tg)).2 = code at HRT ⊢
          generalize (takeF s sq (data, tg)).1 = s7 at HRT HI7 HT7 HP7
          clear hpt hP7 hrt
          have hs1 := Kd.C_string (P := Try.prog) (c := c5) Try.underlying31 Try.underlying5 Try.underlying9 (Kd.C_below HC0.out.2 HI7.out.below)
          have hz0 := HM7.out.cell0
          have hz1 := HM7.out.cell1
          have hz2 := HM7.out.cell2
          have hz3 := HM7.out.cell3
          have ho1 : w7.cell? ⟨g11, 1, none⟩ = some (.int .u16 sq) := (blk_cell HO7.out 1).trans rfl
          have ho2 : w7.cell? ⟨g11, 2, none⟩ = some (.slice A5 data.length c5) := (blk_cell HO7.out 2).trans rfl
          go_upto_region 24 with (go_at_call 16; refine HRT.out.mono ?_; rintro e w8 ⟨B1, k1, B2, k2, rfl, hr1, hk1, hr2, hk2, hbel⟩; have HI8 := Aside0.mk (HI7.out.grow hbel); have HM8 := Aside0.mk (HM7.out.grow hbel); have HR8 := Aside0.mk (And.intro hr1 (And.intro hk1 (And.intro hr2 hk2))); clear hz0 hz1 hz2 hz3 hr1 hk1 hr2 hk2 hbel; have hz0 := HM8.out.cell0; have hz1 := HM8.out.cell1; have hz2 := HM8.out.cell2; have hz3 := HM8.out.cell3; have hf0 := blk_frozen HM8.out.b3 0; have hf1 := blk_frozen HM8.out.b3 1; have hf2 := blk_frozen HM8.out.b3 2; have hf3 := blk_frozen HM8.out.b3 3)
          have HM9 : Aside0 (MB B g (g + 1) ((((w8.setCell ⟨g, 0, none⟩ (.int .i64 W)).setCell ⟨g, 1, none⟩ (.int .u16 s7.next)).setCell ⟨g, 2, none⟩ (.slice B1 (enc s7).length k1)).setCell ⟨g, 3, none⟩ (.slice B2 (encQ s7).length k2)) W s7.next B1 k1 (enc s7) B2 k2 (encQ s7)) :=
            ⟨HM8.out.setAll HR8.out.1 (fun a e => by have := (HR8.out.1.2 a e).1; omega) HR8.out.2.1 HR8.out.2.2.1 (fun a e => by have := (HR8.out.2.2.1.2 a e).1; omega) HR8.out.2.2.2⟩
          have HI9 : Aside0 (IV w B ((((w8.setCell ⟨g, 0, none⟩ (.int .i64 W)).setCell ⟨g, 1, none⟩ (.int .u16 s7.next)).setCell ⟨g, 2, none⟩ (.slice B1 (enc s7).length k1)).setCell ⟨g, 3, none⟩ (.slice B2 (encQ s7).length k2)) s7) :=
            ⟨(((HI8.out.setTag HM8.out.far.1 HT7.out 0 _).setTag HM8.out.far.1 HT7.out 1 _).setTag HM8.out.far.1 HT7.out 2 _).setTag HM8.out.far.1 HT7.out 3 _⟩
          generalize (((w8.setCell ⟨g, 0, none⟩ (.int .i64 W)).setCell ⟨g, 1, none⟩ (.int .u16 s7.next)).setCell ⟨g, 2, none⟩ (.slice B1 (enc s7).length k1)).setCell ⟨g, 3, none⟩ (.slice B2 (encQ s7).length k2) = w9 at HM9 HI9 ⊢
          clear hz0 hz1 hz2 hz3 hf0 hf1 hf2 hf3 HM8 HI8 HR8 HRT HI7 HM7 HO7 ho1 ho2 hs1
          have hz0 := HM9.out.cell0
          have hz1 := HM9.out.cell1
          have hz2 := HM9.out.cell2
          have hz3 := HM9.out.cell3
          go_wp2_with (go_at_call 17; refine (tells_calls HI9.out HP7.out.few.1 W B1 k1 (enc s7) B2 k2 (encQ s7) (g + 1) HM9.out.far.2 HM9.out.r1 HM9.out.c1 HM9.out.r2 HM9.out.c2 (enc_keys s7) (enc_q s7)).mono ?_; rintro e w10 ⟨rfl, hI, hKp⟩; have HI10 := Aside0.mk hI; have HM10 := Aside0.mk (HM9.out.move hKp); clear hI hKp)
          go_roundg (200 - k)
          case measure => exact HK.out.2
          case rel => exact ⟨k + 1, s7, _, _, _, _, congrArg (Value.int .i64) (by first | exact hkk | exact (Int.natCast_succ k).symm | (simp; done)), HI10, HM10, HP7, HT7, ⟨p_next HK2.out⟩⟩
      · have HBW := Aside0.mk HI.out.below
        by_cases hk1 : k < l.length
        · have hk2 : ¬ k < 200 := fun h => hkl ⟨hk1, h⟩
          have d2 := decide_eq_true (Int.ofNat_lt.2 hk1 : (k : Int) < (l.length : Int))
          have d3 : decide ((k : Int) < 200) = false := decide_eq_false (by omega)
          have q2 := eq_true (Int.ofNat_lt.2 hk1 : (k : Int) < (l.length : Int))
          have q3 := eq_false (show ¬ (k : Int) < 200 by omega)
          clear hkl hk1 hk2
          generalize (k : Int) = κ at d2 d3 q2 q3 ⊢
          go_wp2
          go_ret
          exact ⟨rfl, HBW.out⟩
        · have d2 : decide ((k : Int) < (l.length : Int)) = false := decide_eq_false (by omega)
          have q2 := eq_false (show ¬ (k : Int) < (l.length : Int) by omega)
          clear hkl hk1
          generalize (k : Int) = κ at d2 q2 ⊢
          go_wp2
          go_ret
          exact ⟨rfl, HBW.out⟩
  · have hbad : W < 1 ∨ 64 < W := by omega
    have HBD := Aside0.mk hbad
    by_cases hl : W < 1
    · have g1 : decide (W < 1) = true := decide_eq_true hl
      have g3 := eq_true hl
      clear hW hbad hl
      go_wp2_with (first
        | (go_at_call 9; refine (awake_calls w).mono ?_; rintro e w1 ⟨rfl, hB⟩; have HB := Aside0.mk hB; clear hB)
        | (go_at_call 10; refine (New_bad W b HBD.out w1).mono ?_; rintro e w2 ⟨rfl, rfl⟩))
      go_ret
      exact ⟨rfl, HB.out⟩
    · have g1 : decide (W < 1) = false := decide_eq_false hl
      have g3 := eq_false hl
      have g2 : decide (64 < W) = true := decide_eq_true (by omega)
      have g4 := eq_true (show 64 < W by omega)
      clear hW hbad hl
      go_wp2_with (first
        | (go_at_call 9; refine (awake_calls w).mono ?_; rintro e w1 ⟨rfl, hB⟩; have HB := Aside0.mk hB; clear hB)
        | (go_at_call 10; refine (New_bad W b HBD.out w1).mono ?_; rintro e w2 ⟨rfl, rfl⟩))
      go_ret
      exact ⟨rfl, HB.out⟩
end Go.Proofs.Ytjigeblechiffaa.PPlays
