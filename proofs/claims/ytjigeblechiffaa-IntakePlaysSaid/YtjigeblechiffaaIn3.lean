/- An intake in memory, and its small functions: New, Ready, Next, Get. -/
import Derived.Test.YtjigeblechiffaaIn2
namespace Go.Proofs.Ytjigeblechiffaa.PIntake
open Go.RowKit Go.Proofs.YtjigeblechiffaaW.PrintWords Go.Proofs.YtjigeblechiffaaW.PrintLast Go.Proofs.YtjigeblechiffaaW.PrintMore
attribute [local go_sem] max2_int min2_int max_two min_two max_three min_three max_four min_four   -- for this text's walks alone
set_option linter.unusedVariables false
set_option linter.unusedSimpArgs false

variable {w0 w w1 : World} {B : Nat} {s : St}
set_option maxHeartbeats 1000000 in
set_option maxRecDepth 100000 in
theorem Get_none (h : IV w0 B w s) (hq : s.queue = []) : Calls Try.prog 12 #[.pointer (some ⟨B + 2, 0, none⟩)] w fun e w' => e = .returned (.tuple #[.slice none 0 0, .int .i64 4]) ∧ w' = w := by
  have h3 := h.cell3
  obtain ⟨⟨buf⟩, snt, rcv, hc, hr⟩ := h.ch
  have hb : buf = [] := by
    cases buf with
    | nil => rfl
    | cons v l => rw [hq] at hr; exact hr.elim
  subst hb
  clear h hr
  go_enter Try.func12, Try.ntmps12
  go_upto_region 2 with fail
  refine wp_sel (v := .tuple #[goInt (-1), .bool false, .slice none 0 0]) (w' := w) (cases := #[Go.Conc.rcase (B + 1) (.slice none 0 0)]) rfl rfl (by rfl) ?r1 ?r2 ?r3
  case r1 => go_simp; rfl
  case r2 => exact fun fr cs es he => Go.Conc.step_lone_select_default he hc
  simp only [wpOps]
  go_simp
  refine .inl (.inl ?_)
  rename_i K hK
  refine hK _ _ ?_
  clear hK K
  go_wp2
  go_ret2
  exact ⟨rfl, rfl⟩

theorem IV.drewN' (h : IV w0 B w s) (n : Nat) : IV w0 B (w.drewN n) s := h.drewN n
set_option maxHeartbeats 1000000 in
set_option maxRecDepth 100000 in
theorem Get_some (h : IV w0 B w s) {r : P} {q : List P} (hq : s.queue = r :: q) : Calls Try.prog 12 #[.pointer (some ⟨B + 2, 0, none⟩)] w fun e w' => ∃ v, e = .returned (.tuple #[v, .int .i64 0]) ∧ IV w0 B w' { s with queue := q } ∧ RV B w' v r ∧ Kp B w w' := by
  have h3 := h.cell3
  obtain ⟨buf, snt, rcv, v, hc, hs, hv, _, hI, hR, hP⟩ := h.pop hq
  have HP := Aside0.mk hP
  have HI := Aside0.mk hI
  have HR := Aside0.mk hR
  clear h hq hI hR hP
  go_enter Try.func12, Try.ntmps12
  go_upto_region 2 with fail
  refine wp_sel (v := .tuple #[goInt 0, .bool true, buf.getD 0 undef]) (w' := w.setChan (B + 1) (2 * s.window).toNat (buf.extract 1 buf.size) false snt (rcv + 1) false) (cases := #[Go.Conc.rcase (B + 1) (.slice none 0 0)]) rfl rfl (by rfl) ?r1 ?r2 ?r3
  case r1 => go_simp; rfl
  case r2 => exact fun fr cs es he => Go.Conc.step_lone_select_recv_buf he hc hs
  rw [hv]
  generalize w.setChan (B + 1) (2 * s.window).toNat (buf.extract 1 buf.size) false snt (rcv + 1) false = w2 at HI HR HP ⊢
  clear hv hs hc h3
  simp only [wpOps]
  go_simp
  refine .inl (.inl ?_)
  rename_i K hK
  refine hK _ _ ?_
  clear hK K
  go_wp2
  go_ret2
  exact ⟨_, rfl, HI.out, HR.out, HP.out⟩
end Go.Proofs.Ytjigeblechiffaa.PIntake
