-- Written by a program of this session (wip/oprint): after the pattern of the kit's print, which does not take this law. -- trimmed
import Derived.Test.YtkdfohmceokchaaPZonePiecesx0
namespace Go.Proofs.Ytkdfohmceokchaa.PZonePieces
open Go.RowKit Go.Proofs.YtkdfohmceokchaaW.PrintWords Go.Proofs.YtkdfohmceokchaaW.PrintLast Go.Proofs.YtkdfohmceokchaaW.PrintMore
attribute [local go_sem] max2_int min2_int max_two min_two max_three min_three max_four min_four   -- for this text's walks alone
set_option linter.unusedVariables false
set_option linter.unusedSimpArgs false

theorem eqA43 (d : Nat) (w : World) (x0 y0 : Int) (x1 y1 : Int) :
  (Op.equalIn (d + 2) 43 (.agg #[.int .i64 x0, .int .i64 x1]) (.agg #[.int .i64 y0, .int .i64 y1])).run Try.prog w = .ok (x0 == y0 && (x1 == y1)) w := by
 obtain ⟨i_, hi_⟩ := Option.isSome_iff_exists.mp (show (Try.prog.info? 3).isSome = true by kernel_rfl)
 rw [run_equalIn_array w (d + 1) _ _ Try.underlying43 hi_, show Try.prog.cellsOf 3 = 1 from by kernel_rfl, show List.range 2 = [0, 1] from rfl]
 simp only [Op.eqItems, Sem.run_bind]
 go_simp
 (try (cases h0 : x0 == y0 <;> simp_all))
 (try (cases h1 : x1 == y1 <;> simp_all))
end Go.Proofs.Ytkdfohmceokchaa.PZonePieces
