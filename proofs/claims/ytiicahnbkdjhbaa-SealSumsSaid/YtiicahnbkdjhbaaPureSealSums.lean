/- SealSums, pure: sums, and texts that bear theirs, are as the reference says. -/
import Derived.Test.YtiicahnbkdjhbaaQ2
import Derived.Test.YtiicahnbkdjhbaaSealC
namespace Go.Proofs.Ytiicahnbkdjhbaa.Pure
open Go.RowKit Go.Proofs.Ytiicahnbkdjhbaa.Q Go.Proofs.YtiicahnbkdjhbaaW.PrintWords Go.Proofs.YtiicahnbkdjhbaaW.PrintLast Math

theorem SealSums : copyholdlaw02_SealSums.Pure := by
  intro c s hc hs
  have hc := lit32 hc
  obtain ⟨c, rfl⟩ := natInt hc.1
  refine ⟨10 * s.size + 1, ?_⟩
  unfold copyholdlaw02_SealSums.f
  rw [shown_eq]
  simp only [Option.bind_some]
  by_cases h : (s.size : Int) > 5000
  · rw [if_pos h]
  · rw [if_neg h, seal_Take_eq s (by omega), ref_Take s hs _ (by omega), seal_More_eq s (by omega) c (by omega), ref_More s hs _ c (by omega) (by omega), seal_Sum_eq s (by omega), ref_Sum s hs _ (by omega), seal_Put_eq s (by omega), ref_Put s hs _ (by omega), seal_Right_eq s (by omega)]
    simp
end Go.Proofs.Ytiicahnbkdjhbaa.Pure
