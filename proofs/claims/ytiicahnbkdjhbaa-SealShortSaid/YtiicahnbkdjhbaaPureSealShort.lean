/- SealShort, pure: what has fewer than four bytes bears no sum; what is taken has four bytes less. -/
import Derived.Test.YtiicahnbkdjhbaaQ2
import Derived.Test.YtiicahnbkdjhbaaSealC
namespace Go.Proofs.Ytiicahnbkdjhbaa.Pure
open Go.RowKit Go.Proofs.Ytiicahnbkdjhbaa.Q Go.Proofs.YtiicahnbkdjhbaaW.PrintWords Go.Proofs.YtiicahnbkdjhbaaW.PrintLast Math

theorem SealShort : copyholdlaw02_SealShort.Pure := by
  intro s hs
  unfold copyholdlaw02_SealShort.f
  rw [shown_eq]
  simp only [Option.bind_some]
  by_cases h : (s.size : Int) > 5000
  · rw [if_pos h]
  · rw [if_neg h, seal_Take_eq s (by omega)]
    simp only [Option.bind_some]
    by_cases h4 : (s.size : Int) < 4
    · rw [if_pos h4]
      have : takeS s = (⟨#[]⟩, 2) := by unfold takeS; rw [if_pos (by omega)]
      rw [this]
      simp [tl]
    · rw [if_neg h4]
      by_cases h2 : (takeS s).2 = 0
      · have hp := put_take s h2
        have hz : (takeS s).1.size ≤ 9223372036854775803 := by
          have := putS_size (takeS s).1
          rw [hp] at this
          omega
        rw [if_pos trivial, if_pos h2, seal_Put_eq _ hz, hp]
        simp
      · have h3 : takeS s = (⟨#[]⟩, 4) := by
          unfold takeS at h2 ⊢
          rw [if_neg (by omega)] at h2 ⊢
          split at h2
          · exact absurd rfl h2
          · rename_i hn; rw [if_neg hn]
        rw [h3]
        simp [tl]
end Go.Proofs.Ytiicahnbkdjhbaa.Pure
