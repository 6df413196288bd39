/- SealOne, pure: what is left of it is that its arguments are in range. -/
import Derived.Test.YtiicahnbkdjhbaaStatSealOne
import Derived.Test.YtiicahnbkdjhbaaMath
namespace Go.Proofs.Ytiicahnbkdjhbaa.Pure
open Go.RowKit Math

theorem SealOne : SealOneSt := by
  intro a b c ha hb hc
  have hc := lit8 hc
  unfold copyholdlaw02_SealOne.f
  rw [if_pos ⟨ha, hc.1, hc.2⟩]
end Go.Proofs.Ytiicahnbkdjhbaa.Pure
