/- SealTwo, pure: what is left of it is that its arguments are in range. -/
import Derived.Test.YtiicahnbkdjhbaaStatSealTwo
import Derived.Test.YtiicahnbkdjhbaaMath
namespace Go.Proofs.Ytiicahnbkdjhbaa.Pure
open Go.RowKit Math

theorem SealTwo : SealTwoSt := by
  intro a b y c d ha hb hy hc hd
  have hy := lit8 hy
  have hc := lit32 hc
  have hd := lit32 hd
  unfold copyholdlaw02_SealTwo.f
  rw [if_pos ⟨hy, hc, hd⟩]
end Go.Proofs.Ytiicahnbkdjhbaa.Pure
