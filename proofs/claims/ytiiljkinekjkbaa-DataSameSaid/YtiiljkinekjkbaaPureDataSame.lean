/- DataSame, pure: what is left of it is that its texts are not too long. -/
import Derived.Test.YtiiljkinekjkbaaStatDataSame
namespace Go.Proofs.Ytiiljkinekjkbaa.Pure
open Go.RowKit

theorem DataSame : DataSameSt := by
  intro s t hs ht
  unfold copyholdlaw09_DataSame.f
  rw [if_pos ⟨hs, ht⟩]
end Go.Proofs.Ytiiljkinekjkbaa.Pure
