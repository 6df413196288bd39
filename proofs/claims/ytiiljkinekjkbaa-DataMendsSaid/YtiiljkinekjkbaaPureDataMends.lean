/- DataMends, pure: what is left of it is that its texts are not too long. -/
import Derived.Test.YtiiljkinekjkbaaStatDataMends
namespace Go.Proofs.Ytiiljkinekjkbaa.Pure
open Go.RowKit

theorem DataMends : DataMendsSt := by
  intro s t hs ht
  unfold copyholdlaw09_DataMends.f
  rw [if_pos ⟨hs, ht⟩]
end Go.Proofs.Ytiiljkinekjkbaa.Pure
