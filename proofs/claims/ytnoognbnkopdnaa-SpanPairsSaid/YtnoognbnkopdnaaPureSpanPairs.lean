/- SpanPairs, pure: nothing is left of it. -/
import Derived.Test.YtnoognbnkopdnaaStatSpanPairs
namespace Go.Proofs.Ytnoognbnkopdnaa.Pure
open Go.RowKit
theorem SpanPairs : SpanPairsSt := by
  unfold SpanPairsSt
  intros
  rfl
end Go.Proofs.Ytnoognbnkopdnaa.Pure
