/- SpanBoths, pure: nothing is left of it. -/
import Derived.Test.YtnoognbnkopdnaaStatSpanBoths
namespace Go.Proofs.Ytnoognbnkopdnaa.Pure
open Go.RowKit
theorem SpanBoths : SpanBothsSt := by
  unfold SpanBothsSt
  intros
  rfl
end Go.Proofs.Ytnoognbnkopdnaa.Pure
