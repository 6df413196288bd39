/- SpanShifts, pure: nothing is left of it. -/
import Derived.Test.YtnoognbnkopdnaaStatSpanShifts
namespace Go.Proofs.Ytnoognbnkopdnaa.Pure
open Go.RowKit
theorem SpanShifts : SpanShiftsSt := by
  unfold SpanShiftsSt
  intros
  rfl
end Go.Proofs.Ytnoognbnkopdnaa.Pure
