/- SpanAround, pure: nothing is left of it. -/
import Derived.Test.YtnoognbnkopdnaaStatSpanAround
namespace Go.Proofs.Ytnoognbnkopdnaa.Pure
open Go.RowKit
theorem SpanAround : SpanAroundSt := fun _ _ _ _ _ _ _ _ => rfl
end Go.Proofs.Ytnoognbnkopdnaa.Pure
