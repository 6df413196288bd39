/- SpanRights, pure: nothing is left of it. -/
import Derived.Test.YtnoognbnkopdnaaStatSpanRights
namespace Go.Proofs.Ytnoognbnkopdnaa.Pure
open Go.RowKit
theorem SpanRights : SpanRightsSt := fun _ _ _ _ _ _ _ _ => rfl
end Go.Proofs.Ytnoognbnkopdnaa.Pure
