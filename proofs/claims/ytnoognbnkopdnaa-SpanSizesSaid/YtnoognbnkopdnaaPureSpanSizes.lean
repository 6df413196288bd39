/- SpanSizes, pure: what is left of it is that its row is not too long. -/
import Derived.Test.YtnoognbnkopdnaaStatSpanSizes
namespace Go.Proofs.Ytnoognbnkopdnaa.Pure
open Go.RowKit

theorem SpanSizes : SpanSizesSt := by
  intro l a b hl ha hb
  unfold copyholdlaw03_SpanSizes.f
  rw [if_pos (by have := hl.1; omega)]
end Go.Proofs.Ytnoognbnkopdnaa.Pure
