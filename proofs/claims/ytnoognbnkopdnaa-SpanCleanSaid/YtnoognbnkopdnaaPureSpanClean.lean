/- SpanClean, pure: what is left of it is that its row is not too long. -/
import Derived.Test.YtnoognbnkopdnaaStatSpanClean
namespace Go.Proofs.Ytnoognbnkopdnaa.Pure
open Go.RowKit

theorem SpanClean : SpanCleanSt := by
  intro l a hl ha
  unfold copyholdlaw03_SpanClean.f
  rw [if_pos (by have := hl.1; omega)]
end Go.Proofs.Ytnoognbnkopdnaa.Pure
