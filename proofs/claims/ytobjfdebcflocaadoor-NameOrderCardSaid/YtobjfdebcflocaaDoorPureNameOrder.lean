/- NameOrder, pure: what is left of it is that its argument is not too long. -/
import Derived.Test.YtobjfdebcflocaaDoorStatNameOrder
import Derived.Test.YtobjfdebcflocaaDoorMath
namespace Go.Proofs.YtobjfdebcflocaaDoor.Pure
open Go.RowKit Math

theorem NameOrder : NameOrderSt := by
  intro l hl
  unfold copyholdlaw06_NameOrder.f
  rw [if_pos (by have := hl.1; omega)]
end Go.Proofs.YtobjfdebcflocaaDoor.Pure
