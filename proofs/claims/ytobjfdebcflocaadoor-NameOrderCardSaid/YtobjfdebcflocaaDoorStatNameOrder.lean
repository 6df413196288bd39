/- The pure statement of NameOrder: what is left of the law when the machine's side is told. -/
import Derived.Test.YtobjfdebcflocaaDoorNameOrder
namespace Go.Proofs.YtobjfdebcflocaaDoor.Pure
open Go.RowKit Go.Proofs.YtobjfdebcflocaaDoor.O
def NameOrderSt : Prop := ∀ (l0 : List ByteArray), (l0.length * 16 ≤ 140737488351232 ∧ ∀ y_ ∈ l0, y_.size ≤ 140737488351232) → Go.Proofs.YtobjfdebcflocaaDoor.copyholdlaw06_NameOrder.f l0 = some true
end Go.Proofs.YtobjfdebcflocaaDoor.Pure
