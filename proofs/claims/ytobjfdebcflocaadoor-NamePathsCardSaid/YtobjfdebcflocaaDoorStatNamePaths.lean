/- The pure statement of NamePaths: what is left of the law when the machine's side is told. -/
import Derived.Test.YtobjfdebcflocaaDoorQ3
namespace Go.Proofs.YtobjfdebcflocaaDoor.Pure
open Go.RowKit Go.Proofs.YtobjfdebcflocaaDoor.Q
def NamePathsSt : Prop := ∀ (l0 : List ByteArray) (a1 : ByteArray), (l0.length * 16 ≤ 140737488351232 ∧ ∀ y_ ∈ l0, y_.size ≤ 140737488351232) → a1.size ≤ 140737488351232 → ∃ k, Go.Proofs.YtobjfdebcflocaaDoor.Q.copyholdlaw06_NamePaths.f k l0 a1 = some true
end Go.Proofs.YtobjfdebcflocaaDoor.Pure
