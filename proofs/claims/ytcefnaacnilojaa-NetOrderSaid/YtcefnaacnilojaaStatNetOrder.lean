/- The pure statement of NetOrder: what is left of the law when the machine's side is told. -/
import Derived.Test.YtcefnaacnilojaaQ2
namespace Go.Proofs.Ytcefnaacnilojaa.Pure
open Go.RowKit Go.Proofs.Ytcefnaacnilojaa.Q
def NetOrderSt : Prop := ∀ (l0_0 : List ByteArray) (l0_1 : List ByteArray) (a1 : Bool), (l0_0.length * 16 ≤ 140737488351232 ∧ ∀ y_ ∈ l0_0, y_.size ≤ 140737488351232) → (l0_1.length * 16 ≤ 140737488351232 ∧ ∀ y_ ∈ l0_1, y_.size ≤ 140737488351232) → ∃ k, Go.Proofs.Ytcefnaacnilojaa.Q.copyholdlaw19_NetOrder.f k l0_0 l0_1 a1 = some true
end Go.Proofs.Ytcefnaacnilojaa.Pure
