/- The pure statement of NetSpoils: what is left of the law when the machine's side is told. -/
import Derived.Test.YtcefnaacnilojaaQ3
namespace Go.Proofs.Ytcefnaacnilojaa.Pure
open Go.RowKit Go.Proofs.Ytcefnaacnilojaa.Q
def NetSpoilsSt : Prop := ∀ (l0_0 : List ByteArray) (l0_1 : List ByteArray) (a0_2 : Bool) (a0_3 : Int) (a0_4 : Int) (a0_5 : Int), (l0_0.length * 16 ≤ 140737488351232 ∧ ∀ y_ ∈ l0_0, y_.size ≤ 140737488351232) → (l0_1.length * 16 ≤ 140737488351232 ∧ ∀ y_ ∈ l0_1, y_.size ≤ 140737488351232) → (Lit.int .i64 a0_3).wf = true → (Lit.int .i64 a0_4).wf = true → (Lit.int .u8 a0_5).wf = true → ∃ k, Go.Proofs.Ytcefnaacnilojaa.Q.copyholdlaw19_NetSpoils.f k l0_0 l0_1 a0_2 a0_3 a0_4 a0_5 = some true
end Go.Proofs.Ytcefnaacnilojaa.Pure
