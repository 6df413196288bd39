/- The pure statement of NetOther: what is left of the law when the machine's side is told. -/
import Derived.Test.YtcefnaacnilojaaQ4
namespace Go.Proofs.Ytcefnaacnilojaa.Pure
open Go.RowKit Go.Proofs.Ytcefnaacnilojaa.Q
def NetOtherSt : Prop := ∀ (l0_0 : List ByteArray) (l0_1 : List ByteArray) (a0_2 : Bool) (a0_3 : ByteArray) (a0_4 : Int) (a0_5 : Int), (l0_0.length * 16 ≤ 140737488351232 ∧ ∀ y_ ∈ l0_0, y_.size ≤ 140737488351232) → (l0_1.length * 16 ≤ 140737488351232 ∧ ∀ y_ ∈ l0_1, y_.size ≤ 140737488351232) → a0_3.size ≤ 140737488351232 → (Lit.int .i64 a0_4).wf = true → (Lit.int .i64 a0_5).wf = true → ∃ k, Go.Proofs.Ytcefnaacnilojaa.Q.copyholdlaw19_NetOther.f k l0_0 l0_1 a0_2 a0_3 a0_4 a0_5 = some true
end Go.Proofs.Ytcefnaacnilojaa.Pure
