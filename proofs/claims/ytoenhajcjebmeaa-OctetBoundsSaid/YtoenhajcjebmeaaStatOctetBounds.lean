/- The pure statement of OctetBounds: what is left of the law when the machine's side is told. -/
import Derived.Test.YtoenhajcjebmeaaQ6
namespace Go.Proofs.Ytoenhajcjebmeaa.Pure
open Go.RowKit
def OctetBoundsSt : Prop := ∀ (a0 : ByteArray) (a1 : Int) (l2 : List ByteArray), a0.size ≤ 140737488351232 → (Lit.int .i64 a1).wf = true → (l2.length * 16 ≤ 140737488351232 ∧ ∀ y_ ∈ l2, y_.size ≤ 140737488351232) → ∃ k, Go.Proofs.Ytoenhajcjebmeaa.Q.copyholdlaw01_OctetBounds.f k a0 a1 l2 = some true
end Go.Proofs.Ytoenhajcjebmeaa.Pure
