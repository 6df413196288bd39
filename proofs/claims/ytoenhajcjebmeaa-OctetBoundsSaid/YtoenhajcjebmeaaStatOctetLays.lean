/- The pure statement of OctetLays: what is left of the law when the machine's side is told. -/
import Derived.Test.YtoenhajcjebmeaaQ2
namespace Go.Proofs.Ytoenhajcjebmeaa.Pure
open Go.RowKit
def OctetLaysSt : Prop := ∀ (a0 : Int) (l1 : List ByteArray) (a2 : Int), (Lit.int .u64 a0).wf = true → (l1.length * 16 ≤ 140737488351232 ∧ ∀ y_ ∈ l1, y_.size ≤ 140737488351232) → (Lit.int .i64 a2).wf = true → 1 + ((l1.map fun y_ => (y_.size + 1)).sum + 1) + 1 ≤ 1048576 → ∃ k, Go.Proofs.Ytoenhajcjebmeaa.Q.copyholdlaw01_OctetLays.f k a0 l1 a2 = some true
end Go.Proofs.Ytoenhajcjebmeaa.Pure
