/- The pure statement of OctetBack: what is left of the law when the machine's side is told. -/
import Derived.Test.YtoenhajcjebmeaaQ5
namespace Go.Proofs.Ytoenhajcjebmeaa.Pure
open Go.RowKit
def OctetBackSt : Prop := ∀ (a0_0 : Int) (l0_1 : List ByteArray) (a0_2 : ByteArray) (a0_3 : Int), (Lit.int .u64 a0_0).wf = true → (l0_1.length * 16 ≤ 140737488351232 ∧ ∀ y_ ∈ l0_1, y_.size ≤ 140737488351232) → a0_2.size ≤ 140737488351232 → (Lit.int .i64 a0_3).wf = true → ((1 + (((l0_1.map fun y_ => (y_.size + 1)).sum + 1) + ((a0_2.size + 1) + 1))) + 1) ≤ 1048576 → ∃ k, Go.Proofs.Ytoenhajcjebmeaa.Q.copyholdlaw01_OctetBack.f k a0_0 l0_1 a0_2 a0_3 = some true
end Go.Proofs.Ytoenhajcjebmeaa.Pure
