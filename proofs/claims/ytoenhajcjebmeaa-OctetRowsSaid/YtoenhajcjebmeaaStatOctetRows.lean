/- The pure statement of OctetRows: what is left of the law when the machine's side is told. -/
import Derived.Test.YtoenhajcjebmeaaOctRows
namespace Go.Proofs.Ytoenhajcjebmeaa.Pure
open Go.RowKit
def OctetRowsSt : Prop := ∀ (a0 : ByteArray) (a1 : ByteArray) (a2 : Int), a0.size ≤ 140737488351232 → a1.size ≤ 140737488351232 → (Lit.int .u64 a2).wf = true → Go.Proofs.Ytoenhajcjebmeaa.copyholdlaw01_OctetRows.f a0 a1 a2 = some true
end Go.Proofs.Ytoenhajcjebmeaa.Pure
