/- The pure statement of DataParts: what is left of the law when the machine's side is told. -/
import Derived.Test.YtiiljkinekjkbaaV1
namespace Go.Proofs.Ytiiljkinekjkbaa.Pure
open Go.RowKit Go.Proofs.Ytiiljkinekjkbaa.V
def DataPartsSt : Prop := ∀ (a0_0 : ByteArray) (a0_1 : Int) (a0_2 : Int) (a0_3 : ByteArray), a0_0.size ≤ 140737488351232 → (Lit.int .i64 a0_1).wf = true → (Lit.int .i64 a0_2).wf = true → a0_3.size ≤ 140737488351232 → ∃ k, Go.Proofs.Ytiiljkinekjkbaa.V.copyholdlaw09_DataParts.f k a0_0 a0_1 a0_2 a0_3 = some true
end Go.Proofs.Ytiiljkinekjkbaa.Pure
