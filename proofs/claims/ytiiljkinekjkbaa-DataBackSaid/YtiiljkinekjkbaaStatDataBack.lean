/- The pure statement of DataBack: what is left of the law when the machine's side is told. -/
import Derived.Test.YtiiljkinekjkbaaQ2
namespace Go.Proofs.Ytiiljkinekjkbaa.Pure
open Go.RowKit Go.Proofs.Ytiiljkinekjkbaa.Q
def DataBackSt : Prop := ∀ (a0 : ByteArray) (a1 : Int) (a2 : ByteArray), a0.size ≤ 140737488351232 → (Lit.int .i64 a1).wf = true → a2.size ≤ 140737488351232 → ∃ k, Go.Proofs.Ytiiljkinekjkbaa.Q.copyholdlaw09_DataBack.f k a0 a1 a2 = some true
end Go.Proofs.Ytiiljkinekjkbaa.Pure
