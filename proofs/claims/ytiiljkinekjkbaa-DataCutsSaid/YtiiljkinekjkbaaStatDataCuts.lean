/- The pure statement of DataCuts: what is left of the law when the machine's side is told. -/
import Derived.Test.YtiiljkinekjkbaaQ1
namespace Go.Proofs.Ytiiljkinekjkbaa.Pure
open Go.RowKit Go.Proofs.Ytiiljkinekjkbaa.Q
def DataCutsSt : Prop := ∀ (a0 : ByteArray) (a1 : Int), a0.size ≤ 140737488351232 → (Lit.int .i64 a1).wf = true → Go.Proofs.Ytiiljkinekjkbaa.Q.copyholdlaw09_DataCuts.f a0 a1 = some true
end Go.Proofs.Ytiiljkinekjkbaa.Pure
