/- The pure statement of DataMends: what is left of the law when the machine's side is told. -/
import Derived.Test.YtiiljkinekjkbaaDatQ
namespace Go.Proofs.Ytiiljkinekjkbaa.Pure
open Go.RowKit Go.Proofs.Ytiiljkinekjkbaa.U
def DataMendsSt : Prop := ∀ (a0 : ByteArray) (a1 : ByteArray), a0.size ≤ 140737488351232 → a1.size ≤ 140737488351232 → Go.Proofs.Ytiiljkinekjkbaa.copyholdlaw09_DataMends.f a0 a1 = some true
end Go.Proofs.Ytiiljkinekjkbaa.Pure
