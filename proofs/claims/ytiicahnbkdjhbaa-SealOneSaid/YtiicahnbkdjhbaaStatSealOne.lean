/- The pure statement of SealOne: what is left of the law when the machine's side is told. -/
import Derived.Test.YtiicahnbkdjhbaaSealOne
namespace Go.Proofs.Ytiicahnbkdjhbaa.Pure
open Go.RowKit
def SealOneSt : Prop := ∀ (a0 : ByteArray) (a1 : Int) (a2 : Int), a0.size ≤ 140737488351232 → (Lit.int .i64 a1).wf = true → (Lit.int .u8 a2).wf = true → Go.Proofs.Ytiicahnbkdjhbaa.copyholdlaw02_SealOne.f a0 a1 a2 = some true
end Go.Proofs.Ytiicahnbkdjhbaa.Pure
