/- The pure statement of SealTwo: what is left of the law when the machine's side is told. -/
import Derived.Test.YtiicahnbkdjhbaaSealTwo
namespace Go.Proofs.Ytiicahnbkdjhbaa.Pure
open Go.RowKit
def SealTwoSt : Prop := ∀ (a0_0 : ByteArray) (a0_1 : Int) (a0_2 : Int) (a0_3 : Int) (a0_4 : Int), a0_0.size ≤ 140737488351232 → (Lit.int .i64 a0_1).wf = true → (Lit.int .u8 a0_2).wf = true → (Lit.int .u32 a0_3).wf = true → (Lit.int .u32 a0_4).wf = true → Go.Proofs.Ytiicahnbkdjhbaa.copyholdlaw02_SealTwo.f a0_0 a0_1 a0_2 a0_3 a0_4 = some true
end Go.Proofs.Ytiicahnbkdjhbaa.Pure
