/- The pure statement of DataPieces: what is left of the law when the machine's side is told. -/
import Derived.Test.YtiiljkinekjkbaaDatV
namespace Go.Proofs.Ytiiljkinekjkbaa.Pure
open Go.RowKit Go.Proofs.Ytiiljkinekjkbaa.U
def DataPiecesSt : Prop := ∀ (a0_0 : ByteArray) (a0_1 : ByteArray) (l0_2 : List (Int × Int)) (l0_3 : List ByteArray), a0_0.size ≤ 140737488351232 → a0_1.size ≤ 140737488351232 → (l0_2.length * 16 ≤ 140737488351232 ∧ ∀ y_ ∈ l0_2, ((Lit.int .i64 y_.1).wf = true ∧ (Lit.int .i64 y_.2).wf = true)) → (l0_3.length * 16 ≤ 140737488351232 ∧ ∀ y_ ∈ l0_3, y_.size ≤ 140737488351232) → Go.Proofs.Ytiiljkinekjkbaa.copyholdlaw09_DataPieces.f a0_0 a0_1 l0_2 l0_3 = some true
end Go.Proofs.Ytiiljkinekjkbaa.Pure
