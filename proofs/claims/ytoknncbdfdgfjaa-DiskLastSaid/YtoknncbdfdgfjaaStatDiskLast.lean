/- The pure statement of DiskLast: what is left of the law when the machine's side is told. -/
import Derived.Test.YtoknncbdfdgfjaaQ10
namespace Go.Proofs.Ytoknncbdfdgfjaa.Pure
open Go.RowKit Go.Proofs.Ytoknncbdfdgfjaa.Q
def DiskLastSt : Prop := ∀ (l0_0 : List ByteArray) (l0_1 : List (S31)) (a0_2 : Bool) (a0_3 : Int) (a0_4 : ByteArray) (a0_5 : Int), (l0_0.length * 16 ≤ 140737488351232 ∧ ∀ y_ ∈ l0_0, y_.size ≤ 140737488351232) → (l0_1.length * 24 ≤ 140737488351232 ∧ ∀ y_ ∈ l0_1, ((Lit.int .i64 y_.f0).wf = true ∧ y_.f1.size ≤ 140737488351232)) → (Lit.int .i64 a0_3).wf = true → a0_4.size ≤ 140737488351232 → (Lit.int .i64 a0_5).wf = true → ∃ k, Go.Proofs.Ytoknncbdfdgfjaa.Q.copyholdlaw04_DiskLast.f k l0_0 l0_1 a0_2 a0_3 a0_4 a0_5 = some true
end Go.Proofs.Ytoknncbdfdgfjaa.Pure
