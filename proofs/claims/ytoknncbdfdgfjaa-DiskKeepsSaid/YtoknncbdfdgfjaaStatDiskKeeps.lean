/- The pure statement of DiskKeeps: what is left of the law when the machine's side is told. -/
import Derived.Test.YtoknncbdfdgfjaaQ8
namespace Go.Proofs.Ytoknncbdfdgfjaa.Pure
open Go.RowKit Go.Proofs.Ytoknncbdfdgfjaa.Q
def DiskKeepsSt : Prop := ∀ (l0_0 : List ByteArray) (l0_1 : List (S31)) (a0_2 : Bool) (l0_3 : List Bool) (a0_4 : Int) (a0_5 : ByteArray), (l0_0.length * 16 ≤ 140737488351232 ∧ ∀ y_ ∈ l0_0, y_.size ≤ 140737488351232) → (l0_1.length * 24 ≤ 140737488351232 ∧ ∀ y_ ∈ l0_1, ((Lit.int .i64 y_.f0).wf = true ∧ y_.f1.size ≤ 140737488351232)) → (l0_3.length * 1 ≤ 140737488351232 ∧ ∀ y_ ∈ l0_3, True) → (Lit.int .i64 a0_4).wf = true → a0_5.size ≤ 140737488351232 → ∃ k, Go.Proofs.Ytoknncbdfdgfjaa.Q.copyholdlaw04_DiskKeeps.f k l0_0 l0_1 a0_2 l0_3 a0_4 a0_5 = some true
end Go.Proofs.Ytoknncbdfdgfjaa.Pure
