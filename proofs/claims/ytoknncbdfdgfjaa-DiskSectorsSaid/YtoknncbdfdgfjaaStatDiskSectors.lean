/- The pure statement of DiskSectors: what is left of the law when the machine's side is told. -/
import Derived.Test.YtoknncbdfdgfjaaQ3
namespace Go.Proofs.Ytoknncbdfdgfjaa.Pure
open Go.RowKit Go.Proofs.Ytoknncbdfdgfjaa.Q
def DiskSectorsSt : Prop := ∀ (l0_0 : List ByteArray) (l0_1 : List (S31)) (a0_2 : Bool) (l1 : List Bool) (a2 : Int), (l0_0.length * 16 ≤ 140737488351232 ∧ ∀ y_ ∈ l0_0, y_.size ≤ 140737488351232) → (l0_1.length * 24 ≤ 140737488351232 ∧ ∀ y_ ∈ l0_1, ((Lit.int .i64 y_.f0).wf = true ∧ y_.f1.size ≤ 140737488351232)) → (l1.length * 1 ≤ 140737488351232 ∧ ∀ y_ ∈ l1, True) → (Lit.int .i64 a2).wf = true → ∃ k, Go.Proofs.Ytoknncbdfdgfjaa.Q.copyholdlaw04_DiskSectors.f k l0_0 l0_1 a0_2 l1 a2 = some true
end Go.Proofs.Ytoknncbdfdgfjaa.Pure
