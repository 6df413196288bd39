/- The pure statement of DiskStretches: what is left of the law when the machine's side is told. -/
import Derived.Test.YtoknncbdfdgfjaaQ4
namespace Go.Proofs.Ytoknncbdfdgfjaa.Pure
open Go.RowKit Go.Proofs.Ytoknncbdfdgfjaa.Q
def DiskStretchesSt : Prop := ∀ (l0_0 : List ByteArray) (l0_1 : List (S31)) (a0_2 : Bool) (a1 : Int) (a2 : Int), (l0_0.length * 16 ≤ 140737488351232 ∧ ∀ y_ ∈ l0_0, y_.size ≤ 140737488351232) → (l0_1.length * 24 ≤ 140737488351232 ∧ ∀ y_ ∈ l0_1, ((Lit.int .i64 y_.f0).wf = true ∧ y_.f1.size ≤ 140737488351232)) → (Lit.int .i64 a1).wf = true → (Lit.int .i64 a2).wf = true → ∃ k, Go.Proofs.Ytoknncbdfdgfjaa.Q.copyholdlaw04_DiskStretches.f k l0_0 l0_1 a0_2 a1 a2 = some true
end Go.Proofs.Ytoknncbdfdgfjaa.Pure
