import Derived.Test.YtcbfnfggnocndaaZRedoEmpties1
set_option linter.unusedVariables false
set_option linter.unusedSimpArgs false
namespace Go.Proofs.Ytcbfnfggnocndaa.Pure
open Go.RowKit Go.Proofs.Ytcbfnfggnocndaa.Q
def RedoEmptiesSt : Prop := ∀ (l0_0 : List ByteArray) (l0_1 : List (S88)) (a0_2 : Bool) (a1_0 : Int) (a1_1 : Int) (a2_0 : Int) (a2_1 : Int) (a2_2 : Int) (a2_3 : Int), (l0_0.length * 16 ≤ 140737488351232 ∧ ∀ y_ ∈ l0_0, y_.size ≤ 140737488351232) → (l0_1.length * 24 ≤ 140737488351232 ∧ ∀ y_ ∈ l0_1, ((Lit.int .i64 y_.f0).wf = true ∧ y_.f1.size ≤ 140737488351232)) → (Lit.int .i64 a1_0).wf = true → (Lit.int .i64 a1_1).wf = true → (Lit.int .i64 a2_0).wf = true → (Lit.int .i64 a2_1).wf = true → (Lit.int .u64 a2_2).wf = true → (Lit.int .i64 a2_3).wf = true → ∃ k, Go.Proofs.Ytcbfnfggnocndaa.Q.copyholdlaw05_RedoEmpties.f k l0_0 l0_1 a0_2 a1_0 a1_1 a2_0 a2_1 a2_2 a2_3 = some true
end Go.Proofs.Ytcbfnfggnocndaa.Pure
