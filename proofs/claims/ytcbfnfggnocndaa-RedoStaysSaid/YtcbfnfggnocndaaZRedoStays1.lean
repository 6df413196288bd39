import Derived.Test.YtcbfnfggnocndaaZRedoStays0
set_option linter.unusedVariables false
set_option linter.unusedSimpArgs false
namespace Go.Proofs.Ytcbfnfggnocndaa.Pure
open Go.RowKit Go.Proofs.Ytcbfnfggnocndaa.Q
def RedoStaysSt : Prop := ∀ (l0_0 : List ByteArray) (l0_1 : List (S88)) (a0_2 : Bool) (a0_3 : Int) (a0_4 : Int) (a0_5 : Int) (a0_6 : Int) (a0_7 : Int) (a0_8 : Int) (a0_9 : ByteArray) (a0_10 : Int), (l0_0.length * 16 ≤ 140737488351232 ∧ ∀ y_ ∈ l0_0, y_.size ≤ 140737488351232) → (l0_1.length * 24 ≤ 140737488351232 ∧ ∀ y_ ∈ l0_1, ((Lit.int .i64 y_.f0).wf = true ∧ y_.f1.size ≤ 140737488351232)) → (Lit.int .i64 a0_3).wf = true → (Lit.int .i64 a0_4).wf = true → (Lit.int .i64 a0_5).wf = true → (Lit.int .i64 a0_6).wf = true → (Lit.int .u64 a0_7).wf = true → (Lit.int .i64 a0_8).wf = true → a0_9.size ≤ 140737488351232 → (Lit.int .i64 a0_10).wf = true → ∃ k, Go.Proofs.Ytcbfnfggnocndaa.Q.copyholdlaw05_RedoStays.f k l0_0 l0_1 a0_2 a0_3 a0_4 a0_5 a0_6 a0_7 a0_8 a0_9 a0_10 = some true
end Go.Proofs.Ytcbfnfggnocndaa.Pure
