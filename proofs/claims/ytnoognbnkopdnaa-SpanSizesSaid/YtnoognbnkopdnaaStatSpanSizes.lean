/- The pure statement of SpanSizes: what is left of the law when the machine's side is told. -/
import Derived.Test.YtnoognbnkopdnaaSpanSizes
namespace Go.Proofs.Ytnoognbnkopdnaa.Pure
open Go.RowKit Go.Proofs.Ytnoognbnkopdnaa.Q
def SpanSizesSt : Prop := ∀ (l0 : List (Int × Int)) (a1_0 : Int) (a1_1 : Int), (l0.length * 16 ≤ 140737488351232 ∧ ∀ y_ ∈ l0, ((Lit.int .i64 y_.1).wf = true ∧ (Lit.int .i64 y_.2).wf = true)) → (Lit.int .i64 a1_0).wf = true → (Lit.int .i64 a1_1).wf = true → Go.Proofs.Ytnoognbnkopdnaa.copyholdlaw03_SpanSizes.f l0 a1_0 a1_1 = some true
end Go.Proofs.Ytnoognbnkopdnaa.Pure
