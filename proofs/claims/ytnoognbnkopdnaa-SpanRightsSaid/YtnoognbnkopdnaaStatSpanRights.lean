/- The pure statement of SpanRights: what is left of the law when the machine's side is told. -/
import Derived.Test.YtnoognbnkopdnaaSpanRights
namespace Go.Proofs.Ytnoognbnkopdnaa.Pure
open Go.RowKit
def SpanRightsSt : Prop := ∀ (a0_0 : Int) (a0_1 : Int) (a0_2 : Int) (a0_3 : Int), (Lit.int .i64 a0_0).wf = true → (Lit.int .i64 a0_1).wf = true → (Lit.int .i64 a0_2).wf = true → (Lit.int .i64 a0_3).wf = true → Go.Proofs.Ytnoognbnkopdnaa.copyholdlaw03_SpanRights.f a0_0 a0_1 a0_2 a0_3 = some true
end Go.Proofs.Ytnoognbnkopdnaa.Pure
