/- The pure statement of SpanBoths: what is left of the law when the machine's side is told. -/
import Derived.Test.YtnoognbnkopdnaaSpanBoths
namespace Go.Proofs.Ytnoognbnkopdnaa.Pure
open Go.RowKit
def SpanBothsSt : Prop := ∀ (a0_0 : Int) (a0_1 : Int) (a1_0 : Int) (a1_1 : Int) (a2 : Int), (Lit.int .i64 a0_0).wf = true → (Lit.int .i64 a0_1).wf = true → (Lit.int .i64 a1_0).wf = true → (Lit.int .i64 a1_1).wf = true → (Lit.int .i64 a2).wf = true → Go.Proofs.Ytnoognbnkopdnaa.copyholdlaw03_SpanBoths.f a0_0 a0_1 a1_0 a1_1 a2 = some true
end Go.Proofs.Ytnoognbnkopdnaa.Pure
