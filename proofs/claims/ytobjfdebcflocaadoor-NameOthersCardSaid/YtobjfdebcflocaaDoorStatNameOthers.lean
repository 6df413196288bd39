/- The pure statement of NameOthers: what is left of the law when the machine's side is told. -/
import Derived.Test.YtobjfdebcflocaaDoorQ7
namespace Go.Proofs.YtobjfdebcflocaaDoor.Pure
open Go.RowKit Go.Proofs.YtobjfdebcflocaaDoor.Q
def NameOthersSt : Prop := ∀ (l0_0 : List (S56)) (a0_1 : ByteArray) (a0_2 : ByteArray) (a0_3 : Int), (l0_0.length * 24 ≤ 140737488351232 ∧ ∀ y_ ∈ l0_0, (y_.f0.size ≤ 140737488351232 ∧ (Lit.int .i64 y_.f1).wf = true)) → a0_1.size ≤ 140737488351232 → a0_2.size ≤ 140737488351232 → (Lit.int .i64 a0_3).wf = true → ∃ k, Go.Proofs.YtobjfdebcflocaaDoor.Q.copyholdlaw06_NameOthers.f k l0_0 a0_1 a0_2 a0_3 = some true
end Go.Proofs.YtobjfdebcflocaaDoor.Pure
