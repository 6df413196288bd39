/- The pure statement of NameRows: what is left of the law when the machine's side is told. -/
import Derived.Test.YtobjfdebcflocaaDoorQ5
namespace Go.Proofs.YtobjfdebcflocaaDoor.Pure
open Go.RowKit Go.Proofs.YtobjfdebcflocaaDoor.Q
def NameRowsSt : Prop := ∀ (l0 : List (S56)) (a1 : ByteArray), (l0.length * 24 ≤ 140737488351232 ∧ ∀ y_ ∈ l0, (y_.f0.size ≤ 140737488351232 ∧ (Lit.int .i64 y_.f1).wf = true)) → a1.size ≤ 140737488351232 → ∃ k, Go.Proofs.YtobjfdebcflocaaDoor.Q.copyholdlaw06_NameRows.f k l0 a1 = some true
end Go.Proofs.YtobjfdebcflocaaDoor.Pure
