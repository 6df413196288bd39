/- OctetRows, pure: what is left of it is that its arguments are in range. -/
import Derived.Test.YtoenhajcjebmeaaStatOctetRows
import Derived.Test.YtoenhajcjebmeaaMath
namespace Go.Proofs.Ytoenhajcjebmeaa.Pure
open Go.RowKit Math

theorem OctetRows : OctetRowsSt := by
  intro a b n ha hb hn
  have hn := litu64 hn
  unfold copyholdlaw01_OctetRows.f
  rw [if_pos ⟨ha, hb, hn.1, hn.2⟩]
end Go.Proofs.Ytoenhajcjebmeaa.Pure
