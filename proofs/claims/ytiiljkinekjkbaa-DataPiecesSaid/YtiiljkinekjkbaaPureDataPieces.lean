/- DataPieces, pure: what is left of it is that its texts are not too long. -/
import Derived.Test.YtiiljkinekjkbaaStatDataPieces
namespace Go.Proofs.Ytiiljkinekjkbaa.Pure
open Go.RowKit

theorem DataPieces : DataPiecesSt := by
  intro s t l ps hs ht hl hp
  unfold copyholdlaw09_DataPieces.f
  rw [if_pos ⟨hs, ht, by have := hl.1; omega, by have := hp.1; omega, hp.2⟩]
end Go.Proofs.Ytiiljkinekjkbaa.Pure
