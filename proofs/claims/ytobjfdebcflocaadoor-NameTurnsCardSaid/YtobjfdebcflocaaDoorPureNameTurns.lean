/- NameTurns, pure: an entry that is added, and one that is taken out, is as the document says. -/
import Derived.Test.YtobjfdebcflocaaDoorStatNameTurns
import Derived.Test.YtobjfdebcflocaaDoorNameR
set_option linter.unusedVariables false
set_option linter.unusedSimpArgs false
namespace Go.Proofs.YtobjfdebcflocaaDoor.Pure
open Go.RowKit Go.Proofs.YtobjfdebcflocaaDoor.Q Go.Proofs.YtobjfdebcflocaaDoorW.PrintWords Math

theorem turns_j0 {l : List E} (s : ByteArray) (ino : Int) (hr : RightL l) (k : Nat) (hk : 1000 ≤ k) : copyholdlaw06_NameTurns.j0 k l s ino true false = some true := by
  obtain ⟨k, rfl⟩ : ∃ j, k = j + 1 := ⟨k - 1, by omega⟩
  have hlen := hr.len
  have h1 : (enterR l s ino).1.length ≤ 300 := by
    unfold enterR
    split; · show l.length ≤ 300; omega
    split; · show l.length ≤ 300; omega
    split; · show l.length ≤ 300; omega
    split; · show l.length ≤ 300; omega
    simp only [List.length_append, List.length_take, List.length_cons, List.length_drop]; omega
  have h2 : (leaveR l s).1.length ≤ 300 := by
    unfold leaveR
    split
    · simp only [List.length_append, List.length_take, List.length_drop]; omega
    · show l.length ≤ 300; omega
  rw [copyholdlaw06_NameTurns.j0, if_neg (by decide), bs (name_enter l s ino (by omega)), bs (ref_enter s ino hr k (by omega)), bs (name_leave l s (by omega)), bs (ref_leave s hr k (by omega)), if_pos rfl,
    bs (same_self _ (by omega) k (by omega)), if_pos rfl, if_pos rfl, bs (same_self _ (by omega) k (by omega)), if_pos rfl, if_pos rfl, beq_self_eq_true]
theorem NameTurns : NameTurnsSt := by
  unfold NameTurnsSt
  intro l s ino hl hs hi
  refine ⟨2000, ?_⟩
  unfold copyholdlaw06_NameTurns.f
  rw [bs shown_eq]
  by_cases h : (s.size : Int) > 2000
  · rw [if_pos h, copyholdlaw06_NameTurns.j0, if_pos rfl]
  · rw [if_neg h, bs (ref_right l 2000 (by omega))]
    cases hr : rightB l with
    | false => rw [Bool.not_false, copyholdlaw06_NameTurns.j0, if_pos rfl]
    | true => exact turns_j0 s ino (rightL_of hr) 2000 (by omega)
end Go.Proofs.YtobjfdebcflocaaDoor.Pure
