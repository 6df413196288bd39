/- NameBad, pure: a name that is not right is never entered, never found. -/
import Derived.Test.YtobjfdebcflocaaDoorStatNameBad
import Derived.Test.YtobjfdebcflocaaDoorNameR
set_option linter.unusedVariables false
set_option linter.unusedSimpArgs false
namespace Go.Proofs.YtobjfdebcflocaaDoor.Pure
open Go.RowKit Go.Proofs.YtobjfdebcflocaaDoor.Q Go.Proofs.YtobjfdebcflocaaDoorW.PrintWords Math

theorem bad_j0 {l : List E} (s : ByteArray) (hr : RightL l) (hb : badName s = true) (k : Nat) (hk : 1000 ≤ k) : copyholdlaw06_NameBad.j0 k l s true false = some true := by
  obtain ⟨k, rfl⟩ : ∃ j, k = j + 1 := ⟨k - 1, by omega⟩
  have hlen := hr.len
  have hno : ∀ x ∈ l, x.f0 ≠ s := fun x hx e => by have := (hr.good x hx).1; rw [e, hb] at this; cases this
  have h3 : isAt l s (placeOf l s) = false := by
    cases h : isAt l s (placeOf l s)
    · rfl
    · obtain ⟨x, hx, e⟩ := (isAt_mem hr.rise).1 h
      exact absurd e (hno x hx)
  have e1 : enterR l s 1 = (l, 10) := by unfold enterR; rw [hb, if_pos rfl]
  have e2 : leaveR l s = (l, 0, 6) := by unfold leaveR; rw [h3]; rfl
  rw [copyholdlaw06_NameBad.j0, if_neg (by decide), bs (name_enter l s 1 (by omega)), bs (name_find s hr.rise (by omega)), bs (name_leave l s (by omega)), e1, e2, findR_none hno, if_pos rfl, if_pos rfl]
  show (if false = true then _ else _) = _
  rw [if_neg (show ¬ (false = true) by decide), if_pos rfl, if_pos rfl, bs (same_self l (by omega) k (by omega))]
theorem NameBad : NameBadSt := by
  unfold NameBadSt
  intro l s hl hs
  refine ⟨2000, ?_⟩
  unfold copyholdlaw06_NameBad.f
  rw [bs shown_eq]
  have J : copyholdlaw06_NameBad.j0 2000 l s true true = some true := by rw [copyholdlaw06_NameBad.j0, if_pos rfl]
  by_cases h : (s.size : Int) > 1000
  · rw [if_pos h, J]
  · rw [if_neg h, bs (ref_right l 2000 (by omega))]
    cases hr : rightB l with
    | false => rw [if_neg (by decide), J]
    | true =>
      rw [if_pos rfl, bs (name_check s)]
      cases hb : badName s with
      | true => exact bad_j0 s (rightL_of hr) hb 2000 (by omega)
      | false => exact J
end Go.Proofs.YtobjfdebcflocaaDoor.Pure
