/- NameBack, pure: what was entered is found, and left again all is as it was. -/
import Derived.Test.YtobjfdebcflocaaDoorStatNameBack
import Derived.Test.YtobjfdebcflocaaDoorNameR
set_option linter.unusedVariables false
set_option linter.unusedSimpArgs false
namespace Go.Proofs.YtobjfdebcflocaaDoor.Pure
open Go.RowKit Go.Proofs.YtobjfdebcflocaaDoor.Q Go.Proofs.YtobjfdebcflocaaDoorW.PrintWords Math

theorem back_j0 {l : List E} (s : ByteArray) (ino : Int) (hr : RightL l) (k : Nat) (hk : 1000 ≤ k) : copyholdlaw06_NameBack.j0 k l s ino true false = some true := by
  obtain ⟨k, rfl⟩ : ∃ j, k = j + 1 := ⟨k - 1, by omega⟩
  have hlen := hr.len
  have hT : l.take (placeOf l s) ++ l.drop (placeOf l s) = l := List.take_append_drop _ _
  obtain ⟨p1, p2, p3⟩ := place_spec l s hr.rise
  have bad : ∀ g : Int, g ≠ 0 → enterR l s ino = (l, g) → copyholdlaw06_NameBack.j0 (k + 1) l s ino true false = some true := fun g hg he => by
    rw [copyholdlaw06_NameBack.j0, if_neg (by decide), bs (name_enter l s ino (by omega)), he, if_neg hg, if_pos rfl, bs (same_self l (by omega) k (by omega))]
  cases h1 : badName s with
  | true => exact bad 10 (by decide) (by unfold enterR; rw [h1, if_pos rfl])
  | false =>
    by_cases h2 : ino < 1
    · exact bad 1 (by decide) (by unfold enterR; rw [h1, if_neg (by decide), if_pos h2])
    · cases h3 : isAt l s (placeOf l s) with
      | true => exact bad 7 (by decide) (by unfold enterR; rw [h1, if_neg (by decide), if_neg h2, h3, if_pos rfl])
      | false =>
        by_cases h4 : 256 ≤ l.length
        · exact bad 12 (by decide) (by unfold enterR; rw [h1, if_neg (by decide), if_neg h2, h3, if_neg (by decide), if_pos h4])
        · have he : enterR l s ino = (l.take (placeOf l s) ++ ⟨s, ino⟩ :: l.drop (placeOf l s), 0) := by unfold enterR; rw [h1, if_neg (by decide), if_neg h2, h3, if_neg (by decide), if_neg h4]
          obtain ⟨hE, hP⟩ := entered (ino := ino) hr h1 (by omega) h3 (by omega)
          have hal : (l.take (placeOf l s) ++ (⟨s, ino⟩ : E) :: l.drop (placeOf l s)).length = l.length + 1 := by simp only [List.length_append, List.length_take, List.length_cons, List.length_drop]; omega
          have hlt : (l.take (placeOf l s)).length = placeOf l s := by rw [List.length_take]; omega
          have hAt : isAt (l.take (placeOf l s) ++ (⟨s, ino⟩ : E) :: l.drop (placeOf l s)) s (placeOf l s) = true := by
            refine (isAt_iff _ _ _).2 ⟨by omega, ?_⟩
            rw [List.getElem_append_right (by omega)]
            simp [hlt]
          have hF : findR (l.take (placeOf l s) ++ (⟨s, ino⟩ : E) :: l.drop (placeOf l s)) s = (ino, true) := findR_some (x := ⟨s, ino⟩) hE.rise (by simp)
          have hL : leaveR (l.take (placeOf l s) ++ (⟨s, ino⟩ : E) :: l.drop (placeOf l s)) s = (l, ino, 0) := by
            unfold leaveR
            rw [hP, hAt, if_pos rfl, getD_eq _ _ (by omega)]
            have e1 : (l.take (placeOf l s) ++ (⟨s, ino⟩ : E) :: l.drop (placeOf l s)).take (placeOf l s) = l.take (placeOf l s) := List.take_left' hlt
            have e2 : (l.take (placeOf l s) ++ (⟨s, ino⟩ : E) :: l.drop (placeOf l s)).drop (placeOf l s + 1) = l.drop (placeOf l s) := by
              rw [show l.take (placeOf l s) ++ (⟨s, ino⟩ : E) :: l.drop (placeOf l s) = (l.take (placeOf l s) ++ [(⟨s, ino⟩ : E)]) ++ l.drop (placeOf l s) by simp]
              exact List.drop_left' (by simp [hlt])
            have e3 : (l.take (placeOf l s) ++ (⟨s, ino⟩ : E) :: l.drop (placeOf l s))[placeOf l s]'(by omega) = ⟨s, ino⟩ := by
              rw [List.getElem_append_right (by omega)]
              simp [hlt]
            rw [e1, e2, e3, hT]
          have hG : enterR (l.take (placeOf l s) ++ (⟨s, ino⟩ : E) :: l.drop (placeOf l s)) s ino = (l.take (placeOf l s) ++ (⟨s, ino⟩ : E) :: l.drop (placeOf l s), 7) := by
            unfold enterR
            rw [h1, if_neg (by decide), if_neg h2, hP, hAt, if_pos rfl]
          have hRB := rightB_of hE
          rw [copyholdlaw06_NameBack.j0, if_neg (by decide), bs (name_enter l s ino (by omega)), he, if_pos rfl]
          generalize l.take (placeOf l s) ++ (⟨s, ino⟩ : E) :: l.drop (placeOf l s) = a at *
          show ((name_Find.f a s).bind _) = _
          rw [bs (name_find s hE.rise (by omega)), bs (name_leave a s (by omega)), bs (name_enter a s ino (by omega)), hF, hL, hG, if_pos rfl, if_pos rfl, if_pos rfl, if_pos rfl, if_pos rfl, bs (same_self l (by omega) k (by omega)), if_pos rfl, bs (ref_right a k (by omega)), hRB, if_pos rfl, hal, w64 (by omega) (by omega), if_pos (by omega)]
          rfl
theorem NameBack : NameBackSt := by
  unfold NameBackSt
  intro l s ino hl hs hi
  refine ⟨2000, ?_⟩
  unfold copyholdlaw06_NameBack.f
  rw [bs shown_eq]
  by_cases h : (s.size : Int) > 2000
  · rw [if_pos h, copyholdlaw06_NameBack.j0, if_pos rfl]
  · rw [if_neg h, bs (ref_right l 2000 (by omega))]
    cases hr : rightB l with
    | false => rw [Bool.not_false, copyholdlaw06_NameBack.j0, if_pos rfl]
    | true => exact back_j0 s ino (rightL_of hr) 2000 (by omega)
end Go.Proofs.YtobjfdebcflocaaDoor.Pure
