/- NameOthers, pure: where an entry is added, or taken out, all others are found as they were. -/
import Derived.Test.YtobjfdebcflocaaDoorStatNameOthers
import Derived.Test.YtobjfdebcflocaaDoorNameR
set_option linter.unusedVariables false
set_option linter.unusedSimpArgs false
namespace Go.Proofs.YtobjfdebcflocaaDoor.Pure
open Go.RowKit Go.Proofs.YtobjfdebcflocaaDoor.Q Go.Proofs.YtobjfdebcflocaaDoorW.PrintWords Math

theorem others_j0 {l : List E} (s o : ByteArray) (ino : Int) (hr : RightL l) (hne : s ≠ o) (k : Nat) : copyholdlaw06_NameOthers.j0 (k + 1) l s o ino true false = some true := by
  have hlen := hr.len
  have hT : l.take (placeOf l s) ++ l.drop (placeOf l s) = l := List.take_append_drop _ _
  have a1 : ∃ a g, enterR l s ino = (a, g) ∧ (a.Pairwise fun x y => lt x.f0 y.f0 = true) ∧ a.length ≤ 300 ∧ findR a o = findR l o := by
    unfold enterR
    cases h1 : badName s with
    | true => exact ⟨l, 10, by rw [if_pos rfl], hr.rise, by omega, rfl⟩
    | false =>
      rw [if_neg (by decide)]
      by_cases h2 : ino < 1
      · exact ⟨l, 1, by rw [if_pos h2], hr.rise, by omega, rfl⟩
      · rw [if_neg h2]
        cases h3 : isAt l s (placeOf l s) with
        | true => exact ⟨l, 7, by rw [if_pos rfl], hr.rise, by omega, rfl⟩
        | false =>
          rw [if_neg (by decide)]
          by_cases h4 : 256 ≤ l.length
          · exact ⟨l, 12, by rw [if_pos h4], hr.rise, by omega, rfl⟩
          · have hE := (entered (ino := ino) hr h1 (by omega) h3 (by omega)).1
            refine ⟨_, 0, by rw [if_neg h4], hE.rise, by have := hE.len; omega, ?_⟩
            rw [findR_past _ _ _ _ hne, hT]
  have b1 : ∃ b i g, leaveR l s = (b, i, g) ∧ (b.Pairwise fun x y => lt x.f0 y.f0 = true) ∧ b.length ≤ 300 ∧ findR b o = findR l o := by
    unfold leaveR
    cases h3 : isAt l s (placeOf l s) with
    | true =>
      obtain ⟨hp, e⟩ := (isAt_iff _ _ _).1 h3
      have hl : l.take (placeOf l s) ++ l[placeOf l s] :: l.drop (placeOf l s + 1) = l := by rw [← List.drop_eq_getElem_cons hp, List.take_append_drop]
      refine ⟨_, _, _, by rw [if_pos rfl], hr.rise.sublist ?_, by simp only [List.length_append, List.length_take, List.length_drop]; omega, ?_⟩
      · conv => rhs; rw [← hl]
        exact List.Sublist.append (List.Sublist.refl _) (List.sublist_cons_self _ _)
      · conv => rhs; rw [← hl]
        rw [findR_past _ _ _ _ (by rw [e]; exact hne)]
    | false => exact ⟨l, 0, 6, by rw [if_neg (by decide)], hr.rise, by omega, rfl⟩
  obtain ⟨a, g, ha, har, hal, haf⟩ := a1
  obtain ⟨b, i, h, hb, hbr, hbl, hbf⟩ := b1
  rw [copyholdlaw06_NameOthers.j0, if_neg (by decide), bs (name_find o hr.rise (by omega)), bs (name_enter l s ino (by omega)), bs (name_leave l s (by omega)), ha, hb]
  show ((name_Find.f a o).bind _) = _
  rw [bs (name_find o har (by omega))]
  show ((name_Find.f b o).bind _) = _
  rw [bs (name_find o hbr (by omega)), haf, hbf, if_pos rfl, if_pos rfl, beq_self_eq_true, if_pos rfl, if_pos rfl]
theorem NameOthers : NameOthersSt := by
  unfold NameOthersSt
  intro l s o ino hl hs ho hi
  refine ⟨2000, ?_⟩
  unfold copyholdlaw06_NameOthers.f
  rw [bs shown_eq, w64 (by omega) (by omega)]
  have J : copyholdlaw06_NameOthers.j0 2000 l s o ino true true = some true := by rw [copyholdlaw06_NameOthers.j0, if_pos rfl]
  by_cases h : (s.size : Int) + (o.size : Int) > 2000
  · rw [if_pos h, J]
  · rw [if_neg h, bs (ref_right l 2000 (by omega))]
    cases hr : rightB l with
    | false => rw [if_neg (by decide), J]
    | true =>
      rw [if_pos rfl]
      cases he : (s.toList == o.toList) with
      | true => exact J
      | false => exact others_j0 s o ino (rightL_of hr) (fun e => by rw [e] at he; simp at he) 1999
end Go.Proofs.YtobjfdebcflocaaDoor.Pure
