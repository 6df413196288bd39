/- NetOther, pure: the other row stays as it is. -/
import Derived.Test.YtcefnaacnilojaaStatNetOther
import Derived.Test.YtcefnaacnilojaaNetP
set_option linter.unusedVariables false
set_option linter.unusedSimpArgs false
namespace Go.Proofs.Ytcefnaacnilojaa.Pure
open Go.RowKit Go.Proofs.Ytcefnaacnilojaa.Q Go.Proofs.YtcefnaacnilojaaW.PrintWords Math

theorem other_j0 (l0 l1 : List ByteArray) (up : Bool) (s : ByteArray) (i a : Int) (hl0 : l0.length * 16 ≤ 140737488351232 ∧ ∀ y_ ∈ l0, y_.size ≤ 140737488351232) (hl1 : l1.length * 16 ≤ 140737488351232 ∧ ∀ y_ ∈ l1, y_.size ≤ 140737488351232) (b : Bool) (k : Nat) (hk : l0.length + l1.length < k) :
    copyholdlaw19_NetOther.j0 (k + 1) up s i a true b l0 l1 = some true := by
  rw [copyholdlaw19_NetOther.j0]
  by_cases hb : b = true
  · rw [if_pos hb]
  rw [if_neg hb]
  have T : ∀ u, net_Take.f l0 l1 u i = some (takeR l0 l1 u i) := fun u => by unfold net_Take.f; rw [if_pos ⟨by omega, by omega⟩]
  have W : ∀ u, net_Twice.f l0 l1 u i = some (twiceR l0 l1 u i) := fun u => rfl
  have S : ∀ u, net_Spoil.f l0 l1 u i a 1 = some (spoilR l0 l1 u i a 1) := fun u => by
    unfold net_Spoil.f
    rw [if_pos ⟨by omega, by omega, fun s hs => by have := hl0.2 s hs; omega, fun s hs => by have := hl1.2 s hs; omega, by omega, by omega⟩]
  cases up
  · have R : ∀ x y : List ByteArray, copyholdref19_Row.f x y (!false) = some x := fun _ _ => rfl
    have v1 : (takeR l0 l1 false i).2.1 = l0 := by unfold takeR; simp only [if_true, Bool.false_eq_true, if_false]; split <;> rfl
    have v2 : (twiceR l0 l1 false i).1 = l0 := by unfold twiceR; simp only [if_true, Bool.false_eq_true, if_false]; split <;> rfl
    have v3 : (spoilR l0 l1 false i a 1).1 = l0 := by unfold spoilR; simp only [if_true, Bool.false_eq_true, if_false]; split <;> rfl
    obtain ⟨p, hp, v4⟩ : ∃ p, net_Send.f l0 l1 false s = some p ∧ p.1 = l0 := by unfold net_Send.f; simp only [if_true, Bool.false_eq_true, if_false]; split <;> exact ⟨_, rfl, rfl⟩
    have r := strings_eq l0 l0 rfl (by omega) k (by omega)
    rw [decide_eq_true rfl] at r
    rw [bs (T false), bs (W false), bs (S false), bs (R _ _), bs (R _ _)]
    show ((copyholdref01_Strings.f k (takeR l0 l1 false i).2.1 l0).bind _) = some true
    rw [v1, bs r, if_pos rfl, bs (R _ _)]
    show ((copyholdref01_Strings.f k (twiceR l0 l1 false i).1 l0).bind _) = some true
    rw [v2, bs r, if_pos rfl, bs (R _ _)]
    show ((copyholdref01_Strings.f k (spoilR l0 l1 false i a 1).1 l0).bind _) = some true
    rw [v3, bs r, if_pos rfl, if_pos rfl, bs hp, bs (R _ _)]
    show ((copyholdref01_Strings.f k p.1 l0).bind _) = some true
    rw [v4, bs r]
  · have R : ∀ x y : List ByteArray, copyholdref19_Row.f x y (!true) = some y := fun _ _ => rfl
    have v1 : (takeR l0 l1 true i).2.2.1 = l1 := by unfold takeR; simp only [if_true, Bool.false_eq_true, if_false]; split <;> rfl
    have v2 : (twiceR l0 l1 true i).2.1 = l1 := by unfold twiceR; simp only [if_true, Bool.false_eq_true, if_false]; split <;> rfl
    have v3 : (spoilR l0 l1 true i a 1).2.1 = l1 := by unfold spoilR; simp only [if_true, Bool.false_eq_true, if_false]; split <;> rfl
    obtain ⟨p, hp, v4⟩ : ∃ p, net_Send.f l0 l1 true s = some p ∧ p.2 = l1 := by unfold net_Send.f; simp only [if_true, Bool.false_eq_true, if_false]; split <;> exact ⟨_, rfl, rfl⟩
    have r := strings_eq l1 l1 rfl (by omega) k (by omega)
    rw [decide_eq_true rfl] at r
    rw [bs (T true), bs (W true), bs (S true), bs (R _ _), bs (R _ _)]
    show ((copyholdref01_Strings.f k (takeR l0 l1 true i).2.2.1 l1).bind _) = some true
    rw [v1, bs r, if_pos rfl, bs (R _ _)]
    show ((copyholdref01_Strings.f k (twiceR l0 l1 true i).2.1 l1).bind _) = some true
    rw [v2, bs r, if_pos rfl, bs (R _ _)]
    show ((copyholdref01_Strings.f k (spoilR l0 l1 true i a 1).2.1 l1).bind _) = some true
    rw [v3, bs r, if_pos rfl, if_pos rfl, bs hp, bs (R _ _)]
    show ((copyholdref01_Strings.f k p.2 l1).bind _) = some true
    rw [v4, bs r]
theorem NetOther : NetOtherSt := by
  unfold NetOtherSt
  intro l0 l1 up s i a hl0 hl1 hs hi ha
  refine ⟨l0.length + l1.length + 10, ?_⟩
  obtain ⟨b, hb⟩ := few_some l0 l1 (by omega) (by omega) (l0.length + l1.length + 10) (by omega)
  unfold copyholdlaw19_NetOther.f
  rw [bs shown_eq, bs hb]
  cases b
  · rw [if_neg (by simp)]; exact other_j0 l0 l1 up s i a hl0 hl1 _ (l0.length + l1.length + 9) (by omega)
  · rw [if_pos rfl]; exact other_j0 l0 l1 up s i a hl0 hl1 _ (l0.length + l1.length + 9) (by omega)
end Go.Proofs.Ytcefnaacnilojaa.Pure
