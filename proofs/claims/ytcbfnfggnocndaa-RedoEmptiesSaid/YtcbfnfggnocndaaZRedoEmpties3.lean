import Derived.Test.YtcbfnfggnocndaaZRedoEmpties2
import Derived.Test.YtcbfnfggnocndaaZRedo35
set_option linter.unusedVariables false
set_option linter.unusedSimpArgs false
namespace Go.Proofs.Ytcbfnfggnocndaa.Pure
open Go.RowKit Go.Lib Go.Proofs.Ytcbfnfggnocndaa Go.Proofs.Ytcbfnfggnocndaa.Q Go.Proofs.YtcbfnfggnocndaaW.PrintWords Go.Proofs.YtcbfnfggnocndaaW.PrintMore Math
theorem RedoEmpties : RedoEmptiesSt := by
  unfold RedoEmptiesSt
  intro l0 l1 off fr mn at_ used first many _ _ _ _ _ _ hf hmm
  obtain ⟨k, hk⟩ : ∃ k, 20050000 ≤ k := ⟨_, Nat.le_refl _⟩
  refine ⟨k + 1, ?_⟩
  have hj : ∀ b, copyholdlaw05_RedoEmpties.j0 (k + 1) true true l0 l1 off fr mn at_ used first many = b → b = some true := fun b h => by rw [← h, copyholdlaw05_RedoEmpties.j0, if_pos rfl]
  unfold copyholdlaw05_RedoEmpties.f
  rw [bs (shown_eq (k + 1) (by omega)), bs (few_eq l0 l1 off (k + 1) (by omega))]
  by_cases hfw : fewB l0 l1 = true
  · obtain ⟨n0, n1, hrt⟩ := few_of hfw
    rw [if_pos hfw, bs (right_ref off hrt (by omega) (litu64 hf) (lit64 hmm).2)]
    cases hr : rightR l0 l1 off fr mn at_ used first many with
    | false => exact hj _ rfl
    | true =>
      obtain ⟨rfl, fr, mn, at_, used, first, many, ts, rfl, rfl, rfl, rfl, rfl, rfl, g⟩ := right_lg hrt (litu64 hf) hr
      have hle := g.le
      have hA := g.dropped (by omega) many (Nat.le_refl _)
      have hB := g.dropped (by omega) 0 (Nat.zero_le _)
      have gA := g.drop many (Nat.le_refl _)
      have hat := g.hat; have hff := g.hf; have hmn := g.hm
      have ht : ts.take many = ts := List.take_of_length_le (by have := g.hmany; omega)
      have hd : ts.drop many = [] := List.drop_of_length_le (by have := g.hmany; omega)
      rw [ht, ← g.hused, Nat.sub_self, Nat.sub_self] at hA gA
      rw [hd] at gA
      rw [List.take_zero, show needs ([] : List ByteArray) = 0 from rfl, Nat.add_zero, Nat.add_zero, Nat.sub_zero, Nat.sub_zero, Nat.mod_eq_of_lt hat, Nat.mod_eq_of_lt hff] at hB
      have hT := gA.texts (by omega) 0
      have hB2 : redo_Drop.f l0 l1 false (fr : Int) (mn : Int) (at_ : Int) (used : Int) (first : Int) (many : Int) 0 = _ := hB
      rw [copyholdlaw05_RedoEmpties.j0, if_neg (by decide), bs hA, bs hB2]
      have hT2 : redo_Texts.f l0 l1 false (fr : Int) (mn : Int) (((at_ + used) % mn : Nat) : Int) ((0 : Nat) : Int) (((first + many) % 18446744073709551616 : Nat) : Int) ((0 : Nat) : Int) = _ := hT
      dsimp only
      rw [bs hT2]
      have hw : wrap64 ((at_ : Int) + (used : Int)) = ((at_ + used : Nat) : Int) := by rw [w64 (by omega) (by omega)]; omega
      rw [if_pos rfl, if_pos rfl, if_pos rfl, if_pos rfl, if_pos (by simp), if_pos (show ((0 : Nat) : Int) = 0 from rfl), if_pos (show ((0 : Nat) : Int) = 0 from rfl), if_neg (by clear hw; omega), if_pos (by rw [hw]; rfl), if_pos (by rw [u64_in (n := many) (by clear hw; omega), u64_add])]
      rfl
  · rw [if_neg hfw]; exact hj _ rfl
end Go.Proofs.Ytcbfnfggnocndaa.Pure
