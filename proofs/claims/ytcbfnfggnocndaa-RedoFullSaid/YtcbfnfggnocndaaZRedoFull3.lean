import Derived.Test.YtcbfnfggnocndaaZRedoFull2
import Derived.Test.YtcbfnfggnocndaaZRedo35
set_option linter.unusedVariables false
set_option linter.unusedSimpArgs false
namespace Go.Proofs.Ytcbfnfggnocndaa.Pure
open Go.RowKit Go.Lib Go.Proofs.Ytcbfnfggnocndaa Go.Proofs.Ytcbfnfggnocndaa.Q Go.Proofs.YtcbfnfggnocndaaW.PrintWords Go.Proofs.YtcbfnfggnocndaaW.PrintMore Math
theorem RedoFull : RedoFullSt := by
  unfold RedoFullSt
  intro l0 l1 off fr mn at_ used first many s _ _ _ _ _ _ hf hmm hs
  obtain ⟨k, hk⟩ : ∃ k, 20050000 ≤ k := ⟨_, Nat.le_refl _⟩
  refine ⟨k + 1, ?_⟩
  have hj : ∀ b, copyholdlaw05_RedoFull.j0 (k + 1) s true true l0 l1 off fr mn at_ used first many = b → b = some true := fun b h => by rw [← h, copyholdlaw05_RedoFull.j0, if_pos rfl]
  unfold copyholdlaw05_RedoFull.f
  rw [bs (shown_eq (k + 1) (by omega)), bs (few_eq l0 l1 off (k + 1) (by omega))]
  by_cases hfw : fewB l0 l1 = true
  · obtain ⟨n0, n1, hrt⟩ := few_of hfw
    rw [if_pos hfw]
    by_cases hsz : (s.size : Int) > 4096
    · rw [if_pos hsz]; exact hj _ rfl
    · rw [if_neg hsz, bs (right_ref off hrt (by omega) (litu64 hf) (lit64 hmm).2)]
      cases hr : rightR l0 l1 off fr mn at_ used first many with
      | false => exact hj _ rfl
      | true =>
        obtain ⟨rfl, fr, mn, at_, used, first, many, ts, rfl, rfl, rfl, rfl, rfl, rfl, g⟩ := right_lg hrt (litu64 hf) hr
        have hs4 : s.size ≤ 4096 := by omega
        have hle := g.le
        have h66 := need66 hs4
        have hA := g.appended (by omega) hs4
        have hw : wrap64 ((used : Int) + (needN s : Int)) = ((used + needN s : Nat) : Int) := by rw [w64 (by omega) (by omega)]; omega
        rw [copyholdlaw05_RedoFull.j0, if_neg (by decide), bs hA, bs (need_Q s (by clear hw; omega)), hw]
        clear hw
        by_cases hu : mn < used + needN s
        · rw [if_pos hu, if_pos (by omega), if_pos rfl, if_pos rfl]
          simp
        · have hw2 : wrap64 ((many : Int) + 1) = ((many + 1 : Nat) : Int) := by rw [w64 (by omega) (by omega)]; omega
          have hw3 : wrap64 ((l1.length : Int) + (needN s : Int)) = ((l1.length + needN s : Nat) : Int) := by clear hw2; rw [w64 (by omega) (by omega)]; omega
          rw [if_neg hu, if_neg (by clear hw2 hw3; omega), if_pos rfl, if_pos rfl, if_pos rfl, if_pos hw2.symm, if_pos rfl, if_pos rfl, hw3]
          show some (((l1 ++ laidP fr mn (at_ + used) 0 (pieces (recS ((first + many) % 18446744073709551616) s))).length : Int) == _) = _
          rw [List.length_append, Lg.laid_len, beq_self_eq_true]
  · rw [if_neg hfw]; exact hj _ rfl
end Go.Proofs.Ytcbfnfggnocndaa.Pure
