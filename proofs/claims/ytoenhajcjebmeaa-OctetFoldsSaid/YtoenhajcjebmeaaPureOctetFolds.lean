/- OctetFolds, pure: a folded number unfolds to itself, and an unfolded one folds to itself; small ones stay small. -/
import Derived.Test.YtoenhajcjebmeaaOctN
namespace Go.Proofs.Ytoenhajcjebmeaa.Pure
open Go.RowKit Go.Proofs.Ytoenhajcjebmeaa.Q Go.Proofs.YtoenhajcjebmeaaW.PrintWords Go.Proofs.YtoenhajcjebmeaaW.PrintLast Math

theorem folds_end (n : Int) (m : Nat) (hn : -9223372036854775808 ≤ n ∧ n ≤ 9223372036854775807) (hm : m < 18446744073709551616) : copyholdlaw01_OctetFolds.j0 1 n m true false = some true := by
  have hf := foldN_lt hn
  have hu := unfoldN_in hm
  have e1 : octet_Unfold.f ((foldN n : Nat) : Int) = some n := by rw [unfold_eq hf, unfold_fold]
  have e2 : octet_Fold.f (unfoldN m) = some (m : Int) := by rw [fold_eq hu, fold_unfold]
  rw [copyholdlaw01_OctetFolds.j0, if_neg (by decide), if_pos rfl, bs (fold_eq hn), bs e1, if_pos rfl, bs (unfold_eq hm), bs e2]
  simp
theorem OctetFolds : copyholdlaw01_OctetFolds.Pure := by
  intro n m hn hm
  have hn := lit64 hn
  have hm := litu64 hm
  obtain ⟨m, rfl⟩ := natInt hm.1
  have hj := folds_end n m hn (by omega)
  refine ⟨1, ?_⟩
  unfold copyholdlaw01_OctetFolds.f
  rw [bs shown_eq]
  by_cases h1 : n ≥ -1000
  · rw [if_pos h1]
    by_cases h2 : n ≤ 1000
    · have e : decide (((foldN n : Nat) : Int) > 2000) = false := decide_eq_false (by unfold foldN; split <;> omega)
      rw [if_pos h2, bs (fold_eq hn), e, hj]
    · rw [if_neg h2, hj]
  · rw [if_neg h1, hj]
end Go.Proofs.Ytoenhajcjebmeaa.Pure
