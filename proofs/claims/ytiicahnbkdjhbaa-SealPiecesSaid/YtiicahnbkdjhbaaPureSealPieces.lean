/- SealPieces, pure: a sum goes on behind a piece as in one; what was put is taken. -/
import Derived.Test.YtiicahnbkdjhbaaQ2
import Derived.Test.YtiicahnbkdjhbaaSealC
namespace Go.Proofs.Ytiicahnbkdjhbaa.Pure
open Go.RowKit Go.Proofs.Ytiicahnbkdjhbaa.Q Go.Proofs.YtiicahnbkdjhbaaW.PrintWords Go.Proofs.YtiicahnbkdjhbaaW.PrintLast Math

theorem SealPieces : copyholdlaw02_SealPieces.Pure := by
  intro a b c ha hb hc
  have hc := lit32 hc
  obtain ⟨c, rfl⟩ := natInt hc.1
  unfold copyholdlaw02_SealPieces.f
  rw [bs shown_eq]
  rw [w64 (by omega) (by omega)]
  by_cases h : (a.size : Int) + (b.size : Int) > 5000
  · rw [if_pos h]
  · have hx := moresN_lt a.data.toList (c := c) (by omega)
    have hy := ff_lt a.data.toList
    have e := turned_sum (a ++ b)
    have h0 := seal_More_ff a (by omega)
    rw [app, moresN_append] at e
    have z1 := putS_size a
    have z2 := app_size a b
    have p1 := seal_Put_eq a (by omega)
    have t1 : seal_Take.f (putS a) = some (a, 0) := by rw [seal_Take_eq _ (by omega), take_put]
    have m1 := seal_More_eq a (by omega) c (by omega)
    have m2 := seal_More_eq b (by omega) _ hx
    have m3 := seal_More_eq (a ++ b) (by omega) c (by omega)
    have m4 := seal_More_eq b (by omega) _ hy
    have s1 := seal_Sum_eq (a ++ b) (by omega)
    rw [app, moresN_append] at m3
    rw [if_neg h, bs p1, bs t1, if_pos rfl, bs m1, bs m2, if_pos (by omega), bs m3, if_pos rfl, bs h0, bs m4, bs s1, if_pos e, if_pos rfl]
    simp
end Go.Proofs.Ytiicahnbkdjhbaa.Pure
