/- SealTwice, pure: a text that bears its sum bears one more, and is taken twice. -/
import Derived.Test.YtiicahnbkdjhbaaQ3
import Derived.Test.YtiicahnbkdjhbaaSealC
namespace Go.Proofs.Ytiicahnbkdjhbaa.Pure
open Go.RowKit Go.Proofs.Ytiicahnbkdjhbaa.Q Go.Proofs.YtiicahnbkdjhbaaW.PrintWords Go.Proofs.YtiicahnbkdjhbaaW.PrintLast Math

theorem SealTwice : copyholdlaw02_SealTwice.Pure := by
  intro s hs
  unfold copyholdlaw02_SealTwice.f
  rw [bs shown_eq]
  by_cases h : (s.size : Int) > 3000
  · rw [if_pos h]
  · have z1 := putS_size s
    have z2 := putS_size (putS s)
    have p1 := seal_Put_eq s (by omega)
    have p2 := seal_Put_eq (putS s) (by omega)
    have t2 : seal_Take.f (putS (putS s)) = some (putS s, 0) := by rw [seal_Take_eq _ (by omega), take_put]
    have t1 : seal_Take.f (putS s) = some (s, 0) := by rw [seal_Take_eq _ (by omega), take_put]
    have r2 : seal_Right.f (putS (putS s)) = some true := by rw [seal_Right_eq _ (by omega), take_put]; rfl
    have r1 : seal_Right.f (putS s) = some true := by rw [seal_Right_eq _ (by omega), take_put]; rfl
    have e : ((putS (putS s)).size : Int) = wrap64 ((s.size : Int) + 8) := by rw [w64 (by omega) (by omega)]; omega
    rw [if_neg h, bs p1, bs p2, bs t2, bs t1, if_pos rfl, if_pos e, bs p1, if_pos rfl, if_pos rfl, bs r2, if_pos rfl, bs r1]
end Go.Proofs.Ytiicahnbkdjhbaa.Pure
