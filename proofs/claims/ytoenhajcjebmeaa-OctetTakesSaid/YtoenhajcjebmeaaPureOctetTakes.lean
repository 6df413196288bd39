/- OctetTakes, pure: a number, a text, and a list that are taken are as the reference says. -/
import Derived.Test.YtoenhajcjebmeaaOctP
import Derived.Test.YtoenhajcjebmeaaPureOctetOnly
namespace Go.Proofs.Ytoenhajcjebmeaa.Pure
open Go.RowKit Go.Proofs.Ytoenhajcjebmeaa.Q Go.Proofs.YtoenhajcjebmeaaW.PrintWords Go.Proofs.YtoenhajcjebmeaaW.PrintLast Math

theorem loop_len (long : Int) : ∀ (n : Nat) (r : List UInt8) (acc : List (List UInt8)), (loopL n r acc long).1.length ≤ acc.length + r.length := by
  intro n
  induction n with
  | zero => intro r acc; simp [loopL]
  | succ n ih =>
    intro r acc
    rw [loopL]
    by_cases h : (textL r long).2.2 = 0
    · have h1 := textL_len r long h
      have h2 := ih (textL r long).2.1 (acc ++ [(textL r long).1])
      rw [if_pos h]
      rw [List.length_append, List.length_cons, List.length_nil] at h2
      omega
    · rw [if_neg h]; simp
theorem list_len (l : List UInt8) (m long : Int) : (listL l m long).1.length ≤ l.length := by
  unfold listL
  have h := (takeN_len l 0 0).1
  split
  · split
    · simp
    · have := loop_len long (takeN 0 0 l).1 (takeN 0 0 l).2.1 []
      simp at this; omega
  · simp
theorem OctetTakes : copyholdlaw01_OctetTakes.Pure := by
  intro s m l hs hm hl
  have hm := lit64 hm
  have hl := lit64 hl
  refine ⟨60 + s.size, ?_⟩
  unfold copyholdlaw01_OctetTakes.f
  rw [bs shown_eq]
  by_cases h5 : (s.size : Int) > 5000
  · rw [if_pos h5]
  · have hn : (mks (listL s.data.toList m l).1).length ≤ s.size := by rw [mks, List.length_map, sz]; exact list_len _ _ _
    have hstr := ref_strings (l := (outLs (listL s.data.toList m l)).1) (k := 60 + s.size) (by show (mks _).length ≤ _; omega) (by show (mks _).length < _; omega)
    rw [if_neg h5, bs (takeNum_eq (by omega)), bs (ref_takeNum (by omega) (by omega)), bs (takeText_eq (by omega) hm), bs (ref_takeText (by omega) hm (by omega)), bs (takeList_eq (by omega) hm hl), bs (ref_takeList (by omega) hm hl (by omega)), bs hstr]
    rw [if_pos rfl, if_pos rfl, if_pos rfl, if_pos rfl, if_pos rfl, if_pos rfl, if_pos rfl, if_pos rfl, if_pos rfl]
    simp
end Go.Proofs.Ytoenhajcjebmeaa.Pure
