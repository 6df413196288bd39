/- OctetOnly, pure: what is taken was laid: laid again it is what was taken. -/
import Derived.Test.YtoenhajcjebmeaaOctN
import Derived.Test.YtoenhajcjebmeaaQ5
import Derived.Test.YtoenhajcjebmeaaQ6
namespace Go.Proofs.Ytoenhajcjebmeaa.Pure
open Go.RowKit Go.Proofs.Ytoenhajcjebmeaa.Q Go.Proofs.YtoenhajcjebmeaaW.PrintWords Go.Proofs.YtoenhajcjebmeaaW.PrintLast Math

theorem takeNum_eq {s : ByteArray} (h : s.size ≤ 9223372036854775807) : octet_TakeNum.f s = some (takeNumS s) := by unfold octet_TakeNum.f; rw [if_pos h]
theorem takeText_eq {s : ByteArray} {m : Int} (h : s.size ≤ 9223372036854775807) (hm : -9223372036854775808 ≤ m ∧ m ≤ 9223372036854775807) : octet_TakeText.f s m = some (outT (textL s.data.toList m)) := by unfold octet_TakeText.f; rw [if_pos ⟨h, hm⟩]
theorem takeList_eq {s : ByteArray} {m l : Int} (h : s.size ≤ 8000000000000) (hm : -9223372036854775808 ≤ m ∧ m ≤ 9223372036854775807) (hl : -9223372036854775808 ≤ l ∧ l ≤ 9223372036854775807) : octet_TakeList.f s m l = some (outLs (listL s.data.toList m l)) := by unfold octet_TakeList.f; rw [if_pos ⟨h, hm, hl⟩]
theorem list_eq {l : List ByteArray} (h : lensS l ≤ 140737488355000) : octet_List.f l = some (listS l) := by unfold octet_List.f; rw [if_pos h]
theorem lens_listB (l : List (List UInt8)) : lensS (mks l) ≤ 20 * (listB l).length := by
  have : ∀ l : List (List UInt8), lensS (mks l) ≤ 20 * ((l.map textB).flatten).length := by
    intro l
    induction l with
    | nil => simp [lensS, mks]
    | cons t l ih =>
      have h := numB_pos t.length
      simp only [mks, List.map_cons, lensS, List.sum_cons, List.flatten_cons, List.length_append, mk_size, textB] at ih ⊢
      omega
  have h := this l
  unfold listB
  rw [List.length_append]
  omega
theorem only_j1 (s : ByteArray) (m : Int) (hs : s.size ≤ 5000) (hm : -9223372036854775808 ≤ m ∧ m ≤ 9223372036854775807) (k : Nat) : copyholdlaw01_OctetOnly.j1 (k + 1) s m true false = some true := by
  rw [copyholdlaw01_OctetOnly.j1, if_neg (by decide), bs (takeText_eq (by omega) hm)]
  rw [if_pos rfl]
  by_cases h : (textL s.data.toList m).2.2 = 0
  · have hi := text_inv h
    have hb : (outT (textL s.data.toList m)).1.data.toList = (textL s.data.toList m).1 := rfl
    have hr : (outT (textL s.data.toList m)).2.1.data.toList = (textL s.data.toList m).2.1 := rfl
    have hlen : s.size = (textB (textL s.data.toList m).1).length + (textL s.data.toList m).2.1.length := by
      conv => lhs; rw [sz, hi.1]
      rw [List.length_append]
    have hsz : (outT (textL s.data.toList m)).1.size ≤ 5000 := by
      rw [sz, hb]
      unfold textB at hlen; rw [List.length_append] at hlen; omega
    have hts : (textS (outT (textL s.data.toList m)).1).size = (textB (textL s.data.toList m).1).length := by rw [sz, textS_dl, hb]
    have hrs : (outT (textL s.data.toList m)).2.1.size = (textL s.data.toList m).2.1.length := by rw [sz, hr]
    rw [if_pos (show (outT (textL s.data.toList m)).2.2 = 0 from h), bs (octet_Text_eq (by omega)), if_pos (by omega), if_pos (by rw [tl, tl, app, textS_dl, hb, hr]; exact hi.1.symm)]
    refine congrArg some (decide_eq_true ?_)
    rw [sz, hb]; exact hi.2
  · rw [if_neg (show ¬ (outT (textL s.data.toList m)).2.2 = 0 from h)]
theorem only_j0 (s : ByteArray) (m l : Int) (hs : s.size ≤ 5000) (hm : -9223372036854775808 ≤ m ∧ m ≤ 9223372036854775807) (hl : -9223372036854775808 ≤ l ∧ l ≤ 9223372036854775807) (k : Nat) : copyholdlaw01_OctetOnly.j0 (k + 2) s m l true false = some true := by
  rw [copyholdlaw01_OctetOnly.j0, if_neg (by decide), bs (takeList_eq (by omega) hm hl)]
  by_cases h : (listL s.data.toList m l).2.2 = 0
  · have hi := list_inv h
    have hb : (outLs (listL s.data.toList m l)).1 = mks (listL s.data.toList m l).1 := rfl
    have hr : (outLs (listL s.data.toList m l)).2.1.data.toList = (listL s.data.toList m l).2.1 := rfl
    have hlen : s.size = (listB (listL s.data.toList m l).1).length + (listL s.data.toList m l).2.1.length := by
      conv => lhs; rw [sz, hi]
      rw [List.length_append]
    have hle := lens_listB (listL s.data.toList m l).1
    have hls : (listS (mks (listL s.data.toList m l).1)).data.toList = listB (listL s.data.toList m l).1 := by rw [listS_dl, lists_mks]
    have hls2 : (listS (mks (listL s.data.toList m l).1)).size = (listB (listL s.data.toList m l).1).length := by rw [sz, hls]
    have hrs : (outLs (listL s.data.toList m l)).2.1.size = (listL s.data.toList m l).2.1.length := by rw [sz, hr]
    have e : ((listS (mks (listL s.data.toList m l).1) ++ (outLs (listL s.data.toList m l)).2.1).toList != s.toList) = false := by
      rw [tl, tl, app, hls, hr, ← hi]; simp
    rw [if_pos (show (outLs (listL s.data.toList m l)).2.2 = 0 from h), hb, bs (list_eq (by omega)), if_pos (by omega), e]
    exact only_j1 s m hs hm k
  · rw [if_neg (show ¬ (outLs (listL s.data.toList m l)).2.2 = 0 from h)]
    exact only_j1 s m hs hm k
theorem OctetOnly : copyholdlaw01_OctetOnly.Pure := by
  intro s m l hs hm hl
  have hm := lit64 hm
  have hl := lit64 hl
  refine ⟨2, ?_⟩
  unfold copyholdlaw01_OctetOnly.f
  rw [bs shown_eq]
  by_cases h5 : (s.size : Int) > 5000
  · rw [if_pos h5]
  · rw [if_neg h5, bs (takeNum_eq (by omega))]
    have hj := only_j0 s m l (by omega) hm hl 0
    by_cases h : (takeN 0 0 s.data.toList).2.2 = 0
    · have hi := take_inv0 h
      have hlt := takeN0_lt s.data.toList
      have hn := numS_size10 hlt
      have hl2 := (takeN_len s.data.toList 0 0).1
      have hr : (takeNumS s).2.1.data.toList = (takeN 0 0 s.data.toList).2.1 := rfl
      have hrs : (takeNumS s).2.1.size ≤ s.size := by rw [sz, hr, sz]; exact hl2
      have e0 : octet_Num.f (takeNumS s).1 = some (numS (takeN 0 0 s.data.toList).1) := octet_Num_eq hlt
      have e : ((numS (takeN 0 0 s.data.toList).1 ++ (takeNumS s).2.1).toList != s.toList) = false := by
        rw [tl, tl, app, numS_dl, hr, ← hi]; simp
      rw [if_pos (show (takeNumS s).2.2 = 0 from h), bs e0, if_pos (by omega), e]
      exact hj
    · rw [if_neg (show ¬ (takeNumS s).2.2 = 0 from h)]
      exact hj
end Go.Proofs.Ytoenhajcjebmeaa.Pure
