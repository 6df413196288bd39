/- DataBack, pure: what was written is read; ahead and behind all is as it was. -/
import Derived.Test.YtiiljkinekjkbaaStatDataBack
import Derived.Test.YtiiljkinekjkbaaDatP
set_option linter.unusedVariables false
set_option linter.unusedSimpArgs false
namespace Go.Proofs.Ytiiljkinekjkbaa.Pure
open Go.RowKit Go.Lib Go.Proofs.Ytiiljkinekjkbaa.Q Go.Proofs.YtiiljkinekjkbaaW.PrintWords Math

theorem back_read (s : ByteArray) (a m : Int) (h : s.size ≤ 1099511627776) : data_Read.f s a m = some (readR s a m) := if_pos h
theorem back_write (s : ByteArray) (a : Int) (t : ByteArray) (h : s.size ≤ 1099511627776) : data_Write.f s a t = some (writeR s a t) := if_pos h
theorem back_j1 (s : ByteArray) (n : Nat) (t : ByteArray) (hs : s.size ≤ 4096) (h : n + t.size ≤ 4096) :
    copyholdlaw09_DataBack.j1 1 s n t true ⟨(wrS s.data.toList n t.data.toList).toArray⟩ false = some true := by
  rw [copyholdlaw09_DataBack.j1]
  rw [if_neg (by decide)]
  have hl := wrS_len s.data.toList n t.data.toList
  have hsl : s.size = s.data.toList.length := size_eq s
  have htl : t.size = t.data.toList.length := size_eq t
  obtain ⟨K, hK⟩ : ∃ K : ByteArray, K = ⟨(wrS s.data.toList n t.data.toList).toArray⟩ := ⟨_, rfl⟩
  have hKd : K.data.toList = wrS s.data.toList n t.data.toList := by rw [hK]
  have hKs : K.size = max s.size (n + t.size) := by rw [hK, bsz, hl, hsl, htl]
  rw [← hK]
  have r1 : readR K (n : Int) (t.size : Int) = _ := read_list K n t.size (by omega)
  have r2 : readR K 0 (n : Int) = _ := read_list K 0 n (by omega)
  have r3 : readR s 0 (n : Int) = _ := read_list s 0 n (by omega)
  have r4 : readR K ((n + t.size : Nat) : Int) 5000 = _ := read_list K (n + t.size) 5000 (by omega)
  have r5 : readR s ((n + t.size : Nat) : Int) 5000 = _ := read_list s (n + t.size) 5000 (by omega)
  have hw : wrap64 ((n : Int) + (t.size : Int)) = ((n + t.size : Nat) : Int) := by rw [w64 (by omega) (by omega)]; omega
  rw [List.drop_zero] at r2 r3
  rw [hw]
  rw [bs (back_read K n t.size (by omega)), bs (back_read K 0 n (by omega)), bs (back_read s 0 n (by omega)), bs (back_read K _ 5000 (by omega)), bs (back_read s _ 5000 (by omega))]
  rw [r1, r2, r3, r4, r5]
  dsimp only
  rw [bsz, bsz, List.length_take, List.length_take, ← size_eq, ← size_eq]
  have m1 : min n K.size = n := by omega
  rw [m1]
  obtain ⟨m, hm⟩ : ∃ m, m = min n s.size := ⟨_, rfl⟩
  rw [← hm, Int.toNat_natCast]
  have hw2 : wrap64 ((n : Int) - (m : Int)) = ((n - m : Nat) : Int) := by rw [w64 (by omega) (by omega)]; omega
  rw [hw2, Int.toNat_natCast]
  rw [if_pos rfl, if_neg (by omega), if_pos rfl, if_pos rfl, if_pos, if_pos (by omega), if_pos (by omega), if_pos, if_pos (by omega), if_pos (by omega), if_pos]
  · congr 1
    rw [beq_iff_eq, btl, btl, hKd]
    apply List.ext_getElem?
    intro i
    rw [get_part, get_part]
    by_cases h1 : i < 5000
    · rw [if_pos h1, if_pos h1, wrS_get, if_neg (by omega), if_neg (by omega)]
    · rw [if_neg h1, if_neg h1]
  · rw [ext_list, nums_zero, hKd]
    apply List.ext_getElem?
    intro i
    rw [get_part, List.getElem?_replicate]
    by_cases h1 : i < n - m
    · rw [if_pos h1, if_pos h1, List.getElem?_take, if_pos (by omega), wrS_get, if_pos (by omega), List.getD_eq_getElem?_getD, List.getElem?_eq_none (by omega)]; rfl
    · rw [if_neg h1, if_neg h1]
  · rw [ext_list, btl, hKd]
    apply List.ext_getElem?
    intro i
    rw [get_part, List.getElem?_take, List.getElem?_take]
    by_cases h1 : i < n
    · by_cases h2 : i < m
      · rw [if_pos (show i < m - 0 by omega), if_pos (show 0 + i < n by omega), if_pos h1, Nat.zero_add, wrS_get, if_pos h1, List.getD_eq_getElem?_getD, List.getElem?_eq_getElem (by omega)]; rfl
      · rw [if_neg (show ¬ i < m - 0 by omega), if_pos h1, List.getElem?_eq_none (by omega)]
    · rw [if_neg (show ¬ i < m - 0 by omega), if_neg h1]
  · rw [btl, tl, hKd]
    apply List.ext_getElem?
    intro i
    rw [get_part]
    by_cases h1 : i < t.size
    · rw [if_pos h1, wrS_get, if_neg (by omega), if_pos (by omega), Nat.add_sub_cancel_left]
    · rw [if_neg h1, List.getElem?_eq_none (by omega)]
theorem back_same (s : ByteArray) (a : Int) (t : ByteArray) : copyholdlaw09_DataBack.j1 1 s a t true s true = some true := by
  rw [copyholdlaw09_DataBack.j1]
  rw [if_pos rfl, if_pos rfl, beq_self_eq_true]
theorem DataBack : DataBackSt := by
  intro s a t hs ha ht
  refine ⟨2, ?_⟩
  unfold copyholdlaw09_DataBack.f
  rw [bs (show copyholdlaw09_shown.f = some true from rfl)]
  by_cases h1 : (s.size : Int) > 4096
  · rw [if_pos h1]
    rw [copyholdlaw09_DataBack.j0]
    rw [if_pos rfl]
  rw [if_neg h1]
  by_cases h2 : (t.size : Int) > 4096
  · rw [decide_eq_true h2]
    rw [copyholdlaw09_DataBack.j0]
    rw [if_pos rfl]
  rw [decide_eq_false h2]
  rw [copyholdlaw09_DataBack.j0]
  rw [if_neg (by decide), bs (back_write s a t (by omega))]
  by_cases g : 0 ≤ a ∧ a + (t.size : Int) ≤ 4096
  · obtain ⟨n, rfl⟩ := Int.eq_ofNat_of_zero_le g.1
    by_cases h0 : t.size = 0
    · rw [write_none s n t (by omega) h0, if_pos rfl]
      have e : (t.toList == ([] : List UInt8)) = true := by
        rw [beq_iff_eq, tl]
        exact List.eq_nil_of_length_eq_zero (by rw [← size_eq]; exact h0)
      rw [e]
      exact back_same s n t
    · rw [write_good s n t (by omega) h0, if_pos rfl]
      have e : (t.toList == ([] : List UInt8)) = false := by
        rw [beq_eq_false_iff_ne, tl]
        intro k
        apply h0
        rw [size_eq t, k]; rfl
      rw [e]
      exact back_j1 s n t (by omega) (by omega)
  · obtain ⟨e, he, h⟩ := write_bad s a t g
    rw [h, if_neg he]
    exact back_same s a t
end Go.Proofs.Ytiiljkinekjkbaa.Pure
