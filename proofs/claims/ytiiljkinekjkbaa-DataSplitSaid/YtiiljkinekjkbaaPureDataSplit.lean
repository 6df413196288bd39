/- DataSplit, pure: a part that is read in two pieces is the part; what is written in two pieces is written at once. -/
import Derived.Test.YtiiljkinekjkbaaStatDataSplit
import Derived.Test.YtiiljkinekjkbaaDatP
set_option linter.unusedVariables false
set_option linter.unusedSimpArgs false
namespace Go.Proofs.Ytiiljkinekjkbaa.Pure
open Go.RowKit Go.Lib Go.Proofs.Ytiiljkinekjkbaa.Q Go.Proofs.YtiiljkinekjkbaaW.PrintWords Math

theorem split_read (s : ByteArray) (a m : Int) (h : s.size ≤ 1099511627776) : data_Read.f s a m = some (readR s a m) := if_pos h
theorem split_write (s : ByteArray) (a : Int) (t : ByteArray) (h : s.size ≤ 1099511627776) : data_Write.f s a t = some (writeR s a t) := if_pos h
theorem write_zero (s : ByteArray) (n : Nat) (t : ByteArray) (h : n + t.size ≤ 4096) : (writeR s n t).2 = 0 ∧ (writeR s n t).1.size ≤ s.size + n + t.size := by
  by_cases h0 : t.size = 0
  · rw [write_none s n t h h0]; exact ⟨rfl, by dsimp only; omega⟩
  · rw [write_good s n t h h0]
    refine ⟨rfl, ?_⟩
    dsimp only
    rw [bsz, wrS_len, ← size_eq, ← size_eq]; omega
theorem write_two (s : ByteArray) (n : Nat) (a b : ByteArray) (h : n + a.size + b.size ≤ 4096) : (writeR (writeR s n a).1 ((n + a.size : Nat) : Int) b).1 = (writeR s n (a ++ b)).1 := by
  have hab : (a ++ b).size = a.size + b.size := ByteArray.size_append
  by_cases ha : a.size = 0
  · obtain rfl : a = ⟨#[]⟩ := by
      apply ByteArray.ext
      exact Array.eq_empty_of_size_eq_zero ha
    rw [write_none s n _ (by omega) ha]
    have e : (⟨#[]⟩ : ByteArray) ++ b = b := by
      apply ByteArray.ext
      rw [ByteArray.data_append]
      simp
    rw [e, show ByteArray.size ⟨#[]⟩ = 0 from rfl, Nat.add_zero]
  · by_cases hb : b.size = 0
    · obtain rfl : b = ⟨#[]⟩ := by
        apply ByteArray.ext
        exact Array.eq_empty_of_size_eq_zero hb
      have e : a ++ (⟨#[]⟩ : ByteArray) = a := by
        apply ByteArray.ext
        rw [ByteArray.data_append]
        simp
      rw [e, write_none _ (n + a.size) _ (by omega) hb]
    · rw [write_good s n a (by omega) ha, write_good s n (a ++ b) (by omega) (by omega), write_good _ (n + a.size) b (by omega) hb]
      dsimp only
      rw [app_data, ← wrS_two, ← size_eq]
theorem DataSplit : DataSplitSt := by
  intro s a x y hs ha hx hy
  refine ⟨1, ?_⟩
  unfold copyholdlaw09_DataSplit.f
  rw [bs (show copyholdlaw09_shown.f = some true from rfl)]
  by_cases h1 : (s.size : Int) > 2000
  · rw [if_pos h1]
    rw [copyholdlaw09_DataSplit.j0]
    rw [if_pos rfl]
  rw [if_neg h1, w64 (by omega) (by omega)]
  by_cases h2 : (x.size : Int) + (y.size : Int) > 2000
  · rw [if_pos h2]
    rw [copyholdlaw09_DataSplit.j0]
    rw [if_pos rfl]
  rw [if_neg h2]
  by_cases h3 : a < 0
  · rw [if_pos h3]
    rw [copyholdlaw09_DataSplit.j0]
    rw [if_pos rfl]
  rw [if_neg h3]
  by_cases h4 : a > 90
  · rw [decide_eq_true h4]
    rw [copyholdlaw09_DataSplit.j0]
    rw [if_pos rfl]
  rw [decide_eq_false h4]
  obtain ⟨n, rfl⟩ := Int.eq_ofNat_of_zero_le (show 0 ≤ a by omega)
  rw [copyholdlaw09_DataSplit.j0]
  rw [if_neg (by decide)]
  have hab : (x ++ y).size = x.size + y.size := ByteArray.size_append
  have hw : wrap64 ((n : Int) + (x.size : Int)) = ((n + x.size : Nat) : Int) := by rw [w64 (by omega) (by omega)]; omega
  have hw7 : wrap64 ((n : Int) + 7) = ((n + 7 : Nat) : Int) := by rw [w64 (by omega) (by omega)]; omega
  rw [hw, hw7]
  have r1 : readR s (n : Int) 7 = _ := read_list s n 7 (by omega)
  have r2 : readR s ((n + 7 : Nat) : Int) 9 = _ := read_list s (n + 7) 9 (by omega)
  have r3 : readR s (n : Int) 16 = _ := read_list s n 16 (by omega)
  have h5 : s.size ≤ 1099511627776 := by omega
  have h6 : n + x.size ≤ 4096 := by omega
  have h7 : n + x.size + y.size ≤ 4096 := by omega
  have h8 : n + (x ++ y).size ≤ 4096 := by omega
  have h9 : s.size + n + x.size ≤ 1099511627776 := by omega
  have h10 : x.size + y.size ≤ 9223372036854775807 := by omega
  rw [bs (split_read s n 7 h5), bs (split_read s _ 9 h5), bs (split_read s n 16 h5), bs (split_write s n x h5), bs (split_write _ _ y (Nat.le_trans (write_zero s n x h6).2 h9)), if_pos h10, bs (split_write s n (x ++ y) h5)]
  have z3 := (write_zero (writeR s n x).1 (n + x.size) y h7).1
  have z5 := (write_zero s n (x ++ y) h8).1
  rw [r1, r2, r3, z3, z5, write_two s n x y h7]
  clear z3 z5 r1 r2 r3
  dsimp only
  rw [if_pos rfl, if_pos, if_pos, if_pos rfl, if_pos rfl, beq_self_eq_true]
  · rw [app_list, btl, btl, btl]
    apply List.ext_getElem?
    intro i
    rw [get_part, List.getElem?_append, List.length_take, List.length_drop, get_part, get_part]
    by_cases h5 : i < 7
    · rw [if_pos h5, if_pos (show i < 16 by omega)]
      by_cases h6 : i < min 7 (s.data.toList.length - n)
      · rw [if_pos h6]
      · rw [if_neg h6, List.getElem?_eq_none (by omega)]
        by_cases h7 : i - min 7 (s.data.toList.length - n) < 9
        · rw [if_pos h7, List.getElem?_eq_none (by omega)]
        · rw [if_neg h7, List.getElem?_eq_none (by omega)]
    · rw [if_neg (by omega)]
      by_cases h6 : 7 ≤ s.data.toList.length - n
      · rw [show min 7 (s.data.toList.length - n) = 7 by omega]
        by_cases h7 : i < 16
        · rw [if_pos (by omega), if_pos h7, show n + 7 + (i - 7) = n + i by omega]
        · rw [if_neg (by omega), if_neg h7]
      · have e1 : ∀ j, s.data.toList[n + 7 + j]? = none := fun j => List.getElem?_eq_none (by omega)
        rw [e1, List.getElem?_eq_none (show s.data.toList.length ≤ n + i by omega)]
        simp
  · rw [bsz, bsz, List.length_take, List.length_take]; omega
end Go.Proofs.Ytiiljkinekjkbaa.Pure
