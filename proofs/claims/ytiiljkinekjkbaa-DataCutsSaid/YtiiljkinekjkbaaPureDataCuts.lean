/- DataCuts, pure: a text that is cut has as many bytes as are asked for. -/
import Derived.Test.YtiiljkinekjkbaaStatDataCuts
import Derived.Test.YtiiljkinekjkbaaMath
set_option linter.unusedVariables false
set_option linter.unusedSimpArgs false
namespace Go.Proofs.Ytiiljkinekjkbaa.Pure
open Go.RowKit Go.Proofs.Ytiiljkinekjkbaa.Q Go.Proofs.YtiiljkinekjkbaaW.PrintWords Math

theorem DataCuts : DataCutsSt := by
  intro s m hs hm
  unfold copyholdlaw09_DataCuts.f
  rw [bs (show copyholdlaw09_shown.f = some true from rfl)]
  by_cases h : (s.size : Int) > 5000
  · rw [if_pos h]
  rw [if_neg h, bs (show data_Cut.f s m = some (cutR s m) from rfl)]
  unfold cutR
  by_cases h1 : m < 0 ∨ 1099511627776 < m
  · rw [if_pos h1]
    simp
    omega
  · rw [if_neg h1]
    by_cases h2 : 4096 < m
    · rw [if_pos h2]
      simp
      omega
    · rw [if_neg h2]
      obtain ⟨n, rfl⟩ := Int.eq_ofNat_of_zero_le (show 0 ≤ m by omega)
      rw [Int.toNat_natCast, if_pos rfl]
      show (if (((⟨(padL s n).toArray⟩ : ByteArray).size : Nat) : Int) = (n : Int) then _ else _) = some true
      have hz : (⟨(padL s n).toArray⟩ : ByteArray).size = n := (List.size_toArray ..).trans (padL_len s n)
      have hsz : s.size = s.data.toList.length := Go.Lib.size_eq s
      rw [if_pos (by rw [hz])]
      by_cases h3 : (n : Int) ≤ (s.size : Int)
      · rw [if_pos h3, if_pos rfl, if_pos (by omega)]
        congr 1
        rw [beq_iff_eq, tl, tl]
        show (padL s n) = (s.extract 0 n).data.toList
        rw [ByteArray.data_extract, Array.toList_extract, List.extract_eq_take_drop, List.drop_zero, Nat.sub_zero]
        unfold padL
        rw [show n - s.size = 0 by omega, List.replicate_zero, List.append_nil]
      · rw [if_neg h3, if_pos rfl, if_pos (by omega), if_pos (by rw [hz]; omega), Int.toNat_natCast, w64 (by omega) (by omega), show ((n : Int) - (s.size : Int)).toNat = n - s.size by omega]
        have hp : padL s n = s.data.toList ++ List.replicate (n - s.size) 0 := by unfold padL; rw [List.take_of_length_le (by omega)]
        rw [if_pos ?_, if_pos (by omega), if_pos (by omega)]
        · congr 1
          rw [beq_iff_eq, tl, tl, hz, ByteArray.data_extract, Array.toList_extract, List.extract_eq_take_drop]
          show ((padL s n).drop s.size).take (n - s.size) = _
          rw [hp, show s.size = s.data.toList.length from hsz, List.drop_left, List.take_of_length_le (by simp)]
          unfold strOfNums
          simp
        · rw [tl, tl]
          show ((⟨(padL s n).toArray⟩ : ByteArray).extract 0 s.size).data.toList = s.data.toList
          rw [ByteArray.data_extract, Array.toList_extract, List.extract_eq_take_drop, List.drop_zero, Nat.sub_zero]
          show (padL s n).take s.size = s.data.toList
          rw [hp, hsz, List.take_left]
end Go.Proofs.Ytiiljkinekjkbaa.Pure
