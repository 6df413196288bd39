/- DataParts, pure: a part that is read, one that is written, and a text that is cut, are as the document says. -/
import Derived.Test.YtiiljkinekjkbaaStatDataParts
import Derived.Test.YtiiljkinekjkbaaDatP
set_option linter.unusedVariables false
set_option linter.unusedSimpArgs false
namespace Go.Proofs.Ytiiljkinekjkbaa.Pure
open Go.RowKit Go.Lib Go.Proofs.Ytiiljkinekjkbaa.V Go.Proofs.YtiiljkinekjkbaaW.PrintWords Math

def ints (L : List UInt8) : List Int := L.map fun b => (b.toNat : Int)
theorem ints_back (L : List UInt8) : strOfNums (ints L) = ⟨L.toArray⟩ := by
  unfold strOfNums ints
  congr 2
  rw [List.map_map]
  conv => rhs; rw [← List.map_id L]
  apply List.map_congr_left
  intro x _
  simp
theorem ref_read_l0 (s : ByteArray) (a m : Nat) (hs : s.size ≤ 10000) (ha : a ≤ s.size) : ∀ (n k d : Nat), n + d = s.size - a → d ≤ m → n < k →
    copyholdref09_Read.l0 k s (m : Int) (ints ((s.data.toList.drop a).take d)) ((a + d : Nat) : Int) = some (⟨((s.data.toList.drop a).take m).toArray⟩, 0) := by
  intro n
  have hsl : s.size = s.data.toList.length := size_eq s
  induction n with
  | zero =>
    intro k d h1 h2 h3
    obtain ⟨k, rfl⟩ : ∃ j, k = j + 1 := ⟨k - 1, by omega⟩
    rw [copyholdref09_Read.l0, if_neg (by omega), ints_back]
    congr 3
    rw [List.take_of_length_le (by rw [List.length_drop]; omega), List.take_of_length_le (by rw [List.length_drop]; omega)]
  | succ n ih =>
    intro k d h1 h2 h3
    obtain ⟨k, rfl⟩ : ∃ j, k = j + 1 := ⟨k - 1, by omega⟩
    have hl : (ints ((s.data.toList.drop a).take d)).length = d := by unfold ints; rw [List.length_map, List.length_take, List.length_drop]; omega
    rw [copyholdref09_Read.l0, if_pos (by omega), hl]
    by_cases h4 : (d : Int) < (m : Int)
    · rw [if_pos h4, if_pos (by omega), if_pos (by omega)]
      have hw : wrap64 (((a + d : Nat) : Int) + 1) = ((a + (d + 1) : Nat) : Int) := by rw [w64 (by omega) (by omega)]; omega
      have hb : bt s ((a + d : Nat) : Int) = ((s.data.toList[a + d]'(by omega)).toNat : Int) := by
        have h : ((a + d : Nat) : Int).toNat < s.size := by omega
        rw [← bt_at s _ h]; rfl
      have hx : ints ((s.data.toList.drop a).take d) ++ [bt s ((a + d : Nat) : Int)] = ints ((s.data.toList.drop a).take (d + 1)) := by
        rw [List.take_succ_eq_append_getElem (by rw [List.length_drop]; omega), hb, List.getElem_drop]
        unfold ints
        rw [List.map_append]; rfl
      rw [hw, hx]
      exact ih k (d + 1) (by omega) (by omega) (by omega)
    · rw [if_neg h4, ints_back, show d = m by omega]
theorem ref_read (s : ByteArray) (a m : Int) (hs : s.size ≤ 10000) (k : Nat) (hk : s.size + 3 ≤ k) (ha : -9223372036854775808 ≤ a ∧ a ≤ 9223372036854775807) : copyholdref09_Read.f k s a m = some (readR s a m) := by
  obtain ⟨k, rfl⟩ : ∃ j, k = j + 1 := ⟨k - 1, by omega⟩
  unfold copyholdref09_Read.f
  by_cases h1 : a < 0
  · rw [if_pos h1, copyholdref09_Read.j0, if_pos rfl]
    unfold readR
    rw [if_neg (by omega)]
  rw [if_neg h1]
  by_cases h2 : a > 1099511627776
  · rw [if_pos h2, copyholdref09_Read.j0, if_pos rfl]
    unfold readR
    rw [if_neg (by omega)]
  rw [if_neg h2]
  by_cases h3 : m < 0
  · rw [if_pos h3, copyholdref09_Read.j0, if_pos rfl]
    unfold readR
    rw [if_neg (by omega)]
  rw [if_neg h3, w64 (by omega) (by omega)]
  by_cases h4 : m > 1099511627776 - a
  · rw [decide_eq_true h4, copyholdref09_Read.j0, if_pos rfl]
    unfold readR
    rw [if_neg (by omega)]
  rw [decide_eq_false h4, copyholdref09_Read.j0, if_neg (by decide)]
  obtain ⟨x, rfl⟩ := Int.eq_ofNat_of_zero_le (show 0 ≤ a by omega)
  obtain ⟨n, rfl⟩ := Int.eq_ofNat_of_zero_le (show 0 ≤ m by omega)
  rw [read_list s x n (by omega)]
  have hsl : s.size = s.data.toList.length := size_eq s
  by_cases h5 : x ≤ s.size
  · have := ref_read_l0 s x n hs h5 (s.size - x) k 0 (by omega) (by omega) (by omega)
    exact this
  · obtain ⟨k, rfl⟩ : ∃ j, k = j + 1 := ⟨k - 1, by omega⟩
    rw [copyholdref09_Read.l0, if_neg (by omega)]
    rw [List.drop_eq_nil_of_le (by omega), List.take_nil]
    rfl
theorem pad_one (s : ByteArray) : (s ++ (⟨#[0]⟩ : ByteArray)).size = s.size + 1 := ByteArray.size_append
theorem padL_ext (s : ByteArray) (m : Nat) (h : s.size < m) : padL (s ++ (⟨#[0]⟩ : ByteArray)) m = padL s m := by
  rw [padL_big _ _ (by rw [pad_one]; omega), padL_big _ _ (by omega), app_data, pad_one, List.append_assoc]
  congr 1
  rw [show m - s.size = (m - (s.size + 1)) + 1 by omega, List.replicate_succ]
  rfl
theorem ref_cut_l0 (m : Nat) (hm : m ≤ 4096) : ∀ (n k : Nat) (s : ByteArray), s.size ≤ 10000 → n + s.size = max m s.size → n < k → copyholdref09_Cut.l0 k s (m : Int) = some (⟨(padL s m).toArray⟩, 0) := by
  intro n
  induction n with
  | zero =>
    intro k s hs h1 h2
    obtain ⟨k, rfl⟩ : ∃ j, k = j + 1 := ⟨k - 1, by omega⟩
    rw [copyholdref09_Cut.l0, if_neg (by omega), if_pos (by omega), if_pos (by omega), Int.toNat_natCast]
    congr 3
    apply ByteArray.ext
    apply Array.toList_inj.1
    rw [ByteArray.data_extract, Array.toList_extract, List.extract_eq_take_drop, List.drop_zero, Nat.sub_zero]
    unfold padL
    rw [show m - s.size = 0 by omega, List.replicate_zero, List.append_nil]
  | succ n ih =>
    intro k s hs h1 h2
    obtain ⟨k, rfl⟩ : ∃ j, k = j + 1 := ⟨k - 1, by omega⟩
    rw [copyholdref09_Cut.l0, if_pos (by omega), if_pos (by omega), ih k _ (by rw [pad_one]; omega) (by rw [pad_one]; omega) (by omega), padL_ext s m (by omega)]
theorem ref_cut (s : ByteArray) (m : Int) (hs : s.size ≤ 5000) (k : Nat) (hk : 6000 ≤ k) : copyholdref09_Cut.f k s m = some (cutR s m) := by
  obtain ⟨k, rfl⟩ : ∃ j, k = j + 1 := ⟨k - 1, by omega⟩
  unfold copyholdref09_Cut.f cutR
  by_cases h1 : m < 0
  · rw [if_pos h1, copyholdref09_Cut.j0, if_pos rfl, if_pos (.inl h1)]
  rw [if_neg h1]
  by_cases h2 : m > 1099511627776
  · rw [decide_eq_true h2, copyholdref09_Cut.j0, if_pos rfl, if_pos (.inr h2)]
  rw [decide_eq_false h2, copyholdref09_Cut.j0, if_neg (show ¬ false = true by decide), if_neg (show ¬ (m < 0 ∨ 1099511627776 < m) by omega)]
  by_cases h3 : m > 4096
  · rw [if_pos h3, if_pos h3]
  rw [if_neg h3, if_neg h3]
  obtain ⟨n, rfl⟩ := Int.eq_ofNat_of_zero_le (show 0 ≤ m by omega)
  rw [Int.toNat_natCast]
  exact ref_cut_l0 n (by omega) (max n s.size - s.size) k s (by omega) (by omega) (by omega)
theorem parts_j0 (s : ByteArray) (a m : Int) (t : ByteArray) (k : Nat) (hs : s.size ≤ 5000) (ht : t.size ≤ 5000) (hk : 6000 ≤ k) (ha : -9223372036854775808 ≤ a ∧ a ≤ 9223372036854775807) : copyholdlaw09_DataParts.j0 (k + 1) s a m t true false = some true := by
  have e1 : data_Read.f s a m = some (readR s a m) := if_pos (by omega)
  have e2 := ref_read s a m (by omega) k (by omega) ha
  have e3 : data_Write.f s a t = some (writeR s a t) := if_pos (by omega)
  have e4 : copyholdref09_Write.f s a t = some (writeR s a t) := if_pos ⟨by omega, by omega, ha⟩
  have e5 : data_Cut.f s m = some (cutR s m) := rfl
  have e6 := ref_cut s m hs k (by omega)
  rw [copyholdlaw09_DataParts.j0, if_neg (by decide), bs e1, bs e2, bs e3, bs e4, bs e5, bs e6, if_pos rfl, if_pos rfl, if_pos rfl, if_pos rfl, if_pos rfl, if_pos rfl, beq_self_eq_true]
theorem DataParts : DataPartsSt := by
  intro s a m t hs ha hm ht
  refine ⟨6001, ?_⟩
  have la := lit64 ha
  unfold copyholdlaw09_DataParts.f
  rw [bs (show copyholdlaw09_shown.f = some true from rfl)]
  by_cases h1 : (s.size : Int) > 5000
  · rw [if_pos h1, copyholdlaw09_DataParts.j0, if_pos rfl]
  rw [if_neg h1]
  by_cases h2 : (t.size : Int) > 5000
  · rw [decide_eq_true h2, copyholdlaw09_DataParts.j0, if_pos rfl]
  rw [decide_eq_false h2]
  exact parts_j0 s a m t 6000 (by omega) (by omega) (by omega) la
end Go.Proofs.Ytiiljkinekjkbaa.Pure
