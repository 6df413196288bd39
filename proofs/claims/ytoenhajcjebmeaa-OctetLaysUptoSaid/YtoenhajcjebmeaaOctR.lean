/- The reference's Long and List in closed form. -/
import Derived.Test.YtoenhajcjebmeaaOctP
import Derived.Test.YtoenhajcjebmeaaPureOctetOnly
set_option linter.unusedVariables false
set_option linter.unusedSimpArgs false
namespace Go.Proofs.Ytoenhajcjebmeaa
open Go.RowKit Go.Proofs.Ytoenhajcjebmeaa.Q Go.Proofs.YtoenhajcjebmeaaW.PrintWords Go.Proofs.YtoenhajcjebmeaaW.PrintLast Go.Proofs.YtoenhajcjebmeaaW.PrintMore Math

def sums (l : List ByteArray) : Nat := (l.map fun s => s.size).sum
theorem sums_cons (s : ByteArray) (l : List ByteArray) : sums (s :: l) = s.size + sums l := rfl
theorem sums_mem {l : List ByteArray} {s : ByteArray} (h : s ∈ l) : s.size ≤ sums l := by
  induction l with
  | nil => cases h
  | cons a l ih =>
    rw [sums_cons]
    rcases List.mem_cons.1 h with rfl | h
    · omega
    · have := ih h; omega
theorem long_l0 (l : List ByteArray) (hl : l.length ≤ 8796093022208) (d : Nat) : ∀ (i k acc : Nat), i + d = l.length → d < k → acc + sums (l.drop i) ≤ 9223372036854775807 →
    copyholdref01_Long.l0 k l (acc : Int) (i : Int) = some ((acc + sums (l.drop i) : Nat) : Int) := by
  induction d with
  | zero =>
    intro i k acc hi hk hs
    obtain ⟨k, rfl⟩ : ∃ m, k = m + 1 := ⟨k - 1, by omega⟩
    rw [copyholdref01_Long.l0, if_neg (by omega), List.drop_eq_nil_of_le (by omega)]
    rfl
  | succ d ih =>
    intro i k acc hi hk hs
    obtain ⟨k, rfl⟩ : ∃ m, k = m + 1 := ⟨k - 1, by omega⟩
    have hlt : i < l.length := by omega
    rw [List.drop_eq_getElem_cons hlt, sums_cons] at hs ⊢
    rw [copyholdref01_Long.l0, if_pos (by omega), if_pos (by omega), rd_get hlt, w64 (n := (acc : Int) + (l[i].size : Int)) (by omega) (by omega), w64 (n := (i : Int) + 1) (by omega) (by omega), show (acc : Int) + (l[i].size : Int) = ((acc + l[i].size : Nat) : Int) from by omega, show acc + (l[i].size + sums (l.drop (i + 1))) = (acc + l[i].size) + sums (l.drop (i + 1)) from by omega]
    exact ih (i + 1) k _ (by omega) (by omega) (by omega)
theorem ref_long {l : List ByteArray} (hl : l.length ≤ 8796093022208) (hs : l.length + sums l ≤ 9223372036854775807) {k : Nat} (hk : l.length < k) : copyholdref01_Long.f k l = some ((l.length + sums l : Nat) : Int) := by
  unfold copyholdref01_Long.f
  have := long_l0 l hl l.length 0 k l.length (by omega) hk (by rw [List.drop_zero]; exact hs)
  rw [List.drop_zero] at this
  exact this
theorem joinS_dl (xs : List ByteArray) : (joinS xs).data.toList = flat xs := rfl
theorem joinS_size (xs : List ByteArray) : (joinS xs).size = (flat xs).length := by rw [sz, joinS_dl]
theorem flat_texts (l : List ByteArray) (h : ∀ s ∈ l, s.size < 18446744073709551616) : (flat (l.map textS)).length ≤ sums l + 10 * l.length := by
  induction l with
  | nil => simp [flat]
  | cons a l ih =>
    have h1 := ih (fun s hs => h s (List.mem_cons_of_mem _ hs))
    have h2 := numS_size10 (h a List.mem_cons_self)
    have h3 : (textS a).data.toList.length = (numS a.size).size + a.size := by rw [← sz, textS, app_size]
    simp only [flat, List.map_cons, List.flatten_cons, List.length_append, sums_cons, List.length_cons] at h1 ⊢
    omega
theorem list_l0 (l : List ByteArray) (hl : l.length ≤ 1000000) (hs : sums l ≤ 1000000) (d : Nat) : ∀ (i k : Nat) (acc : ByteArray), i + d = l.length → d + 10 < k → acc.size + (flat ((l.drop i).map textS)).length ≤ 9223372036854775807 →
    copyholdref01_List.l0 k l acc (i : Int) = some (acc ++ joinS ((l.drop i).map textS)) := by
  induction d with
  | zero =>
    intro i k acc hi hk ha
    obtain ⟨k, rfl⟩ : ∃ m, k = m + 1 := ⟨k - 1, by omega⟩
    rw [copyholdref01_List.l0, if_neg (by omega), List.drop_eq_nil_of_le (by omega)]
    refine congrArg some (inj ?_)
    rw [app]
    simp [joinS, flat]
  | succ d ih =>
    intro i k acc hi hk ha
    obtain ⟨k, rfl⟩ : ∃ m, k = m + 1 := ⟨k - 1, by omega⟩
    have hlt : i < l.length := by omega
    have hm := sums_mem (List.getElem_mem hlt)
    rw [List.drop_eq_getElem_cons hlt, List.map_cons] at ha ⊢
    have hf : (flat (textS l[i] :: (l.drop (i + 1)).map textS)).length = (textS l[i]).size + (flat ((l.drop (i + 1)).map textS)).length := by
      simp only [flat, List.map_cons, List.flatten_cons, List.length_append]; rw [← sz]
    rw [hf] at ha
    rw [copyholdref01_List.l0, if_pos (by omega), if_pos (by omega), rd_get hlt, bs (ref_text (by omega) (by omega)), if_pos (by omega), w64 (n := (i : Int) + 1) (by omega) (by omega)]
    have := ih (i + 1) k (acc ++ textS l[i]) (by omega) (by omega) (by rw [app_size]; omega)
    rw [show ((i : Int) + 1) = ((i + 1 : Nat) : Int) from by omega, this]
    refine congrArg some (inj ?_)
    rw [app, app, app, joinS_dl, joinS_dl, List.append_assoc]
    simp [flat]
theorem ref_list {l : List ByteArray} (hl : l.length ≤ 1000000) (hs : sums l ≤ 1000000) {k : Nat} (hk : l.length + 20 < k) : copyholdref01_List.f k l = some (listS l) := by
  unfold copyholdref01_List.f
  have hn := numS_size10 (n := l.length) (by omega)
  have hf := flat_texts l (fun s h => by have := sums_mem h; omega)
  rw [IntKind.wrap_u64, show ((l.length : Int) % 18446744073709551616) = ((l.length : Nat) : Int) from by omega, bs (ref_num10 (by omega) (by omega))]
  have := list_l0 l hl hs l.length 0 k (numS l.length) (by omega) (by omega) (by rw [List.drop_zero]; omega)
  rw [show ((0 : Nat) : Int) = 0 from rfl] at this
  rw [this, List.drop_zero]
  refine congrArg some (inj ?_)
  rw [app, joinS_dl, listS, joinS_dl, listP, List.take_length]
  simp [flat]
theorem lensS_sums (l : List ByteArray) : lensS l = sums l + 20 * l.length := by
  induction l with
  | nil => rfl
  | cons a l ih => rw [sums_cons, List.length_cons]; simp only [lensS, List.map_cons, List.sum_cons] at ih ⊢; omega
end Go.Proofs.Ytoenhajcjebmeaa
