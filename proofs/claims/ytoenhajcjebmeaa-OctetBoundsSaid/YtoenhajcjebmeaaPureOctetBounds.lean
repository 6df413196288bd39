/- OctetBounds, pure: a text, or a list, that is greater than may be is refused as that, whatever stands behind. -/
import Derived.Test.YtoenhajcjebmeaaPureOctetBack
import Derived.Test.YtoenhajcjebmeaaStatOctetBounds
set_option linter.unusedVariables false
set_option linter.unusedSimpArgs false
namespace Go.Proofs.Ytoenhajcjebmeaa.Pure
open Go.RowKit Go.Proofs.Ytoenhajcjebmeaa.Q Go.Proofs.YtoenhajcjebmeaaW.PrintWords Go.Proofs.YtoenhajcjebmeaaW.PrintLast Math

theorem text_e (s : ByteArray) (m : Int) (hs : s.size ≤ 3000) : (textL (textS s).data.toList m).2.2 = if m < 0 ∨ m < (s.size : Int) then 5 else 0 := by
  have h := take_num0 (n := s.data.toList.length) (by rw [← sz]; omega) s.data.toList
  unfold textL
  rw [textS_dl, textB, h]
  dsimp only
  rw [if_pos rfl, ← sz]
  by_cases h1 : m < 0 ∨ m < (s.size : Int)
  · rw [if_pos h1, if_pos h1]
  · rw [if_neg h1, if_neg h1, if_neg (by omega)]
theorem lists_ok3 {l : List ByteArray} (h : sums l ≤ 3000) : ∀ t ∈ lists l, (t.length : Int) ≤ 3000 ∧ t.length < 18446744073709551616 := by
  intro t ht
  obtain ⟨s, hs, rfl⟩ := List.mem_map.1 ht
  have h1 := sums_mem hs
  rw [sz] at h1
  constructor <;> omega
theorem list_e (l : List ByteArray) (m : Int) (hs : sums l ≤ 3000) (hl : l.length ≤ 300) : (listL (listS l).data.toList m 3000).2.2 = if m < 0 ∨ m < (l.length : Int) then 5 else 0 := by
  rw [listS_dl]
  by_cases h1 : m < 0 ∨ m < (l.length : Int)
  · rw [if_pos h1]
    unfold listL listB
    rw [take_num0 (by rw [lists_len]; omega)]
    dsimp only
    rw [if_pos rfl, if_pos (by rw [lists_len]; exact h1)]
  · rw [if_neg h1]
    have := list_take (lists l) [] m 3000 (by rw [lists_len]; omega) (by rw [lists_len]; omega) (lists_ok3 hs)
    rw [List.append_nil] at this
    rw [this]
theorem bounds_l0 (s : ByteArray) (m : Int) (l : List ByteArray) (hs : s.size ≤ 3000) (hl : l.length ≤ 300) (hm : -9223372036854775808 ≤ m ∧ m ≤ 9223372036854775807) (hsz : ∀ y ∈ l, y.size ≤ 140737488351232) (d : Nat) : ∀ (i k acc : Nat), i + d = l.length → d < k → acc + sums (l.drop i) = sums l → sums l ≤ 42221246505369600 →
    copyholdlaw01_OctetBounds.l0 k s m l true (if m < 0 ∨ m < (s.size : Int) then 5 else 0) (acc : Int) (i : Int) = some true := by
  induction d with
  | zero =>
    intro i k acc hi hk ha hb
    obtain ⟨k, rfl⟩ : ∃ m, k = m + 1 := ⟨k - 1, by omega⟩
    rw [List.drop_eq_nil_of_le (by omega)] at ha
    have ha : acc = sums l := by simpa [sums] using ha
    rw [copyholdlaw01_OctetBounds.l0, if_neg (by omega)]
    by_cases h3 : (acc : Int) > 3000
    · rw [if_pos h3]
    · have e1 := list_eq (l := l) (by rw [lensS_sums]; omega)
      have hls := listS_size_le (l := l) (by omega)
      have e2 := takeList_eq (s := listS l) (m := m) (l := 3000) (by omega) hm (by decide)
      have e3 := list_e l m (by omega) hl
      rw [if_neg h3, bs e1, bs e2, if_pos rfl]
      have e4 : (outLs (listL (listS l).data.toList m 3000)).2.2 = if m < 0 ∨ m < (l.length : Int) then 5 else 0 := e3
      rw [e4]
      have q1 : ((if m < 0 ∨ m < (l.length : Int) then (5 : Int) else 0) == 5) = decide (m < 0 ∨ m < (l.length : Int)) := by
        by_cases h : m < 0 ∨ m < (l.length : Int) <;> simp [h]
      have q2 : ((if m < 0 ∨ m < (s.size : Int) then (5 : Int) else 0) == 5) = decide (m < 0 ∨ m < (s.size : Int)) := by
        by_cases h : m < 0 ∨ m < (s.size : Int) <;> simp [h]
      have fin : (if (l.length : Int) > m then (some (decide (m < 0 ∨ m < (l.length : Int)) == true)) else (some (decide (m < 0 ∨ m < (l.length : Int)) == decide (m < 0)))) = some true := by
        by_cases h : (l.length : Int) > m
        · rw [if_pos h, decide_eq_true (show m < 0 ∨ m < (l.length : Int) by omega)]; rfl
        · rw [if_neg h]
          by_cases h0 : m < 0
          · rw [decide_eq_true (show m < 0 ∨ m < (l.length : Int) by omega), decide_eq_true h0]; rfl
          · rw [decide_eq_false (show ¬(m < 0 ∨ m < (l.length : Int)) by omega), decide_eq_false h0]; rfl
      rw [q1, q2]
      by_cases h : (s.size : Int) > m
      · rw [if_pos h, decide_eq_true (show m < 0 ∨ m < (s.size : Int) by omega), if_pos (by decide)]
        exact fin
      · rw [if_neg h]
        by_cases h0 : m < 0
        · rw [decide_eq_true (show m < 0 ∨ m < (s.size : Int) by omega), decide_eq_true h0, if_pos (by decide)]
          rw [decide_eq_true h0] at fin
          exact fin
        · rw [decide_eq_false (show ¬(m < 0 ∨ m < (s.size : Int)) by omega), decide_eq_false h0, if_pos (by decide)]
          rw [decide_eq_false h0] at fin
          exact fin
  | succ d ih =>
    intro i k acc hi hk ha hb
    obtain ⟨k, rfl⟩ : ∃ m, k = m + 1 := ⟨k - 1, by omega⟩
    have hlt : i < l.length := by omega
    rw [List.drop_eq_getElem_cons hlt, sums_cons] at ha
    rw [copyholdlaw01_OctetBounds.l0, if_pos (by omega), if_pos (by omega), rd_get hlt, w64 (n := (acc : Int) + (l[i].size : Int)) (by omega) (by omega), w64 (n := (i : Int) + 1) (by omega) (by omega), show (acc : Int) + (l[i].size : Int) = ((acc + l[i].size : Nat) : Int) from by omega]
    exact ih (i + 1) k _ (by omega) (by omega) (by omega) hb
theorem sums_le {l : List ByteArray} {n : Nat} (h : ∀ y ∈ l, y.size ≤ n) : sums l ≤ l.length * n := by
  induction l with
  | nil => simp [sums]
  | cons a l ih =>
    have h1 := ih (fun y hy => h y (List.mem_cons_of_mem _ hy))
    have h2 := h a List.mem_cons_self
    rw [sums_cons, List.length_cons, Nat.add_mul]; omega
theorem OctetBounds : OctetBoundsSt := by
  intro s m l hs hm hl
  have hm := lit64 hm
  refine ⟨1000, ?_⟩
  unfold copyholdlaw01_OctetBounds.f
  rw [bs shown_eq]
  by_cases h : (s.size : Int) > 3000
  · rw [if_pos h, copyholdlaw01_OctetBounds.j0, if_pos rfl]
  · rw [if_neg h]
    by_cases h2 : (l.length : Int) > 300
    · rw [decide_eq_true h2, copyholdlaw01_OctetBounds.j0, if_pos rfl]
    · have hsum := sums_le hl.2
      have hle : l.length * 140737488351232 ≤ 300 * 140737488351232 := Nat.mul_le_mul_right _ (by omega)
      have hns := numS_size10 (n := s.size) (by omega)
      have hts : (textS s).size = (numS s.size).size + s.size := by rw [textS, app_size]
      have e2 : octet_TakeText.f (textS s) m = some (outT (textL (textS s).data.toList m)) := takeText_eq (by omega) hm
      rw [decide_eq_false h2, copyholdlaw01_OctetBounds.j0, if_neg (by decide), bs (octet_Text_eq (by omega)), bs e2]
      have e3 : (outT (textL (textS s).data.toList m)).2.2 = if m < 0 ∨ m < (s.size : Int) then 5 else 0 := text_e s m (by omega)
      rw [e3]
      exact bounds_l0 s m l (by omega) (by omega) hm hl.2 l.length 0 _ 0 (by omega) (by omega) (by rw [List.drop_zero]; omega) (by omega)
end Go.Proofs.Ytoenhajcjebmeaa.Pure
