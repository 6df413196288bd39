/- OctetBack, pure: what was laid is taken as it was, whatever stands behind it; no beginning of it is. -/
import Derived.Test.YtoenhajcjebmeaaPureOctetLays
import Derived.Test.YtoenhajcjebmeaaStatOctetBack
namespace Go.Proofs.Ytoenhajcjebmeaa.Pure
open Go.RowKit Go.Proofs.Ytoenhajcjebmeaa.Q Go.Proofs.YtoenhajcjebmeaaW.PrintWords Go.Proofs.YtoenhajcjebmeaaW.PrintLast Math

theorem lists_ok {l : List ByteArray} (h : sums l ≤ 5000) : ∀ t ∈ lists l, (t.length : Int) ≤ 5000 ∧ t.length < 18446744073709551616 := by
  intro t ht
  obtain ⟨s, hs, rfl⟩ := List.mem_map.1 ht
  have h1 := sums_mem hs
  rw [sz] at h1
  constructor <;> omega
theorem listS_size_le {l : List ByteArray} (h : l.length + sums l ≤ 5000) : (listS l).size ≤ 60000 := by
  have hn := numS_size10 (n := l.length) (by omega)
  have hf := flat_texts l (fun s hs => by have := sums_mem hs; omega)
  have e : (listS l).size = (numS l.length).size + (flat (l.map textS)).length := by
    rw [sz, listS, joinS_dl, listP, List.take_length, flat, List.map_cons, List.flatten_cons, List.length_append, ← sz, flat]
  omega
theorem lists_len (l : List ByteArray) : (lists l).length = l.length := by simp [lists]
theorem back_j1 (l : List ByteArray) (cut : Int) (hl : l.length + sums l ≤ 5000) (k : Nat) : copyholdlaw01_OctetBack.j1 (k + 1) l cut true false = some true := by
  have e1 := list_eq (l := l) (by rw [lensS_sums]; omega)
  have hsz := listS_size_le hl
  rw [copyholdlaw01_OctetBack.j1, if_neg (by decide), bs e1]
  by_cases h0 : cut < 0
  · rw [if_pos h0]
  · rw [if_neg h0]
    by_cases h1 : cut ≥ ((listS l).size : Int)
    · rw [if_pos h1]
    · obtain ⟨c, rfl⟩ := natInt (show 0 ≤ cut by omega)
      have e2 := takeList_eq (s := (listS l).extract 0 (c : Int).toNat) (m := (l.length : Int)) (l := 5000) (by rw [sz, ext_, List.drop_zero, List.length_take, ← sz]; omega) (by omega) (by decide)
      rw [if_neg h1, if_pos (by omega), if_pos (by omega), bs e2, if_pos rfl]
      have e3 : listL ((listS l).extract 0 (c : Int).toNat).data.toList (l.length : Int) 5000 = ([], [], 2) := by
        rw [ext_, List.drop_zero, listS_dl, Int.toNat_natCast]
        exact list_cut (lists l) c _ _ (by rw [lists_len]; exact Int.le_refl _) (by rw [lists_len]; omega) (lists_ok (by omega)) (by rw [← listS_dl, ← sz]; omega)
      rw [e3]; rfl
theorem back_j0 (n : Nat) (l : List ByteArray) (more : ByteArray) (cut : Int) (hn : n < 18446744073709551616) (hl : l.length + sums l ≤ 5000) (hm : more.size ≤ 1000) (k : Nat) (hk : 5001 ≤ k) : copyholdlaw01_OctetBack.j0 (k + 1) (n : Int) l more cut true false = some true := by
  obtain ⟨k, rfl⟩ : ∃ q, k = q + 1 := ⟨k - 1, by omega⟩
  have e1 := list_eq (l := l) (by rw [lensS_sums]; omega)
  have hsz := listS_size_le hl
  have hns := numS_size10 hn
  have hbig : ((numS n ++ listS l) ++ more).size = (numS n).size + (listS l).size + more.size := by rw [app_size, app_size]
  have hdl : ((numS n ++ listS l) ++ more).data.toList = numB n ++ (listB (lists l) ++ more.data.toList) := by rw [app, app, numS_dl, listS_dl, List.append_assoc]
  have hT : takeN 0 0 ((numS n ++ listS l) ++ more).data.toList = (n, listB (lists l) ++ more.data.toList, 0) := by rw [hdl]; exact take_num0 hn _
  have e2 : octet_TakeNum.f ((numS n ++ listS l) ++ more) = some ((n : Int), (⟨(listB (lists l) ++ more.data.toList).toArray⟩ : ByteArray), 0) := by
    rw [takeNum_eq (by omega), takeNumS, hT]; rfl
  have hL : listL (listB (lists l) ++ more.data.toList) (l.length : Int) 5000 = (lists l, more.data.toList, 0) :=
    list_take (lists l) _ _ _ (by rw [lists_len]; exact Int.le_refl _) (by rw [lists_len]; omega) (lists_ok (by omega))
  have e3 : octet_TakeList.f (⟨(listB (lists l) ++ more.data.toList).toArray⟩ : ByteArray) (l.length : Int) 5000 = some (l, more, 0) := by
    rw [takeList_eq (by rw [mk_size, List.length_append, ← listS_dl, ← sz, ← sz]; omega) (by omega) (by decide)]
    show some (outLs (listL (listB (lists l) ++ more.data.toList) (l.length : Int) 5000)) = _
    rw [hL]
    unfold outLs
    rw [mks_lists]
  have e4 := ref_strings (l := l) (k := k + 1) (by omega) (by omega)
  rw [copyholdlaw01_OctetBack.j0, if_neg (by decide), bs (octet_Num_eq hn), bs e1, if_pos (by omega), if_pos (by rw [app_size]; omega), bs e2, bs e3, bs e4, if_pos rfl, if_pos rfl, if_pos rfl, if_pos rfl]
  have e5 : (more.toList != more.toList) = false := by simp
  rw [e5]
  exact back_j1 l cut hl k
theorem OctetBack : OctetBackSt := by
  intro n l more cut hn _ _ hc hb
  have hn := litu64 hn
  obtain ⟨n, rfl⟩ := natInt hn.1
  rw [sums_bulk] at hb
  refine ⟨6000 + 1048576, ?_⟩
  unfold copyholdlaw01_OctetBack.f
  rw [bs shown_eq, bs (ref_long (by omega) (by omega) (by omega))]
  by_cases h : ((l.length + sums l : Nat) : Int) > 5000
  · rw [if_pos h, copyholdlaw01_OctetBack.j0, if_pos rfl]
  · rw [if_neg h]
    by_cases h2 : (more.size : Int) > 1000
    · rw [decide_eq_true h2, copyholdlaw01_OctetBack.j0, if_pos rfl]
    · rw [decide_eq_false h2]
      exact back_j0 n l more cut (by omega) (by omega) (by omega) _ (by omega)
end Go.Proofs.Ytoenhajcjebmeaa.Pure
