/- OctetLays, pure: numbers' and texts' bytes, and folded numbers, are as the reference says. -/
import Derived.Test.YtoenhajcjebmeaaOctR
import Derived.Test.YtoenhajcjebmeaaStatOctetLays
namespace Go.Proofs.Ytoenhajcjebmeaa.Pure
open Go.RowKit Go.Proofs.Ytoenhajcjebmeaa.Q Go.Proofs.YtoenhajcjebmeaaW.PrintWords Go.Proofs.YtoenhajcjebmeaaW.PrintLast Math

theorem sums_bulk (l : List ByteArray) : (l.map fun y_ => (y_.size + 1)).sum = sums l + l.length := by
  induction l with
  | nil => rfl
  | cons a l ih => rw [sums_cons, List.map_cons, List.sum_cons, ih, List.length_cons]; omega
theorem lays_l0 (n : Nat) (l : List ByteArray) (m : Int) (hn : n < 18446744073709551616) (hm : -9223372036854775808 ≤ m ∧ m ≤ 9223372036854775807) (hl : l.length + sums l ≤ 5000) (d : Nat) : ∀ (i k : Nat), i + d = l.length → d + 6000 < k →
    copyholdlaw01_OctetLays.l0 k (n : Int) l m true (i : Int) = some true := by
  induction d with
  | zero =>
    intro i k hi hk
    obtain ⟨k, rfl⟩ : ∃ m, k = m + 1 := ⟨k - 1, by omega⟩
    have e1 := list_eq (l := l) (by rw [lensS_sums]; omega)
    have e2 := ref_list (l := l) (k := k) (by omega) (by omega) (by omega)
    rw [copyholdlaw01_OctetLays.l0, if_neg (by omega), if_pos rfl, bs (octet_Num_eq hn), bs (ref_num10 hn (by omega)), if_pos rfl, bs e1, bs e2, if_pos rfl, bs (fold_eq hm), bs (ref_fold hm), if_pos rfl, bs (unfold_eq hn), bs (ref_unfold hn)]
    simp
  | succ d ih =>
    intro i k hi hk
    obtain ⟨k, rfl⟩ : ∃ m, k = m + 1 := ⟨k - 1, by omega⟩
    have hlt : i < l.length := by omega
    have hmm := sums_mem (List.getElem_mem hlt)
    rw [copyholdlaw01_OctetLays.l0, if_pos (by omega), if_pos (by omega), rd_get hlt, bs (octet_Text_eq (by omega)), bs (ref_text (by omega) (by omega)), if_pos rfl, w64 (n := (i : Int) + 1) (by omega) (by omega)]
    exact ih (i + 1) k (by omega) (by omega)
theorem OctetLays : OctetLaysSt := by
  intro n l m hn _ hm hb
  have hn := litu64 hn
  have hm := lit64 hm
  obtain ⟨n, rfl⟩ := natInt hn.1
  rw [sums_bulk] at hb
  refine ⟨l.length + 7000 + 1048576, ?_⟩
  unfold copyholdlaw01_OctetLays.f
  rw [bs shown_eq, bs (ref_long (by omega) (by omega) (by omega))]
  by_cases h : ((l.length + sums l : Nat) : Int) > 5000
  · rw [if_pos h]
  · rw [if_neg h]
    exact lays_l0 n l m (by omega) hm (by omega) l.length 0 _ (by omega) (by omega)
end Go.Proofs.Ytoenhajcjebmeaa.Pure
