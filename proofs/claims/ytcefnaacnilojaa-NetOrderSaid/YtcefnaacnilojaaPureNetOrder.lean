/- NetOrder, pure: the texts of a row come one behind the other, and then none (written by net/gen_order.py). -/
import Derived.Test.YtcefnaacnilojaaStatNetOrder
import Derived.Test.YtcefnaacnilojaaNetP
set_option linter.unusedVariables false
set_option linter.unusedSimpArgs false
namespace Go.Proofs.Ytcefnaacnilojaa.Pure
open Go.RowKit Go.Proofs.Ytcefnaacnilojaa.Q Go.Proofs.YtcefnaacnilojaaW.PrintWords Math

theorem take_up (c : ByteArray) (r l1 : List ByteArray) : takeR (c :: r) l1 true 0 = (c, r, l1, true) := by simp [takeR, rdOf]
theorem take_up_nil (l1 : List ByteArray) : takeR [] l1 true 0 = (⟨#[]⟩, [], l1, false) := by simp [takeR]
theorem order_up (l l1 : List ByteArray) (h0 : l.length ≤ 100) (h1 : l1.length ≤ 100) (d : Nat) : ∀ (i k : Nat), i + d = l.length → d < k →
    copyholdlaw19_NetOrder.l0 k true true l (i : Int) l l1 (l.drop i) l1 = some true := by
  have T : ∀ x : List ByteArray, x.length ≤ 100 → net_Take.f x l1 true 0 = some (takeR x l1 true 0) := fun x hx => by unfold net_Take.f; rw [if_pos ⟨by omega, by omega⟩]
  induction d with
  | zero =>
    intro i k hi hk
    obtain ⟨k, rfl⟩ : ∃ m, k = m + 1 := ⟨k - 1, by omega⟩
    rw [copyholdlaw19_NetOrder.l0, if_neg (by omega), List.drop_eq_nil_of_le (by omega), bs (T [] (by simp)), take_up_nil, if_pos rfl]
    dsimp only
    rw [if_neg (by decide)]
    have m1 : net_Many.f [] l1 = some (l1.length : Int) := by unfold net_Many.f; rw [w64 (by simp only [List.length_nil]; omega) (by simp only [List.length_nil]; omega)]; exact congrArg some (by simp)
    have m2 : net_Many.f l l1 = some ((l.length : Int) + l1.length) := by unfold net_Many.f; refine (congrArg some (w64 (by omega) (by omega))).trans (congrArg some ?_); omega
    rw [bs m1, bs m2, w64 (by omega) (by omega)]
    exact congrArg some (by rw [beq_iff_eq]; omega)
  | succ d ih =>
    intro i k hi hk
    obtain ⟨k, rfl⟩ : ∃ m, k = m + 1 := ⟨k - 1, by omega⟩
    have hlt : i < l.length := by omega
    rw [copyholdlaw19_NetOrder.l0, if_pos (by omega), List.drop_eq_getElem_cons hlt, bs (T (l[i] :: l.drop (i + 1)) (by rw [List.length_cons, List.length_drop]; omega)), take_up]
    dsimp only
    rw [if_pos rfl, if_pos (by omega), rdo hlt, if_pos rfl, w64 (n := (i : Int) + 1) (by omega) (by omega), show ((i : Int) + 1) = ((i + 1 : Nat) : Int) from by omega]
    exact ih (i + 1) k (by omega) (by omega)
theorem take_dn (c : ByteArray) (r l1 : List ByteArray) : takeR l1 (c :: r) false 0 = (c, l1, r, true) := by simp [takeR, rdOf]
theorem take_dn_nil (l1 : List ByteArray) : takeR l1 [] false 0 = (⟨#[]⟩, l1, [], false) := by simp [takeR]
theorem order_dn (l l1 : List ByteArray) (h0 : l.length ≤ 100) (h1 : l1.length ≤ 100) (d : Nat) : ∀ (i k : Nat), i + d = l.length → d < k →
    copyholdlaw19_NetOrder.l0 k false true l (i : Int) l1 l l1 (l.drop i) = some true := by
  have T : ∀ x : List ByteArray, x.length ≤ 100 → net_Take.f l1 x false 0 = some (takeR l1 x false 0) := fun x hx => by unfold net_Take.f; rw [if_pos ⟨by omega, by omega⟩]
  induction d with
  | zero =>
    intro i k hi hk
    obtain ⟨k, rfl⟩ : ∃ m, k = m + 1 := ⟨k - 1, by omega⟩
    rw [copyholdlaw19_NetOrder.l0, if_neg (by omega), List.drop_eq_nil_of_le (by omega), bs (T [] (by simp)), take_dn_nil, if_pos rfl]
    dsimp only
    rw [if_neg (by decide)]
    have m1 : net_Many.f l1 [] = some (l1.length : Int) := by unfold net_Many.f; rw [w64 (by simp only [List.length_nil]; omega) (by simp only [List.length_nil]; omega)]; exact congrArg some (by simp)
    have m2 : net_Many.f l1 l = some ((l.length : Int) + l1.length) := by unfold net_Many.f; refine (congrArg some (w64 (by omega) (by omega))).trans (congrArg some ?_); omega
    rw [bs m1, bs m2, w64 (by omega) (by omega)]
    exact congrArg some (by rw [beq_iff_eq]; omega)
  | succ d ih =>
    intro i k hi hk
    obtain ⟨k, rfl⟩ : ∃ m, k = m + 1 := ⟨k - 1, by omega⟩
    have hlt : i < l.length := by omega
    rw [copyholdlaw19_NetOrder.l0, if_pos (by omega), List.drop_eq_getElem_cons hlt, bs (T (l[i] :: l.drop (i + 1)) (by rw [List.length_cons, List.length_drop]; omega)), take_dn]
    dsimp only
    rw [if_pos rfl, if_pos (by omega), rdo hlt, if_pos rfl, w64 (n := (i : Int) + 1) (by omega) (by omega), show ((i : Int) + 1) = ((i + 1 : Nat) : Int) from by omega]
    exact ih (i + 1) k (by omega) (by omega)
theorem NetOrder : NetOrderSt := by
  intro l0 l1 up h0 h1
  refine ⟨l0.length + l1.length + 10, ?_⟩
  obtain ⟨b, hb⟩ := few_some l0 l1 (by omega) (by omega) (l0.length + l1.length + 10) (by omega)
  have out : ∀ k, copyholdlaw19_NetOrder.j0 (k + 1) up true true l0 l1 = some true := fun k => by rw [copyholdlaw19_NetOrder.j0]; rfl
  unfold copyholdlaw19_NetOrder.f
  rw [bs shown_eq, bs hb]
  by_cases hc : b = true
  · rw [if_pos hc]
    by_cases g0 : (l0.length : Int) > 100
    · rw [if_pos g0]; exact out _
    · rw [if_neg g0]
      by_cases g1 : (l1.length : Int) > 100
      · rw [decide_eq_true g1]; exact out _
      · rw [decide_eq_false g1, copyholdlaw19_NetOrder.j0, if_neg (by decide)]
        cases up
        · have R : copyholdref19_Row.f l0 l1 false = some l1 := rfl
          rw [bs R]
          exact order_dn l1 l0 (by omega) (by omega) l1.length 0 _ (by omega) (by omega)
        · have R : copyholdref19_Row.f l0 l1 true = some l0 := rfl
          rw [bs R]
          exact order_up l0 l1 (by omega) (by omega) l0.length 0 _ (by omega) (by omega)
  · rw [if_neg hc]; exact out _
end Go.Proofs.Ytcefnaacnilojaa.Pure
