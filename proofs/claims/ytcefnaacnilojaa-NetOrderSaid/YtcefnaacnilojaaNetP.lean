/- Layer 19, pure: the example, few, the same. -/
import Derived.Test.YtcefnaacnilojaaQ3
import Derived.Test.YtcefnaacnilojaaMath
set_option linter.unusedVariables false
set_option linter.unusedSimpArgs false
namespace Go.Proofs.Ytcefnaacnilojaa.Pure
open Go.RowKit Go.Proofs.Ytcefnaacnilojaa.Q Go.Proofs.YtcefnaacnilojaaW.PrintWords Math

theorem shown_eq : copyholdlaw19_shown.f = some true := by decide +kernel
theorem rdo {l : List ByteArray} {i : Nat} (h : i < l.length) : rdOf ByteArray.empty l (i : Int) = l[i] := by
  unfold rdOf; rw [Int.toNat_natCast]; simp [List.getD_eq_getElem?_getD, h]
theorem toLe {a b : ByteArray} : a.toList = b.toList ↔ a = b := ⟨fun h => inj (by rw [← tl, ← tl]; exact h), fun h => h ▸ rfl⟩
theorem long_some (l : List ByteArray) (hl : l.length ≤ 9223372036854775806) (k : Nat) (hk : l.length < k) : ∃ v, copyholdref01_Long.f k l = some v := by
  have go : ∀ (n i k : Nat) (x : Int), i + n = l.length → n < k → ∃ v, copyholdref01_Long.l0 k l x (i : Int) = some v := by
    intro n
    induction n with
    | zero => intro i k x h hk; obtain ⟨k, rfl⟩ : ∃ j, k = j + 1 := ⟨k - 1, by omega⟩; exact ⟨x, by rw [copyholdref01_Long.l0, if_neg (by omega)]⟩
    | succ n ih =>
      intro i k x h hk; obtain ⟨k, rfl⟩ : ∃ j, k = j + 1 := ⟨k - 1, by omega⟩
      obtain ⟨v, hv⟩ := ih (i + 1) k (wrap64 (x + ((rdOf ByteArray.empty l i).size : Int))) (by omega) (by omega)
      exact ⟨v, by rw [copyholdref01_Long.l0, if_pos (by omega), if_pos (by omega), w64 (n := (i : Int) + 1) (by omega) (by omega), show (i : Int) + 1 = ((i + 1 : Nat) : Int) by omega]; exact hv⟩
  exact go l.length 0 k _ (by omega) hk
theorem few_some (l0 l1 : List ByteArray) (h0 : l0.length ≤ 8796093022208) (h1 : l1.length ≤ 8796093022208) (k : Nat) (hk : l0.length + l1.length < k) : ∃ b, copyholdref19_Few.f k l0 l1 = some b := by
  obtain ⟨v, hv⟩ := long_some l0 (by omega) k (by omega)
  obtain ⟨u, hu⟩ := long_some l1 (by omega) k (by omega)
  exact ⟨_, by unfold copyholdref19_Few.f; rw [bs hv, bs hu]⟩
theorem strings_eq (a b : List ByteArray) (h : a.length = b.length) (hl : a.length ≤ 8796093022208) (k : Nat) (hk : a.length < k) : copyholdref01_Strings.f k a b = some (decide (a = b)) := by
  have go : ∀ (n i k : Nat), i + n = a.length → n < k → copyholdref01_Strings.l0 k a b (i : Int) = some (decide (a.drop i = b.drop i)) := by
    intro n
    induction n with
    | zero =>
      intro i k hi hk; obtain ⟨k, rfl⟩ : ∃ j, k = j + 1 := ⟨k - 1, by omega⟩
      rw [copyholdref01_Strings.l0, if_neg (by omega), List.drop_eq_nil_of_le (by omega), List.drop_eq_nil_of_le (by omega)]; rfl
    | succ n ih =>
      intro i k hi hk; obtain ⟨k, rfl⟩ : ∃ j, k = j + 1 := ⟨k - 1, by omega⟩
      have ha : i < a.length := by omega
      have hb : i < b.length := by omega
      rw [copyholdref01_Strings.l0, if_pos (by omega), if_pos (by omega), if_pos (by omega), rdo ha, rdo hb, List.drop_eq_getElem_cons ha, List.drop_eq_getElem_cons hb]
      by_cases e : a[i] = b[i]
      · rw [if_pos (toLe.2 e), w64 (by omega) (by omega), show (i : Int) + 1 = ((i + 1 : Nat) : Int) by omega, ih (i + 1) k (by omega) (by omega)]
        congr 1; exact decide_eq_decide.2 ⟨fun h => by rw [e, h], fun h => (List.cons.inj h).2⟩
      · rw [if_neg (fun h => e (toLe.1 h)), decide_eq_false (fun h => e (List.cons.inj h).1)]
  unfold copyholdref01_Strings.f
  rw [if_pos (by omega), show (0 : Int) = ((0 : Nat) : Int) from rfl, go a.length 0 k (by omega) hk]; rfl
theorem same_eq (a0 a1 b0 b1 : List ByteArray) (h0 : a0.length = b0.length) (h1 : a1.length = b1.length) (l0 : a0.length ≤ 8796093022208) (l1 : a1.length ≤ 8796093022208) (k : Nat) (hk : a0.length + a1.length < k) : copyholdref19_Same.f k a0 a1 b0 b1 = some (decide (a0 = b0) && decide (a1 = b1)) := by
  unfold copyholdref19_Same.f
  rw [bs (strings_eq a0 b0 h0 l0 k (by omega)), bs (strings_eq a1 b1 h1 l1 k (by omega))]
  by_cases e : a0 = b0
  · rw [decide_eq_true e, if_pos rfl]; rfl
  · rw [decide_eq_false e, if_neg (by simp)]; rfl
end Go.Proofs.Ytcefnaacnilojaa.Pure
