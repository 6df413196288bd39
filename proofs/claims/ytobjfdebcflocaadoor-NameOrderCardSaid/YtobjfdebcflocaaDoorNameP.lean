/- Layer 6, pure: the order of texts; which names are right; the example. -/
import Derived.Test.YtobjfdebcflocaaDoorNameE
import Derived.Test.YtobjfdebcflocaaDoorQ2
import Derived.Test.YtobjfdebcflocaaDoorQ2
import Derived.Test.YtobjfdebcflocaaDoorMath
import Derived.Lib.IndexLaws
set_option linter.unusedVariables false
set_option linter.unusedSimpArgs false
namespace Go.Proofs.YtobjfdebcflocaaDoor.Pure
open Go.RowKit Go.Proofs.YtobjfdebcflocaaDoor.Q Go.Proofs.YtobjfdebcflocaaDoorW.PrintWords Math

theorem u8_lt_iff (a b : UInt8) : a < b ↔ a.toNat < b.toNat := UInt8.lt_iff_toNat_lt
theorem u8_eq (a b : UInt8) : a = b ↔ a.toNat = b.toNat := ⟨fun h => h ▸ rfl, fun h => UInt8.toNat_inj.1 h⟩
theorem bl_irrefl : ∀ a : List UInt8, Op.bytesLess a a = false
  | [] => rfl
  | x :: a => by
    show (decide (x < x) || (x == x && Op.bytesLess a a)) = false
    rw [bl_irrefl a]
    simp [u8_lt_iff]
theorem bl_trans : ∀ a b c : List UInt8, Op.bytesLess a b = true → Op.bytesLess b c = true → Op.bytesLess a c = true
  | _, [], _, h, _ => by simp [Op.bytesLess] at h
  | _, _ :: _, [], _, h => by simp [Op.bytesLess] at h
  | [], _ :: _, _ :: _, _, _ => rfl
  | x :: a, y :: b, z :: c, h, k => by
    have h' : (decide (x < y) || (x == y && Op.bytesLess a b)) = true := h
    have k' : (decide (y < z) || (y == z && Op.bytesLess b c)) = true := k
    show (decide (x < z) || (x == z && Op.bytesLess a c)) = true
    simp only [Bool.or_eq_true, decide_eq_true_eq, Bool.and_eq_true, beq_iff_eq] at h' k' ⊢
    rcases h' with h' | ⟨rfl, h'⟩
    · rcases k' with k' | ⟨rfl, k'⟩
      · left; rw [u8_lt_iff] at *; omega
      · left; exact h'
    · rcases k' with k' | ⟨rfl, k'⟩
      · left; exact k'
      · right; exact ⟨rfl, bl_trans a b c h' k'⟩
theorem bl_tri : ∀ a b : List UInt8, Op.bytesLess a b = false → Op.bytesLess b a = false → a = b
  | [], [], _, _ => rfl
  | [], _ :: _, h, _ => by simp [Op.bytesLess] at h
  | _ :: _, [], _, h => by simp [Op.bytesLess] at h
  | x :: a, y :: b, h, k => by
    have h' : (decide (x < y) || (x == y && Op.bytesLess a b)) = false := h
    have k' : (decide (y < x) || (y == x && Op.bytesLess b a)) = false := k
    simp only [Bool.or_eq_false_iff, decide_eq_false_iff_not, Bool.and_eq_false_iff, u8_lt_iff] at h' k'
    have e : x = y := (u8_eq x y).2 (by omega)
    subst e
    rcases h'.2 with h2 | h2
    · simp at h2
    · rcases k'.2 with k2 | k2
      · simp at k2
      · rw [bl_tri a b h2 k2]
theorem bl_asym {a b : List UInt8} (h : Op.bytesLess a b = true) : Op.bytesLess b a = false := by
  cases k : Op.bytesLess b a
  · rfl
  · have := bl_trans a b a h k; rw [bl_irrefl] at this; cases this
theorem cb_lt : ∀ a b : List UInt8, Lib.compareBytes a b < 0 ↔ Op.bytesLess a b = true
  | [], [] => by simp [Lib.compareBytes, Op.bytesLess]
  | [], _ :: _ => by simp [Lib.compareBytes, Op.bytesLess]
  | _ :: _, [] => by simp [Lib.compareBytes, Op.bytesLess]
  | x :: a, y :: b => by
    show (if x < y then (-1 : Int) else if y < x then 1 else Lib.compareBytes a b) < 0 ↔ (decide (x < y) || (x == y && Op.bytesLess a b)) = true
    simp only [Bool.or_eq_true, decide_eq_true_eq, Bool.and_eq_true, beq_iff_eq]
    by_cases h : x < y
    · rw [if_pos h]; simp [h]
    · rw [if_neg h]
      by_cases k : y < x
      · rw [if_pos k]
        have : x ≠ y := by rintro rfl; exact h k
        simp [h, this]
      · rw [if_neg k, cb_lt a b]
        have e : x = y := (u8_eq x y).2 (by rw [u8_lt_iff] at h k; omega)
        simp [h, e]
theorem cb_eq : ∀ a b : List UInt8, Lib.compareBytes a b = 0 ↔ a = b
  | [], [] => by simp [Lib.compareBytes]
  | [], _ :: _ => by simp [Lib.compareBytes]
  | _ :: _, [] => by simp [Lib.compareBytes]
  | x :: a, y :: b => by
    show (if x < y then (-1 : Int) else if y < x then 1 else Lib.compareBytes a b) = 0 ↔ _
    by_cases h : x < y
    · rw [if_pos h]
      have : x ≠ y := by rintro rfl; rw [u8_lt_iff] at h; omega
      simp [this]
    · rw [if_neg h]
      by_cases k : y < x
      · rw [if_pos k]
        have : x ≠ y := by rintro rfl; exact h k
        simp [this]
      · rw [if_neg k, cb_eq a b]
        have e : x = y := (u8_eq x y).2 (by rw [u8_lt_iff] at h k; omega)
        simp [e]
theorem ib_mem : ∀ (l : List UInt8) (c : UInt8), 0 ≤ Lib.indexByte l c ↔ c ∈ l
  | [], c => by simp [Lib.indexByte]
  | b :: l, c => by
    show 0 ≤ (if b == c then (0 : Int) else if Lib.indexByte l c == -1 then -1 else Lib.indexByte l c + 1) ↔ _
    have ih := ib_mem l c
    have hge := Lib.indexByte_ge l c
    by_cases h : (b == c) = true
    · rw [if_pos h]; simp [beq_iff_eq.1 h]
    · rw [if_neg h]
      have h' : ¬ c = b := fun e => h (beq_iff_eq.2 e.symm)
      rw [List.mem_cons]
      by_cases k : (Lib.indexByte l c == -1) = true
      · rw [if_pos k]
        rw [beq_iff_eq.1 k] at ih
        constructor
        · omega
        · rintro (e | e)
          · exact absurd e h'
          · exact absurd (ih.2 e) (by omega)
      · rw [if_neg k]
        have : Lib.indexByte l c ≠ -1 := fun e => k (beq_iff_eq.2 e)
        constructor
        · intro _; right; exact ih.1 (by omega)
        · intro _; omega
theorem bt_nat (s : ByteArray) (i : Nat) (h : i < s.data.toList.length) : bt s (i : Int) = ((s.data.toList[i]'h).toNat : Int) := by
  have h' : i < s.size := by rw [sz]; exact h
  rw [← bt_at s (i : Int) (by simpa using h')]
  simp only [Int.toNat_natCast]
  congr 1
theorem shown_eq : copyholdlaw06_shown.f = some true := by decide +kernel
/-- A byte that no name bears. -/
def odd (b : UInt8) : Bool := b == 47 || b == 0
theorem check_l0 (s : ByteArray) (hs : s.size ≤ 32) : ∀ (n i k : Nat), i + n = s.size → n < k → copyholdref06_Check.l0 k s (i : Int) = some (if (s.data.toList.drop i).any odd then 10 else 0) := by
  intro n
  induction n with
  | zero =>
    intro i k hi hk; obtain ⟨k, rfl⟩ : ∃ j, k = j + 1 := ⟨k - 1, by omega⟩
    rw [copyholdref06_Check.l0, if_neg (by omega), List.drop_eq_nil_of_le (by rw [← sz]; omega)]; rfl
  | succ n ih =>
    intro i k hi hk; obtain ⟨k, rfl⟩ : ∃ j, k = j + 1 := ⟨k - 1, by omega⟩
    have h : i < s.data.toList.length := by rw [← sz]; omega
    rw [copyholdref06_Check.l0, if_pos (by omega), if_pos (by omega), bt_nat s i h, List.drop_eq_getElem_cons h, List.any_cons]
    by_cases e1 : s.data.toList[i] = 47
    · rw [e1, if_pos (by decide)]; rfl
    · rw [if_neg (fun e => e1 ((u8_eq _ _).2 (by have : (47 : UInt8).toNat = 47 := rfl; omega)))]
      by_cases e2 : s.data.toList[i] = 0
      · rw [e2, if_pos (by decide)]; rfl
      · rw [if_neg (fun e => e2 ((u8_eq _ _).2 (by have : (0 : UInt8).toNat = 0 := rfl; omega))), w64 (by omega) (by omega), show (i : Int) + 1 = ((i + 1 : Nat) : Int) by omega, ih (i + 1) k (by omega) (by omega)]
        have : odd s.data.toList[i] = false := by unfold odd; simp only [Bool.or_eq_false_iff, beq_eq_false_iff_ne]; exact ⟨e1, e2⟩
        rw [this, Bool.false_or]
theorem bad_eq (s : ByteArray) : badName s = (s.toList == [46] || s.toList == [46, 46] || s.toList == [] || decide (32 < s.size) || s.data.toList.any odd) := by
  have h : (decide (0 ≤ Lib.indexByte s.data.toList 47) || decide (0 ≤ Lib.indexByte s.data.toList 0)) = s.data.toList.any odd := by
    rw [Bool.eq_iff_iff]
    simp only [Bool.or_eq_true, decide_eq_true_eq, ib_mem, List.any_eq_true, odd, beq_iff_eq]
    constructor
    · rintro (h | h)
      · exact ⟨_, h, .inl rfl⟩
      · exact ⟨_, h, .inr rfl⟩
    · rintro ⟨x, h, rfl | rfl⟩
      · exact .inl h
      · exact .inr h
  unfold badName
  rw [← h, Bool.or_assoc]
theorem ref_check (s : ByteArray) (k : Nat) (hk : 40 ≤ k) : copyholdref06_Check.f k s = some (if badName s then 10 else 0) := by
  obtain ⟨k, rfl⟩ : ∃ j, k = j + 1 := ⟨k - 1, by omega⟩
  have J : copyholdref06_Check.j0 (k + 1) s true = some 10 := by rw [copyholdref06_Check.j0, if_pos rfl]
  unfold copyholdref06_Check.f
  rw [bad_eq]
  by_cases h1 : (s.size : Int) < 1
  · rw [if_pos h1, J]
    have e : s.toList = [] := by rw [tl]; apply List.eq_nil_of_length_eq_zero; rw [← sz]; omega
    rw [e]; simp
  · rw [if_neg h1]
    have e1 : (s.toList == []) = false := by
      rw [tl]; cases h : s.data.toList with
      | nil => have := sz s; rw [h, List.length_nil] at this; omega
      | cons _ _ => rfl
    by_cases h2 : (s.size : Int) > 32
    · have h2' : 32 < s.size := by omega
      rw [if_pos h2, J, decide_eq_true h2']; simp
    · have h2' : ¬ 32 < s.size := by omega
      rw [if_neg h2, decide_eq_false h2']
      by_cases h3 : s.toList = [46]
      · rw [if_pos h3, J, h3]; simp
      · rw [if_neg h3]
        have e3 : (s.toList == [46]) = false := by simpa using h3
        rw [copyholdref06_Check.j0, e1, e3]
        cases h4 : (s.toList == ([46, 46] : List UInt8)) with
        | true => rw [if_pos rfl]; simp
        | false =>
          rw [if_neg (by decide), show (0 : Int) = ((0 : Nat) : Int) from rfl, check_l0 s (by omega) s.size 0 k (by omega) (by omega)]
          simp
theorem name_check (s : ByteArray) : name_Check.f s = some (if badName s then 10 else 0) := rfl
theorem rdo {l : List ByteArray} {i : Nat} (h : i < l.length) : rdOf ByteArray.empty l (i : Int) = l[i] := by
  unfold rdOf; rw [Int.toNat_natCast]; simp [List.getD_eq_getElem?_getD, h]
theorem toLe {a b : ByteArray} : a.toList = b.toList ↔ a = b := ⟨fun h => inj (by rw [← tl, ← tl]; exact h), fun h => h ▸ rfl⟩
theorem strings_eq (a b : List ByteArray) (hl : a.length ≤ 8796093022208) (k : Nat) (hk : a.length < k) : copyholdref01_Strings.f k a b = some (decide (a = b)) := by
  unfold copyholdref01_Strings.f
  by_cases h : a.length = b.length
  · have go : ∀ (n i k : Nat), i + n = a.length → n < k → copyholdref01_Strings.l0 k a b (i : Int) = some (decide (a.drop i = b.drop i)) := by
      intro n
      induction n with
      | zero =>
        intro i k hi hk; obtain ⟨k, rfl⟩ : ∃ j, k = j + 1 := ⟨k - 1, by omega⟩
        rw [copyholdref01_Strings.l0, if_neg (by omega), List.drop_eq_nil_of_le (by omega), List.drop_eq_nil_of_le (by omega)]; rfl
      | succ n ih =>
        intro i k hi hk; obtain ⟨k, rfl⟩ : ∃ j, k = j + 1 := ⟨k - 1, by omega⟩
        have ha : i < a.length := by omega
        have hb : i < b.length := by omega
        rw [copyholdref01_Strings.l0, if_pos (by omega), if_pos (by omega), if_pos (by omega), rdo ha, rdo hb, List.drop_eq_getElem_cons ha, List.drop_eq_getElem_cons hb]
        by_cases e : a[i] = b[i]
        · rw [if_pos (toLe.2 e), w64 (by omega) (by omega), show (i : Int) + 1 = ((i + 1 : Nat) : Int) by omega, ih (i + 1) k (by omega) (by omega)]
          congr 1; exact decide_eq_decide.2 ⟨fun h => by rw [e, h], fun h => (List.cons.inj h).2⟩
        · rw [if_neg (fun h => e (toLe.1 h)), decide_eq_false (fun h => e (List.cons.inj h).1)]
    rw [if_pos (by omega), show (0 : Int) = ((0 : Nat) : Int) from rfl, go a.length 0 k (by omega) hk]; rfl
  · rw [if_neg (by omega), decide_eq_false (fun e => h (by rw [e]))]
end Go.Proofs.YtobjfdebcflocaaDoor.Pure
