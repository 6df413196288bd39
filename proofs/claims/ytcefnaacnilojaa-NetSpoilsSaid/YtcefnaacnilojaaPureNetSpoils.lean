/- NetSpoils, pure: a text that is spoilt twice by the same is as it was; spoilt by 0 it is, too. -/
import Derived.Test.YtcefnaacnilojaaStatNetSpoils
import Derived.Test.YtcefnaacnilojaaNetP
set_option linter.unusedVariables false
set_option linter.unusedSimpArgs false
namespace Go.Proofs.Ytcefnaacnilojaa.Pure
open Go.RowKit Go.Proofs.Ytcefnaacnilojaa.Q Go.Proofs.YtcefnaacnilojaaW.PrintWords Math

/-- One row, one byte of one text turned. -/
def spl (l : List ByteArray) (i a : Nat) (y : UInt8) (h : i < l.length) : List ByteArray := l.set i (putAt l[i] a (l[i].data.toList.getD a 0 ^^^ y))
theorem spl_len (l : List ByteArray) (i a : Nat) (y : UInt8) (h : i < l.length) : (spl l i a y h).length = l.length := by simp [spl]
theorem spl_at (l : List ByteArray) (i a : Nat) (y : UInt8) (h : i < l.length) : (spl l i a y h)[i]'(by rw [spl_len]; exact h) = putAt l[i] a (l[i].data.toList.getD a 0 ^^^ y) := by simp [spl]
theorem putAt_self (s : ByteArray) (a : Nat) (ha : a < s.size) : putAt s a (s.data.toList.getD a 0) = s := by
  apply inj; rw [putAt_dl]
  have : a < s.data.toList.length := by rw [← sz]; exact ha
  rw [List.getD_eq_getElem?_getD, List.getElem?_eq_getElem this]
  exact List.set_getElem_self this
theorem spl_twice (l : List ByteArray) (i a : Nat) (y : UInt8) (h : i < l.length) (ha : a < l[i].size) : spl (spl l i a y h) i a y (by rw [spl_len]; exact h) = l := by
  have e := spl_at l i a y h
  have hd : a < l[i].data.toList.length := by rw [← sz]; exact ha
  unfold spl at e ⊢
  rw [e, List.set_set]
  have : putAt (putAt l[i] a (l[i].data.toList.getD a 0 ^^^ y)) a ((putAt l[i] a (l[i].data.toList.getD a 0 ^^^ y)).data.toList.getD a 0 ^^^ y) = l[i] := by
    apply inj
    rw [putAt_dl, putAt_dl, List.set_set, List.getD_eq_getElem?_getD, List.getElem?_set_self hd]
    show l[i].data.toList.set a (l[i].data.toList.getD a 0 ^^^ y ^^^ y) = _
    rw [UInt8.xor_assoc, UInt8.xor_self, UInt8.xor_zero, List.getD_eq_getElem?_getD, List.getElem?_eq_getElem hd]
    exact List.set_getElem_self hd
  rw [this]; simp
theorem spl_zero (l : List ByteArray) (i a : Nat) (h : i < l.length) (ha : a < l[i].size) : spl l i a 0 h = l := by
  unfold spl; rw [UInt8.xor_zero, putAt_self _ _ ha]; simp
theorem spl_same (l : List ByteArray) (i a : Nat) (y : UInt8) (h : i < l.length) (ha : a < l[i].size) : spl l i a y h = l ↔ y = 0 := by
  constructor
  · intro e
    have e1 := spl_at l i a y h
    have e2 : (spl l i a y h)[i]'(by rw [spl_len]; exact h) = l[i] := by simp only [e]
    rw [e1] at e2
    have hd : a < l[i].data.toList.length := by rw [← sz]; exact ha
    have e3 := congrArg (fun t : ByteArray => t.data.toList.getD a 0) e2
    simp only [putAt_dl] at e3
    rw [List.getD_eq_getElem?_getD, List.getElem?_set_self hd] at e3
    have e4 : l[i].data.toList.getD a 0 ^^^ y = l[i].data.toList.getD a 0 := e3
    have e5 := congrArg (fun t => l[i].data.toList.getD a 0 ^^^ t) e4
    simp only [← UInt8.xor_assoc, UInt8.xor_self, UInt8.zero_xor] at e5
    exact e5
  · rintro rfl; exact spl_zero l i a h ha
theorem spoils_done (k : Nat) (l0 l1 A0 A1 : List ByteArray) (up : Bool) (i a : Int) (y : UInt8) (e e' : Bool) (n0 : l0.length ≤ 8796093022208) (n1 : l1.length ≤ 8796093022208) (m0 : A0.length = l0.length) (m1 : A1.length = l1.length) (hk : l0.length + l1.length < k)
    (hf : ∃ b, copyholdref19_Few.f k l0 l1 = some b)
    (S1 : net_Spoil.f l0 l1 up i a y.toNat = some (A0, A1, e)) (S2 : net_Spoil.f A0 A1 up i a y.toNat = some (l0, l1, e)) (S3 : net_Spoil.f l0 l1 up i a 0 = some (l0, l1, e'))
    (h1 : e = true → (decide (A0 = l0) && decide (A1 = l1)) = decide (y = 0)) (h0 : e = false → A0 = l0 ∧ A1 = l1) : copyholdlaw19_NetSpoils.f k l0 l1 up i a y.toNat = some true := by
  obtain ⟨b, hb⟩ := hf
  unfold copyholdlaw19_NetSpoils.f
  rw [bs shown_eq, bs hb]
  cases b
  · rw [if_neg (by simp)]
  · have r := same_eq l0 l1 l0 l1 rfl rfl n0 n1 k hk
    have r' : copyholdref19_Same.f k l0 l1 l0 l1 = some true := by rw [r]; simp
    have q := same_eq A0 A1 l0 l1 m0 m1 (by omega) (by omega) k (by omega)
    rw [if_pos rfl, bs S1]
    show ((net_Spoil.f A0 A1 up i a y.toNat).bind _) = some true
    rw [bs S2, bs S3, if_pos rfl]
    show (if (e == e) = true then _ else _) = some true
    rw [if_pos (by simp)]
    show ((copyholdref19_Same.f k l0 l1 l0 l1).bind _) = some true
    rw [bs r', if_pos rfl]
    show ((copyholdref19_Same.f k l0 l1 l0 l1).bind _) = some true
    rw [bs r', if_pos rfl]
    show (if e = true then ((copyholdref19_Same.f k A0 A1 l0 l1).bind _) else ((copyholdref19_Same.f k A0 A1 l0 l1).bind _)) = some true
    cases e
    · obtain ⟨rfl, rfl⟩ := h0 rfl
      rw [if_neg (by simp), bs r']; rfl
    · rw [if_pos rfl, bs q, h1 rfl]
      by_cases hy : y = 0
      · subst hy; rfl
      · have hz : ((y.toNat : Int) != 0) = true := by
          rw [bne_iff_ne]; intro h; apply hy; apply UInt8.toNat_inj.1; simpa using h
        rw [hz, decide_eq_false hy]; rfl
theorem NetSpoils : NetSpoilsSt := by
  unfold NetSpoilsSt
  intro l0 l1 up i a y hl0 hl1 hi ha hy
  have n0 : l0.length ≤ 8796093022208 := by omega
  have n1 : l1.length ≤ 8796093022208 := by omega
  have hy' := lit8 hy
  obtain ⟨y, rfl⟩ : ∃ u : UInt8, y = (u.toNat : Int) := ⟨UInt8.ofNat y.toNat, by rw [UInt8.toNat_ofNat']; omega⟩
  refine ⟨l0.length + l1.length + 10, ?_⟩
  have hf := few_some l0 l1 n0 n1 (l0.length + l1.length + 10) (by omega)
  have sp : ∀ (r0 r1 : List ByteArray) (z : UInt8), r0.length = l0.length → r1.length = l1.length → (∀ s ∈ r0, s.size ≤ 140737488351232) → (∀ s ∈ r1, s.size ≤ 140737488351232) → net_Spoil.f r0 r1 up i a z.toNat = some (spoilR r0 r1 up i a z.toNat) := fun r0 r1 z e0 e1 s0 s1 => by
    unfold net_Spoil.f
    rw [if_pos ⟨by omega, by omega, fun s hs => by have := s0 s hs; omega, fun s hs => by have := s1 s hs; omega, by omega, by have := z.toNat_lt; omega⟩]
  by_cases hc : 0 ≤ i ∧ i < ((if up = true then l0 else l1).length : Int) ∧ 0 ≤ a ∧ a < ((rdOf ByteArray.empty (if up = true then l0 else l1) i).size : Int)
  · obtain ⟨i, rfl⟩ := natInt hc.1
    obtain ⟨a, rfl⟩ := natInt hc.2.2.1
    have key : ∀ (l : List ByteArray) (z : UInt8) (h : i < l.length), (∀ s ∈ l, s.size ≤ 140737488351232) → ∀ s ∈ spl l i a z h, s.size ≤ 140737488351232 := fun l z h hs s hm => by
      rcases List.mem_or_eq_of_mem_set hm with h2 | h2
      · exact hs s h2
      · rw [h2, putAt_size]; exact hs _ (List.getElem_mem h)
    cases up
    · have h : i < l1.length := by have := hc.2.1; simpa using this
      have hr := rdo h
      have hsz : a < l1[i].size := by have := hc.2.2.2; rw [show (if false = true then l0 else l1) = l1 from rfl, hr] at this; omega
      have val : ∀ (r : List ByteArray) (z : UInt8) (hi : i < r.length), a < r[i].size → spoilR l0 r false (i : Int) (a : Int) (z.toNat : Int) = (l0, spl r i a z hi, true) := fun r z hi hs => by
        unfold spoilR
        have hr := rdo hi
        rw [if_pos ⟨by omega, by simp; omega, by omega, by rw [show (if false = true then l0 else r) = r from rfl, hr]; omega⟩]
        simp only [Bool.false_eq_true, if_false, Int.toNat_natCast, UInt8.ofNat_toNat, hr]; rfl
      have h' : i < (spl l1 i a y h).length := by rw [spl_len]; exact h
      have hs' : a < (spl l1 i a y h)[i].size := by rw [spl_at, putAt_size]; exact hsz
      refine spoils_done _ l0 l1 l0 (spl l1 i a y h) false _ _ y true true n0 n1 rfl (spl_len _ _ _ _ _) (by omega) hf ?_ ?_ ?_ (fun _ => ?_) (fun h => by cases h)
      · rw [sp l0 l1 y rfl rfl hl0.2 hl1.2, val l1 y h hsz]
      · rw [sp l0 _ y rfl (spl_len _ _ _ _ _) hl0.2 (key l1 y h hl1.2), val _ y h' hs', spl_twice l1 i a y h hsz]
      · have := sp l0 l1 0 rfl rfl hl0.2 hl1.2
        rw [val l1 0 h hsz, spl_zero l1 i a h hsz] at this
        exact this
      · rw [decide_eq_true rfl, Bool.true_and]; exact decide_eq_decide.2 (spl_same l1 i a y h hsz)
    · have h : i < l0.length := by have := hc.2.1; simpa using this
      have hr := rdo h
      have hsz : a < l0[i].size := by have := hc.2.2.2; rw [show (if true = true then l0 else l1) = l0 from rfl, hr] at this; omega
      have val : ∀ (r : List ByteArray) (z : UInt8) (hi : i < r.length), a < r[i].size → spoilR r l1 true (i : Int) (a : Int) (z.toNat : Int) = (spl r i a z hi, l1, true) := fun r z hi hs => by
        unfold spoilR
        have hr := rdo hi
        rw [if_pos ⟨by omega, by simp; omega, by omega, by rw [show (if true = true then r else l1) = r from rfl, hr]; omega⟩]
        simp only [if_true, Int.toNat_natCast, UInt8.ofNat_toNat, hr]; rfl
      have h' : i < (spl l0 i a y h).length := by rw [spl_len]; exact h
      have hs' : a < (spl l0 i a y h)[i].size := by rw [spl_at, putAt_size]; exact hsz
      refine spoils_done _ l0 l1 (spl l0 i a y h) l1 true _ _ y true true n0 n1 (spl_len _ _ _ _ _) rfl (by omega) hf ?_ ?_ ?_ (fun _ => ?_) (fun h => by cases h)
      · rw [sp l0 l1 y rfl rfl hl0.2 hl1.2, val l0 y h hsz]
      · rw [sp _ l1 y (spl_len _ _ _ _ _) rfl (key l0 y h hl0.2) hl1.2, val _ y h' hs', spl_twice l0 i a y h hsz]
      · have := sp l0 l1 0 rfl rfl hl0.2 hl1.2
        rw [val l0 0 h hsz, spl_zero l0 i a h hsz] at this
        exact this
      · rw [decide_eq_true (rfl : l1 = l1), Bool.and_true]; exact decide_eq_decide.2 (spl_same l0 i a y h hsz)
  · have none : ∀ z : Int, spoilR l0 l1 up i a z = (l0, l1, false) := fun z => by unfold spoilR; rw [if_neg hc]
    refine spoils_done _ l0 l1 l0 l1 up i a y false false n0 n1 rfl rfl (by omega) hf ?_ ?_ ?_ (fun h => by cases h) (fun _ => ⟨rfl, rfl⟩)
    · rw [sp l0 l1 y rfl rfl hl0.2 hl1.2, none]
    · rw [sp l0 l1 y rfl rfl hl0.2 hl1.2, none]
    · have := sp l0 l1 0 rfl rfl hl0.2 hl1.2
      rw [none] at this
      exact this
end Go.Proofs.Ytcefnaacnilojaa.Pure
