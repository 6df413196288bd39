/- What the printed functions of layer 2 and of its reference come to, in closed form. -/
import Derived.Test.YtiicahnbkdjhbaaSealB
import Derived.Test.YtiicahnbkdjhbaaQ1
import Derived.Test.YtiicahnbkdjhbaaQ2
namespace Go.Proofs.Ytiicahnbkdjhbaa
open Go.RowKit Go.Proofs.Ytiicahnbkdjhbaa.Q Go.Proofs.YtiicahnbkdjhbaaW.PrintWords Go.Proofs.YtiicahnbkdjhbaaW.PrintLast Math

theorem bt_data (s : ByteArray) (i : Nat) (h : i < s.size) : bt s (i : Int) = ((s.data.toList[i]'(by rw [← sz]; exact h)).toNat : Int) := by
  unfold bt
  rw [dif_pos (by simpa using h)]
  simp only [Int.toNat_natCast]
  rfl
theorem ref_l1 (s : ByteArray) (hs : s.size ≤ 140737488351232) (i : Nat) (hi : i < s.size) (d : Nat) : ∀ (j k c : Nat), j + d = 8 → d < k → c < 4294967296 →
    copyholdref02_More.l1 k (c : Int) s (i : Int) (j : Int) = copyholdref02_More.l0 (k - d - 1) ((tqsN d c : Nat) : Int) s ((i + 1 : Nat) : Int) := by
  induction d with
  | zero =>
    intro j k c hj hk hc
    obtain ⟨k, rfl⟩ : ∃ m, k = m + 1 := ⟨k - 1, by omega⟩
    simp only [copyholdref02_More.l1]
    rw [if_neg (by omega), w64 (by omega) (by omega)]
    rfl
  | succ d ih =>
    intro j k c hj hk hc
    obtain ⟨k, rfl⟩ : ∃ m, k = m + 1 := ⟨k - 1, by omega⟩
    simp only [copyholdref02_More.l1]
    rw [if_pos (by omega), w64 (by omega) (by omega), Int.tmod_eq_emod_of_nonneg (by omega), Int.tdiv_eq_ediv_of_nonneg (by omega)]
    rw [tqsN_succ, show k + 1 - (d + 1) - 1 = k - d - 1 from by omega]
    have e2 : ((c : Int) / 2 % 4294967296) = ((c / 2 : Nat) : Int) := by omega
    rw [e2]
    by_cases h1 : c % 2 = 1
    · rw [if_pos (by omega)]
      have e3 : Go.bits .xor .u32 ((c / 2 : Nat) : Int) 2197175160 = ((tqN c : Nat) : Int) := by
        rw [show (2197175160 : Int) = ((P32 : Nat) : Int) from rfl, u32_xor_nat _ _ (by omega) (by decide)]
        unfold tqN; rw [if_pos h1]
      rw [e3]
      exact ih (j + 1) k (tqN c) (by omega) (by omega) (tqN_lt hc)
    · rw [if_neg (by omega)]
      have e3 : c / 2 = tqN c := by unfold tqN; rw [if_neg h1]
      rw [e3]
      exact ih (j + 1) k (tqN c) (by omega) (by omega) (tqN_lt hc)
theorem ref_l0 (s : ByteArray) (hs : s.size ≤ 140737488351232) (d : Nat) : ∀ (i k c : Nat), i + d = s.size → 10 * d < k → c < 4294967296 →
    copyholdref02_More.l0 k (c : Int) s (i : Int) = some ((moresN c (s.data.toList.drop i) : Nat) : Int) := by
  induction d with
  | zero =>
    intro i k c hi hk hc
    obtain ⟨k, rfl⟩ : ∃ m, k = m + 1 := ⟨k - 1, by omega⟩
    simp only [copyholdref02_More.l0]
    rw [if_neg (by omega), List.drop_eq_nil_of_le (by rw [← sz]; omega)]
    rfl
  | succ d ih =>
    intro i k c hi hk hc
    obtain ⟨k, rfl⟩ : ∃ m, k = m + 1 := ⟨k - 1, by omega⟩
    simp only [copyholdref02_More.l0]
    have hlt : i < s.size := by omega
    have hl : i < s.data.toList.length := by rw [← sz]; omega
    rw [if_pos (by omega), if_pos (by omega), bt_data s i hlt]
    have hb := (s.data.toList[i]'hl).toNat_lt
    have e : Go.bits .xor .u32 (c : Int) (((s.data.toList[i]'hl).toNat : Int) % 4294967296) = ((c ^^^ (s.data.toList[i]'hl).toNat : Nat) : Int) := by
      rw [show (((s.data.toList[i]'hl).toNat : Int) % 4294967296) = (((s.data.toList[i]'hl).toNat : Nat) : Int) from by omega, u32_xor_nat _ _ hc (by omega)]
    have hh := ref_l1 s hs i hlt 8 0 k _ rfl (by omega) (Nat.xor_lt_two_pow (n := 32) hc (show (s.data.toList[i]'hl).toNat < 2 ^ 32 by omega))
    rw [show ((0 : Nat) : Int) = 0 from rfl] at hh
    rw [e, hh]
    rw [List.drop_eq_getElem_cons hl]
    exact ih (i + 1) (k - 8 - 1) _ (by omega) (by omega) (mbN_lt hc _)
theorem ref_More (s : ByteArray) (hs : s.size ≤ 140737488351232) (k c : Nat) (hk : 10 * s.size < k) (hc : c < 4294967296) :
    copyholdref02_More.f k (c : Int) s = some ((moresN c s.data.toList : Nat) : Int) := by
  have := ref_l0 s hs s.size 0 k c (by omega) hk hc
  exact this
theorem seal_More_eq (s : ByteArray) (hs : s.size ≤ 9223372036854775807) (c : Nat) (hc : c < 4294967296) : seal_More.f (c : Int) s = some ((moresN c s.data.toList : Nat) : Int) := by
  unfold seal_More.f
  rw [if_pos ⟨hs, by omega, by omega⟩, (mores_nat _ hc).1]

def sumN (s : ByteArray) : Nat := moresN 4294967295 s.data.toList ^^^ 4294967295
theorem sumN_lt (s : ByteArray) : sumN s < 4294967296 := Nat.xor_lt_two_pow (n := 32) (mores_nat s.data.toList (c := 4294967295) (by decide)).2 (by decide)
theorem seal_Sum_eq (s : ByteArray) (hs : s.size ≤ 9223372036854775807) : seal_Sum.f s = some ((sumN s : Nat) : Int) := by
  unfold seal_Sum.f
  have h := seal_More_eq s hs 4294967295 (by decide)
  have h2 := (mores_nat s.data.toList (c := 4294967295) (by decide)).2
  rw [show ((4294967295 : Nat) : Int) = 4294967295 from rfl] at h
  rw [h]
  simp only [Option.bind_some]
  have e : Go.bits .xor .u32 4294967295 ((moresN 4294967295 s.data.toList : Nat) : Int) = ((sumN s : Nat) : Int) := by
    have := u32_xor_nat 4294967295 (moresN 4294967295 s.data.toList) (by decide) h2
    rw [Nat.xor_comm] at this
    exact this
  rw [e]
theorem seal_More_ff (s : ByteArray) (hs : s.size ≤ 9223372036854775807) : seal_More.f 4294967295 s = some ((moresN 4294967295 s.data.toList : Nat) : Int) := seal_More_eq s hs 4294967295 (by decide)
theorem turned_sum (s : ByteArray) : Go.bits .xor .u32 4294967295 ((moresN 4294967295 s.data.toList : Nat) : Int) = ((sumN s : Nat) : Int) := by
  have h2 := (mores_nat s.data.toList (c := 4294967295) (by decide)).2
  have := u32_xor_nat 4294967295 (moresN 4294967295 s.data.toList) (by decide) h2
  rw [Nat.xor_comm] at this
  exact this
theorem moresN_append (c : Nat) (l m : List UInt8) : moresN c (l ++ m) = moresN (moresN c l) m := by simp [moresN]
theorem moresN_lt (l : List UInt8) {c : Nat} (h : c < 4294967296) : moresN c l < 4294967296 := (mores_nat l h).2
theorem ff_lt (l : List UInt8) : moresN 4294967295 l < 4294967296 := moresN_lt l (by decide)
theorem ref_Sum (s : ByteArray) (hs : s.size ≤ 140737488351232) (k : Nat) (hk : 10 * s.size < k) : copyholdref02_Sum.f k s = some ((sumN s : Nat) : Int) := by
  unfold copyholdref02_Sum.f
  have h := ref_More s hs k 4294967295 hk (by decide)
  have h2 := (mores_nat s.data.toList (c := 4294967295) (by decide)).2
  rw [show ((4294967295 : Nat) : Int) = 4294967295 from rfl] at h
  rw [h]
  simp only [Option.bind_some]
  have e : Go.bits .xor .u32 ((moresN 4294967295 s.data.toList : Nat) : Int) 4294967295 = ((sumN s : Nat) : Int) :=
    u32_xor_nat (moresN 4294967295 s.data.toList) 4294967295 h2 (by decide)
  rw [e]
def fourS (c : Nat) : ByteArray := strOfNums [(c : Int) % 256, (c : Int) / 256 % 256, (c : Int) / 65536 % 256, (c : Int) / 16777216 % 256]
theorem fourS_size (c : Nat) : (fourS c).size = 4 := by unfold fourS; rw [nums_size]; rfl
theorem seal_four_eq (c : Nat) : seal_four.f (c : Int) = some (fourS c) := rfl
theorem ref_four (c : Nat) (h : c < 4294967296) : copyholdref02_four.f (c : Int) = some (fourS c) := by
  unfold copyholdref02_four.f fourS
  rw [Int.tmod_eq_emod_of_nonneg (by omega), Int.tdiv_eq_ediv_of_nonneg (by omega), Int.tdiv_eq_ediv_of_nonneg (by omega), Int.tdiv_eq_ediv_of_nonneg (by omega)]
  congr 3
  · omega
  · congr 1
    · omega
    · congr 1
      · omega
      · congr 1; omega
theorem ofNat_inj {a b : Nat} (ha : a < 256) (hb : b < 256) (h : UInt8.ofNat a = UInt8.ofNat b) : a = b := by
  have h2 := congrArg UInt8.toNat h
  rw [UInt8.toNat_ofNat', UInt8.toNat_ofNat'] at h2
  omega
theorem fourS_inj {c d : Nat} (hc : c < 4294967296) (hd : d < 4294967296) (h : (fourS c).data.toList = (fourS d).data.toList) : c = d := by
  unfold fourS at h
  rw [nums_dl, nums_dl] at h
  simp only [List.map_cons, List.map_nil, List.cons.injEq, and_true] at h
  obtain ⟨h1, h2, h3, h4⟩ := h
  have h1 := ofNat_inj (by omega) (by omega) h1
  have h2 := ofNat_inj (by omega) (by omega) h2
  have h3 := ofNat_inj (by omega) (by omega) h3
  have h4 := ofNat_inj (by omega) (by omega) h4
  omega
def putS (s : ByteArray) : ByteArray := s ++ fourS (sumN s)
theorem putS_size (s : ByteArray) : (putS s).size = s.size + 4 := by unfold putS; rw [app_size, fourS_size]
theorem seal_Put_eq (s : ByteArray) (hs : s.size ≤ 9223372036854775803) : seal_Put.f s = some (putS s) := by
  unfold seal_Put.f
  rw [seal_Sum_eq s (by omega)]
  simp only [Option.bind_some]
  rw [seal_four_eq]
  simp only [Option.bind_some]
  rw [if_pos (by rw [fourS_size]; omega)]
  rfl
theorem ref_Put (s : ByteArray) (hs : s.size ≤ 140737488351232) (k : Nat) (hk : 10 * s.size < k) : copyholdref02_Put.f k s = some (putS s) := by
  unfold copyholdref02_Put.f
  rw [ref_Sum s hs k hk]
  simp only [Option.bind_some]
  rw [ref_four _ (sumN_lt s)]
  simp only [Option.bind_some]
  rw [if_pos (by rw [fourS_size]; omega)]
  rfl
def takeS (s : ByteArray) : ByteArray × Int :=
  if s.size < 4 then (⟨#[]⟩, 2)
  else if (fourS (sumN (s.extract 0 (s.size - 4)))).data.toList = (s.extract (s.size - 4) s.size).data.toList then (s.extract 0 (s.size - 4), 0)
  else (⟨#[]⟩, 4)
theorem ext0_size (s : ByteArray) (n : Nat) (h : n ≤ s.size) : (s.extract 0 n).size = n := by
  rw [sz, ext_, List.drop_zero, List.length_take, ← sz]; omega
theorem ext0_le (s : ByteArray) (n : Nat) : (s.extract 0 n).size ≤ s.size := by
  rw [sz, ext_, List.drop_zero, List.length_take, ← sz]; omega
theorem seal_Take_eq (s : ByteArray) (hs : s.size ≤ 9223372036854775807) : seal_Take.f s = some (takeS s) := by
  unfold seal_Take.f takeS
  by_cases h : s.size < 4
  · rw [if_pos h, if_pos (by rw [w64 (by omega) (by omega)]; omega)]
  · rw [if_neg h, w64 (by omega) (by omega), if_neg (by omega), if_pos (by omega), if_pos (by omega), show ((s.size : Int) - 4).toNat = s.size - 4 from by omega]
    rw [seal_Sum_eq _ (by have := ext0_le s (s.size - 4); omega)]
    simp only [Option.bind_some]
    rw [seal_four_eq]
    simp only [Option.bind_some]
    rw [tl, tl]
    by_cases h2 : (fourS (sumN (s.extract 0 (s.size - 4)))).data.toList = (s.extract (s.size - 4) s.size).data.toList
    · rw [if_pos h2, if_pos h2]
    · rw [if_neg h2, if_neg h2]
theorem ref_Take (s : ByteArray) (hs : s.size ≤ 140737488351232) (k : Nat) (hk : 10 * s.size < k) : copyholdref02_Take.f k s = some (takeS s) := by
  unfold copyholdref02_Take.f takeS
  by_cases h : s.size < 4
  · rw [if_pos h, if_pos (by omega)]
  · rw [if_neg h, w64 (by omega) (by omega), if_neg (by omega), if_pos (by omega), if_pos (by omega), show ((s.size : Int) - 4).toNat = s.size - 4 from by omega]
    have hle := ext0_le s (s.size - 4)
    rw [ref_Sum _ (by omega) k (by omega)]
    simp only [Option.bind_some]
    rw [ref_four _ (sumN_lt _)]
    simp only [Option.bind_some]
    rw [tl, tl]
    by_cases h2 : (fourS (sumN (s.extract 0 (s.size - 4)))).data.toList = (s.extract (s.size - 4) s.size).data.toList
    · rw [if_pos h2, if_pos h2]
    · rw [if_neg h2, if_neg h2]
theorem seal_Right_eq (s : ByteArray) (hs : s.size ≤ 9223372036854775807) : seal_Right.f s = some ((takeS s).2 == 0) := by
  unfold seal_Right.f
  rw [seal_Take_eq s hs]
  rfl
/-- What was put is taken. -/
theorem take_put (s : ByteArray) : takeS (putS s) = (s, 0) := by
  have e1 : (putS s).extract 0 ((putS s).size - 4) = s := by
    apply inj
    rw [ext_, putS_size, putS, app, List.drop_zero, show s.size + 4 - 4 = s.data.toList.length from by rw [← sz]; omega, List.take_left']
    rfl
  unfold takeS
  rw [if_neg (by rw [putS_size]; omega), e1, if_pos]
  rw [ext_, putS_size, List.take_of_length_le (by rw [putS, app, List.length_append, ← sz, ← sz, fourS_size]; omega), putS, app, show s.size + 4 - 4 = s.data.toList.length from by rw [← sz]; omega, List.drop_left']
  rfl
theorem shown_eq : copyholdlaw02_shown.f = some true := by
  unfold copyholdlaw02_shown.f
  rw [seal_Sum_eq _ (by decide)]
  simp only [Option.bind_some]
  rw [if_pos (by decide +kernel), seal_Put_eq _ (by decide)]
  simp only [Option.bind_some]
  rw [seal_Right_eq _ (by rw [putS_size]; decide), take_put]
  rfl
/-- Whoever is taken was put. -/
theorem put_take (s : ByteArray) (h : (takeS s).2 = 0) : putS (takeS s).1 = s := by
  unfold takeS at h ⊢
  by_cases h1 : s.size < 4
  · rw [if_pos h1] at h; cases h
  · rw [if_neg h1] at h ⊢
    by_cases h2 : (fourS (sumN (s.extract 0 (s.size - 4)))).data.toList = (s.extract (s.size - 4) s.size).data.toList
    · rw [if_pos h2]
      apply inj
      rw [putS, app, h2, ext_, ext_, List.drop_zero, show s.data.toList.take s.size = s.data.toList from List.take_of_length_le (by rw [← sz]; exact Nat.le_refl _)]
      exact List.take_append_drop _ _
    · rw [if_neg h2] at h; cases h
end Go.Proofs.Ytiicahnbkdjhbaa
