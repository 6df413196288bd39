import Derived.Test.YtgnmhbkialgeaaaZWireTakes23x1
import Derived.Test.YtgnmhbkialgeaaaZWireTakes25
import Derived.Test.YtgnmhbkialgeaaaZWireTakes22
import Derived.Test.YtgnmhbkialgeaaaZWireTakes24x1
section
/- The machine's side of laws of this seat: Go functions as Lean functions, and the proof that a call of each comes to what its function says (written by a program of this session, px.py, that runs the kit's print). -/
namespace Go.Proofs.Ytgnmhbkialgeaaa.Q
open Go.RowKit Go.Proofs.YtgnmhbkialgeaaaW.PrintWords Go.Proofs.YtgnmhbkialgeaaaW.PrintLast Go.Proofs.YtgnmhbkialgeaaaW.PrintMore
attribute [local go_sem] max2_int min2_int max_two min_two max_three min_three max_four min_four   -- for this text's walks alone
attribute [local go_sem high] Go.Proofs.Ytgnmhbkialgeaaa.px_xor_u8 Go.Proofs.Ytgnmhbkialgeaaa.px_xor_u16 Go.Proofs.Ytgnmhbkialgeaaa.px_xor_u32 Go.Proofs.Ytgnmhbkialgeaaa.px_xor_u64
set_option linter.unusedVariables false
set_option linter.unusedSimpArgs false

/-! ### copyholdref15_Msg: function 19 -/
/-! ### copyholdref01_List: function 36 -/
end Go.Proofs.Ytgnmhbkialgeaaa.Q
end

section
/- The reference's Long and List in closed form. -/
set_option linter.unusedVariables false
set_option linter.unusedSimpArgs false
namespace Go.Proofs.Ytgnmhbkialgeaaa
open Go.RowKit Go.Proofs.Ytgnmhbkialgeaaa.Q Go.Proofs.YtgnmhbkialgeaaaW.PrintWords Go.Proofs.YtgnmhbkialgeaaaW.PrintLast Go.Proofs.YtgnmhbkialgeaaaW.PrintMore Math

end Go.Proofs.Ytgnmhbkialgeaaa
end

section
/- Layer 15: an answer is the same as itself; the lengths of its names. -/
set_option linter.unusedVariables false
set_option linter.unusedSimpArgs false
namespace Go.Proofs.Ytgnmhbkialgeaaa
open Go.RowKit Go.Proofs.Ytgnmhbkialgeaaa.Q Go.Proofs.YtgnmhbkialgeaaaW.PrintWords Go.Proofs.YtgnmhbkialgeaaaW.PrintLast Go.Proofs.YtgnmhbkialgeaaaW.PrintMore Math

theorem same_refl {a b c d e f g h i : Int} {x : ByteArray} {l : List ByteArray} (hl : l.length ≤ 9223372036854775806) {k : Nat} (hk : l.length < k) : copyholdref15_Same.f k a b c d e f g h i x l a b c d e f g h i x l = some true := by
  have h1 : copyholdref11_Same.f k f g h i x l f g h i x l = some true := by
    unfold copyholdref11_Same.f
    rw [bs (ref_strings hl hk), if_pos rfl, if_pos rfl, if_pos rfl, if_pos rfl, if_pos rfl, beq_self_eq_true]
  unfold copyholdref15_Same.f
  rw [bs h1, if_pos rfl, if_pos rfl, if_pos rfl, if_pos rfl, if_pos rfl, beq_self_eq_true]
end Go.Proofs.Ytgnmhbkialgeaaa
end

section
/- What the reference of layer 2 comes to, in closed form (at the seats of the layers above). -/
set_option linter.unusedVariables false
set_option linter.unusedSimpArgs false
namespace Go.Proofs.Ytgnmhbkialgeaaa
open Go.RowKit Go.Proofs.Ytgnmhbkialgeaaa.Q Go.Proofs.YtgnmhbkialgeaaaW.PrintWords Go.Proofs.YtgnmhbkialgeaaaW.PrintLast Math

theorem bt_data (s : ByteArray) (i : Nat) (h : i < s.size) : bt s (i : Int) = ((s.data.toList[i]'(by rw [← sz]; exact h)).toNat : Int) := by
  unfold bt
  rw [dif_pos (by simpa using h)]
  simp only [Int.toNat_natCast]
  rfl
theorem ref_l1 (s : ByteArray) (hs : s.size ≤ 140737488351232) (i : Nat) (hi : i < s.size) (d : Nat) : ∀ (j k c : Nat), j + d = 8 → d < k → c < 4294967296 →
    copyholdref02_More.l1 k (c : Int) s (i : Int) (j : Int) = copyholdref02_More.l0 (k - d - 1) ((tqsN d c : Nat) : Int) s ((i + 1 : Nat) : Int) := by
  induction d with
  | zero =>
    intro j k c hj hk hc
    obtain ⟨k, rfl⟩ : ∃ m, k = m + 1 := ⟨k - 1, by omega⟩
    simp only [copyholdref02_More.l1]
    rw [if_neg (by omega), w64 (by omega) (by omega)]
    rfl
  | succ d ih =>
    intro j k c hj hk hc
    obtain ⟨k, rfl⟩ : ∃ m, k = m + 1 := ⟨k - 1, by omega⟩
    simp only [copyholdref02_More.l1]
    rw [if_pos (by omega), w64 (by omega) (by omega), Int.tmod_eq_emod_of_nonneg (by omega), Int.tdiv_eq_ediv_of_nonneg (by omega)]
    rw [tqsN_succ, show k + 1 - (d + 1) - 1 = k - d - 1 from by omega]
    have e2 : ((c : Int) / 2 % 4294967296) = ((c / 2 : Nat) : Int) := by omega
    rw [e2]
    by_cases h1 : c % 2 = 1
    · rw [if_pos (by omega)]
      have e3 : Go.bits .xor .u32 ((c / 2 : Nat) : Int) 2197175160 = ((tqN c : Nat) : Int) := by
        rw [show (2197175160 : Int) = ((P32 : Nat) : Int) from rfl, u32_xor_nat _ _ (by omega) (by decide)]
        unfold tqN; rw [if_pos h1]
      rw [e3]
      exact ih (j + 1) k (tqN c) (by omega) (by omega) (tqN_lt hc)
    · rw [if_neg (by omega)]
      have e3 : c / 2 = tqN c := by unfold tqN; rw [if_neg h1]
      rw [e3]
      exact ih (j + 1) k (tqN c) (by omega) (by omega) (tqN_lt hc)
theorem ref_l0 (s : ByteArray) (hs : s.size ≤ 140737488351232) (d : Nat) : ∀ (i k c : Nat), i + d = s.size → 10 * d < k → c < 4294967296 →
    copyholdref02_More.l0 k (c : Int) s (i : Int) = some ((moresN c (s.data.toList.drop i) : Nat) : Int) := by
  induction d with
  | zero =>
    intro i k c hi hk hc
    obtain ⟨k, rfl⟩ : ∃ m, k = m + 1 := ⟨k - 1, by omega⟩
    simp only [copyholdref02_More.l0]
    rw [if_neg (by omega), List.drop_eq_nil_of_le (by rw [← sz]; omega)]
    rfl
  | succ d ih =>
    intro i k c hi hk hc
    obtain ⟨k, rfl⟩ : ∃ m, k = m + 1 := ⟨k - 1, by omega⟩
    simp only [copyholdref02_More.l0]
    have hlt : i < s.size := by omega
    have hl : i < s.data.toList.length := by rw [← sz]; omega
    rw [if_pos (by omega), if_pos (by omega), bt_data s i hlt]
    have hb := (s.data.toList[i]'hl).toNat_lt
    have e : Go.bits .xor .u32 (c : Int) (((s.data.toList[i]'hl).toNat : Int) % 4294967296) = ((c ^^^ (s.data.toList[i]'hl).toNat : Nat) : Int) := by
      rw [show (((s.data.toList[i]'hl).toNat : Int) % 4294967296) = (((s.data.toList[i]'hl).toNat : Nat) : Int) from by omega, u32_xor_nat _ _ hc (by omega)]
    have hh := ref_l1 s hs i hlt 8 0 k _ rfl (by omega) (Nat.xor_lt_two_pow (n := 32) hc (show (s.data.toList[i]'hl).toNat < 2 ^ 32 by omega))
    rw [show ((0 : Nat) : Int) = 0 from rfl] at hh
    rw [e, hh]
    rw [List.drop_eq_getElem_cons hl]
    exact ih (i + 1) (k - 8 - 1) _ (by omega) (by omega) (mbN_lt hc _)
theorem ref_More (s : ByteArray) (hs : s.size ≤ 140737488351232) (k c : Nat) (hk : 10 * s.size < k) (hc : c < 4294967296) :
    copyholdref02_More.f k (c : Int) s = some ((moresN c s.data.toList : Nat) : Int) := by
  have := ref_l0 s hs s.size 0 k c (by omega) hk hc
  exact this
theorem ref_Sum (s : ByteArray) (hs : s.size ≤ 140737488351232) (k : Nat) (hk : 10 * s.size < k) : copyholdref02_Sum.f k s = some ((sumN s : Nat) : Int) := by
  unfold copyholdref02_Sum.f
  have h := ref_More s hs k 4294967295 hk (by decide)
  have h2 := (mores_nat s.data.toList (c := 4294967295) (by decide)).2
  rw [show ((4294967295 : Nat) : Int) = 4294967295 from rfl] at h
  rw [h]
  simp only [Option.bind_some]
  have e : Go.bits .xor .u32 ((moresN 4294967295 s.data.toList : Nat) : Int) 4294967295 = ((sumN s : Nat) : Int) :=
    u32_xor_nat (moresN 4294967295 s.data.toList) 4294967295 h2 (by decide)
  rw [e]
theorem ref_four (c : Nat) (h : c < 4294967296) : copyholdref02_four.f (c : Int) = some (fourS c) := by
  unfold copyholdref02_four.f fourS
  rw [Int.tmod_eq_emod_of_nonneg (by omega), Int.tdiv_eq_ediv_of_nonneg (by omega), Int.tdiv_eq_ediv_of_nonneg (by omega), Int.tdiv_eq_ediv_of_nonneg (by omega)]
  congr 3
  · omega
  · congr 1
    · omega
    · congr 1
      · omega
      · congr 1; omega
theorem ref_Take (s : ByteArray) (hs : s.size ≤ 140737488351232) (k : Nat) (hk : 10 * s.size < k) : copyholdref02_Take.f k s = some (takeS s) := by
  unfold copyholdref02_Take.f takeS
  by_cases h : s.size < 4
  · rw [if_pos h, if_pos (by omega)]
  · rw [if_neg h, w64 (by omega) (by omega), if_neg (by omega), if_pos (by omega), if_pos (by omega), show ((s.size : Int) - 4).toNat = s.size - 4 from by omega]
    have hle := ext0_le s (s.size - 4)
    rw [ref_Sum _ (by omega) k (by omega)]
    simp only [Option.bind_some]
    rw [ref_four _ (sumN_lt _)]
    simp only [Option.bind_some]
    rw [tl, tl]
    by_cases h2 : (fourS (sumN (s.extract 0 (s.size - 4)))).data.toList = (s.extract (s.size - 4) s.size).data.toList
    · rw [if_pos h2, if_pos h2]
    · rw [if_neg h2, if_neg h2]
end Go.Proofs.Ytgnmhbkialgeaaa
end

section
/- Layer 15: the reference's TakeCall, TakeMsg and TakeRsp come to the same as the program's. -/
set_option linter.unusedVariables false
set_option linter.unusedSimpArgs false
namespace Go.Proofs.Ytgnmhbkialgeaaa
open Go.RowKit Go.Proofs.Ytgnmhbkialgeaaa.Q Go.Proofs.YtgnmhbkialgeaaaW.PrintWords Go.Proofs.YtgnmhbkialgeaaaW.PrintLast Go.Proofs.YtgnmhbkialgeaaaW.PrintMore Math

theorem ref_whole {s : ByteArray} (hs : s.size ≤ 9223372036854775807) {k : Nat} (hk : 42 ≤ k) : copyholdref07_Whole.f k s = some ((numR s.data.toList 0).1, ⟨(numR s.data.toList 0).2.1.toArray⟩, (numR s.data.toList 0).2.2) := by
  unfold copyholdref07_Whole.f
  rw [bs (ref_takeNum hs hk)]
  have h : copyholdref01_Unfold.f (takeNumS s).1 = some (unfoldN (takeN 0 0 s.data.toList).1) := ref_unfold (takeN0_lt s.data.toList)
  rw [bs h, numR, if_pos rfl]
  rfl
theorem numsR_stay {n : Nat} {s : List UInt8} (h : (numsR n s 0).2.2 ≠ 0) : ∀ d, (numsR (n + d) s 0).2.2 = (numsR n s 0).2.2
  | 0 => rfl
  | d + 1 => by
    have ih := numsR_stay h d
    show (numR (numsR (n + d) s 0).2.1 (numsR (n + d) s 0).2.2).2.2 = _
    rw [numR_of (by rw [ih]; exact h), ih]
theorem ref_nums_l0 (s : ByteArray) (hs : s.size ≤ 8000000000000) (n : Nat) (hn : n ≤ 1000) (d : Nat) : ∀ (i k : Nat), i + d = n → d + 42 < k → (numsR i s.data.toList 0).2.2 = 0 →
    copyholdref15_numbers.l0 k ⟨(numsR i s.data.toList 0).2.1.toArray⟩ (n : Int) (numsR i s.data.toList 0).1 (i : Int) =
      some (if (numsR n s.data.toList 0).2.2 = 0 then ((numsR n s.data.toList 0).1, ⟨(numsR n s.data.toList 0).2.1.toArray⟩, 0) else ([], ⟨#[]⟩, (numsR n s.data.toList 0).2.2)) := by
  induction d with
  | zero =>
    intro i k hi hk he
    obtain ⟨k, rfl⟩ : ∃ m, k = m + 1 := ⟨k - 1, by omega⟩
    have hin : i = n := by omega
    subst hin
    rw [copyholdref15_numbers.l0, if_neg (by omega), if_pos he]
  | succ d ih =>
    intro i k hi hk he
    obtain ⟨k, rfl⟩ : ∃ m, k = m + 1 := ⟨k - 1, by omega⟩
    have hle := numsR_le i s.data.toList 0
    have hsz : (⟨(numsR i s.data.toList 0).2.1.toArray⟩ : ByteArray).size ≤ 9223372036854775807 := by rw [show (⟨(numsR i s.data.toList 0).2.1.toArray⟩ : ByteArray).size = (numsR i s.data.toList 0).2.1.length from rfl]; rw [← sz] at hle; omega
    rw [copyholdref15_numbers.l0, if_pos (by omega), bs (ref_whole hsz (by omega))]
    have e1 : numsR (i + 1) s.data.toList 0 = ((numsR i s.data.toList 0).1 ++ [(numR (numsR i s.data.toList 0).2.1 0).1], (numR (numsR i s.data.toList 0).2.1 0).2) := by
      rw [numsR, he]
    have el : (⟨(numsR i s.data.toList 0).2.1.toArray⟩ : ByteArray).data.toList = (numsR i s.data.toList 0).2.1 := rfl
    simp only [el]
    by_cases hz : (numR (numsR i s.data.toList 0).2.1 0).2.2 = 0
    · have hl := numsR_len i s.data.toList 0
      rw [if_pos hz, if_pos (by rw [hl]; omega), w64 (n := (i : Int) + 1) (by omega) (by omega), show ((i : Int) + 1) = ((i + 1 : Nat) : Int) from by omega]
      have := ih (i + 1) k (by omega) (by omega) (by rw [e1]; exact hz)
      rw [e1] at this
      exact this
    · have hst := numsR_stay (n := i + 1) (s := s.data.toList) (by rw [e1]; exact hz) d
      rw [show i + 1 + d = n from by omega] at hst
      have h2 : (numsR (i + 1) s.data.toList 0).2.2 = (numR (numsR i s.data.toList 0).2.1 0).2.2 := by rw [e1]
      rw [if_neg hz, if_neg (by rw [hst, h2]; exact hz), hst, h2]
theorem ref_numbers {s : ByteArray} (hs : s.size ≤ 8000000000000) {n : Nat} (hn : n ≤ 1000) {k : Nat} (hk : n + 42 < k) :
    copyholdref15_numbers.f k s (n : Int) = some (if (numsR n s.data.toList 0).2.2 = 0 then ((numsR n s.data.toList 0).1, ⟨(numsR n s.data.toList 0).2.1.toArray⟩, 0) else ([], ⟨#[]⟩, (numsR n s.data.toList 0).2.2)) := by
  unfold copyholdref15_numbers.f
  have := ref_nums_l0 s hs n hn n 0 k (by omega) hk rfl
  rw [show (⟨(numsR 0 s.data.toList 0).2.1.toArray⟩ : ByteArray) = s from ba_eta s] at this
  exact this
theorem ref_text4096 {l : List UInt8} (hs : l.length ≤ 8000000000000) {k : Nat} (hk : 42 ≤ k) :
    copyholdref01_TakeText.f k ⟨l.toArray⟩ 4096 = some (⟨(textR l 0).1.toArray⟩, ⟨(textR l 0).2.1.toArray⟩, (textR l 0).2.2) := by
  rw [ref_takeText (by rw [arr_sz]; omega) (by decide) hk, textR, if_pos rfl]
  rfl
theorem ref_list256 {l : List UInt8} (hs : l.length ≤ 8000000000000) {k : Nat} (hk : 50 + l.length ≤ k) :
    copyholdref01_TakeList.f k ⟨l.toArray⟩ 256 32 = some (mks (textsR l 0).1, ⟨(textsR l 0).2.1.toArray⟩, (textsR l 0).2.2) := by
  rw [ref_takeList (by rw [arr_sz]; omega) (by decide) (by decide) (by rw [arr_sz]; omega), textsR, if_pos rfl]
  rfl
theorem callR_of {l r : List UInt8} {ns : List Int} {e : Int} (hp : numsR 5 l 0 = (ns, r, e)) :
    callR l 0 = ((ns, (textR r e).1, (textR (textR r e).2.1 (textR r e).2.2).1, (textR (textR (textR r e).2.1 (textR r e).2.2).2.1 (textR (textR r e).2.1 (textR r e).2.2).2.2).1), (textR (textR (textR r e).2.1 (textR r e).2.2).2.1 (textR (textR r e).2.1 (textR r e).2.2).2.2).2) := by
  simp only [callR, hp]
theorem tcT_no {l : List UInt8} {e : Int} (h : (callR l 0).2.2 = e) (he : e ≠ 0) : tcT ⟨l.toArray⟩ = (0, 0, 0, 0, 0, ⟨#[]⟩, ⟨#[]⟩, ⟨#[]⟩, ⟨#[]⟩, e) := by
  have : tcR l = (([], [], [], []), [], e) := by rw [tcR, h, if_neg he]
  rw [tcT, show (⟨l.toArray⟩ : ByteArray).data.toList = l from rfl, this]
  rfl
theorem tcT_yes {l r x y z : List UInt8} {ns : List Int} (h : callR l 0 = ((ns, x, y, z), r, 0)) : tcT ⟨l.toArray⟩ = (ns.getD 0 0, ns.getD 1 0, ns.getD 2 0, ns.getD 3 0, ns.getD 4 0, ⟨x.toArray⟩, ⟨y.toArray⟩, ⟨z.toArray⟩, ⟨r.toArray⟩, 0) := by
  have : tcR l = ((ns, x, y, z), r, 0) := by rw [tcR, h, if_pos rfl]
  rw [tcT, show (⟨l.toArray⟩ : ByteArray).data.toList = l from rfl, this]
theorem ref_takeCall {l : List UInt8} (hs : l.length ≤ 8000000000000) {k : Nat} (hk : 100 ≤ k) : copyholdref15_TakeCall.f k ⟨l.toArray⟩ = some (tcT ⟨l.toArray⟩) := by
  have hn := ref_numbers (s := ⟨l.toArray⟩) (by rw [arr_sz]; omega) (n := 5) (by omega) (k := k) (by omega)
  rw [show ((5 : Nat) : Int) = 5 from rfl, show (⟨l.toArray⟩ : ByteArray).data.toList = l from rfl] at hn
  have h5 := numsR_len 5 l 0
  have hle := numsR_le 5 l 0
  obtain ⟨ns, r, e, hp⟩ : ∃ ns r e, numsR 5 l 0 = (ns, r, e) := ⟨_, _, _, rfl⟩
  have hC := callR_of hp
  rw [hp] at hn h5 hle
  unfold copyholdref15_TakeCall.f
  rw [bs hn]
  dsimp only at *
  by_cases he : e = 0
  · subst he
    have hx := textR_le r 0
    have hT := ref_text4096 (l := r) (k := k) (by omega) (by omega)
    obtain ⟨x, r1, e, hp⟩ : ∃ x r1 e, textR r 0 = (x, r1, e) := ⟨_, _, _, rfl⟩
    rw [hp] at hx hT
    simp only [hp] at hC
    simp only [if_true]
    rw [bs hT]
    dsimp only at *
    by_cases he : e = 0
    · subst he
      have hy := textR_le r1 0
      have hT := ref_text4096 (l := r1) (k := k) (by omega) (by omega)
      obtain ⟨y, r2, e, hp⟩ : ∃ y r2 e, textR r1 0 = (y, r2, e) := ⟨_, _, _, rfl⟩
      rw [hp] at hy hT
      simp only [hp] at hC
      simp only [if_true]
      rw [bs hT]
      dsimp only at *
      by_cases he : e = 0
      · subst he
        have hT := ref_text4096 (l := r2) (k := k) (by omega) (by omega)
        obtain ⟨z, r3, e, hp⟩ : ∃ z r3 e, textR r2 0 = (z, r3, e) := ⟨_, _, _, rfl⟩
        rw [hp] at hT
        simp only [hp] at hC
        simp only [if_true]
        rw [bs hT]
        dsimp only at *
        by_cases he : e = 0
        · subst he
          rw [tcT_yes hC, if_pos rfl, if_pos (by omega), if_pos (by omega), if_pos (by omega), if_pos (by omega), if_pos (by omega)]
          rfl
        · rw [if_neg he, tcT_no (by rw [hC]) he]
      · rw [if_neg he, tcT_no (e := e) (by rw [hC, textR_of he]) he]
    · rw [if_neg he, tcT_no (e := e) (by rw [hC, textR_of he, textR_of he]) he]
  · simp only [if_neg he]
    rw [tcT_no (e := e) (by rw [hC, textR_of he, textR_of he, textR_of he]) he]
theorem ref_begun_stay (letter : UInt8) {s : ByteArray} (hs : s.size ≤ 8000000000) {k : Nat} (hk : 10 * s.size < k) {t : List UInt8} {e0 : Int} (ht : takeS s = (⟨t.toArray⟩, e0)) (h : e0 ≠ 0 ∨ (e0 = 0 ∧ (t = [] ∨ ∃ c r, t = c :: r ∧ c ≠ letter))) (F : List UInt8 → List UInt8 × Int) :
    copyholdref15_begun.f k s (letter.toNat : Int) = some (⟨#[]⟩, openE letter F s) := by
  obtain ⟨h1, h2⟩ := openE_stay (F := F) ht h
  unfold copyholdref15_begun.f
  rw [bs (ref_Take s (by omega) k hk), ht]
  rcases h2 with ⟨g1, g2⟩ | ⟨g1, g2, g3⟩
  · dsimp only
    rw [if_neg g1, g2]
  · dsimp only
    rw [if_pos g1, g2]
    rcases g3 with rfl | ⟨c, r, rfl, hc⟩
    · rw [if_pos (by rw [arr_sz]; decide)]
    · have hb : bt ⟨(c :: r).toArray⟩ 0 = (c.toNat : Int) := rfl
      rw [if_neg (by rw [arr_sz, List.length_cons]; omega), if_pos (by rw [arr_sz, List.length_cons]; omega), hb, if_neg (fun e => hc (UInt8.toNat_inj.1 (by omega)))]
theorem ref_begun_go (letter : UInt8) {s : ByteArray} (hs : s.size ≤ 8000000000) {k : Nat} (hk : 10 * s.size < k) {r : List UInt8} (ht : takeS s = (⟨(letter :: r).toArray⟩, 0)) :
    copyholdref15_begun.f k s (letter.toNat : Int) = some (⟨r.toArray⟩, 0) := by
  unfold copyholdref15_begun.f
  rw [bs (ref_Take s (by omega) k hk), ht]
  dsimp only
  have hb : bt ⟨(letter :: r).toArray⟩ 0 = (letter.toNat : Int) := rfl
  rw [if_pos rfl, if_neg (by rw [arr_sz, List.length_cons]; omega), if_pos (by rw [arr_sz, List.length_cons]; omega), hb, if_pos rfl, if_pos (by rw [arr_sz, List.length_cons]; omega)]
  refine congrArg (fun x => some (x, (0 : Int))) (inj ?_)
  rw [ext_, arr_sz]
  simp
theorem ref_takeMsg {s : ByteArray} (hs : s.size ≤ 8000000000) {k : Nat} (hk : 10 * s.size + 100 < k) : copyholdref15_TakeMsg.f k s = some (tmT s) := by
  unfold copyholdref15_TakeMsg.f
  rcases takeS_cases s 109 with ⟨t, e0, ht, hc⟩ | ⟨r, ht⟩
  · have hb := ref_begun_stay 109 hs (k := k) (by omega) ht hc (fun r => (msgR r 0).2)
    have h1 := (openE_stay (F := fun r => (msgR r 0).2) ht hc).1
    rw [show ((109 : UInt8).toNat : Int) = 109 from rfl] at hb
    rw [bs hb]
    dsimp only
    rw [if_neg h1, tmT, tmP, if_neg (show ¬ tmE s = 0 from h1)]
    rfl
  · have hb := ref_begun_go 109 hs (k := k) (by omega) ht
    rw [show ((109 : UInt8).toNat : Int) = 109 from rfl] at hb
    have hr : r.length + 1 ≤ s.size := by
      have := takeS_size s
      rw [ht, arr_sz, List.length_cons] at this
      exact this
    rw [bs hb]
    dsimp only
    rw [if_pos rfl]
    have hn := ref_numbers (s := ⟨r.toArray⟩) (by rw [arr_sz]; omega) (n := 6) (by omega) (k := k) (by omega)
    rw [show ((6 : Nat) : Int) = 6 from rfl, show (⟨r.toArray⟩ : ByteArray).data.toList = r from rfl] at hn
    rw [bs hn]
    have hE : tmE s = if (msgR r 0).2.2 = 0 then (if (msgR r 0).2.1 = [] then 0 else 3) else (msgR r 0).2.2 := openE_parts ht
    have hP : tmP s = if tmE s = 0 then (msgR r 0).1 else ([], [], [], [], []) := by rw [tmP, ht]; rfl
    rw [tmT, hP]
    have h6 := numsR_len 6 r 0
    have hle := numsR_le 6 r 0
    unfold msgR at hE ⊢
    generalize numsR 6 r 0 = p at *
    obtain ⟨ns, r1, e⟩ := p
    dsimp only at *
    by_cases he : e = 0
    · subst he
      simp only [if_true]
      rw [bs (ref_takeCall (by omega) (by omega)), tcT, show (⟨r1.toArray⟩ : ByteArray).data.toList = r1 from rfl]
      unfold tcR
      generalize callR r1 0 = p at *
      obtain ⟨⟨cs, x, y, z⟩, r2, e⟩ := p
      dsimp only at *
      by_cases he : e = 0
      · subst he
        simp only [if_true] at hE ⊢
        rw [tl, show (⟨r2.toArray⟩ : ByteArray).data.toList = r2 from rfl]
        by_cases hr2 : r2 = []
        · rw [if_pos hr2] at hE
          rw [hE, if_pos hr2, if_pos (by omega), if_pos (by omega), if_pos (by omega), if_pos (by omega), if_pos (by omega), if_pos (by omega)]
          rfl
        · rw [if_neg hr2] at hE
          rw [hE, if_neg hr2]
          rfl
      · rw [if_neg he] at hE
        simp only [if_neg he]
        rw [hE, if_neg he]
        rfl
    · have hcr : (callR r1 e).2.2 = e := by
        unfold callR
        have : (numsR 5 r1 e).2.2 = e := by
          have h1 : ∀ n, (numsR n r1 e).2.2 = e := fun n => by
            induction n with
            | zero => rfl
            | succ n ih => rw [numsR, ih, numR_of he]
          exact h1 5
        simp only [this, textR_of he]
      rw [hcr, if_neg he] at hE
      simp only [if_neg he]
      rw [hE, if_neg he]
      rfl
theorem ref_takeRsp {s : ByteArray} (hs : s.size ≤ 8000000000) {k : Nat} (hk : 10 * s.size + 100 < k) : copyholdref15_TakeRsp.f k s = some (trT s) := by
  unfold copyholdref15_TakeRsp.f
  rcases takeS_cases s 114 with ⟨t, e0, ht, hc⟩ | ⟨r, ht⟩
  · have hb := ref_begun_stay 114 hs (k := k) (by omega) ht hc (fun r => (rspR r 0).2)
    have h1 := (openE_stay (F := fun r => (rspR r 0).2) ht hc).1
    rw [show ((114 : UInt8).toNat : Int) = 114 from rfl] at hb
    rw [bs hb]
    dsimp only
    rw [if_neg h1, trT, trP, if_neg (show ¬ trE s = 0 from h1)]
    rfl
  · have hb := ref_begun_go 114 hs (k := k) (by omega) ht
    rw [show ((114 : UInt8).toNat : Int) = 114 from rfl] at hb
    have hr : r.length + 1 ≤ s.size := by
      have := takeS_size s
      rw [ht, arr_sz, List.length_cons] at this
      exact this
    rw [bs hb]
    dsimp only
    rw [if_pos rfl]
    have hn := ref_numbers (s := ⟨r.toArray⟩) (by rw [arr_sz]; omega) (n := 9) (by omega) (k := k) (by omega)
    rw [show ((9 : Nat) : Int) = 9 from rfl, show (⟨r.toArray⟩ : ByteArray).data.toList = r from rfl] at hn
    rw [bs hn]
    have hE : trE s = if (rspR r 0).2.2 = 0 then (if (rspR r 0).2.1 = [] then 0 else 3) else (rspR r 0).2.2 := openE_parts ht
    have hP : trP s = if trE s = 0 then (rspR r 0).1 else ([], [], []) := by rw [trP, ht]; rfl
    rw [trT, hP]
    have h9 := numsR_len 9 r 0
    have hle := numsR_le 9 r 0
    unfold rspR at hE ⊢
    generalize numsR 9 r 0 = p at *
    obtain ⟨ns, r1, e⟩ := p
    dsimp only at *
    by_cases he : e = 0
    · subst he
      simp only [if_true]
      rw [bs (ref_text4096 (by omega) (by omega))]
      have hx := textR_le r1 0
      generalize textR r1 0 = p at *
      obtain ⟨x, r2, e⟩ := p
      dsimp only at *
      by_cases he : e = 0
      · subst he
        simp only [if_true]
        rw [bs (ref_list256 (by omega) (by omega))]
        generalize textsR r2 0 = p at *
        obtain ⟨t, r3, e⟩ := p
        dsimp only at *
        by_cases he : e = 0
        · subst he
          simp only [if_true] at hE ⊢
          rw [tl, show (⟨r3.toArray⟩ : ByteArray).data.toList = r3 from rfl]
          by_cases hr3 : r3 = []
          · rw [if_pos hr3] at hE
            rw [hE, if_pos hr3, if_pos (by omega), if_pos (by omega), if_pos (by omega), if_pos (by omega), if_pos (by omega), if_pos (by omega), if_pos (by omega), if_pos (by omega), if_pos (by omega)]
            rfl
          · rw [if_neg hr3] at hE
            rw [hE, if_neg hr3]
            rfl
        · rw [if_neg he] at hE
          rw [hE, if_neg he]
          simp only [if_neg he]
          rfl
      · rw [textsR_of he, if_neg he] at hE
        rw [hE, if_neg he]
        simp only [if_neg he]
        rfl
    · rw [textR_of he, textsR_of he, if_neg he] at hE
      simp only [if_neg he]
      rw [hE, if_neg he]
      rfl
end Go.Proofs.Ytgnmhbkialgeaaa
end

section
/- The pure statement of WireTakes: what is left of the law when the machine's side is told. -/
namespace Go.Proofs.Ytgnmhbkialgeaaa.Pure
open Go.RowKit Go.Proofs.Ytgnmhbkialgeaaa.Q
def WireTakesSt : Prop := ∀ (a0 : ByteArray), a0.size ≤ 140737488351232 → ∃ k, Go.Proofs.Ytgnmhbkialgeaaa.Q.copyholdlaw15_WireTakes.f k a0 = some true
end Go.Proofs.Ytgnmhbkialgeaaa.Pure
end

section
/- WireTakes, pure. -/
set_option linter.unusedVariables false
namespace Go.Proofs.Ytgnmhbkialgeaaa.Pure
open Go.RowKit Go.Proofs.Ytgnmhbkialgeaaa.Q Go.Proofs.YtgnmhbkialgeaaaW.PrintWords Go.Proofs.YtgnmhbkialgeaaaW.PrintLast Math

theorem names_few (s : ByteArray) (hs : s.size ≤ 6000) : (trT s).2.2.2.2.2.2.2.2.2.2.1.length ≤ 6000 := by
  show (mks (trP s).2.2).length ≤ 6000
  rw [mks, List.length_map]
  by_cases h : trE s = 0
  · obtain ⟨e, _, _⟩ := tr_inv h
    have hz := congrArg ByteArray.size e
    have hp : (⟨(114 :: rspB (trP s).1 (trP s).2.1 (trP s).2.2).toArray⟩ : ByteArray).size ≤ (rspS (trP s).1 (trP s).2.1 (trP s).2.2).size := by rw [rspS, putS_size]; omega
    rw [← hz, arr_sz, List.length_cons, rspB, List.length_append, List.length_append, listB, List.length_append] at hp
    have : ∀ l : List (List UInt8), l.length ≤ ((l.map textB).flatten).length := by
      intro l
      induction l with
      | nil => simp
      | cons a l ih =>
        rw [List.map_cons, List.flatten_cons, List.length_append, textB, List.length_append, List.length_cons]
        have := numB_pos a.length
        omega
    have := this (trP s).2.2
    omega
  · rw [trP, if_neg h]
    simp
theorem WireTakes : WireTakesSt := by
  intro s _
  refine ⟨100000, ?_⟩
  unfold copyholdlaw15_WireTakes.f
  rw [bs shown_eq]
  by_cases hs : (s.size : Int) > 6000
  · rw [if_pos hs]
  · have e2 : copyholdref15_TakeCall.f 100000 s = some (tcT s) := by
      have := ref_takeCall (l := s.data.toList) (by rw [← sz]; omega) (k := 100000) (by omega)
      rw [ba_eta] at this
      exact this
    rw [if_neg hs, bs (takeCall_eq (by omega)), bs e2, bs (takeMsg_eq (by omega)), bs (ref_takeMsg (by omega) (by omega)), bs (takeRsp_eq (by omega)), bs (ref_takeRsp (by omega) (by omega)),
      bs (same_refl (by have := names_few s (by omega); omega) (by have := names_few s (by omega); omega)), if_pos rfl, if_pos rfl]
    simp only [beq_self_eq_true, Bool.and_self, if_true]
end Go.Proofs.Ytgnmhbkialgeaaa.Pure
end
