import Derived.Test.YtcbfnfggnocndaaZRedoCr30
import Derived.Test.YtcbfnfggnocndaaZRedoCr31
import Derived.Test.YtcbfnfggnocndaaZRedoCr24
import Derived.Test.YtcbfnfggnocndaaZRedoCr29
import Derived.Test.YtcbfnfggnocndaaZRedoCr28
import Derived.Test.YtcbfnfggnocndaaZRedoCr26
import Derived.Test.YtcbfnfggnocndaaZRedoCr27
import Derived.Test.YtcbfnfggnocndaaZRedoCrA
set_option linter.unusedVariables false
set_option linter.unusedSimpArgs false
section
namespace Go.Proofs.Ytcbfnfggnocndaa
open Go.RowKit Go.Proofs.Ytcbfnfggnocndaa.Q Go.Proofs.Ytcbfnfggnocndaa.X Go.Proofs.YtcbfnfggnocndaaW.PrintWords Go.Proofs.YtcbfnfggnocndaaW.PrintLast Go.Proofs.YtcbfnfggnocndaaW.PrintMore Math
def hor (c : UInt8) (n : Nat) : Nat := (128 * n + c.toNat % 128) % 18446744073709551616
theorem hor_lt (l : List UInt8) {n : Nat} (h : n < 18446744073709551616) : l.foldr hor n < 18446744073709551616 := by
  cases l with
  | nil => exact h
  | cons c r => show hor _ _ < _; unfold hor; omega
theorem hor_num (n : Nat) (h : n < 18446744073709551616) : (numB n).foldr hor 0 = n := by
  induction n using Nat.strongRecOn with
  | _ n ih =>
    by_cases h1 : 128 ≤ n
    · rw [numB_hi h1, List.foldr_cons, ih (n / 128) (by omega) (by omega)]
      unfold hor
      rw [ofNat_toNat (by omega)]; omega
    · rw [numB_lo h1, List.foldr_cons, List.foldr_nil]
      unfold hor
      rw [ofNat_toNat (by omega)]; omega
theorem tn_l1_end (s : ByteArray) (hs : s.size ≤ 9223372036854775807) (i n k : Nat) (hi : i < s.size) (hn : n < 18446744073709551616) (hk : 10 ≤ k) :
    copyholdref01_TakeNum.l1 (k + 1) s (i : Int) (n : Int) (-1) = some (if numB n = s.data.toList.take (i + 1) then ((n : Int), (⟨(s.data.toList.drop (i + 1)).toArray⟩ : ByteArray), 0) else (0, ⟨#[]⟩, 3)) := by
  rw [copyholdref01_TakeNum.l1, if_neg (by omega), bs (ref_num10 hn hk), w64 (n := (i : Int) + 1) (by omega) (by omega), if_pos (by omega), if_pos (by omega), show ((i : Int) + 1).toNat = i + 1 from by omega, tl, tl, numS_dl, ext_, List.drop_zero, drop_bytes]
  split <;> rfl
theorem tn_l1 (s : ByteArray) (hs : s.size ≤ 9223372036854775807) (i : Nat) (hi : i < s.size) (j : Nat) : ∀ (n k : Nat), j < s.size → n < 18446744073709551616 →
    copyholdref01_TakeNum.l1 (k + (j + 1)) s (i : Int) (n : Int) (j : Int) = copyholdref01_TakeNum.l1 k s (i : Int) (((s.data.toList.take (j + 1)).foldr hor n : Nat) : Int) (-1) := by
  induction j with
  | zero =>
    intro n k hj hn
    have hl : 0 < s.data.toList.length := by rw [← sz]; omega
    have hb := bt_at_ s 0 hl
    rw [show ((0 : Nat) : Int) = 0 from rfl] at hb
    rw [show k + (0 + 1) = k + 1 from rfl, copyholdref01_TakeNum.l1, if_pos (by omega), if_pos (by omega), if_pos (by omega), show ((0 : Nat) : Int) = 0 from rfl, hb, w64 (n := (0 : Int) - 1) (by omega) (by omega), Int.tmod_eq_emod_of_nonneg (by omega)]
    rw [List.take_succ_eq_append_getElem hl, List.take_zero, List.nil_append, List.foldr_cons, List.foldr_nil]
    unfold hor
    simp only [IntKind.wrap_u64]
    congr 1; omega
  | succ j ih =>
    intro n k hj hn
    have hl : j + 1 < s.data.toList.length := by rw [← sz]; omega
    rw [show k + (j + 1 + 1) = (k + (j + 1)) + 1 from by omega]
    generalize hK : k + (j + 1) = K
    rw [copyholdref01_TakeNum.l1, if_pos (by omega), if_pos (by omega), if_pos (by omega), bt_at_ s (j + 1) hl, w64 (n := ((j + 1 : Nat) : Int) - 1) (by omega) (by omega), Int.tmod_eq_emod_of_nonneg (by omega)]
    rw [List.take_succ_eq_append_getElem hl, List.foldr_append, List.foldr_cons, List.foldr_nil]
    have e : (IntKind.u64.wrap ((IntKind.u64.wrap (128 * (n : Int))) + (IntKind.u64.wrap ((s.data.toList[j + 1].toNat : Int) % 128)))) = ((hor s.data.toList[j + 1] n : Nat) : Int) := by
      unfold hor
      simp only [IntKind.wrap_u64]; omega
    rw [e, show (((j + 1 : Nat) : Int) - 1) = (j : Int) from by omega, ← hK]
    exact ih _ k (by omega) (by unfold hor; omega)
theorem tn_l0 (s : ByteArray) (hs : s.size ≤ 9223372036854775807) (d : Nat) : ∀ (i k acc : Nat), i + d = 9 → i ≤ s.size → takeN 0 0 s.data.toList = takeN i acc (s.data.toList.drop i) →
    copyholdref01_TakeNum.l0 (k + 2 * d + 24) s (i : Int) = some (takeNumS s) := by
  have key : ∀ (i k acc : Nat), i ≤ 9 → i ≤ s.size → takeN 0 0 s.data.toList = takeN i acc (s.data.toList.drop i) →
      (∀ h : i < s.data.toList.length, (s.data.toList[i]).toNat < 128) → copyholdref01_TakeNum.j1 (k + 22) s (i : Int) false = some (takeNumS s) := by
    intro i k acc hi9 hi ht hc
    rw [show k + 22 = (k + 21) + 1 from rfl, copyholdref01_TakeNum.j1, if_neg (by decide)]
    by_cases hlt : i < s.size
    · have hl : i < s.data.toList.length := by rw [← sz]; exact hlt
      have hc := hc hl
      have h1 := tn_l1 s hs i hlt i 0 (k + 20 - i) hlt (by decide)
      have h2 := tn_l1_end s hs i ((s.data.toList.take (i + 1)).foldr hor 0) (k + 19 - i) hlt (hor_lt _ (by decide)) (by omega)
      rw [show k + 19 - i + 1 = k + 20 - i from by omega] at h2
      rw [show k + 20 - i + (i + 1) = k + 21 from by omega, show ((0 : Nat) : Int) = 0 from rfl] at h1
      rw [if_neg (by omega), h1, h2]
      unfold takeNumS
      rw [ht, List.drop_eq_getElem_cons hl]
      rw [List.drop_eq_getElem_cons hl] at ht
      by_cases hb : (1 ≤ i ∧ (s.data.toList[i]).toNat = 0) ∨ (i = 9 ∧ 1 < (s.data.toList[i]).toNat)
      · rw [tk_bad hi9 hc hb] at ht ⊢
        rw [if_neg]
        · rfl
        · intro he
          have h3 := take_num0 (hor_lt (s.data.toList.take (i + 1)) (by decide : (0 : Nat) < 18446744073709551616)) (s.data.toList.drop (i + 1))
          rw [he, List.take_append_drop, ht] at h3
          have h5 : (3 : Int) = 0 := congrArg (·.2.2) h3
          exact absurd h5 (by decide)
      · rw [tk_ok hi9 hc hb] at ht ⊢
        have hinv := take_inv0 (l := s.data.toList) (by rw [ht])
        have hv := takeN0_lt s.data.toList
        rw [ht] at hinv hv
        dsimp only at hinv hv
        generalize acc + (s.data.toList[i]).toNat * 2 ^ (7 * i) = v at hinv hv ⊢
        have e : s.data.toList.take (i + 1) = numB v := by
          have h4 : numB v ++ s.data.toList.drop (i + 1) = s.data.toList.take (i + 1) ++ s.data.toList.drop (i + 1) := by rw [List.take_append_drop]; exact hinv.symm
          exact (List.append_cancel_right h4).symm
        rw [e, hor_num v hv, if_pos rfl]
        rfl
    · obtain rfl : i = s.size := by omega
      rw [if_pos rfl]
      unfold takeNumS
      rw [ht, List.drop_eq_nil_of_le (by rw [← sz]; exact Nat.le_refl _), takeN, if_neg (by omega)]
      rfl
  induction d with
  | zero =>
    intro i k acc hi hsz ht
    obtain rfl : i = 9 := by omega
    rw [show k + 2 * 0 + 24 = (k + 22 + 1) + 1 from by omega, copyholdref01_TakeNum.l0]
    by_cases hlt : 9 < s.size
    · have hl : 9 < s.data.toList.length := by rw [← sz]; exact hlt
      have hb := bt_at_ s 9 hl
      rw [show ((9 : Nat) : Int) = 9 from rfl] at hb ⊢
      rw [if_pos (by omega), if_pos (by omega), hb]
      by_cases hc : (s.data.toList[9]).toNat < 128
      · rw [show decide (((s.data.toList[9]).toNat : Int) ≥ 128) = false from decide_eq_false (by omega)]
        exact key 9 (k + 1) acc (by omega) hsz ht (fun _ => hc)
      · rw [show decide (((s.data.toList[9]).toNat : Int) ≥ 128) = true from decide_eq_true (by omega), copyholdref01_TakeNum.j1, if_pos rfl, w64 (by decide) (by decide), if_pos (by decide)]
        unfold takeNumS
        rw [ht, List.drop_eq_getElem_cons hl, tk_go (by omega) hc]
        cases hd : s.data.toList.drop (9 + 1) with
        | nil => rfl
        | cons c r => rfl
    · rw [if_neg (by omega)]
      exact key 9 (k + 1) acc (by omega) hsz ht (fun h => absurd h (by rw [← sz]; omega))
  | succ d ih =>
    intro i k acc hi hsz ht
    rw [show k + 2 * (d + 1) + 24 = (k + 2 * d + 24 + 1) + 1 from by omega, copyholdref01_TakeNum.l0]
    by_cases hlt : i < s.size
    · have hl : i < s.data.toList.length := by rw [← sz]; exact hlt
      rw [if_pos (by omega), if_pos (by omega), bt_at_ s i hl]
      by_cases hc : (s.data.toList[i]).toNat < 128
      · rw [show decide (((s.data.toList[i]).toNat : Int) ≥ 128) = false from decide_eq_false (by omega)]
        exact key i (k + 2 * d + 3) acc (by omega) hsz ht (fun _ => hc)
      · rw [show decide (((s.data.toList[i]).toNat : Int) ≥ 128) = true from decide_eq_true (by omega), copyholdref01_TakeNum.j1, if_pos rfl, w64 (n := (i : Int) + 1) (by omega) (by omega), if_neg (by omega)]
        rw [List.drop_eq_getElem_cons hl, tk_go (by omega) hc] at ht
        exact ih (i + 1) k _ (by omega) (by omega) ht
    · rw [if_neg (by omega)]
      exact key i (k + 2 * d + 3) acc (by omega) hsz ht (fun h => absurd h (by rw [← sz]; omega))
theorem ref_takeNum {s : ByteArray} (hs : s.size ≤ 9223372036854775807) {k : Nat} (hk : 42 ≤ k) : copyholdref01_TakeNum.f k s = some (takeNumS s) := by
  obtain ⟨j, rfl⟩ : ∃ j, k = j + 2 * 9 + 24 := ⟨k - 42, by omega⟩
  exact tn_l0 s hs 9 0 j 0 rfl (Nat.zero_le _) rfl
theorem ref_takeText {s : ByteArray} (hs : s.size ≤ 9223372036854775807) {m : Int} (hm : -9223372036854775808 ≤ m ∧ m ≤ 9223372036854775807) {k : Nat} (hk : 42 ≤ k) :
    copyholdref01_TakeText.f k s m = some (outT (textL s.data.toList m)) := by
  obtain ⟨q, rfl⟩ : ∃ q, k = q + 1 := ⟨k - 1, by omega⟩
  unfold copyholdref01_TakeText.f
  rw [bs (ref_takeNum hs hk)]
  have hlt := takeN0_lt s.data.toList
  have hl := (takeN_len s.data.toList 0 0).1
  rw [← sz] at hl
  unfold takeNumS textL
  generalize takeN 0 0 s.data.toList = p at *
  obtain ⟨n, r, e⟩ := p
  replace hlt : n < 18446744073709551616 := hlt
  replace hl : r.length ≤ s.size := hl
  by_cases he : e = 0
  · rw [if_pos (show (outN (n, r, e)).2.2 = 0 from he), if_pos (show (n, r, e).2.2 = 0 from he)]
    dsimp only [outN]
    have j0 : ∀ b : Bool, copyholdref01_TakeText.j0 (q + 1) (n : Int) ⟨r.toArray⟩ b = if b = true then some (⟨#[]⟩, ⟨#[]⟩, 5) else if r.length < n then some (⟨#[]⟩, ⟨#[]⟩, 2) else some (⟨(r.take n).toArray⟩, ⟨(r.drop n).toArray⟩, 0) := by
      intro b
      rw [copyholdref01_TakeText.j0]
      by_cases hb : b = true
      · rw [if_pos hb, if_pos hb]
      · rw [if_neg hb, if_neg hb, mk_size, IntKind.wrap_u64]
        by_cases h2 : r.length < n
        · rw [if_pos (by omega), if_pos h2]
        · rw [if_neg (by omega), if_neg h2, if_pos (by omega), if_pos (by omega), Int.toNat_natCast]
          congr 2
          · apply inj; rw [ext_, List.drop_zero]
          · congr 1; apply inj; rw [ext_, List.take_of_length_le (Nat.le_refl _)]
    by_cases h1 : m < 0
    · rw [if_pos h1, j0, if_pos rfl, if_pos (.inl h1)]; rfl
    · rw [if_neg h1, j0]
      by_cases h2 : m < (n : Int)
      · rw [if_pos (by simp [IntKind.wrap_u64]; omega), if_pos (.inr h2)]; rfl
      · rw [if_neg (by simp [IntKind.wrap_u64]; omega), if_neg (show ¬(m < 0 ∨ m < (n : Int)) by omega)]
        by_cases h3 : r.length < n
        · rw [if_pos h3, if_pos h3]; rfl
        · rw [if_neg h3, if_neg h3]; rfl
  · rw [if_neg (show ¬ (outN (n, r, e)).2.2 = 0 from he), if_neg (show ¬ (n, r, e).2.2 = 0 from he)]; rfl
end Go.Proofs.Ytcbfnfggnocndaa
end

section
namespace Go.Proofs.Ytcbfnfggnocndaa
open Go.RowKit Go.Proofs.Ytcbfnfggnocndaa.Q Go.Proofs.Ytcbfnfggnocndaa.X Go.Proofs.YtcbfnfggnocndaaW.PrintWords Go.Proofs.YtcbfnfggnocndaaW.PrintLast Math
theorem bt_data (s : ByteArray) (i : Nat) (h : i < s.size) : bt s (i : Int) = ((s.data.toList[i]'(by rw [← sz]; exact h)).toNat : Int) := by
  unfold bt
  rw [dif_pos (by simpa using h)]
  simp only [Int.toNat_natCast]
  rfl
theorem ref_l1 (s : ByteArray) (hs : s.size ≤ 140737488351232) (i : Nat) (hi : i < s.size) (d : Nat) : ∀ (j k c : Nat), j + d = 8 → d < k → c < 4294967296 →
    copyholdref02_More.l1 k (c : Int) s (i : Int) (j : Int) = copyholdref02_More.l0 (k - d - 1) ((tqsN d c : Nat) : Int) s ((i + 1 : Nat) : Int) := by
  induction d with
  | zero =>
    intro j k c hj hk hc
    obtain ⟨k, rfl⟩ : ∃ m, k = m + 1 := ⟨k - 1, by omega⟩
    simp only [copyholdref02_More.l1]
    rw [if_neg (by omega), w64 (by omega) (by omega)]
    rfl
  | succ d ih =>
    intro j k c hj hk hc
    obtain ⟨k, rfl⟩ : ∃ m, k = m + 1 := ⟨k - 1, by omega⟩
    simp only [copyholdref02_More.l1]
    rw [if_pos (by omega), w64 (by omega) (by omega), Int.tmod_eq_emod_of_nonneg (by omega), Int.tdiv_eq_ediv_of_nonneg (by omega)]
    rw [tqsN_succ, show k + 1 - (d + 1) - 1 = k - d - 1 from by omega]
    have e2 : ((c : Int) / 2 % 4294967296) = ((c / 2 : Nat) : Int) := by omega
    rw [e2]
    by_cases h1 : c % 2 = 1
    · rw [if_pos (by omega)]
      have e3 : Go.bits .xor .u32 ((c / 2 : Nat) : Int) 2197175160 = ((tqN c : Nat) : Int) := by
        rw [show (2197175160 : Int) = ((P32 : Nat) : Int) from rfl, u32_xor_nat _ _ (by omega) (by decide)]
        unfold tqN; rw [if_pos h1]
      rw [e3]
      exact ih (j + 1) k (tqN c) (by omega) (by omega) (tqN_lt hc)
    · rw [if_neg (by omega)]
      have e3 : c / 2 = tqN c := by unfold tqN; rw [if_neg h1]
      rw [e3]
      exact ih (j + 1) k (tqN c) (by omega) (by omega) (tqN_lt hc)
theorem ref_l0 (s : ByteArray) (hs : s.size ≤ 140737488351232) (d : Nat) : ∀ (i k c : Nat), i + d = s.size → 10 * d < k → c < 4294967296 →
    copyholdref02_More.l0 k (c : Int) s (i : Int) = some ((moresN c (s.data.toList.drop i) : Nat) : Int) := by
  induction d with
  | zero =>
    intro i k c hi hk hc
    obtain ⟨k, rfl⟩ : ∃ m, k = m + 1 := ⟨k - 1, by omega⟩
    simp only [copyholdref02_More.l0]
    rw [if_neg (by omega), List.drop_eq_nil_of_le (by rw [← sz]; omega)]
    rfl
  | succ d ih =>
    intro i k c hi hk hc
    obtain ⟨k, rfl⟩ : ∃ m, k = m + 1 := ⟨k - 1, by omega⟩
    simp only [copyholdref02_More.l0]
    have hlt : i < s.size := by omega
    have hl : i < s.data.toList.length := by rw [← sz]; omega
    rw [if_pos (by omega), if_pos (by omega), bt_data s i hlt]
    have hb := (s.data.toList[i]'hl).toNat_lt
    have e : Go.bits .xor .u32 (c : Int) (((s.data.toList[i]'hl).toNat : Int) % 4294967296) = ((c ^^^ (s.data.toList[i]'hl).toNat : Nat) : Int) := by
      rw [show (((s.data.toList[i]'hl).toNat : Int) % 4294967296) = (((s.data.toList[i]'hl).toNat : Nat) : Int) from by omega, u32_xor_nat _ _ hc (by omega)]
    have hh := ref_l1 s hs i hlt 8 0 k _ rfl (by omega) (Nat.xor_lt_two_pow (n := 32) hc (show (s.data.toList[i]'hl).toNat < 2 ^ 32 by omega))
    rw [show ((0 : Nat) : Int) = 0 from rfl] at hh
    rw [e, hh]
    rw [List.drop_eq_getElem_cons hl]
    exact ih (i + 1) (k - 8 - 1) _ (by omega) (by omega) (mbN_lt hc _)
theorem ref_More (s : ByteArray) (hs : s.size ≤ 140737488351232) (k c : Nat) (hk : 10 * s.size < k) (hc : c < 4294967296) :
    copyholdref02_More.f k (c : Int) s = some ((moresN c s.data.toList : Nat) : Int) := by
  have := ref_l0 s hs s.size 0 k c (by omega) hk hc
  exact this
theorem ref_Sum (s : ByteArray) (hs : s.size ≤ 140737488351232) (k : Nat) (hk : 10 * s.size < k) : copyholdref02_Sum.f k s = some ((sumN s : Nat) : Int) := by
  unfold copyholdref02_Sum.f
  have h := ref_More s hs k 4294967295 hk (by decide)
  have h2 := (mores_nat s.data.toList (c := 4294967295) (by decide)).2
  rw [show ((4294967295 : Nat) : Int) = 4294967295 from rfl] at h
  rw [h]
  simp only [Option.bind_some]
  have e : Go.bits .xor .u32 ((moresN 4294967295 s.data.toList : Nat) : Int) 4294967295 = ((sumN s : Nat) : Int) :=
    u32_xor_nat (moresN 4294967295 s.data.toList) 4294967295 h2 (by decide)
  rw [e]
theorem ref_four (c : Nat) (h : c < 4294967296) : copyholdref02_four.f (c : Int) = some (fourS c) := by
  unfold copyholdref02_four.f fourS
  rw [Int.tmod_eq_emod_of_nonneg (by omega), Int.tdiv_eq_ediv_of_nonneg (by omega), Int.tdiv_eq_ediv_of_nonneg (by omega), Int.tdiv_eq_ediv_of_nonneg (by omega)]
  congr 3
  · omega
  · congr 1
    · omega
    · congr 1
      · omega
      · congr 1; omega
theorem ref_Put (s : ByteArray) (hs : s.size ≤ 140737488351232) (k : Nat) (hk : 10 * s.size < k) : copyholdref02_Put.f k s = some (putS s) := by
  unfold copyholdref02_Put.f
  rw [ref_Sum s hs k hk]
  simp only [Option.bind_some]
  rw [ref_four _ (sumN_lt s)]
  simp only [Option.bind_some]
  rw [if_pos (by rw [fourS_size]; omega)]
  rfl
end Go.Proofs.Ytcbfnfggnocndaa
end

section
namespace Go.Proofs.Ytcbfnfggnocndaa.Pure
open Go.RowKit Go.Lib Go.Proofs.Ytcbfnfggnocndaa Go.Proofs.Ytcbfnfggnocndaa.Q Go.Proofs.Ytcbfnfggnocndaa.X Go.Proofs.YtcbfnfggnocndaaW.PrintWords Go.Proofs.YtcbfnfggnocndaaW.PrintMore Math
def lowB (n : Nat) : Nat → List Int
  | 0 => []
  | i + 1 => lowB n i ++ [((n / 256 ^ i % 256 : Nat) : Int)]
theorem low8 (n : Nat) : lowB n 8 = num8 n := by
  unfold num8
  simp only [lowB, Nat.reducePow, Nat.div_one, List.nil_append, List.cons_append]
theorem lowB_len (n : Nat) : ∀ i, (lowB n i).length = i
  | 0 => rfl
  | i + 1 => by unfold lowB; rw [List.length_append, lowB_len n i]; rfl
theorem record_ref (n k : Nat) (s : ByteArray) (hn : n < 18446744073709551616) (hs : s.size ≤ 1000000) (hk : 20000000 ≤ k) : copyholdref05_Record.f k (n : Int) s = some (recS n s) := by
  have h10 := numS_size10 (show s.size < 18446744073709551616 by omega)
  have go : ∀ (d i k : Nat), i + d = 8 → 10000300 + d ≤ k → copyholdref05_Record.l0 k ((n / 256 ^ i : Nat) : Int) s (lowB n i) (i : Int) = some (recS n s) := by
    intro d
    induction d with
    | zero =>
      intro i k hi hk; obtain ⟨k, rfl⟩ : ∃ j, k = j + 1 := ⟨k - 1, by omega⟩
      obtain rfl : i = 8 := by omega
      rw [copyholdref05_Record.l0, if_neg (by omega), bs (ref_text (s := s) (by omega) (by omega)), low8]
      have hz : (strOfNums (num8 n)).size = 8 := num8S_size n
      have ht := textS_size s
      rw [if_pos (by rw [hz, ht]; omega), bs (ref_Put (strOfNums (num8 n) ++ textS s) (by rw [app_size, hz, ht]; omega) k (by rw [app_size, hz, ht]; omega))]
      rfl
    | succ d ih =>
      intro i k hi hk; obtain ⟨k, rfl⟩ : ∃ j, k = j + 1 := ⟨k - 1, by omega⟩
      have hb : n / 256 ^ i ≤ n := Nat.div_le_self _ _
      rw [copyholdref05_Record.l0, if_pos (by omega), if_pos (by rw [lowB_len]; omega)]
      rw [show Int.tdiv ((n / 256 ^ i : Nat) : Int) 256 = ((n / 256 ^ i / 256 : Nat) : Int) from rfl, show Int.tmod ((n / 256 ^ i : Nat) : Int) 256 % 256 = ((n / 256 ^ i % 256 : Nat) : Int) from by
        rw [show Int.tmod ((n / 256 ^ i : Nat) : Int) 256 = ((n / 256 ^ i % 256 : Nat) : Int) from rfl]; omega]
      rw [u64_in (n := n / 256 ^ i / 256) (by have := Nat.div_le_self (n / 256 ^ i) 256; omega), w64 (n := (i : Int) + 1) (by omega) (by omega), show (i : Int) + 1 = ((i + 1 : Nat) : Int) by omega, Nat.div_div_eq_div_mul, ← Nat.pow_succ]
      exact ih (i + 1) k (by omega) (by omega)
  unfold copyholdref05_Record.f
  have := go 8 0 k (by omega) (by omega)
  rw [Nat.pow_zero, Nat.div_one] at this
  exact this
theorem need_ref (k : Nat) (s : ByteArray) (hs : s.size ≤ 1000000) (hk : 20000000 ≤ k) : copyholdref05_Need.f k s = some ((needN s : Nat) : Int) := by
  have h10 := numS_size10 (show s.size < 18446744073709551616 by omega)
  have hz := recS_size 0 s
  unfold copyholdref05_Need.f
  rw [bs (show copyholdref05_Record.f k 0 s = some (recS 0 s) from record_ref 0 k s (by omega) hs hk)]
  congr 1
  rw [w64 (n := ((recS 0 s).size : Int) + 63) (by omega) (by omega), show Int.tdiv (((recS 0 s).size : Int) + 63) 64 = (((recS 0 s).size + 63) / 64 : Nat) from rfl]
  exact w64 (by omega) (by omega)
theorem need66 {s : ByteArray} (h : s.size ≤ 4096) : needN s ≤ 65 := by
  have := recS_size 0 s
  have h2 : (numS s.size).size ≤ 2 := by
    have := numS_size10 (show s.size < 18446744073709551616 by omega)
    rw [sz, numS_dl]
    by_cases h1 : s.size < 128
    · rw [numB_lo (by omega)]; show 1 ≤ 2; omega
    · rw [numB_hi (by omega), numB_lo (by omega)]; show 2 ≤ 2; omega
  unfold needN; omega
theorem standsB_cut (B : List UInt8) (m n : Nat) : standsB (B.take (64 * 66)) m n = standsB B m n := by
  by_cases h1 : (standsB B m n).2 = 0
  · by_cases h2 : (standsB (B.take (64 * 66)) m n).2 = 0
    · have e : ∀ C : List UInt8, (standsB C m n).2 = 0 → standsB C m n = (⟨#[]⟩, 0) := by
        intro C hC
        unfold standsB at hC ⊢
        split
        · rename_i h; rw [if_pos h] at hC
          exact absurd hC (by have := need_pos ⟨(textL (C.drop 8) 4096).1.toArray⟩; show ¬ needN _ = 0; omega)
        · rfl
      rw [e _ h1, e _ h2]
    · obtain ⟨k1, k2, k3, k4⟩ := standsB_inv h2
      have h66 := need66 k2
      rw [List.take_take, Nat.min_eq_left (by omega)] at k4
      rw [standsB_some k2 k3 k4, ← k1]
  · obtain ⟨k1, k2, k3, k4⟩ := standsB_inv h1
    have h66 := need66 k2
    rw [standsB_some k2 k3 (by rw [List.take_take, Nat.min_eq_left (by omega)]; exact k4), ← k1]
theorem round_take {R : List ByteArray} (hs : ∀ s ∈ R, s.size = 64) (h1 : 1 ≤ R.length) (a : Nat) : ∀ m j, (roundB R a m).take (64 * j) = roundB R a (min m j)
  | 0, j => by rw [Nat.zero_min]; simp [roundB]
  | m + 1, j => by
    have hl := roundB_full R a h1 hs m
    by_cases h : j ≤ m
    · rw [roundB_succ, List.take_append_of_le_length (by omega), round_take hs h1 a m j, Nat.min_eq_right h, Nat.min_eq_right (by omega)]
    · rw [List.take_of_length_le (by rw [roundB_full R a h1 hs]; omega), Nat.min_eq_left (by omega)]
theorem ring_get {l0 : List ByteArray} {l1 : List S88} {fr mn : Nat} (h : fr + mn ≤ l0.length) (i : Nat) (hi : i < mn) : (ringL l0 l1 fr mn).getD i ⟨#[]⟩ = (imgL l0 l1).getD (fr + i) ⟨#[]⟩ := by
  unfold ringL
  rw [doneL_all _ _ _ (fun _ _ => rfl), List.getD_eq_getElem?_getD, List.getElem?_take, if_pos hi, List.getElem?_drop, ← List.getD_eq_getElem?_getD]
theorem ring_sec {l0 : List ByteArray} {l1 : List S88} (h : Rt l0 l1) (fr mn : Nat) : ∀ s ∈ ringL l0 l1 fr mn, s.size = 64 := fun s hs => by
  unfold ringL at hs
  exact h.img _ s (List.mem_of_mem_drop (List.mem_of_mem_take hs))
theorem mk_app (A : List UInt8) (x : ByteArray) : (⟨A.toArray⟩ : ByteArray) ++ x = ⟨(A ++ x.data.toList).toArray⟩ := by apply inj; rw [app]
theorem one0 (x : ByteArray) (n : Nat) : x ++ strOfNums (List.replicate n 0) ++ (⟨#[0]⟩ : ByteArray) = x ++ strOfNums (List.replicate (n + 1) 0) := by
  apply inj
  rw [app, app, app, List.append_assoc, zeros_dl, zeros_dl, List.replicate_succ']
theorem stands_l1 (B : List UInt8) (s x : ByteArray) (n : Nat) (hx : x.size ≤ 64 * n) (hn : n ≤ 1000000) (hB : 64 * n ≤ B.length) (hBl : B.length ≤ 100000000) : ∀ (d j k : Nat), x.size + j + d = 64 * n → d < k →
    copyholdref05_stands.l1 k ⟨B.toArray⟩ s (x ++ strOfNums (List.replicate j 0)) (n : Int) = some (if B.take (64 * n) = (x ++ strOfNums (List.replicate (64 * n - x.size) 0)).data.toList then (s, (n : Int)) else (⟨#[]⟩, 0)) := by
  intro d
  induction d with
  | zero =>
    intro j k hj hk; obtain ⟨k, rfl⟩ : ∃ j, k = j + 1 := ⟨k - 1, by omega⟩
    have hw : wrap64 (64 * (n : Int)) = ((64 * n : Nat) : Int) := by rw [w64 (by omega) (by omega)]; omega
    have hz : (x ++ strOfNums (List.replicate j 0)).size = 64 * n := by rw [app_size, nums_size, List.length_replicate]; omega
    rw [copyholdref05_stands.l1, hw, hz, if_neg (by omega), if_pos (by omega), if_pos (by rw [pbsz]; omega), Int.toNat_natCast, show 64 * n - x.size = j by omega, tl, tl, pext, List.drop_zero, Nat.sub_zero]
    split <;> rfl
  | succ d ih =>
    intro j k hj hk; obtain ⟨k, rfl⟩ : ∃ j, k = j + 1 := ⟨k - 1, by omega⟩
    have hw : wrap64 (64 * (n : Int)) = ((64 * n : Nat) : Int) := by rw [w64 (by omega) (by omega)]; omega
    have hz : (x ++ strOfNums (List.replicate j 0)).size = x.size + j := by rw [app_size, nums_size, List.length_replicate]
    rw [copyholdref05_stands.l1, hw, hz, if_pos (by omega), if_pos (by omega), one0]
    exact ih (j + 1) k (by omega) (by omega)
theorem standsB_nil {C : List UInt8} {m n : Nat} (hC : (standsB C m n).2 = 0) : standsB C m n = (⟨#[]⟩, 0) := by
  unfold standsB at hC ⊢
  split
  · rename_i h; rw [if_pos h] at hC
    exact absurd hC (by have := need_pos ⟨(textL (C.drop 8) 4096).1.toArray⟩; show ¬ needN _ = 0; omega)
  · rfl
theorem stands_j1 (B : List UInt8) (m n k : Nat) (hn : n < 18446744073709551616) (hm : m ≤ 10000) (hk : 20010000 ≤ k) (hB : B.length = 64 * min m 66) : copyholdref05_stands.j1 k (m : Int) (n : Int) ⟨B.toArray⟩ = some ((standsB B m n).1, ((standsB B m n).2 : Int)) := by
  obtain ⟨k, rfl⟩ : ∃ j, k = j + 1 := ⟨k - 1, by omega⟩
  rw [copyholdref05_stands.j1, pbsz]
  by_cases h0 : B.length < 64
  · have hm0 : m = 0 := by omega
    have := standsB_le B m n
    rw [if_pos (by omega), standsB_nil (show (standsB B m n).2 = 0 by omega)]; rfl
  · have e2 : (⟨B.toArray⟩ : ByteArray).extract 8 B.length = ⟨(B.drop 8).toArray⟩ := by
      apply inj
      rw [pext, List.take_of_length_le (by rw [List.length_drop]; exact Nat.le_refl _)]
    rw [if_neg (by omega), if_pos (by omega), e2, bs (ref_takeText (s := ⟨(B.drop 8).toArray⟩) (by rw [pbsz, List.length_drop]; omega) (by omega) (by omega))]
    show (if (textL (B.drop 8) 4096).2.2 = 0 then _ else _) = _
    have hle := textL_le (B.drop 8) 4096
    by_cases h1 : (textL (B.drop 8) 4096).2.2 = 0
    · rw [if_pos h1]
      have hle := hle h1
      unfold standsB
      show ((copyholdref05_Record.f k (n : Int) ⟨(textL (B.drop 8) 4096).1.toArray⟩).bind _) = _
      obtain ⟨s, hs0⟩ : ∃ s : ByteArray, s = ⟨(textL (B.drop 8) 4096).1.toArray⟩ := ⟨_, rfl⟩
      have hsz : s.size ≤ 4096 := by rw [hs0, pbsz]; omega
      rw [← hs0, bs (record_ref n k s hn (by omega) (by omega))]
      show ((copyholdref05_Need.f k ⟨(textL (B.drop 8) 4096).1.toArray⟩).bind _) = _
      rw [← hs0, bs (need_ref k s (by omega) (by omega))]
      have h66 := need66 hsz
      have hnb := need_big n s
      by_cases hmn : needN s ≤ m
      · rw [if_neg (by omega)]
        have hl := stands_l1 B s (recS n s) (needN s) hnb (by omega) (by omega) (by omega) (64 * needN s - (recS n s).size) 0 k (by omega) (by omega)
        rw [show recS n s ++ strOfNums (List.replicate 0 0) = recS n s from app_nil _] at hl
        have hp : (recS n s ++ strOfNums (List.replicate (64 * needN s - (recS n s).size) 0)).data.toList = padB n s := by rw [app, zeros_dl]; rfl
        rw [hp] at hl
        refine Eq.trans ?_ (hl.trans ?_)
        · show copyholdref05_stands.l1 k ⟨B.toArray⟩ ⟨(textL (B.drop 8) 4096).1.toArray⟩ (recS n s) _ = _
          rw [← hs0]
        · by_cases hq : B.take (64 * needN s) = padB n s
          · rw [if_pos hq, if_pos ⟨h1, hmn, hq⟩]
          · rw [if_neg hq, if_neg (fun h => hq h.2.2)]; rfl
      · rw [if_pos (by omega), if_neg (fun h => hmn h.2.1)]; rfl
    · rw [if_neg h1]
      unfold standsB
      rw [if_neg (fun h => h1 h.1)]; rfl
theorem stands_ref {l0 : List ByteArray} {l1 : List S88} (off : Bool) (h : Rt l0 l1) (h1 : l1.length ≤ 1000000) {fr mn a m n k : Nat} (hm : 1 ≤ mn) (hfm : fr + mn ≤ l0.length) (ha : a < mn) (hmm : m ≤ mn) (hn : n < 18446744073709551616) (hk : 20020000 ≤ k) :
    copyholdref05_stands.f k l0 l1 off (fr : Int) (mn : Int) (a : Int) (m : Int) (n : Int) = some ((stR (ringL l0 l1 fr mn) a m n).1, ((stR (ringL l0 l1 fr mn) a m n).2 : Int)) := by
  have hl := h.len
  have hRl := ringL_len l0 l1 fr mn hfm
  have hRs := ring_sec h fr mn
  have go : ∀ (d i k : Nat), i + d = min m 66 → 20010100 + d ≤ k → copyholdref05_stands.l0 k (a : Int) (m : Int) (n : Int) (imgL l0 l1) ⟨(roundB (ringL l0 l1 fr mn) a i).toArray⟩ (i : Int) (fr : Int) (mn : Int) =
      some ((standsB (roundB (ringL l0 l1 fr mn) a (min m 66)) m n).1, ((standsB (roundB (ringL l0 l1 fr mn) a (min m 66)) m n).2 : Int)) := by
    intro d
    induction d with
    | zero =>
      intro i k hi hk; obtain ⟨k, rfl⟩ : ∃ j, k = j + 1 := ⟨k - 1, by omega⟩
      have hj := stands_j1 (roundB (ringL l0 l1 fr mn) a (min m 66)) m n k hn (by omega) (by omega) (roundB_full _ a (by omega) hRs _)
      obtain rfl : i = min m 66 := by omega
      rw [copyholdref05_stands.l0]
      by_cases hi2 : min m 66 < m
      · rw [if_pos (by omega), if_neg (by omega)]; exact hj
      · rw [if_neg (by omega)]; exact hj
    | succ d ih =>
      intro i k hi hk; obtain ⟨k, rfl⟩ : ∃ j, k = j + 1 := ⟨k - 1, by omega⟩
      have hml : (a + i) % mn < mn := Nat.mod_lt _ (by omega)
      have hlt : fr + (a + i) % mn < (imgL l0 l1).length := by rw [imgL_len]; omega
      have hg := ring_get (l1 := l1) hfm ((a + i) % mn) hml
      rw [List.getD_eq_getElem?_getD (l := imgL l0 l1), List.getElem?_eq_getElem hlt] at hg
      have hgs : (imgL l0 l1)[fr + (a + i) % mn].size = 64 := h.im _ (List.getElem_mem hlt)
      have hsn := roundB_succ (ringL l0 l1 fr mn) a i
      rw [hRl, hg] at hsn
      have hrl := roundB_full (ringL l0 l1 fr mn) a (by omega) hRs i
      have hnext := ih (i + 1) k (by omega) (by omega)
      have c1 : (i : Int) < (m : Int) := by omega
      have c2 : (i : Int) < 66 := by omega
      have c3 : ¬ (mn : Int) = 0 := by omega
      have c4 : (0 : Int) ≤ ((fr + (a + i) % mn : Nat) : Int) := by omega
      have c5 : ((fr + (a + i) % mn : Nat) : Int) < ((imgL l0 l1).length : Int) := by omega
      have c6 : (roundB (ringL l0 l1 fr mn) a i).length + (imgL l0 l1)[fr + (a + i) % mn].size ≤ 9223372036854775807 := by omega
      have hw3 : wrap64 ((i : Int) + 1) = ((i + 1 : Nat) : Int) := by rw [w64 (n := (i : Int) + 1) (by omega) (by omega)]; omega
      have hw1 : wrap64 ((a : Int) + (i : Int)) = ((a + i : Nat) : Int) := by clear hw3; rw [w64 (n := (a : Int) + (i : Int)) (by omega) (by omega)]; omega
      have hw2 : wrap64 ((fr : Int) + (((a + i) % mn : Nat) : Int)) = ((fr + (a + i) % mn : Nat) : Int) := by clear hw3 hw1; rw [w64 (by omega) (by omega)]; omega
      rw [copyholdref05_stands.l0, if_pos c1, if_pos c2, if_neg c3, hw1, show Int.tmod ((a + i : Nat) : Int) (mn : Int) = (((a + i) % mn : Nat) : Int) from rfl, hw2, if_pos c4, if_pos c5, rdo hlt, pbsz, if_pos c6, mk_app]
      rw [show (imgL l0 l1)[fr + (a + i) % mn].data.toList = ((some (imgL l0 l1)[fr + (a + i) % mn]).getD ⟨#[]⟩).data.toList from rfl, ← hsn, hw3]
      exact hnext
  unfold copyholdref05_stands.f
  rw [bs (image_ref off h h1 k (by omega))]
  have hgo := go (min m 66) 0 k (by omega) (by omega)
  rw [← round_take hRs (by omega), standsB_cut] at hgo
  exact hgo
end Go.Proofs.Ytcbfnfggnocndaa.Pure
end

section
namespace Go.Proofs.Ytcbfnfggnocndaa
open Go.RowKit Go.Shelf Go.Proofs.Ytcbfnfggnocndaa.Q Go.Proofs.Ytcbfnfggnocndaa.X Go.Proofs.Ytcbfnfggnocndaa.Pure Go.Proofs.YtcbfnfggnocndaaW.PrintWords Go.Proofs.YtcbfnfggnocndaaW.PrintLast Go.Proofs.YtcbfnfggnocndaaW.PrintMore Math
set_option maxHeartbeats 2000000 in
set_option maxRecDepth 1000000 in
theorem mayref_calls (A0 : Option Addr) (c0 n0 : Nat) (A1 : Option Addr) (c1 n1 : Nat) (off : Bool) (fr mn : Int) (hn : n0 ≤ 1000000000) (w : World) :
  Calls Try.prog 29 #[.agg #[.slice A0 n0 c0, .slice A1 n1 c1, .bool off], .agg #[.int .i64 fr, .int .i64 mn]] w fun e w' => e = .returned (.bool (mayR n0 fr mn)) ∧ Below w.heap.size w w' := by
 unfold mayR
 have hb := ((Below.refl w.heap.size w).alloc (Nat.le_refl _) (.cells #[.slice A0 n0 c0, .slice A1 n1 c1, .bool off] 25)).alloc (by rw [World.size_alloc]; omega) (.cells #[.int .i64 fr, .int .i64 mn] 27)
 have HB := Lib.hid hb
 clear hb
 by_cases h1 : 0 ≤ fr
 ·have d1 : decide (0 ≤ fr) = true := decide_eq_true h1
  by_cases h2 : 1 ≤ mn
  ·have d2 : decide (1 ≤ mn) = true := decide_eq_true h2
   by_cases h3 : mn ≤ (n0 : Int)
   ·have d3 : decide (mn ≤ (n0 : Int)) = true := decide_eq_true h3
    have hw : wrap64 ((n0 : Int) - mn) = (n0 : Int) - mn := w64 (by omega) (by omega)
    cases d4 : decide (fr ≤ (n0 : Int) - mn)
    all_goals
     rw [d1, d2, d3]
     go_enter Try.func29, Try.ntmps29
     go_wp2_with fail
     first | go_ret | (go_quiet (fail); go_wp2_with fail; go_ret)
     first | exact ⟨rfl, HB.out⟩ | exact ⟨rfl, zqe HB.out _⟩
   ·have d3 : decide (mn ≤ (n0 : Int)) = false := decide_eq_false h3
    rw [d1, d2, d3]
    go_enter Try.func29, Try.ntmps29
    go_wp2_with fail
    first | go_ret | (go_quiet (fail); go_wp2_with fail; go_ret)
    first | exact ⟨rfl, HB.out⟩ | exact ⟨rfl, zqe HB.out _⟩
  ·have d2 : decide (1 ≤ mn) = false := decide_eq_false h2
   rw [d1, d2]
   go_enter Try.func29, Try.ntmps29
   go_wp2_with fail
   first | go_ret | (go_quiet (fail); go_wp2_with fail; go_ret)
   first | exact ⟨rfl, HB.out⟩ | exact ⟨rfl, zqe HB.out _⟩
 ·have d1 : decide (0 ≤ fr) = false := decide_eq_false h1
  rw [d1]
  go_enter Try.func29, Try.ntmps29
  go_wp2_with fail
  first | go_ret | (go_quiet (fail); go_wp2_with fail; go_ret)
  first | exact ⟨rfl, HB.out⟩ | exact ⟨rfl, zqe HB.out _⟩
set_option maxHeartbeats 4000000 in
set_option maxRecDepth 1000000 in
theorem foundref_calls (A0 : Option Addr) (c0 : Nat) (l0 : List ByteArray) (A1 : Option Addr) (c1 : Nat) (l1 : List S88) (off : Bool) (fr mn at_ first most : Nat) (w : World) (h0 : Kd.C Kd.string w A0 l0.length l0) (g0 : l0.length ≤ c0) (h1 : Kd.C k88 w A1 l1.length l1) (g1 : l1.length ≤ c1) (hrt : Rt l0 l1) (hl1 : l1.length ≤ 1000000)
  (hm : 1 ≤ mn) (hfm : fr + mn ≤ l0.length) (hat : at_ < mn) (hf : first < 18446744073709551616) (hmy : most ≤ 9223372036854775807) :
  Calls Try.prog 30 #[.agg #[.slice A0 l0.length c0, .slice A1 l1.length c1, .bool off], .agg #[.int .i64 fr, .int .i64 mn], .int .i64 at_, .int .u64 first, .int .i64 most] w fun e w' =>
   ∃ v, e = .returned (.tuple #[v, .int .i64 (found (ringL l0 l1 fr mn) at_ first most).2]) ∧ w'.ownsRow w.heap.size 9 1 v (found (ringL l0 l1 fr mn) at_ first most).1.length ((found (ringL l0 l1 fr mn) at_ first most).1.map Value.string) ∧ Below w.heap.size w w' := by
 have hll := hrt.len
 have hrl := ringL_len l0 l1 fr mn hfm
 obtain ⟨F, hF⟩ : ∃ F, F = found (ringL l0 l1 fr mn) at_ first most := ⟨_, rfl⟩
 rw [← hF]
 have HF0 : Hid (F = goP (stR (ringL l0 l1 fr mn)) mn at_ first most (mn + 1) [] 0) := Lib.hid (by rw [hF]; unfold found foundP; rw [hrl])
 have hx0 := Bx2.new w (.slice A0 l0.length c0) (.slice A1 l1.length c1) (.bool off) fr mn
 obtain ⟨W2, hW2⟩ : ∃ W2, W2 = (w.alloc (.cells #[.slice A0 l0.length c0, .slice A1 l1.length c1, .bool off] 25)).alloc (.cells #[.int .i64 fr, .int .i64 mn] 27) := ⟨_, rfl⟩
 rw [← hW2] at hx0
 have hst : ∀ (a m n : Nat), a < mn → m ≤ mn → n < 18446744073709551616 → ∀ W, Below w.heap.size w W → Calls Try.prog 48 #[.agg #[.slice A0 l0.length c0, .slice A1 l1.length c1, .bool off], .agg #[.int .i64 fr, .int .i64 mn], .int .i64 a, .int .i64 m, .int .u64 n] W fun e w' =>
   e = .returned (.tuple #[.string (stR (ringL l0 l1 fr mn) a m n).1, .int .i64 (stR (ringL l0 l1 fr mn) a m n).2]) ∧ Below W.heap.size W w' := by
  intro a m n ha hmm hn W hb
  obtain ⟨k, hk⟩ : ∃ k, 20020000 ≤ k := ⟨_, Nat.le_refl _⟩
  exact X.copyholdref05_stands.calls k A0 c0 l0 A1 c1 l1 off fr mn a m n _ _ W (Kd.C_below h0 hb) g0 (Kd.C_below h1 hb) g1 (stands_ref off hrt hl1 hm hfm ha hmm hn hk)
 have HST := Lib.hid hst; have HX0 := Lib.hid hx0; have HW2 := Lib.hid hW2
 clear h0 h1 hrt hF hx0 hW2 hst
 go_enter Try.func30, Try.ntmps30
 go_wp2_with fail
 rw [← HW2.out]
 go_loopg [12, 13] (mn + 1) (fun gk v12 v13 wx => ∃ (acc : List ByteArray) (used : Nat) (Ao : Option Addr) (co : Nat), v12 = .slice Ao acc.length co ∧ v13 = .int .i64 used ∧ Hid (wx.ownsRow (w.heap.size + 2) 9 1 (.slice Ao acc.length co) acc.length (acc.map Value.string)) ∧ acc.length ≤ used ∧ used ≤ mn ∧ acc.length ≤ most ∧ mn - used < gk ∧ Hid (F = goP (stR (ringL l0 l1 fr mn)) mn at_ first most gk acc used) ∧ Hid (Bx2 w wx (.slice A0 l0.length c0) (.slice A1 l1.length c1) (.bool off) fr mn))
 case atStart => exact ⟨[], 0, none, 0, rfl, rfl, Lib.hid (World.ownsRow_nil _ _ _ _), by show 0 ≤ 0; omega, by omega, by show 0 ≤ most; omega, by omega, HF0, HX0⟩
 case round =>
  clear HF0 HX0
  obtain ⟨acc, used, Ao, co, rfl, rfl, HO, hau, hum, ham, hgk, HFG, HX⟩ := hrel
  obtain ⟨g, rfl⟩ : ∃ g, gk = g + 1 := ⟨gk - 1, by omega⟩
  have hFG := HFG.out
  unfold goP at hFG
  have r1 := HX.out.r1
  by_cases c1 : acc.length = most
  ·rw [if_pos (.inl c1)] at hFG
   have q1 : decide ((acc.length : Int) < (most : Int)) = false := decide_eq_false (by omega)
   have q1n : decide (acc.length < most) = false := decide_eq_false (by omega)
   have HE := Lib.hid hFG
   clear hFG HFG hgk c1
   go_wp2_with fail
   go_ret2
   exact ⟨.slice Ao acc.length co, by rw [HE.out]; rfl, by rw [HE.out]; exact own_weaken HO.out (by omega), HX.out.b⟩
  ·have q1 : decide ((acc.length : Int) < (most : Int)) = true := decide_eq_true (by omega)
   have q1n : decide (acc.length < most) = true := decide_eq_true (by omega)
   by_cases c2 : used = mn
   ·rw [if_pos (.inr c2)] at hFG
    have q2 : decide ((used : Int) < (mn : Int)) = false := decide_eq_false (by omega)
    have q2n : decide (used < mn) = false := decide_eq_false (by omega)
    have HE := Lib.hid hFG
    clear hFG HFG hgk c1 c2
    go_wp2_with fail
    go_ret2
    exact ⟨.slice Ao acc.length co, by rw [HE.out]; rfl, by rw [HE.out]; exact own_weaken HO.out (by omega), HX.out.b⟩
   ·rw [if_neg (by omega)] at hFG
    have q2 : decide ((used : Int) < (mn : Int)) = true := decide_eq_true (by omega)
    have q2n : decide (used < mn) = true := decide_eq_true (by omega)
    obtain ⟨a, ha⟩ : ∃ a, a = (at_ + used) % mn := ⟨_, rfl⟩
    obtain ⟨m3, hm3⟩ : ∃ m3, m3 = mn - used := ⟨_, rfl⟩
    obtain ⟨n3, hn3⟩ : ∃ n3, n3 = (first + acc.length) % 18446744073709551616 := ⟨_, rfl⟩
    rw [← ha, ← hn3, ← hm3] at hFG
    have hal : a < mn := by rw [ha]; exact Nat.mod_lt _ (by omega)
    have ham2 : acc.length + 1 ≤ most := by omega
    have hn3l : n3 < 18446744073709551616 := by rw [hn3]; exact Nat.mod_lt _ (by decide)
    have hle : (stR (ringL l0 l1 fr mn) a m3 n3).2 ≤ m3 := standsB_le _ _ _
    have hcal := HST.out a m3 n3 hal (by omega) hn3l
    have hrem : Int.tmod ((at_ : Int) + (used : Int)) (mn : Int) = (a : Int) := by
     rw [show (at_ : Int) + (used : Int) = ((at_ + used : Nat) : Int) by omega, ha]; rfl
    have hu0 : IntKind.u64.wrap (acc.length : Int) = (acc.length : Int) := u64_in (by omega)
    have hu1 : IntKind.u64.wrap ((first : Int) + (acc.length : Int)) = (n3 : Int) := by rw [u64_add, hn3]
    have hm3i : (mn : Int) - (used : Int) = (m3 : Int) := by omega
    have hlz2 : ((mn : Int) == 0) = false := beq_eq_false_iff_ne.2 (by omega)
    have hlz : ¬ ((mn : Int) = 0) := by omega
    have hmz : ¬ mn = 0 := by omega
    have hw0 : wrap64 ((at_ : Int) + (used : Int)) = (at_ : Int) + (used : Int) := w64 (by omega) (by omega)
    have hw2 : wrap64 ((mn : Int) - (used : Int)) = (m3 : Int) := by clear hw0 hu0 hu1 hrem; rw [w64 (by omega) (by omega)]; exact hm3i
    obtain ⟨S, hS⟩ : ∃ S, S = (stR (ringL l0 l1 fr mn) a m3 n3).1 := ⟨_, rfl⟩
    obtain ⟨m, hm0⟩ : ∃ m, m = (stR (ringL l0 l1 fr mn) a m3 n3).2 := ⟨_, rfl⟩
    rw [← hS, ← hm0] at hcal
    rw [← hm0, ← hS] at hFG
    rw [← hm0] at hle
    rw [← hw2] at hcal
    have HCAL := Lib.hid hcal; have HM3 := Lib.hid hm3; have HFG2 := Lib.hid hFG
    have HXD : Hid (Bx2 w wr.drew _ _ _ _ _) := Lib.hid ⟨HX.out.d, HX.out.r, below_drew HX.out.b⟩
    have HOD : Hid (wr.drew.ownsRow (w.heap.size + 2) 9 1 _ acc.length (acc.map Value.string)) := Lib.hid (pw_own_below HO.out (below_drew (Below.refl _ wr)))
    clear ha hm3 hn3 hS hm0 hcal hFG HFG c1 c2 hm3i
    go_wp2_with fail
    refine start_ (n := 23) (S := fun w' => w'.cell? ⟨w.heap.size, 0, none⟩ = some (.slice A0 l0.length c0) ∧ w'.cell? ⟨w.heap.size, 1, none⟩ = some (.slice A1 l1.length c1) ∧ w'.cell? ⟨w.heap.size, 2, none⟩ = some (.bool off) ∧ w'.cell? ⟨w.heap.size + 1, 0, none⟩ = some (.int .i64 (fr : Int)) ∧ w'.cell? ⟨w.heap.size + 1, 1, none⟩ = some (.int .i64 (mn : Int))) (ds := []) #[false, false, false, false, false, false, false, false, false, false, false, false, false, false, false, false, false, false, false, false, false, false, false] (by kernel_rfl) rfl rfl ⟨HXD.out.c0, HXD.out.c1, HXD.out.c2, HXD.out.r0, HXD.out.r1⟩ (fun hHeld => ?_)
    refine pure_ (i := 2) (N := some 29) (v := ?_) (a' := ?_) #[false, false, true, false, false, false, false, false, false, false, false, false, false, false, false, false, false, false, false, false, false, false, false] rfl rfl (by kernel_rfl) (fun _ _ _ h => h) (Or.inl ⟨by rfl, ?_⟩) ?_ ?_
    (rotate_left; · (intro w'; go_simp; with_reducible rfl))
    (rotate_left; · (simp only [Act.put, zqk, zql, zqm, i64_w, i32_w]; rfl))
    refine pure_ (i := 3) (N := some 30) (v := ?_) (a' := ?_) #[false, false, true, true, false, false, false, false, false, false, false, false, false, false, false, false, false, false, false, false, false, false, false] rfl rfl (by kernel_rfl) (fun _ _ _ h => h) (Or.inl ⟨by rfl, ?_⟩) ?_ ?_
    (rotate_left; · (intro w'; go_simp; with_reducible rfl))
    (rotate_left; · (simp only [Act.put, zqk, zql, zqm, i64_w, i32_w]; rfl))
    refine pure_ (i := 4) (N := some 31) (v := ?_) (a' := ?_) #[false, false, true, true, true, false, false, false, false, false, false, false, false, false, false, false, false, false, false, false, false, false, false] rfl rfl (by kernel_rfl) (fun _ _ _ h => h) (Or.inl ⟨by rfl, ?_⟩) ?_ ?_
    (rotate_left; · (intro w'; go_simp; with_reducible rfl))
    (rotate_left; · (simp only [Act.put, zqk, zql, zqm, i64_w, i32_w]; rfl))
    refine pure_ (i := 5) (N := some 32) (v := ?_) (a' := ?_) #[false, false, true, true, true, true, false, false, false, false, false, false, false, false, false, false, false, false, false, false, false, false, false] rfl rfl (by kernel_rfl) (fun _ _ _ h => h) (Or.inl ⟨by rfl, ?_⟩) ?_ ?_
    (rotate_left; · (intro w'; go_simp; with_reducible rfl))
    (rotate_left; · (simp only [Act.put, zqk, zql, zqm, i64_w, i32_w]; rfl))
    refine pure_ (i := 8) (N := some 35) (v := ?_) (a' := ?_) #[false, false, true, true, true, true, false, false, true, false, false, false, false, false, false, false, false, false, false, false, false, false, false] rfl rfl (by kernel_rfl) (fun _ _ _ h => h) (Or.inl ⟨by rfl, ?_⟩) ?_ ?_
    (rotate_left; · (intro w'; go_simp; with_reducible rfl))
    (rotate_left; · (simp only [Act.put, zqk, zql, zqm, i64_w, i32_w]; rfl))
    refine pure_ (i := 10) (N := some 37) (v := ?_) (a' := ?_) #[false, false, true, true, true, true, false, false, true, false, true, false, false, false, false, false, false, false, false, false, false, false, false] rfl rfl (by kernel_rfl) (fun _ _ _ h => h) (Or.inl ⟨by rfl, ?_⟩) ?_ ?_
    (rotate_left; · (intro w'; go_simp; with_reducible rfl))
    (rotate_left; · (simp only [Act.put, zqk, zql, zqm, i64_w, i32_w]; rfl))
    refine pure_ (i := 12) (N := some 39) (v := ?_) (a' := ?_) #[false, false, true, true, true, true, false, false, true, false, true, false, true, false, false, false, false, false, false, false, false, false, false] rfl rfl (by kernel_rfl) (fun _ _ _ h => h) (Or.inl ⟨by rfl, ?_⟩) ?_ ?_
    (rotate_left; · (intro w'; go_simp; with_reducible rfl))
    (rotate_left; · (simp only [Act.put, zqk, zql, zqm, i64_w, i32_w]; rfl))
    refine pure_ (i := 13) (N := some 40) (v := ?_) (a' := ?_) #[false, false, true, true, true, true, false, false, true, false, true, false, true, true, false, false, false, false, false, false, false, false, false] rfl rfl (by kernel_rfl) (fun _ _ _ h => h) (Or.inl ⟨by rfl, ?_⟩) ?_ ?_
    (rotate_left; · (intro w'; go_simp; with_reducible rfl))
    (rotate_left; · (simp only [Act.put, zqk, zql, zqm, i64_w, i32_w]; rfl))
    refine pure_ (i := 14) (N := some 41) (v := ?_) (a' := ?_) #[false, false, true, true, true, true, false, false, true, false, true, false, true, true, true, false, false, false, false, false, false, false, false] rfl rfl (by kernel_rfl) (fun _ _ _ h => h) (Or.inl ⟨by rfl, ?_⟩) ?_ ?_
    (rotate_left; · (intro w'; go_simp; with_reducible rfl))
    (rotate_left; · (simp only [Act.put, zqk, zql, zqm, i64_w, i32_w]; rfl))
    refine pure_ (i := 15) (N := some 42) (v := ?_) (a' := ?_) #[false, false, true, true, true, true, false, false, true, false, true, false, true, true, true, true, false, false, false, false, false, false, false] rfl rfl (by kernel_rfl) (fun _ _ _ h => h) (Or.inl ⟨by rfl, ?_⟩) ?_ ?_
    (rotate_left; · (intro w'; go_simp; with_reducible rfl))
    (rotate_left; · (simp only [Act.put, zqk, zql, zqm, i64_w, i32_w]; rfl))
    refine pure_ (i := 16) (N := some 43) (v := ?_) (a' := ?_) #[false, false, true, true, true, true, false, false, true, false, true, false, true, true, true, true, true, false, false, false, false, false, false] rfl rfl (by kernel_rfl) (fun _ _ _ h => h) (Or.inl ⟨by rfl, ?_⟩) ?_ ?_
    (rotate_left; · (intro w'; go_simp; with_reducible rfl))
    (rotate_left; · (simp only [Act.put, zqk, zql, zqm, i64_w, i32_w]; rfl))
    refine take_ (i := 0) (N := some 27) (v := ?_) (a' := ?_) #[true, false, true, true, true, true, false, false, true, false, true, false, true, true, true, true, true, false, false, false, false, false, false] rfl rfl (by kernel_rfl) (fun _ _ _ h => h) (Or.inl ⟨by rfl, ?_⟩) hHeld ?_ ?_
    rotate_left
    ·rintro w' ⟨s0, s1, s2, s3, s4⟩
     go_simp
     with_reducible rfl
    (rotate_left; · (simp only [Act.put, zqk, zql, zqm, i64_w, i32_w]; rfl))
    refine take_ (i := 1) (N := some 28) (v := ?_) (a' := ?_) #[true, true, true, true, true, true, false, false, true, false, true, false, true, true, true, true, true, false, false, false, false, false, false] rfl rfl (by kernel_rfl) (fun _ _ _ h => h) (Or.inl ⟨by rfl, ?_⟩) hHeld ?_ ?_
    rotate_left
    ·rintro w' ⟨s0, s1, s2, s3, s4⟩
     go_simp
     with_reducible rfl
    (rotate_left; · (simp only [Act.put, zqk, zql, zqm, i64_w, i32_w]; rfl))
    refine take_ (i := 6) (N := some 33) (v := ?_) (a' := ?_) #[true, true, true, true, true, true, true, false, true, false, true, false, true, true, true, true, true, false, false, false, false, false, false] rfl rfl (by kernel_rfl) (fun _ _ _ h => h) (Or.inl ⟨by rfl, ?_⟩) hHeld ?_ ?_
    rotate_left
    ·rintro w' ⟨s0, s1, s2, s3, s4⟩
     go_simp
     with_reducible rfl
    (rotate_left; · (simp only [Act.put, zqk, zql, zqm, i64_w, i32_w]; rfl))
    refine pure_ (i := 7) (N := some 34) (v := ?_) (a' := ?_) #[true, true, true, true, true, true, true, true, true, false, true, false, true, true, true, true, true, false, false, false, false, false, false] rfl rfl (by kernel_rfl) (fun _ _ _ h => h) (Or.inl ⟨by rfl, ?_⟩) ?_ ?_
    (rotate_left; · (intro w'; go_simp; with_reducible rfl))
    (rotate_left; · (simp only [Act.put, zqk, zql, zqm, i64_w, i32_w]; rfl))
    refine take_ (i := 9) (N := some 36) (v := ?_) (a' := ?_) #[true, true, true, true, true, true, true, true, true, true, true, false, true, true, true, true, true, false, false, false, false, false, false] rfl rfl (by kernel_rfl) (fun _ _ _ h => h) (Or.inl ⟨by rfl, ?_⟩) hHeld ?_ ?_
    rotate_left
    ·rintro w' ⟨s0, s1, s2, s3, s4⟩
     go_simp
     with_reducible rfl
    (rotate_left; · (simp only [Act.put, zqk, zql, zqm, i64_w, i32_w]; rfl))
    refine pure_ (i := 11) (N := some 38) (v := ?_) (a' := ?_) #[true, true, true, true, true, true, true, true, true, true, true, true, true, true, true, true, true, false, false, false, false, false, false] rfl rfl (by kernel_rfl) (fun _ _ _ h => h) (Or.inl ⟨by rfl, ?_⟩) ?_ ?_
    (rotate_left; · (intro w'; go_simp; with_reducible rfl))
    (rotate_left; · (simp only [Act.put, zqk, zql, zqm, i64_w, i32_w]; rfl))
    refine one_ (i := 17) (N := some 44) #[true, true, true, true, true, true, true, true, true, true, true, true, true, true, true, true, true, true, false, false, false, false, false] rfl rfl (by kernel_rfl) (by decide) (fun K hK => ?_)
    refine goes_ Try.func48 (by kernel_rfl) rfl #[.agg #[.slice A0 l0.length c0, .slice A1 l1.length c1, .bool off], .agg #[.int .i64 fr, .int .i64 mn], .int .i64 a, .int .i64 (wrap64 ((mn : Int) - (used : Int))), .int .u64 n3] (by rfl) rfl rfl (by simp only [List.map_toArray, List.map_cons, List.map_nil]; rfl) ?_
    with_reducible refine ((HCAL.out _ HXD.out.b)).mono ?_
    rintro e w3 ⟨rfl, hb3⟩
    refine ⟨_, rfl, ?_⟩
    have HX3 := Lib.hid (HXD.out.step hb3)
    have HO3 := Lib.hid (pw_own_below HOD.out hb3)
    clear hb3
    refine hK.out _ _ ⟨HX3.out.c0, HX3.out.c1, HX3.out.c2, HX3.out.r0, HX3.out.r1⟩ (fun hHeld => ?_)
    clear hK K
    refine norm_ (a' := ?_) ?_ ?_
    rotate_left
    ·show Act.put _ (some 44) _ = _
     simp only [Act.put, zqk, zql, zqm, i64_w, i32_w]
     rfl
    refine pure_ (i := 18) (N := some 26) (v := ?_) (a' := ?_) #[true, true, true, true, true, true, true, true, true, true, true, true, true, true, true, true, true, true, true, false, false, false, false] rfl rfl (by kernel_rfl) (fun _ _ _ h => h) (Or.inl ⟨by rfl, ?_⟩) ?_ ?_
    (rotate_left; · (intro w'; go_simp; with_reducible rfl))
    (rotate_left; · (simp only [Act.put, zqk, zql, zqm, i64_w, i32_w]; rfl))
    refine pure_ (i := 19) (N := some 45) (v := ?_) (a' := ?_) #[true, true, true, true, true, true, true, true, true, true, true, true, true, true, true, true, true, true, true, true, false, false, false] rfl rfl (by kernel_rfl) (fun _ _ _ h => h) (Or.inl ⟨by rfl, ?_⟩) ?_ ?_
    (rotate_left; · (intro w'; go_simp; with_reducible rfl))
    (rotate_left; · (simp only [Act.put, zqk, zql, zqm, i64_w, i32_w]; rfl))
    refine pure_ (i := 20) (N := some 46) (v := ?_) (a' := ?_) #[true, true, true, true, true, true, true, true, true, true, true, true, true, true, true, true, true, true, true, true, true, false, false] rfl rfl (by kernel_rfl) (fun _ _ _ h => h) (Or.inl ⟨by rfl, ?_⟩) ?_ ?_
    (rotate_left; · (intro w'; go_simp; with_reducible rfl))
    (rotate_left; · (simp only [Act.put, zqk, zql, zqm, i64_w, i32_w]; rfl))
    refine pure_ (i := 21) (N := some 14) (v := ?_) (a' := ?_) #[true, true, true, true, true, true, true, true, true, true, true, true, true, true, true, true, true, true, true, true, true, true, false] rfl rfl (by kernel_rfl) (fun _ _ _ h => h) (Or.inl ⟨by rfl, ?_⟩) ?_ ?_
    (rotate_left; · (intro w'; go_simp; with_reducible rfl))
    (rotate_left; · (simp only [Act.put, zqk, zql, zqm, i64_w, i32_w]; rfl))
    refine pure_ (i := 22) (N := some 15) (v := ?_) (a' := ?_) #[true, true, true, true, true, true, true, true, true, true, true, true, true, true, true, true, true, true, true, true, true, true, true] rfl rfl (by kernel_rfl) (fun _ _ _ h => h) (Or.inl ⟨by rfl, ?_⟩) ?_ ?_
    (rotate_left; · (intro w'; go_simp; with_reducible rfl))
    (rotate_left; · (simp only [Act.put, zqk, zql, zqm, i64_w, i32_w]; rfl))
    refine done_ (by kernel_rfl) ?_
    clear hrem hu0 hu1 hw0 hw2 r1 q1 q1n q2 q2n
    have hFG := HFG2.out
    by_cases c3 : m = 0
    ·rw [if_pos c3] at hFG
     have HE := Lib.hid hFG
     clear hFG hgk hle
     subst c3
     go_wp2_with fail
     go_ret2
     exact ⟨.slice Ao acc.length co, by rw [HE.out]; rfl, by rw [HE.out]; exact own_weaken HO3.out (by omega), HX3.out.b⟩
    ·rw [if_neg c3] at hFG
     have hpz : ((m : Int) == 0) = false := beq_eq_false_iff_ne.2 (by omega)
     have hpzn : ¬ (m : Int) = 0 := by omega
     have HE := Lib.hid hFG
     obtain ⟨i0, hi0, hz0, hz1, hz2⟩ := info_parts info_str5
     obtain ⟨xs, hxs⟩ : ∃ xs, xs = acc.map Value.string := ⟨_, rfl⟩
     have hmx : xs ++ [.string S] = (acc ++ [S]).map Value.string := by rw [hxs, List.map_append]; rfl
     have hal2 : acc.length ≤ 5000 := by omega
     have ho3 := HO3.out
     rw [← hxs] at ho3
     have HO4 := Lib.hid ho3; have HMX := Lib.hid hmx; have HLE := Lib.hid hle
     have hz3 : w.heap.size + 2 ≤ w3.heap.size := by have := blk_lt HX3.out.r; omega
     clear hFG hxs hmx ho3 hle
     go_wp2_with (at_builtin; refine wpList_append_own _ rfl _ _ 22 rfl (w.heap.size + 2) 9 i0 _ 1 16 Try.underlying22 hi0 hz0 hz1 hz2 rfl (by decide) (.slice Ao acc.length co) acc.length xs rfl (HO4.out.alloc _) ⟨w3.heap.size, 0, none⟩ 1 1 [.string S] rfl rfl (World.news_of_block (cs := #[.string S]) (t := 9) (fr := (0, 0)) (heap_alloc_new w3 _)) (by intro u hu; rw [List.mem_singleton.1 hu]; rfl) (by unfold maxLen; omega) (by omega) (by rw [World.size_alloc]; omega) ?_)
     intro v' w5 hown hgrow _
     obtain ⟨g4, c4, rfl⟩ := ownsRow_succ hown
     rw [HMX.out] at hown
     have hown1 := HO4.out
     have hb5 : Below (w.heap.size + 2) w3 w5 := ((Below.refl (w.heap.size + 2) w3).alloc hz3 _).grown hgrow (by rw [World.size_alloc]; omega) (fun k hk => by have := own_base hown1 k hk; omega)
     have HX5 : Hid (Bx2 w w5 (.slice A0 l0.length c0) (.slice A1 l1.length c1) (.bool off) fr mn) := Lib.hid ⟨(hb5.block _ (by omega)).trans HX3.out.d, (hb5.block _ (by omega)).trans HX3.out.r, HX3.out.b.trans (hb5.mono (by omega))⟩
     have HO5 := Lib.hid hown
     clear hown hgrow hown1 hb5
     have hum2 : used + m ≤ mn := by have hlm := HLE.out; have hm3 := HM3.out; omega
     go_wp2_with fail
     go_roundg g
     case measure => omega
     case rel => exact ⟨acc ++ [S], used + m, some ⟨g4, 0, none⟩, c4, by rw [List.length_append]; rfl, by congr 1, Lib.hid (by rw [List.length_append]; exact HO5.out), by rw [List.length_append]; show acc.length + 1 ≤ _; omega, by omega, by rw [List.length_append]; show acc.length + 1 ≤ _; omega, by omega, HE, HX5⟩
set_option maxHeartbeats 4000000 in
set_option maxRecDepth 1000000 in
theorem rightref_main (A0 : Option Addr) (c0 : Nat) (l0 : List ByteArray) (A1 : Option Addr) (c1 : Nat) (l1 : List S88) (fr mn at_ first many used : Nat) (w : World) (h0 : Kd.C Kd.string w A0 l0.length l0) (g0 : l0.length ≤ c0) (h1 : Kd.C k88 w A1 l1.length l1) (g1 : l1.length ≤ c1) (hrt : Rt l0 l1) (hl1 : l1.length ≤ 1000000)
  (hm : 1 ≤ mn) (hfm : fr + mn ≤ l0.length) (hat : at_ < mn) (hf : first < 18446744073709551616) (hmy : many ≤ 9223372036854775807) :
  Calls Try.prog 12 #[.agg #[.slice A0 l0.length c0, .slice A1 l1.length c1, .bool false], .agg #[.int .i64 fr, .int .i64 mn], .agg #[.int .i64 at_, .int .i64 used, .int .u64 first, .int .i64 many]] w fun e w' =>
   e = .returned (.bool ((((found (ringL l0 l1 fr mn) at_ first many).1.length : Int) == (many : Int)) && (((found (ringL l0 l1 fr mn) at_ first many).2 : Int) == (used : Int)))) ∧ Below w.heap.size w w' := by
 have hll := hrt.len
 obtain ⟨W1, hW1⟩ : ∃ W1, W1 = ((w.alloc (.cells #[.slice A0 l0.length c0, .slice A1 l1.length c1, .bool false] 25)).alloc (.cells #[.int .i64 fr, .int .i64 mn] 27)).alloc (.cells #[.int .i64 at_, .int .i64 used, .int .u64 first, .int .i64 many] 30) := ⟨_, rfl⟩
 obtain ⟨hx, hl, hz⟩ := bx3_new w _ _ _ _ _ _ _ _ _ W1 hW1
 have hmay : mayR l0.length fr mn = true := by
  unfold mayR
  rw [decide_eq_true (by omega), decide_eq_true (by omega), decide_eq_true (by omega), decide_eq_true (by omega)]; rfl
 have hmc := mayref_calls A0 c0 l0.length A1 c1 l1.length false fr mn (by omega) W1
 rw [hmay] at hmc
 have hfd := fun W (hb : Below w.heap.size w W) => foundref_calls A0 c0 l0 A1 c1 l1 false fr mn at_ first many W (Kd.C_below h0 hb) g0 (Kd.C_below h1 hb) g1 hrt hl1 hm hfm hat hf hmy
 have HFD := Lib.hid hfd; have HMC := Lib.hid hmc; have HX := Lib.hid hx; have HL := Lib.hid hl; have HW1 := Lib.hid hW1
 have e1 : decide ((at_ : Int) < 0) = false := decide_eq_false (by omega)
 have e2 : decide ((mn : Int) ≤ (at_ : Int)) = false := decide_eq_false (by omega)
 have e2n : decide (mn ≤ at_) = false := decide_eq_false (by omega)
 have e3 : decide ((many : Int) < 0) = false := decide_eq_false (by omega)
 have e4 : decide ((used : Int) < 0) = false := decide_eq_false (by omega)
 clear h0 h1 hx hl hz hW1 hmc hfd hrt hmay
 go_enter Try.func12, Try.ntmps12
 go_wp2_with fail
 rw [← HW1.out]
 refine HMC.out.mono ?_
 rintro e w2 ⟨rfl, hb2⟩
 have HX2 := Lib.hid (HX.out.step hb2); have HL2 := Lib.hid (HL.out.step hb2)
 have HFD2 := Lib.hid (HFD.out w2 HX2.out.b)
 have q0 := HL2.out.l0; have q1 := HL2.out.l1; have q2 := HL2.out.l2; have q3 := HL2.out.l3; have q4 := HX2.out.r1; have q5 := HX2.out.r0; have p0 := HX2.out.c0; have p1 := HX2.out.c1; have p2 := HX2.out.c2
 clear hb2 HMC HX HL HFD
 go_wp2_with fail
 refine HFD2.out.mono ?_
 rintro e w4 ⟨v, rfl, ho, hb4⟩
 have hR : Kd.R Kd.string 9 w4 w2.heap.size (fun _ => True) v (found (ringL l0 l1 fr mn) at_ first many).1 := Kd.R_of_own ho (fun _ _ => trivial)
 obtain ⟨A5, c5, rfl⟩ := Kd.V_slice (Kd.R_V (base' := 0) hR)
 have HX4 := Lib.hid (HX2.out.step hb4); have HL4 := Lib.hid (HL2.out.step hb4)
 clear ho hR hb4 q0 q1 q2 q3 q4 q5 p0 p1 p2 HFD2
 have q3 := HL4.out.l3; have q1 := HL4.out.l1
 obtain ⟨b1, hb1⟩ : ∃ b1, b1 = (((found (ringL l0 l1 fr mn) at_ first many).1.length : Int) == (many : Int)) := ⟨_, rfl⟩
 obtain ⟨b2, hb2⟩ : ∃ b2, b2 = (((found (ringL l0 l1 fr mn) at_ first many).2 : Int) == (used : Int)) := ⟨_, rfl⟩
 replace hb1 := hb1.symm
 replace hb2 := hb2.symm
 cases b1
 ·go_wp2_with fail
  go_ret
  exact ⟨by rw [hb1]; rfl, HX4.out.b⟩
 ·cases b2
  all_goals
   go_wp2_with fail
   go_ret
   exact ⟨by rw [hb1, hb2]; rfl, HX4.out.b⟩
set_option maxHeartbeats 4000000 in
set_option maxRecDepth 1000000 in
theorem rightref_fail (A0 : Option Addr) (c0 n0 : Nat) (A1 : Option Addr) (c1 n1 : Nat) (off : Bool) (fr mn at_ used first many : Int) (hn : n0 ≤ 1000000000) (w : World)
  (h : off = true ∨ mayR n0 fr mn = false ∨ at_ < 0 ∨ mn ≤ at_ ∨ many < 0 ∨ used < 0) :
  Calls Try.prog 12 #[.agg #[.slice A0 n0 c0, .slice A1 n1 c1, .bool off], .agg #[.int .i64 fr, .int .i64 mn], .agg #[.int .i64 at_, .int .i64 used, .int .u64 first, .int .i64 many]] w fun e w' => e = .returned (.bool false) ∧ Below w.heap.size w w' := by
 obtain ⟨W1, hW1⟩ : ∃ W1, W1 = ((w.alloc (.cells #[.slice A0 n0 c0, .slice A1 n1 c1, .bool off] 25)).alloc (.cells #[.int .i64 fr, .int .i64 mn] 27)).alloc (.cells #[.int .i64 at_, .int .i64 used, .int .u64 first, .int .i64 many] 30) := ⟨_, rfl⟩
 obtain ⟨hx, hl, hz⟩ := bx3_new w _ _ _ _ _ _ _ _ _ W1 hW1
 have hmc := mayref_calls A0 c0 n0 A1 c1 n1 off fr mn hn W1
 obtain ⟨mb, hmb⟩ : ∃ mb, mb = mayR n0 fr mn := ⟨_, rfl⟩
 rw [← hmb] at hmc h
 have HMC := Lib.hid hmc; have HX := Lib.hid hx; have HL := Lib.hid hl; have HW1 := Lib.hid hW1
 clear hmc hx hl hz hW1 hmb
 cases off with
 | true =>
  clear h
  go_enter Try.func12, Try.ntmps12
  go_wp2_with fail
  rw [← HW1.out]
  refine HMC.out.mono ?_
  rintro e w2 ⟨rfl, hb2⟩
  have HX2 := Lib.hid (HX.out.step hb2); have HL2 := Lib.hid (HL.out.step hb2)
  have q0 := HL2.out.l0; have q1 := HL2.out.l1; have q3 := HL2.out.l3; have q4 := HX2.out.r1; have p2 := HX2.out.c2
  clear hb2
  go_wp2_with fail
  go_ret
  exact ⟨rfl, HX2.out.b⟩
 | false =>
  cases mb with
  | false =>
   clear h
   go_enter Try.func12, Try.ntmps12
   go_wp2_with fail
   rw [← HW1.out]
   refine HMC.out.mono ?_
   rintro e w2 ⟨rfl, hb2⟩
   have HX2 := Lib.hid (HX.out.step hb2); have HL2 := Lib.hid (HL.out.step hb2)
   have q0 := HL2.out.l0; have q1 := HL2.out.l1; have q3 := HL2.out.l3; have q4 := HX2.out.r1; have p2 := HX2.out.c2
   clear hb2
   go_wp2_with fail
   go_ret
   exact ⟨rfl, HX2.out.b⟩
  | true =>
   by_cases h1 : at_ < 0
   ·have e1 : decide (at_ < 0) = true := decide_eq_true h1
    clear h h1
    go_enter Try.func12, Try.ntmps12
    go_wp2_with fail
    rw [← HW1.out]
    refine HMC.out.mono ?_
    rintro e w2 ⟨rfl, hb2⟩
    have HX2 := Lib.hid (HX.out.step hb2); have HL2 := Lib.hid (HL.out.step hb2)
    have q0 := HL2.out.l0; have q1 := HL2.out.l1; have q3 := HL2.out.l3; have q4 := HX2.out.r1; have p2 := HX2.out.c2
    clear hb2
    go_wp2_with fail
    go_ret
    exact ⟨rfl, HX2.out.b⟩
   ·have e1 : decide (at_ < 0) = false := decide_eq_false h1
    by_cases h2 : mn ≤ at_
    ·have e2 : decide (mn ≤ at_) = true := decide_eq_true h2
     clear h h1 h2
     go_enter Try.func12, Try.ntmps12
     go_wp2_with fail
     rw [← HW1.out]
     refine HMC.out.mono ?_
     rintro e w2 ⟨rfl, hb2⟩
     have HX2 := Lib.hid (HX.out.step hb2); have HL2 := Lib.hid (HL.out.step hb2)
     have q0 := HL2.out.l0; have q1 := HL2.out.l1; have q3 := HL2.out.l3; have q4 := HX2.out.r1; have p2 := HX2.out.c2
     clear hb2
     go_wp2_with fail
     go_ret
     exact ⟨rfl, HX2.out.b⟩
    ·have e2 : decide (mn ≤ at_) = false := decide_eq_false h2
     by_cases h3 : many < 0
     ·have e3 : decide (many < 0) = true := decide_eq_true h3
      clear h h1 h2 h3
      go_enter Try.func12, Try.ntmps12
      go_wp2_with fail
      rw [← HW1.out]
      refine HMC.out.mono ?_
      rintro e w2 ⟨rfl, hb2⟩
      have HX2 := Lib.hid (HX.out.step hb2); have HL2 := Lib.hid (HL.out.step hb2)
      have q0 := HL2.out.l0; have q1 := HL2.out.l1; have q3 := HL2.out.l3; have q4 := HX2.out.r1; have p2 := HX2.out.c2
      clear hb2
      go_wp2_with fail
      go_ret
      exact ⟨rfl, HX2.out.b⟩
     ·have e3 : decide (many < 0) = false := decide_eq_false h3
      have h4 : used < 0 := by rcases h with h | h | h | h | h | h <;> first | cases h | exact absurd h h1 | exact absurd h h2 | exact absurd h h3 | exact h
      have e4 : decide (used < 0) = true := decide_eq_true h4
      clear h h1 h2 h3 h4
      go_enter Try.func12, Try.ntmps12
      go_wp2_with fail
      rw [← HW1.out]
      refine HMC.out.mono ?_
      rintro e w2 ⟨rfl, hb2⟩
      have HX2 := Lib.hid (HX.out.step hb2); have HL2 := Lib.hid (HL.out.step hb2)
      have q0 := HL2.out.l0; have q1 := HL2.out.l1; have q3 := HL2.out.l3; have q4 := HX2.out.r1; have p2 := HX2.out.c2
      clear hb2
      go_wp2_with fail
      go_ret
      exact ⟨rfl, HX2.out.b⟩
def copyholdref05_Right.f (l0_0 : List ByteArray) (l0_1 : List S88) (a0_2 : Bool) (a1_0 a1_1 a2_0 a2_1 a2_2 a2_3 : Int) : Option Bool :=
 if rightB l0_0 l0_1 = true ∧ l0_1.length ≤ 1000000 ∧ 0 ≤ a2_2 ∧ a2_2 < 18446744073709551616 ∧ a2_3 ≤ 9223372036854775807 then some (rightR l0_0 l0_1 a0_2 a1_0 a1_1 a2_0 a2_1 a2_2 a2_3) else none
theorem copyholdref05_Right.calls (A0_0 : Option Addr) (c0_0 : Nat) (l0_0 : List ByteArray) (A0_1 : Option Addr) (c0_1 : Nat) (l0_1 : List S88) (a0_2 : Bool) (a1_0 a1_1 a2_0 a2_1 a2_2 a2_3 : Int) (r : Bool) (w : World)
  (hr0_0 : Kd.C Kd.string w A0_0 l0_0.length l0_0) (hc0_0 : l0_0.length ≤ c0_0) (hr0_1 : Kd.C k88 w A0_1 l0_1.length l0_1) (hc0_1 : l0_1.length ≤ c0_1) (h : copyholdref05_Right.f l0_0 l0_1 a0_2 a1_0 a1_1 a2_0 a2_1 a2_2 a2_3 = some r) :
  Calls Try.prog 12 #[.agg #[.slice A0_0 l0_0.length c0_0, .slice A0_1 l0_1.length c0_1, .bool a0_2], .agg #[.int .i64 a1_0, .int .i64 a1_1], .agg #[.int .i64 a2_0, .int .i64 a2_1, .int .u64 a2_2, .int .i64 a2_3]] w fun e w' => e = .returned (.bool r) ∧ Below w.heap.size w w' := by
 unfold copyholdref05_Right.f at h
 split at h
 ·rename_i hh
  obtain ⟨k1, k2, q7, q8, q11⟩ := hh
  obtain rfl := Option.some.inj h
  have hrt := rt_of k1
  have hll := hrt.len
  unfold rightR
  split
  ·rename_i hb
   exact rightref_fail A0_0 c0_0 l0_0.length A0_1 c0_1 l0_1.length a0_2 a1_0 a1_1 a2_0 a2_1 a2_2 a2_3 (by omega) w (by rcases hb with hb | hb | hb | hb | hb; exact .inl hb; exact .inr (.inl hb); exact .inr (.inr (.inl hb)); exact .inr (.inr (.inr (.inl hb))); exact .inr (.inr (.inr (.inr (.inl hb)))))
  ·rename_i hb
   have hoff : a0_2 = false := by cases a0_2 with
    | true => exact absurd (.inl rfl) hb
    | false => rfl
   subst hoff
   have hmy : mayR l0_0.length a1_0 a1_1 = true := by cases hm : mayR l0_0.length a1_0 a1_1 with
    | true => rfl
    | false => exact absurd (.inr (.inl hm)) hb
   have k1 : ¬ a2_0 < 0 := fun k => hb (.inr (.inr (.inl k)))
   have k2 : ¬ a1_1 ≤ a2_0 := fun k => hb (.inr (.inr (.inr (.inl k))))
   have k3 : ¬ a2_3 < 0 := fun k => hb (.inr (.inr (.inr (.inr k))))
   unfold mayR at hmy
   simp only [Bool.and_eq_true, decide_eq_true_eq] at hmy
   obtain ⟨m1, m2, m3, m4⟩ := hmy
   by_cases hu : a2_1 < 0
   ·have e : ((((foundD l0_0 l0_1 a1_0 a1_1 a2_0 a2_2 a2_3).1.length : Int) == a2_3) && (((foundD l0_0 l0_1 a1_0 a1_1 a2_0 a2_2 a2_3).2 : Int) == a2_1)) = false := by
     rw [show (((foundD l0_0 l0_1 a1_0 a1_1 a2_0 a2_2 a2_3).2 : Int) == a2_1) = false from beq_eq_false_iff_ne.2 (by omega), Bool.and_false]
    rw [e]
    exact rightref_fail A0_0 c0_0 l0_0.length A0_1 c0_1 l0_1.length false a1_0 a1_1 a2_0 a2_1 a2_2 a2_3 (by omega) w (.inr (.inr (.inr (.inr (.inr hu)))))
   ·obtain ⟨fr, rfl⟩ := Int.eq_ofNat_of_zero_le m1
    obtain ⟨mn, rfl⟩ := Int.eq_ofNat_of_zero_le (show 0 ≤ a1_1 by omega)
    obtain ⟨at_, rfl⟩ := Int.eq_ofNat_of_zero_le (show 0 ≤ a2_0 by omega)
    obtain ⟨used, rfl⟩ := Int.eq_ofNat_of_zero_le (show 0 ≤ a2_1 by omega)
    obtain ⟨first, rfl⟩ := Int.eq_ofNat_of_zero_le q7
    obtain ⟨many, rfl⟩ := Int.eq_ofNat_of_zero_le (show 0 ≤ a2_3 by omega)
    exact rightref_main A0_0 c0_0 l0_0 A0_1 c0_1 l0_1 fr mn at_ first many used w hr0_0 hc0_0 hr0_1 hc0_1 hrt (by assumption) (by omega) (by omega) (by omega) (by omega) (by omega)
 ·cases h
def copyholdref05_Record.f (a0 : Int) (a1 : ByteArray) : Option ByteArray := if 0 ≤ a0 ∧ a0 < 18446744073709551616 ∧ a1.size ≤ 1000000 then some (recS a0.toNat a1) else none
theorem copyholdref05_Record.calls (a0 : Int) (a1 : ByteArray) (r : ByteArray) (w : World) (h : copyholdref05_Record.f a0 a1 = some r) :
  Calls Try.prog 20 #[.int .u64 a0, .string a1] w fun e w' => e = .returned (.string r) ∧ Below w.heap.size w w' := by
 unfold copyholdref05_Record.f at h
 split at h
 ·rename_i hh
  obtain ⟨n, rfl⟩ := Int.eq_ofNat_of_zero_le hh.1
  obtain rfl := Option.some.inj h
  obtain ⟨k, hk⟩ : ∃ k, 20000000 ≤ k := ⟨_, Nat.le_refl _⟩
  exact X.copyholdref05_Record.calls k _ a1 _ w (record_ref n k a1 (by omega) hh.2.2 hk)
 ·cases h
def copyholdref05_Need.f (a0 : ByteArray) : Option Int := if a0.size ≤ 1000000 then some ((needN a0 : Nat) : Int) else none
theorem copyholdref05_Need.calls (a0 : ByteArray) (r : Int) (w : World) (h : copyholdref05_Need.f a0 = some r) :
  Calls Try.prog 21 #[.string a0] w fun e w' => e = .returned (.int .i64 r) ∧ Below w.heap.size w w' := by
 unfold copyholdref05_Need.f at h
 split at h
 ·rename_i hh
  obtain rfl := Option.some.inj h
  obtain ⟨k, hk⟩ : ∃ k, 20000000 ≤ k := ⟨_, Nat.le_refl _⟩
  exact X.copyholdref05_Need.calls k a0 _ w (need_ref k a0 hh hk)
 ·cases h
def copyholdref04_Image.f (l0_0 : List ByteArray) (l0_1 : List S88) (a0_2 : Bool) : Option (List ByteArray) := if rightB l0_0 l0_1 = true ∧ l0_1.length ≤ 1000000 then some (imgL l0_0 l0_1) else none
theorem copyholdref04_Image.calls (A0_0 : Option Addr) (c0_0 : Nat) (l0_0 : List ByteArray) (A0_1 : Option Addr) (c0_1 : Nat) (l0_1 : List S88) (a0_2 : Bool) (r : List ByteArray) (w : World)
  (hr0_0 : Kd.C Kd.string w A0_0 l0_0.length l0_0) (hc0_0 : l0_0.length ≤ c0_0) (hr0_1 : Kd.C k88 w A0_1 l0_1.length l0_1) (hc0_1 : l0_1.length ≤ c0_1) (h : copyholdref04_Image.f l0_0 l0_1 a0_2 = some r) :
  Calls Try.prog 44 #[.agg #[.slice A0_0 l0_0.length c0_0, .slice A0_1 l0_1.length c0_1, .bool a0_2]] w fun e w' => ∃ v0_ : Value, e = .returned (v0_) ∧ Kd.R Kd.string 9 w' w.heap.size (fun _ => True) v0_ r ∧ Below w.heap.size w w' := by
 unfold copyholdref04_Image.f at h
 split at h
 ·rename_i hh
  obtain rfl := Option.some.inj h
  exact X.copyholdref04_Image.calls (l0_1.length + 1) A0_0 c0_0 l0_0 A0_1 c0_1 l0_1 a0_2 _ w hr0_0 hc0_0 hr0_1 hc0_1 (image_ref a0_2 (rt_of hh.1) hh.2 _ (by omega))
 ·cases h
end Go.Proofs.Ytcbfnfggnocndaa
end

section
namespace Go.Proofs.Ytcbfnfggnocndaa
open Go.RowKit Go.Lib Go.Proofs.YtcbfnfggnocndaaW.PrintWords Go.Proofs.YtcbfnfggnocndaaW.PrintMore Math
def redo_Record.f (a0 : Int) (a1 : ByteArray) : Option ByteArray := if 0 ≤ a0 ∧ a1.size ≤ 1000000000 then some (recS a0.toNat a1) else none
theorem redo_Record.calls (a0 : Int) (a1 : ByteArray) (r : ByteArray) (w : World) (h : redo_Record.f a0 a1 = some r) :
    Calls Try.prog 15 #[.int .u64 a0, .string a1] w fun e w' => e = .returned (.string r) ∧ Below w.heap.size w w' := by
  unfold redo_Record.f at h
  split at h
  · rename_i hh
    obtain ⟨n, rfl⟩ := Int.eq_ofNat_of_zero_le hh.1
    obtain rfl := Option.some.inj h
    exact V.redo_Record.calls 9 _ a1 _ w (record_eq n 9 a1 (Nat.le_refl _) hh.2)
  · cases h
def redo_Need.f (a0 : ByteArray) : Option Int := if a0.size ≤ 10000000 then some ((needN a0 : Nat) : Int) else none
theorem redo_Need.calls (a0 : ByteArray) (r : Int) (w : World) (h : redo_Need.f a0 = some r) :
    Calls Try.prog 14 #[.string a0] w fun e w' => e = .returned (.int .i64 r) ∧ Below w.heap.size w w' := by
  unfold redo_Need.f at h
  split at h
  · rename_i hh
    obtain rfl := Option.some.inj h
    exact V.redo_Need.calls 9 a0 _ w (need_V a0 9 (Nat.le_refl _) hh)
  · cases h
end Go.Proofs.Ytcbfnfggnocndaa
end

section

end
