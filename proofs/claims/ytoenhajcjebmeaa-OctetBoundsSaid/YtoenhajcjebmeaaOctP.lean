/- The reference's ways to take numbers, texts and lists come to the same closed forms. -/
import Derived.Test.YtoenhajcjebmeaaOctN
import Derived.Test.YtoenhajcjebmeaaQ4
import Derived.Test.YtoenhajcjebmeaaQ5
set_option linter.unusedVariables false
set_option linter.unusedSimpArgs false
namespace Go.Proofs.Ytoenhajcjebmeaa
open Go.RowKit Go.Proofs.Ytoenhajcjebmeaa.Q Go.Proofs.YtoenhajcjebmeaaW.PrintWords Go.Proofs.YtoenhajcjebmeaaW.PrintLast Go.Proofs.YtoenhajcjebmeaaW.PrintMore Math

def hor (c : UInt8) (n : Nat) : Nat := (128 * n + c.toNat % 128) % 18446744073709551616
theorem hor_lt (l : List UInt8) {n : Nat} (h : n < 18446744073709551616) : l.foldr hor n < 18446744073709551616 := by
  cases l with
  | nil => exact h
  | cons c r => show hor _ _ < _; unfold hor; omega
theorem hor_num (n : Nat) (h : n < 18446744073709551616) : (numB n).foldr hor 0 = n := by
  induction n using Nat.strongRecOn with
  | _ n ih =>
    by_cases h1 : 128 ≤ n
    · rw [numB_hi h1, List.foldr_cons, ih (n / 128) (by omega) (by omega)]
      unfold hor
      rw [ofNat_toNat (by omega)]; omega
    · rw [numB_lo h1, List.foldr_cons, List.foldr_nil]
      unfold hor
      rw [ofNat_toNat (by omega)]; omega
theorem tn_l1_end (s : ByteArray) (hs : s.size ≤ 9223372036854775807) (i n k : Nat) (hi : i < s.size) (hn : n < 18446744073709551616) (hk : 10 ≤ k) :
    copyholdref01_TakeNum.l1 (k + 1) s (i : Int) (n : Int) (-1) = some (if numB n = s.data.toList.take (i + 1) then ((n : Int), (⟨(s.data.toList.drop (i + 1)).toArray⟩ : ByteArray), 0) else (0, ⟨#[]⟩, 3)) := by
  rw [copyholdref01_TakeNum.l1, if_neg (by omega), bs (ref_num10 hn hk), w64 (n := (i : Int) + 1) (by omega) (by omega), if_pos (by omega), if_pos (by omega), show ((i : Int) + 1).toNat = i + 1 from by omega, tl, tl, numS_dl, ext_, List.drop_zero, drop_bytes]
  split <;> rfl
theorem tn_l1 (s : ByteArray) (hs : s.size ≤ 9223372036854775807) (i : Nat) (hi : i < s.size) (j : Nat) : ∀ (n k : Nat), j < s.size → n < 18446744073709551616 →
    copyholdref01_TakeNum.l1 (k + (j + 1)) s (i : Int) (n : Int) (j : Int) = copyholdref01_TakeNum.l1 k s (i : Int) (((s.data.toList.take (j + 1)).foldr hor n : Nat) : Int) (-1) := by
  induction j with
  | zero =>
    intro n k hj hn
    have hl : 0 < s.data.toList.length := by rw [← sz]; omega
    have hb := bt_at_ s 0 hl
    rw [show ((0 : Nat) : Int) = 0 from rfl] at hb
    rw [show k + (0 + 1) = k + 1 from rfl, copyholdref01_TakeNum.l1, if_pos (by omega), if_pos (by omega), if_pos (by omega), show ((0 : Nat) : Int) = 0 from rfl, hb, w64 (n := (0 : Int) - 1) (by omega) (by omega), Int.tmod_eq_emod_of_nonneg (by omega)]
    rw [List.take_succ_eq_append_getElem hl, List.take_zero, List.nil_append, List.foldr_cons, List.foldr_nil]
    unfold hor
    simp only [IntKind.wrap_u64]
    congr 1; omega
  | succ j ih =>
    intro n k hj hn
    have hl : j + 1 < s.data.toList.length := by rw [← sz]; omega
    rw [show k + (j + 1 + 1) = (k + (j + 1)) + 1 from by omega]
    generalize hK : k + (j + 1) = K
    rw [copyholdref01_TakeNum.l1, if_pos (by omega), if_pos (by omega), if_pos (by omega), bt_at_ s (j + 1) hl, w64 (n := ((j + 1 : Nat) : Int) - 1) (by omega) (by omega), Int.tmod_eq_emod_of_nonneg (by omega)]
    rw [List.take_succ_eq_append_getElem hl, List.foldr_append, List.foldr_cons, List.foldr_nil]
    have e : (IntKind.u64.wrap ((IntKind.u64.wrap (128 * (n : Int))) + (IntKind.u64.wrap ((s.data.toList[j + 1].toNat : Int) % 128)))) = ((hor s.data.toList[j + 1] n : Nat) : Int) := by
      unfold hor
      simp only [IntKind.wrap_u64]; omega
    rw [e, show (((j + 1 : Nat) : Int) - 1) = (j : Int) from by omega, ← hK]
    exact ih _ k (by omega) (by unfold hor; omega)
theorem tn_l0 (s : ByteArray) (hs : s.size ≤ 9223372036854775807) (d : Nat) : ∀ (i k acc : Nat), i + d = 9 → i ≤ s.size → takeN 0 0 s.data.toList = takeN i acc (s.data.toList.drop i) →
    copyholdref01_TakeNum.l0 (k + 2 * d + 24) s (i : Int) = some (takeNumS s) := by
  have key : ∀ (i k acc : Nat), i ≤ 9 → i ≤ s.size → takeN 0 0 s.data.toList = takeN i acc (s.data.toList.drop i) →
      (∀ h : i < s.data.toList.length, (s.data.toList[i]).toNat < 128) → copyholdref01_TakeNum.j1 (k + 22) s (i : Int) false = some (takeNumS s) := by
    intro i k acc hi9 hi ht hc
    rw [show k + 22 = (k + 21) + 1 from rfl, copyholdref01_TakeNum.j1, if_neg (by decide)]
    by_cases hlt : i < s.size
    · have hl : i < s.data.toList.length := by rw [← sz]; exact hlt
      have hc := hc hl
      have h1 := tn_l1 s hs i hlt i 0 (k + 20 - i) hlt (by decide)
      have h2 := tn_l1_end s hs i ((s.data.toList.take (i + 1)).foldr hor 0) (k + 19 - i) hlt (hor_lt _ (by decide)) (by omega)
      rw [show k + 19 - i + 1 = k + 20 - i from by omega] at h2
      rw [show k + 20 - i + (i + 1) = k + 21 from by omega, show ((0 : Nat) : Int) = 0 from rfl] at h1
      rw [if_neg (by omega), h1, h2]
      unfold takeNumS
      rw [ht, List.drop_eq_getElem_cons hl]
      rw [List.drop_eq_getElem_cons hl] at ht
      by_cases hb : (1 ≤ i ∧ (s.data.toList[i]).toNat = 0) ∨ (i = 9 ∧ 1 < (s.data.toList[i]).toNat)
      · rw [tk_bad hi9 hc hb] at ht ⊢
        rw [if_neg]
        · rfl
        · intro he
          have h3 := take_num0 (hor_lt (s.data.toList.take (i + 1)) (by decide : (0 : Nat) < 18446744073709551616)) (s.data.toList.drop (i + 1))
          rw [he, List.take_append_drop, ht] at h3
          have h5 : (3 : Int) = 0 := congrArg (·.2.2) h3
          exact absurd h5 (by decide)
      · rw [tk_ok hi9 hc hb] at ht ⊢
        have hinv := take_inv0 (l := s.data.toList) (by rw [ht])
        have hv := takeN0_lt s.data.toList
        rw [ht] at hinv hv
        dsimp only at hinv hv
        generalize acc + (s.data.toList[i]).toNat * 2 ^ (7 * i) = v at hinv hv ⊢
        have e : s.data.toList.take (i + 1) = numB v := by
          have h4 : numB v ++ s.data.toList.drop (i + 1) = s.data.toList.take (i + 1) ++ s.data.toList.drop (i + 1) := by rw [List.take_append_drop]; exact hinv.symm
          exact (List.append_cancel_right h4).symm
        rw [e, hor_num v hv, if_pos rfl]
        rfl
    · obtain rfl : i = s.size := by omega
      rw [if_pos rfl]
      unfold takeNumS
      rw [ht, List.drop_eq_nil_of_le (by rw [← sz]; exact Nat.le_refl _), takeN, if_neg (by omega)]
      rfl
  induction d with
  | zero =>
    intro i k acc hi hsz ht
    obtain rfl : i = 9 := by omega
    rw [show k + 2 * 0 + 24 = (k + 22 + 1) + 1 from by omega, copyholdref01_TakeNum.l0]
    by_cases hlt : 9 < s.size
    · have hl : 9 < s.data.toList.length := by rw [← sz]; exact hlt
      have hb := bt_at_ s 9 hl
      rw [show ((9 : Nat) : Int) = 9 from rfl] at hb ⊢
      rw [if_pos (by omega), if_pos (by omega), hb]
      by_cases hc : (s.data.toList[9]).toNat < 128
      · rw [show decide (((s.data.toList[9]).toNat : Int) ≥ 128) = false from decide_eq_false (by omega)]
        exact key 9 (k + 1) acc (by omega) hsz ht (fun _ => hc)
      · rw [show decide (((s.data.toList[9]).toNat : Int) ≥ 128) = true from decide_eq_true (by omega), copyholdref01_TakeNum.j1, if_pos rfl, w64 (by decide) (by decide), if_pos (by decide)]
        unfold takeNumS
        rw [ht, List.drop_eq_getElem_cons hl, tk_go (by omega) hc]
        cases hd : s.data.toList.drop (9 + 1) with
        | nil => rfl
        | cons c r => rfl
    · rw [if_neg (by omega)]
      exact key 9 (k + 1) acc (by omega) hsz ht (fun h => absurd h (by rw [← sz]; omega))
  | succ d ih =>
    intro i k acc hi hsz ht
    rw [show k + 2 * (d + 1) + 24 = (k + 2 * d + 24 + 1) + 1 from by omega, copyholdref01_TakeNum.l0]
    by_cases hlt : i < s.size
    · have hl : i < s.data.toList.length := by rw [← sz]; exact hlt
      rw [if_pos (by omega), if_pos (by omega), bt_at_ s i hl]
      by_cases hc : (s.data.toList[i]).toNat < 128
      · rw [show decide (((s.data.toList[i]).toNat : Int) ≥ 128) = false from decide_eq_false (by omega)]
        exact key i (k + 2 * d + 3) acc (by omega) hsz ht (fun _ => hc)
      · rw [show decide (((s.data.toList[i]).toNat : Int) ≥ 128) = true from decide_eq_true (by omega), copyholdref01_TakeNum.j1, if_pos rfl, w64 (n := (i : Int) + 1) (by omega) (by omega), if_neg (by omega)]
        rw [List.drop_eq_getElem_cons hl, tk_go (by omega) hc] at ht
        exact ih (i + 1) k _ (by omega) (by omega) ht
    · rw [if_neg (by omega)]
      exact key i (k + 2 * d + 3) acc (by omega) hsz ht (fun h => absurd h (by rw [← sz]; omega))
theorem ref_takeNum {s : ByteArray} (hs : s.size ≤ 9223372036854775807) {k : Nat} (hk : 42 ≤ k) : copyholdref01_TakeNum.f k s = some (takeNumS s) := by
  obtain ⟨j, rfl⟩ : ∃ j, k = j + 2 * 9 + 24 := ⟨k - 42, by omega⟩
  exact tn_l0 s hs 9 0 j 0 rfl (Nat.zero_le _) rfl
theorem ref_takeText {s : ByteArray} (hs : s.size ≤ 9223372036854775807) {m : Int} (hm : -9223372036854775808 ≤ m ∧ m ≤ 9223372036854775807) {k : Nat} (hk : 42 ≤ k) :
    copyholdref01_TakeText.f k s m = some (outT (textL s.data.toList m)) := by
  obtain ⟨q, rfl⟩ : ∃ q, k = q + 1 := ⟨k - 1, by omega⟩
  unfold copyholdref01_TakeText.f
  rw [bs (ref_takeNum hs hk)]
  have hlt := takeN0_lt s.data.toList
  have hl := (takeN_len s.data.toList 0 0).1
  rw [← sz] at hl
  unfold takeNumS textL
  generalize takeN 0 0 s.data.toList = p at *
  obtain ⟨n, r, e⟩ := p
  replace hlt : n < 18446744073709551616 := hlt
  replace hl : r.length ≤ s.size := hl
  by_cases he : e = 0
  · rw [if_pos (show (outN (n, r, e)).2.2 = 0 from he), if_pos (show (n, r, e).2.2 = 0 from he)]
    dsimp only [outN]
    have j0 : ∀ b : Bool, copyholdref01_TakeText.j0 (q + 1) (n : Int) ⟨r.toArray⟩ b = if b = true then some (⟨#[]⟩, ⟨#[]⟩, 5) else if r.length < n then some (⟨#[]⟩, ⟨#[]⟩, 2) else some (⟨(r.take n).toArray⟩, ⟨(r.drop n).toArray⟩, 0) := by
      intro b
      rw [copyholdref01_TakeText.j0]
      by_cases hb : b = true
      · rw [if_pos hb, if_pos hb]
      · rw [if_neg hb, if_neg hb, mk_size, IntKind.wrap_u64]
        by_cases h2 : r.length < n
        · rw [if_pos (by omega), if_pos h2]
        · rw [if_neg (by omega), if_neg h2, if_pos (by omega), if_pos (by omega), Int.toNat_natCast]
          congr 2
          · apply inj; rw [ext_, List.drop_zero]
          · congr 1; apply inj; rw [ext_, List.take_of_length_le (Nat.le_refl _)]
    by_cases h1 : m < 0
    · rw [if_pos h1, j0, if_pos rfl, if_pos (.inl h1)]; rfl
    · rw [if_neg h1, j0]
      by_cases h2 : m < (n : Int)
      · rw [if_pos (by simp [IntKind.wrap_u64]; omega), if_pos (.inr h2)]; rfl
      · rw [if_neg (by simp [IntKind.wrap_u64]; omega), if_neg (show ¬(m < 0 ∨ m < (n : Int)) by omega)]
        by_cases h3 : r.length < n
        · rw [if_pos h3, if_pos h3]; rfl
        · rw [if_neg h3, if_neg h3]; rfl
  · rw [if_neg (show ¬ (outN (n, r, e)).2.2 = 0 from he), if_neg (show ¬ (n, r, e).2.2 = 0 from he)]; rfl
theorem ref_loop (long : Int) (hl : -9223372036854775808 ≤ long ∧ long ≤ 9223372036854775807) (n : Nat) (hn : n < 18446744073709551616) (d : Nat) : ∀ (i k : Nat) (r : List UInt8) (acc : List (List UInt8)), i + d = n → r.length ≤ 8000000000000 → acc.length + r.length ≤ 8000000000000 → 42 + r.length + 2 ≤ k →
    copyholdref01_TakeList.l0 k long (n : Int) ⟨r.toArray⟩ (mks acc) (i : Int) = some (outLs (loopL d r acc long)) := by
  induction d with
  | zero =>
    intro i k r acc hi hr ha hk
    obtain ⟨k, rfl⟩ : ∃ m, k = m + 1 := ⟨k - 1, by omega⟩
    rw [copyholdref01_TakeList.l0, if_neg (by omega)]
    rfl
  | succ d ih =>
    intro i k r acc hi hr ha hk
    obtain ⟨k, rfl⟩ : ∃ m, k = m + 1 := ⟨k - 1, by omega⟩
    have ht := ref_takeText (s := ⟨r.toArray⟩) (by rw [mk_size]; omega) hl (k := k) (by omega)
    rw [copyholdref01_TakeList.l0, if_pos (by omega), bs ht, loopL]
    show (if (outT (textL r long)).2.2 = 0 then _ else _) = _
    by_cases h0 : (textL r long).2.2 = 0
    · have hlen := textL_len r long h0
      rw [if_pos (show (outT (textL r long)).2.2 = 0 from h0), if_pos h0, if_pos (by simp only [mks, List.length_map]; omega), IntKind.wrap_u64, show ((i : Int) + 1) % 18446744073709551616 = ((i + 1 : Nat) : Int) from by omega]
      have e : mks acc ++ [(outT (textL r long)).1] = mks (acc ++ [(textL r long).1]) := by simp [mks, outT]
      show copyholdref01_TakeList.l0 k long (n : Int) (outT (textL r long)).2.1 (mks acc ++ [(outT (textL r long)).1]) ((i + 1 : Nat) : Int) = _
      rw [e]
      exact ih (i + 1) k _ _ (by omega) (by omega) (by rw [List.length_append, List.length_cons, List.length_nil]; omega) (by omega)
    · rw [if_neg (show ¬ (outT (textL r long)).2.2 = 0 from h0), if_neg h0]
      rfl
theorem ref_takeList {s : ByteArray} (hs : s.size ≤ 8000000000000) {m long : Int} (hm : -9223372036854775808 ≤ m ∧ m ≤ 9223372036854775807) (hl : -9223372036854775808 ≤ long ∧ long ≤ 9223372036854775807) {k : Nat} (hk : 50 + s.size ≤ k) :
    copyholdref01_TakeList.f k s m long = some (outLs (listL s.data.toList m long)) := by
  obtain ⟨q, rfl⟩ : ∃ q, k = q + 1 := ⟨k - 1, by omega⟩
  unfold copyholdref01_TakeList.f
  rw [bs (ref_takeNum (by omega) (by omega))]
  have hlt := takeN0_lt s.data.toList
  have hle := (takeN_len s.data.toList 0 0).1
  rw [← sz] at hle
  unfold takeNumS listL
  generalize takeN 0 0 s.data.toList = p at *
  obtain ⟨n, r, e⟩ := p
  replace hlt : n < 18446744073709551616 := hlt
  replace hle : r.length ≤ s.size := hle
  by_cases he : e = 0
  · rw [if_pos (show (outN (n, r, e)).2.2 = 0 from he), if_pos (show (n, r, e).2.2 = 0 from he)]
    dsimp only [outN]
    have j0 : ∀ b : Bool, copyholdref01_TakeList.j0 (q + 1) long (n : Int) ⟨r.toArray⟩ b = if b = true then some ([], ⟨#[]⟩, 5) else some (outLs (loopL n r [] long)) := by
      intro b
      rw [copyholdref01_TakeList.j0]
      by_cases hb : b = true
      · rw [if_pos hb, if_pos hb]
      · rw [if_neg hb, if_neg hb]
        exact ref_loop long hl n hlt n 0 q r [] (by omega) (by omega) (by simp; omega) (by omega)
    by_cases h1 : m < 0
    · rw [if_pos h1, j0, if_pos rfl, if_pos (.inl h1)]; rfl
    · rw [if_neg h1, j0]
      by_cases h2 : m < (n : Int)
      · rw [if_pos (by simp [IntKind.wrap_u64]; omega), if_pos (.inr h2)]; rfl
      · rw [if_neg (by simp [IntKind.wrap_u64]; omega), if_neg (show ¬(m < 0 ∨ m < (n : Int)) by omega)]
  · rw [if_neg (show ¬ (outN (n, r, e)).2.2 = 0 from he), if_neg (show ¬ (n, r, e).2.2 = 0 from he)]; rfl
theorem rd_get {l : List ByteArray} {i : Nat} (h : i < l.length) : rdOf ByteArray.empty l (i : Int) = l[i] := by
  unfold rdOf
  rw [Int.toNat_natCast, List.getD_eq_getElem?_getD, List.getElem?_eq_getElem h]; rfl
theorem ref_strings_same (l : List ByteArray) (hl : l.length ≤ 9223372036854775806) (d : Nat) : ∀ (i k : Nat), i + d = l.length → d < k → copyholdref01_Strings.l0 k l l (i : Int) = some true := by
  induction d with
  | zero => intro i k hi hk; obtain ⟨k, rfl⟩ : ∃ m, k = m + 1 := ⟨k - 1, by omega⟩; rw [copyholdref01_Strings.l0, if_neg (by omega)]
  | succ d ih =>
    intro i k hi hk
    obtain ⟨k, rfl⟩ : ∃ m, k = m + 1 := ⟨k - 1, by omega⟩
    rw [copyholdref01_Strings.l0, if_pos (by omega), if_pos (by omega), if_pos (by omega), if_pos rfl, w64 (n := (i : Int) + 1) (by omega) (by omega)]
    exact ih (i + 1) k (by omega) (by omega)
theorem ref_strings {l : List ByteArray} (hl : l.length ≤ 9223372036854775806) {k : Nat} (hk : l.length < k) : copyholdref01_Strings.f k l l = some true := by
  unfold copyholdref01_Strings.f
  rw [if_pos rfl]
  exact ref_strings_same l hl l.length 0 k (by omega) hk
end Go.Proofs.Ytoenhajcjebmeaa
