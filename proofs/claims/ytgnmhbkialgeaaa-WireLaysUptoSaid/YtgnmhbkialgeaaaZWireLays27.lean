import Derived.Test.YtgnmhbkialgeaaaZWireLays26
import Derived.Test.YtgnmhbkialgeaaaZWireLays24x1
import Derived.Test.YtgnmhbkialgeaaaZWireLays23
import Derived.Test.YtgnmhbkialgeaaaZWireLays25
section
/- Layer 15: the reference's Same tells whether two answers are equal in all (written by gen_apart.py). -/
set_option linter.unusedVariables false
namespace Go.Proofs.Ytgnmhbkialgeaaa.Pure
open Go.RowKit Go.Proofs.Ytgnmhbkialgeaaa.Q Go.Proofs.YtgnmhbkialgeaaaW.PrintWords Go.Proofs.YtgnmhbkialgeaaaW.PrintLast Math

theorem in9 {a b c d e f g h i : Int} (ha : -9223372036854775808 ≤ a ∧ a ≤ 9223372036854775807) (hb : -9223372036854775808 ≤ b ∧ b ≤ 9223372036854775807) (hc : -9223372036854775808 ≤ c ∧ c ≤ 9223372036854775807) (hd : -9223372036854775808 ≤ d ∧ d ≤ 9223372036854775807) (he : -9223372036854775808 ≤ e ∧ e ≤ 9223372036854775807) (hf : -9223372036854775808 ≤ f ∧ f ≤ 9223372036854775807) (hg : -9223372036854775808 ≤ g ∧ g ≤ 9223372036854775807) (hh : -9223372036854775808 ≤ h ∧ h ≤ 9223372036854775807) (hi : -9223372036854775808 ≤ i ∧ i ≤ 9223372036854775807) : InL [a, b, c, d, e, f, g, h, i] := by
  intro n hn
  simp only [List.mem_cons, List.not_mem_nil, or_false] at hn
  rcases hn with rfl | rfl | rfl | rfl | rfl | rfl | rfl | rfl | rfl <;> assumption
theorem strs_l0 (l m : List ByteArray) (hl : l.length ≤ 9223372036854775806) (hm : l.length = m.length) (d : Nat) : ∀ (i k : Nat), i + d = l.length → d < k →
    copyholdref01_Strings.l0 k l m (i : Int) = some (decide (l.drop i = m.drop i)) := by
  induction d with
  | zero =>
    intro i k hi hk
    obtain ⟨k, rfl⟩ : ∃ q, k = q + 1 := ⟨k - 1, by omega⟩
    rw [copyholdref01_Strings.l0, if_neg (by omega), List.drop_eq_nil_of_le (by omega), List.drop_eq_nil_of_le (by omega)]
    rfl
  | succ d ih =>
    intro i k hi hk
    obtain ⟨k, rfl⟩ : ∃ q, k = q + 1 := ⟨k - 1, by omega⟩
    have h1 : i < l.length := by omega
    have h2 : i < m.length := by omega
    rw [copyholdref01_Strings.l0, if_pos (by omega), if_pos (by omega), if_pos (by omega), rd_get h1, rd_get h2, List.drop_eq_getElem_cons h1, List.drop_eq_getElem_cons h2, tl, tl]
    have ih' := ih (i + 1) k (by omega) (by omega)
    by_cases he : l[i] = m[i]
    · first
        | rw [if_pos (congrArg (fun s => s.data.toList) he)]
        | rw [if_neg (fun h => h (congrArg (fun s => s.data.toList) he))]
      rw [w64 (n := (i : Int) + 1) (by omega) (by omega), show ((i : Int) + 1) = ((i + 1 : Nat) : Int) from by omega, ih', he]
      exact congrArg some (decide_eq_decide.2 ⟨fun h => by rw [h], fun h => (List.cons.inj h).2⟩)
    · first
        | rw [if_neg (fun h => he (inj h))]
        | rw [if_pos (fun h => he (inj h))]
      exact congrArg some (decide_eq_false (fun h => he (List.cons.inj h).1)).symm
theorem strs_eq (l m : List ByteArray) (hl : l.length ≤ 9223372036854775806) {k : Nat} (hk : l.length < k) : copyholdref01_Strings.f k l m = some (decide (l = m)) := by
  unfold copyholdref01_Strings.f
  by_cases h : l.length = m.length
  · rw [if_pos (by omega)]
    exact strs_l0 l m hl h l.length 0 k (by omega) hk
  · rw [if_neg (by omega)]
    exact congrArg some (decide_eq_false (fun e => h (by rw [e]))).symm
theorem same_eq {r0 r1 r2 r3 r4 r5 r6 r7 r8 s0 s1 s2 s3 s4 s5 s6 s7 s8 : Int} {rt st : ByteArray} {rn sn : List ByteArray} (hl : rn.length ≤ 9223372036854775806) {k : Nat} (hk : rn.length < k) : copyholdref15_Same.f k r0 r1 r2 r3 r4 r5 r6 r7 r8 rt rn s0 s1 s2 s3 s4 s5 s6 s7 s8 st sn = some (decide (r0 = s0 ∧ r1 = s1 ∧ r2 = s2 ∧ r3 = s3 ∧ r4 = s4 ∧ r5 = s5 ∧ r6 = s6 ∧ r7 = s7 ∧ r8 = s8 ∧ rt = st ∧ rn = sn)) := by
  have h1 : copyholdref11_Same.f k r5 r6 r7 r8 rt rn s5 s6 s7 s8 st sn = some (decide (r5 = s5 ∧ r6 = s6 ∧ r7 = s7 ∧ r8 = s8 ∧ rt = st ∧ rn = sn)) := by
    unfold copyholdref11_Same.f
    rw [bs (strs_eq rn sn hl hk)]
    have hb : ((rt.toList == st.toList) = true) ↔ rt = st := by
      rw [beq_iff_eq, tl, tl]
      exact ⟨inj, fun e => by rw [e]⟩
    by_cases g0 : rn = sn
    · rw [if_pos (decide_eq_true g0)]
      by_cases g1 : r5 = s5
      · rw [if_pos g1]
        by_cases g2 : r6 = s6
        · rw [if_pos g2]
          by_cases g3 : r7 = s7
          · rw [if_pos g3]
            by_cases g4 : r8 = s8
            · rw [if_pos g4]
              refine congrArg some (Bool.eq_iff_iff.2 ?_)
              rw [hb, decide_eq_true_iff]
              exact ⟨fun h => ⟨g1, g2, g3, g4, h, g0⟩, fun h => h.2.2.2.2.1⟩
            · rw [if_neg g4]; exact congrArg some (decide_eq_false (fun h => g4 h.2.2.2.1)).symm
          · rw [if_neg g3]; exact congrArg some (decide_eq_false (fun h => g3 h.2.2.1)).symm
        · rw [if_neg g2]; exact congrArg some (decide_eq_false (fun h => g2 h.2.1)).symm
      · rw [if_neg g1]; exact congrArg some (decide_eq_false (fun h => g1 h.1)).symm
    · rw [if_neg (by rw [decide_eq_false g0]; decide)]; exact congrArg some (decide_eq_false (fun h => g0 h.2.2.2.2.2)).symm
  unfold copyholdref15_Same.f
  rw [bs h1]
  by_cases g : r5 = s5 ∧ r6 = s6 ∧ r7 = s7 ∧ r8 = s8 ∧ rt = st ∧ rn = sn
  · rw [if_pos (decide_eq_true g)]
    by_cases g0 : r0 = s0
    · rw [if_pos g0]
      by_cases g1 : r1 = s1
      · rw [if_pos g1]
        by_cases g2 : r2 = s2
        · rw [if_pos g2]
          by_cases g3 : r3 = s3
          · rw [if_pos g3]
            refine congrArg some (Bool.eq_iff_iff.2 ?_)
            rw [beq_iff_eq, decide_eq_true_iff]
            exact ⟨fun h => ⟨g0, g1, g2, g3, h, g⟩, fun h => h.2.2.2.2.1⟩
          · rw [if_neg g3]; exact congrArg some (decide_eq_false (fun h => g3 h.2.2.2.1)).symm
        · rw [if_neg g2]; exact congrArg some (decide_eq_false (fun h => g2 h.2.2.1)).symm
      · rw [if_neg g1]; exact congrArg some (decide_eq_false (fun h => g1 h.2.1)).symm
    · rw [if_neg g0]; exact congrArg some (decide_eq_false (fun h => g0 h.1)).symm
  · rw [if_neg (by rw [decide_eq_false g]; decide)]; exact congrArg some (decide_eq_false (fun h => g h.2.2.2.2.2)).symm
end Go.Proofs.Ytgnmhbkialgeaaa.Pure
end

section
/- Layer 15: what the printed Rsp comes to, in closed form. -/
set_option linter.unusedVariables false
set_option linter.unusedSimpArgs false
namespace Go.Proofs.Ytgnmhbkialgeaaa
open Go.RowKit Go.Proofs.Ytgnmhbkialgeaaa.Q Go.Proofs.YtgnmhbkialgeaaaW.PrintWords Go.Proofs.YtgnmhbkialgeaaaW.PrintLast Go.Proofs.YtgnmhbkialgeaaaW.PrintMore Math

theorem oct_list {l : List ByteArray} (h : lensS l ≤ 140737488355000) : octet_List.f l = some (listS l) := by unfold octet_List.f; rw [if_pos h]
theorem rsp_eq {a b c d e f g h i : Int} {x : ByteArray} {l : List ByteArray} (hi : InL [a, b, c, d, e, f, g, h, i]) (hx : x.size ≤ 100000000000) (hl : lensS l ≤ 100000000000) :
    wire_Rsp.f a b c d e f g h i x l = some (rspS [a, b, c, d, e, f, g, h, i] x.data.toList (lists l)) := by
  have h0 := numsS_sz hi
  have h1 := textS_sz hx
  have h2 : (⟨#[114]⟩ : ByteArray).size = 1 := rfl
  have h3 : (listS l).size ≤ lensS l + 10 := by
    rw [sz, listS]
    show ((flat _).toArray.toList).length ≤ _
    have := lensS_len l
    exact flat_listP l (by omega) (by omega)
  simp only [List.length_cons, List.length_nil] at h0
  unfold wire_Rsp.f
  rw [bs (nums_eq (by simp) hi), if_pos (by omega), bs (oct_text (by omega)), if_pos (by rw [app_size]; omega), bs (oct_list (by omega)), if_pos (by rw [app_size, app_size]; omega), bs (put_eq (by rw [app_size, app_size, app_size]; omega))]
  refine congrArg (fun s => some (putS s)) (inj ?_)
  rw [app, app, app, textS_dl, listS_dl, List.append_assoc, List.append_assoc]
  rfl
end Go.Proofs.Ytgnmhbkialgeaaa
end

section
/- What the reference of layer 2 comes to, in closed form (at the seats of the layers above). -/
set_option linter.unusedVariables false
set_option linter.unusedSimpArgs false
namespace Go.Proofs.Ytgnmhbkialgeaaa
open Go.RowKit Go.Proofs.Ytgnmhbkialgeaaa.Q Go.Proofs.YtgnmhbkialgeaaaW.PrintWords Go.Proofs.YtgnmhbkialgeaaaW.PrintLast Math

theorem bt_data (s : ByteArray) (i : Nat) (h : i < s.size) : bt s (i : Int) = ((s.data.toList[i]'(by rw [← sz]; exact h)).toNat : Int) := by
  unfold bt
  rw [dif_pos (by simpa using h)]
  simp only [Int.toNat_natCast]
  rfl
theorem ref_l1 (s : ByteArray) (hs : s.size ≤ 140737488351232) (i : Nat) (hi : i < s.size) (d : Nat) : ∀ (j k c : Nat), j + d = 8 → d < k → c < 4294967296 →
    copyholdref02_More.l1 k (c : Int) s (i : Int) (j : Int) = copyholdref02_More.l0 (k - d - 1) ((tqsN d c : Nat) : Int) s ((i + 1 : Nat) : Int) := by
  induction d with
  | zero =>
    intro j k c hj hk hc
    obtain ⟨k, rfl⟩ : ∃ m, k = m + 1 := ⟨k - 1, by omega⟩
    simp only [copyholdref02_More.l1]
    rw [if_neg (by omega), w64 (by omega) (by omega)]
    rfl
  | succ d ih =>
    intro j k c hj hk hc
    obtain ⟨k, rfl⟩ : ∃ m, k = m + 1 := ⟨k - 1, by omega⟩
    simp only [copyholdref02_More.l1]
    rw [if_pos (by omega), w64 (by omega) (by omega), Int.tmod_eq_emod_of_nonneg (by omega), Int.tdiv_eq_ediv_of_nonneg (by omega)]
    rw [tqsN_succ, show k + 1 - (d + 1) - 1 = k - d - 1 from by omega]
    have e2 : ((c : Int) / 2 % 4294967296) = ((c / 2 : Nat) : Int) := by omega
    rw [e2]
    by_cases h1 : c % 2 = 1
    · rw [if_pos (by omega)]
      have e3 : Go.bits .xor .u32 ((c / 2 : Nat) : Int) 2197175160 = ((tqN c : Nat) : Int) := by
        rw [show (2197175160 : Int) = ((P32 : Nat) : Int) from rfl, u32_xor_nat _ _ (by omega) (by decide)]
        unfold tqN; rw [if_pos h1]
      rw [e3]
      exact ih (j + 1) k (tqN c) (by omega) (by omega) (tqN_lt hc)
    · rw [if_neg (by omega)]
      have e3 : c / 2 = tqN c := by unfold tqN; rw [if_neg h1]
      rw [e3]
      exact ih (j + 1) k (tqN c) (by omega) (by omega) (tqN_lt hc)
theorem ref_l0 (s : ByteArray) (hs : s.size ≤ 140737488351232) (d : Nat) : ∀ (i k c : Nat), i + d = s.size → 10 * d < k → c < 4294967296 →
    copyholdref02_More.l0 k (c : Int) s (i : Int) = some ((moresN c (s.data.toList.drop i) : Nat) : Int) := by
  induction d with
  | zero =>
    intro i k c hi hk hc
    obtain ⟨k, rfl⟩ : ∃ m, k = m + 1 := ⟨k - 1, by omega⟩
    simp only [copyholdref02_More.l0]
    rw [if_neg (by omega), List.drop_eq_nil_of_le (by rw [← sz]; omega)]
    rfl
  | succ d ih =>
    intro i k c hi hk hc
    obtain ⟨k, rfl⟩ : ∃ m, k = m + 1 := ⟨k - 1, by omega⟩
    simp only [copyholdref02_More.l0]
    have hlt : i < s.size := by omega
    have hl : i < s.data.toList.length := by rw [← sz]; omega
    rw [if_pos (by omega), if_pos (by omega), bt_data s i hlt]
    have hb := (s.data.toList[i]'hl).toNat_lt
    have e : Go.bits .xor .u32 (c : Int) (((s.data.toList[i]'hl).toNat : Int) % 4294967296) = ((c ^^^ (s.data.toList[i]'hl).toNat : Nat) : Int) := by
      rw [show (((s.data.toList[i]'hl).toNat : Int) % 4294967296) = (((s.data.toList[i]'hl).toNat : Nat) : Int) from by omega, u32_xor_nat _ _ hc (by omega)]
    have hh := ref_l1 s hs i hlt 8 0 k _ rfl (by omega) (Nat.xor_lt_two_pow (n := 32) hc (show (s.data.toList[i]'hl).toNat < 2 ^ 32 by omega))
    rw [show ((0 : Nat) : Int) = 0 from rfl] at hh
    rw [e, hh]
    rw [List.drop_eq_getElem_cons hl]
    exact ih (i + 1) (k - 8 - 1) _ (by omega) (by omega) (mbN_lt hc _)
theorem ref_More (s : ByteArray) (hs : s.size ≤ 140737488351232) (k c : Nat) (hk : 10 * s.size < k) (hc : c < 4294967296) :
    copyholdref02_More.f k (c : Int) s = some ((moresN c s.data.toList : Nat) : Int) := by
  have := ref_l0 s hs s.size 0 k c (by omega) hk hc
  exact this
theorem ref_Sum (s : ByteArray) (hs : s.size ≤ 140737488351232) (k : Nat) (hk : 10 * s.size < k) : copyholdref02_Sum.f k s = some ((sumN s : Nat) : Int) := by
  unfold copyholdref02_Sum.f
  have h := ref_More s hs k 4294967295 hk (by decide)
  have h2 := (mores_nat s.data.toList (c := 4294967295) (by decide)).2
  rw [show ((4294967295 : Nat) : Int) = 4294967295 from rfl] at h
  rw [h]
  simp only [Option.bind_some]
  have e : Go.bits .xor .u32 ((moresN 4294967295 s.data.toList : Nat) : Int) 4294967295 = ((sumN s : Nat) : Int) :=
    u32_xor_nat (moresN 4294967295 s.data.toList) 4294967295 h2 (by decide)
  rw [e]
theorem ref_four (c : Nat) (h : c < 4294967296) : copyholdref02_four.f (c : Int) = some (fourS c) := by
  unfold copyholdref02_four.f fourS
  rw [Int.tmod_eq_emod_of_nonneg (by omega), Int.tdiv_eq_ediv_of_nonneg (by omega), Int.tdiv_eq_ediv_of_nonneg (by omega), Int.tdiv_eq_ediv_of_nonneg (by omega)]
  congr 3
  · omega
  · congr 1
    · omega
    · congr 1
      · omega
      · congr 1; omega
theorem ref_Put (s : ByteArray) (hs : s.size ≤ 140737488351232) (k : Nat) (hk : 10 * s.size < k) : copyholdref02_Put.f k s = some (putS s) := by
  unfold copyholdref02_Put.f
  rw [ref_Sum s hs k hk]
  simp only [Option.bind_some]
  rw [ref_four _ (sumN_lt s)]
  simp only [Option.bind_some]
  rw [if_pos (by rw [fourS_size]; omega)]
  rfl
end Go.Proofs.Ytgnmhbkialgeaaa
end

section
/- Layer 15: the reference's Call, Msg and Rsp in closed form (written by gen_lays.py). -/
set_option linter.unusedVariables false
set_option linter.unusedSimpArgs false
namespace Go.Proofs.Ytgnmhbkialgeaaa
open Go.RowKit Go.Proofs.Ytgnmhbkialgeaaa.Q Go.Proofs.YtgnmhbkialgeaaaW.PrintWords Go.Proofs.YtgnmhbkialgeaaaW.PrintLast Go.Proofs.YtgnmhbkialgeaaaW.PrintMore Math

theorem ref_wholeN {n : Int} (h : -9223372036854775808 ≤ n ∧ n ≤ 9223372036854775807) {k : Nat} (hk : 10 ≤ k) : copyholdref15_whole.f k n = some (numS (foldN n)) := by
  unfold copyholdref15_whole.f
  rw [bs (ref_fold h), bs (ref_num10 (foldN_lt h) hk)]
theorem num_sz {n : Int} (h : -9223372036854775808 ≤ n ∧ n ≤ 9223372036854775807) : (numS (foldN n)).size ≤ 10 := by
  rw [sz, numS_dl]
  exact numB_len (foldN_lt h)
theorem ref_call {a b c d e : Int} {x y z : ByteArray} (ha : -9223372036854775808 ≤ a ∧ a ≤ 9223372036854775807) (hb : -9223372036854775808 ≤ b ∧ b ≤ 9223372036854775807) (hc : -9223372036854775808 ≤ c ∧ c ≤ 9223372036854775807) (hd : -9223372036854775808 ≤ d ∧ d ≤ 9223372036854775807) (he : -9223372036854775808 ≤ e ∧ e ≤ 9223372036854775807) (hx : x.size ≤ 100000) (hy : y.size ≤ 100000) (hz : z.size ≤ 100000) {k : Nat} (hk : 10 ≤ k) :
    copyholdref15_Call.f k a b c d e x y z = some (callS a b c d e x y z) := by
  have sa := num_sz ha
  have sb := num_sz hb
  have sc := num_sz hc
  have sd := num_sz hd
  have se := num_sz he
  have sx := textS_sz (s := x) (by omega)
  have sy := textS_sz (s := y) (by omega)
  have sz := textS_sz (s := z) (by omega)
  unfold copyholdref15_Call.f
  rw [bs (ref_wholeN ha (by omega)), bs (ref_wholeN hb (by omega)), if_pos (by omega), bs (ref_wholeN hc (by omega)), if_pos (by rw [app_size]; omega), bs (ref_wholeN hd (by omega)), if_pos (by rw [app_size, app_size]; omega), bs (ref_wholeN he (by omega)), if_pos (by rw [app_size, app_size, app_size]; omega), bs (ref_text (s := x) (by omega) (by omega)), if_pos (by rw [app_size, app_size, app_size, app_size]; omega), bs (ref_text (s := y) (by omega) (by omega)), if_pos (by rw [app_size, app_size, app_size, app_size, app_size]; omega), bs (ref_text (s := z) (by omega) (by omega)), if_pos (by rw [app_size, app_size, app_size, app_size, app_size, app_size]; omega)]
  refine congrArg some (inj ?_)
  rw [app, app, app, app, app, app, app, textS_dl, textS_dl, textS_dl]
  simp only [numS_dl, callS, callB, numsB, List.map_cons, List.map_nil, List.flatten_cons, List.flatten_nil, List.append_nil, List.append_assoc]
theorem ref_msg {a b c d e f g h i j l : Int} {x y z : ByteArray} (ha : -9223372036854775808 ≤ a ∧ a ≤ 9223372036854775807) (hb : -9223372036854775808 ≤ b ∧ b ≤ 9223372036854775807) (hc : -9223372036854775808 ≤ c ∧ c ≤ 9223372036854775807) (hd : -9223372036854775808 ≤ d ∧ d ≤ 9223372036854775807) (he : -9223372036854775808 ≤ e ∧ e ≤ 9223372036854775807) (hf : -9223372036854775808 ≤ f ∧ f ≤ 9223372036854775807) (hg : -9223372036854775808 ≤ g ∧ g ≤ 9223372036854775807) (hh : -9223372036854775808 ≤ h ∧ h ≤ 9223372036854775807) (hi : -9223372036854775808 ≤ i ∧ i ≤ 9223372036854775807) (hj : -9223372036854775808 ≤ j ∧ j ≤ 9223372036854775807) (hl : -9223372036854775808 ≤ l ∧ l ≤ 9223372036854775807) (hx : x.size ≤ 100000) (hy : y.size ≤ 100000) (hz : z.size ≤ 100000) {k : Nat} (hk : 10000000 ≤ k) :
    copyholdref15_Msg.f k a b c d e f g h i j l x y z = some (msgS [a, b, c, d, e, f] [g, h, i, j, l] x.data.toList y.data.toList z.data.toList) := by
  have sa := num_sz ha
  have sb := num_sz hb
  have sc := num_sz hc
  have sd := num_sz hd
  have se := num_sz he
  have sf := num_sz hf
  have h1 : (⟨#[109]⟩ : ByteArray).size = 1 := rfl
  have sc := callS_sz (x := x) (y := y) (z := z) (in5 hg hh hi hj hl) (by omega)
  unfold copyholdref15_Msg.f
  rw [bs (ref_wholeN ha (by omega)), if_pos (by omega), bs (ref_wholeN hb (by omega)), if_pos (by rw [app_size]; omega), bs (ref_wholeN hc (by omega)), if_pos (by rw [app_size, app_size]; omega), bs (ref_wholeN hd (by omega)), if_pos (by rw [app_size, app_size, app_size]; omega), bs (ref_wholeN he (by omega)), if_pos (by rw [app_size, app_size, app_size, app_size]; omega), bs (ref_wholeN hf (by omega)), if_pos (by rw [app_size, app_size, app_size, app_size, app_size]; omega), bs (ref_call hg hh hi hj hl hx hy hz (by omega)), if_pos (by rw [app_size, app_size, app_size, app_size, app_size, app_size]; omega), bs (ref_Put _ (by rw [app_size, app_size, app_size, app_size, app_size, app_size, app_size]; omega) k (by rw [app_size, app_size, app_size, app_size, app_size, app_size, app_size]; omega))]
  refine congrArg (fun s => some (putS s)) (inj ?_)
  rw [app, app, app, app, app, app, app]
  simp only [numS_dl, callS, msgB, numsB, List.map_cons, List.map_nil, List.flatten_cons, List.flatten_nil, List.append_nil, List.append_assoc]
  rfl
theorem ref_rsp {a b c d e f g h i : Int} {x : ByteArray} {t : List ByteArray} (ha : -9223372036854775808 ≤ a ∧ a ≤ 9223372036854775807) (hb : -9223372036854775808 ≤ b ∧ b ≤ 9223372036854775807) (hc : -9223372036854775808 ≤ c ∧ c ≤ 9223372036854775807) (hd : -9223372036854775808 ≤ d ∧ d ≤ 9223372036854775807) (he : -9223372036854775808 ≤ e ∧ e ≤ 9223372036854775807) (hf : -9223372036854775808 ≤ f ∧ f ≤ 9223372036854775807) (hg : -9223372036854775808 ≤ g ∧ g ≤ 9223372036854775807) (hh : -9223372036854775808 ≤ h ∧ h ≤ 9223372036854775807) (hi : -9223372036854775808 ≤ i ∧ i ≤ 9223372036854775807) (hx : x.size ≤ 100000) (hn : t.length ≤ 1000000) (ht : sums t ≤ 1000000) {k : Nat} (hk : 1000000000 ≤ k) :
    copyholdref15_Rsp.f k a b c d e f g h i x t = some (rspS [a, b, c, d, e, f, g, h, i] x.data.toList (lists t)) := by
  have sa := num_sz ha
  have sb := num_sz hb
  have sc := num_sz hc
  have sd := num_sz hd
  have se := num_sz he
  have sf := num_sz hf
  have sg := num_sz hg
  have sh := num_sz hh
  have si := num_sz hi
  have h1 : (⟨#[114]⟩ : ByteArray).size = 1 := rfl
  have sx := textS_sz (s := x) (by omega)
  have st : (listS t).size ≤ lensS t + 10 := by
    have := lensS_len t
    have := lensS_sums t
    rw [sz, listS]
    exact flat_listP t (by omega) (by omega)
  have := lensS_sums t
  unfold copyholdref15_Rsp.f
  rw [bs (ref_wholeN ha (by omega)), if_pos (by omega), bs (ref_wholeN hb (by omega)), if_pos (by rw [app_size]; omega), bs (ref_wholeN hc (by omega)), if_pos (by rw [app_size, app_size]; omega), bs (ref_wholeN hd (by omega)), if_pos (by rw [app_size, app_size, app_size]; omega), bs (ref_wholeN he (by omega)), if_pos (by rw [app_size, app_size, app_size, app_size]; omega), bs (ref_wholeN hf (by omega)), if_pos (by rw [app_size, app_size, app_size, app_size, app_size]; omega), bs (ref_wholeN hg (by omega)), if_pos (by rw [app_size, app_size, app_size, app_size, app_size, app_size]; omega), bs (ref_wholeN hh (by omega)), if_pos (by rw [app_size, app_size, app_size, app_size, app_size, app_size, app_size]; omega), bs (ref_wholeN hi (by omega)), if_pos (by rw [app_size, app_size, app_size, app_size, app_size, app_size, app_size, app_size]; omega), bs (ref_text (s := x) (by omega) (by omega)), if_pos (by rw [app_size, app_size, app_size, app_size, app_size, app_size, app_size, app_size, app_size]; omega), bs (ref_list (l := t) hn ht (by omega)), if_pos (by rw [app_size, app_size, app_size, app_size, app_size, app_size, app_size, app_size, app_size, app_size]; omega), bs (ref_Put _ (by rw [app_size, app_size, app_size, app_size, app_size, app_size, app_size, app_size, app_size, app_size, app_size]; omega) k (by rw [app_size, app_size, app_size, app_size, app_size, app_size, app_size, app_size, app_size, app_size, app_size]; omega))]
  refine congrArg (fun s => some (putS s)) (inj ?_)
  rw [app, app, app, app, app, app, app, app, app, app, app, textS_dl, listS_dl]
  simp only [numS_dl, rspB, numsB, List.map_cons, List.map_nil, List.flatten_cons, List.flatten_nil, List.append_nil, List.append_assoc]
  rfl
end Go.Proofs.Ytgnmhbkialgeaaa
end

section
/- The pure statement of WireLays: what is left of the law when the machine's side is told. -/
namespace Go.Proofs.Ytgnmhbkialgeaaa.Pure
open Go.RowKit Go.Proofs.Ytgnmhbkialgeaaa.V
def WireLaysSt : Prop := ∀ (a0_0 : Int) (a0_1 : Int) (a0_2 : Int) (a0_3 : Int) (a0_4 : Int) (a0_5 : Int) (a0_6 : Int) (a0_7 : Int) (a0_8 : Int) (a0_9 : Int) (a0_10 : Int) (a0_11 : ByteArray) (a0_12 : ByteArray) (a0_13 : ByteArray) (a1_0 : Int) (a1_1 : Int) (a1_2 : Int) (a1_3 : Int) (a1_4 : Int) (a1_5 : Int) (a1_6 : Int) (a1_7 : Int) (a1_8 : Int) (a1_9 : ByteArray) (l1_10 : List ByteArray) (a2_0 : Int) (a2_1 : Int) (a2_2 : Int) (a2_3 : Int) (a2_4 : Int) (a2_5 : Int) (a2_6 : Int) (a2_7 : Int) (a2_8 : Int) (a2_9 : ByteArray) (l2_10 : List ByteArray), (Lit.int .i64 a0_0).wf = true → (Lit.int .i64 a0_1).wf = true → (Lit.int .i64 a0_2).wf = true → (Lit.int .i64 a0_3).wf = true → (Lit.int .i64 a0_4).wf = true → (Lit.int .i64 a0_5).wf = true → (Lit.int .i64 a0_6).wf = true → (Lit.int .i64 a0_7).wf = true → (Lit.int .i64 a0_8).wf = true → (Lit.int .i64 a0_9).wf = true → (Lit.int .i64 a0_10).wf = true → a0_11.size ≤ 140737488351232 → a0_12.size ≤ 140737488351232 → a0_13.size ≤ 140737488351232 → (Lit.int .i64 a1_0).wf = true → (Lit.int .i64 a1_1).wf = true → (Lit.int .i64 a1_2).wf = true → (Lit.int .i64 a1_3).wf = true → (Lit.int .i64 a1_4).wf = true → (Lit.int .i64 a1_5).wf = true → (Lit.int .i64 a1_6).wf = true → (Lit.int .i64 a1_7).wf = true → (Lit.int .i64 a1_8).wf = true → a1_9.size ≤ 140737488351232 → (l1_10.length * 16 ≤ 140737488351232 ∧ ∀ y_ ∈ l1_10, y_.size ≤ 140737488351232) → (Lit.int .i64 a2_0).wf = true → (Lit.int .i64 a2_1).wf = true → (Lit.int .i64 a2_2).wf = true → (Lit.int .i64 a2_3).wf = true → (Lit.int .i64 a2_4).wf = true → (Lit.int .i64 a2_5).wf = true → (Lit.int .i64 a2_6).wf = true → (Lit.int .i64 a2_7).wf = true → (Lit.int .i64 a2_8).wf = true → a2_9.size ≤ 140737488351232 → (l2_10.length * 16 ≤ 140737488351232 ∧ ∀ y_ ∈ l2_10, y_.size ≤ 140737488351232) → ((1 + (1 + (1 + (1 + (1 + (1 + ((1 + (1 + (1 + (1 + (1 + ((a0_11.size + 1) + ((a0_12.size + 1) + (a0_13.size + 1)))))))) + 1))))))) + 1) + ((1 + (1 + (1 + (1 + (1 + ((1 + (1 + (1 + (1 + ((a1_9.size + 1) + ((l1_10.map fun y_ => (y_.size + 1)).sum + 1)))))) + 1)))))) + 1) + ((1 + (1 + (1 + (1 + (1 + ((1 + (1 + (1 + (1 + ((a2_9.size + 1) + ((l2_10.map fun y_ => (y_.size + 1)).sum + 1)))))) + 1)))))) + 1) ≤ 1048576 → ∃ k, Go.Proofs.Ytgnmhbkialgeaaa.V.copyholdlaw15_WireLays.f k a0_0 a0_1 a0_2 a0_3 a0_4 a0_5 a0_6 a0_7 a0_8 a0_9 a0_10 a0_11 a0_12 a0_13 a1_0 a1_1 a1_2 a1_3 a1_4 a1_5 a1_6 a1_7 a1_8 a1_9 l1_10 a2_0 a2_1 a2_2 a2_3 a2_4 a2_5 a2_6 a2_7 a2_8 a2_9 l2_10 = some true
end Go.Proofs.Ytgnmhbkialgeaaa.Pure
end

section
/- WireLays, pure (written by gen_lays.py). -/
set_option linter.unusedVariables false
namespace Go.Proofs.Ytgnmhbkialgeaaa.Pure
open Go.RowKit Go.Proofs.Ytgnmhbkialgeaaa.Q Go.Proofs.YtgnmhbkialgeaaaW.PrintWords Go.Proofs.YtgnmhbkialgeaaaW.PrintLast Math

theorem eq_l0 (l m : List ByteArray) (hl : l.length ≤ 9223372036854775806) (hm : l.length = m.length) (d : Nat) : ∀ (i k : Nat), i + d = l.length → d < k →
    S.slices_Equal_string_string.l0 k l m (l.length : Int) (i : Int) = some (decide (l.drop i = m.drop i)) := by
  induction d with
  | zero =>
    intro i k hi hk
    obtain ⟨k, rfl⟩ : ∃ q, k = q + 1 := ⟨k - 1, by omega⟩
    rw [S.slices_Equal_string_string.l0, if_neg (by omega), List.drop_eq_nil_of_le (by omega), List.drop_eq_nil_of_le (by omega)]
    rfl
  | succ d ih =>
    intro i k hi hk
    obtain ⟨k, rfl⟩ : ∃ q, k = q + 1 := ⟨k - 1, by omega⟩
    have h1 : i < l.length := by omega
    have h2 : i < m.length := by omega
    rw [S.slices_Equal_string_string.l0, if_pos (by omega), if_pos (by omega), if_pos (by omega), if_pos (by omega), rd_get h1, rd_get h2, List.drop_eq_getElem_cons h1, List.drop_eq_getElem_cons h2, tl, tl]
    have ih' := ih (i + 1) k (by omega) (by omega)
    by_cases he : l[i] = m[i]
    · rw [if_pos (congrArg (fun s => s.data.toList) he)]
      rw [w64 (n := (i : Int) + 1) (by omega) (by omega), show ((i : Int) + 1) = ((i + 1 : Nat) : Int) from by omega, ih', he]
      exact congrArg some (decide_eq_decide.2 ⟨fun h => by rw [h], fun h => (List.cons.inj h).2⟩)
    · rw [if_neg (fun h => he (inj h))]
      exact congrArg some (decide_eq_false (fun h => he (List.cons.inj h).1)).symm
theorem eq_eq (l m : List ByteArray) (hl : l.length ≤ 9223372036854775806) {k : Nat} (hk : l.length < k) : S.slices_Equal_string_string.f k l m = some (decide (l = m)) := by
  unfold S.slices_Equal_string_string.f
  by_cases h : l.length = m.length
  · rw [if_pos (by omega)]
    exact eq_l0 l m hl h l.length 0 k (by omega) hk
  · rw [if_neg (by omega)]
    exact congrArg some (decide_eq_false (fun e => h (by rw [e]))).symm
theorem wsame_eq {r0 r1 r2 r3 r4 r5 r6 r7 r8 s0 s1 s2 s3 s4 s5 s6 s7 s8 : Int} {rt st : ByteArray} {rn sn : List ByteArray} (hl : rn.length ≤ 9223372036854775806) {k : Nat} (hk : rn.length < k) : S.wire_Same.f k r0 r1 r2 r3 r4 r5 r6 r7 r8 rt rn s0 s1 s2 s3 s4 s5 s6 s7 s8 st sn = some (decide (r0 = s0 ∧ r1 = s1 ∧ r2 = s2 ∧ r3 = s3 ∧ r4 = s4 ∧ r5 = s5 ∧ r6 = s6 ∧ r7 = s7 ∧ r8 = s8 ∧ rt = st ∧ rn = sn)) := by
  unfold S.wire_Same.f
  by_cases g0 : r0 = s0
  case neg => rw [if_neg g0]; exact congrArg some (decide_eq_false (fun h => g0 h.1)).symm
  rw [if_pos g0]
  by_cases g1 : r1 = s1
  case neg => rw [if_neg g1]; exact congrArg some (decide_eq_false (fun h => g1 h.2.1)).symm
  rw [if_pos g1]
  by_cases g2 : r2 = s2
  case neg => rw [if_neg g2]; exact congrArg some (decide_eq_false (fun h => g2 h.2.2.1)).symm
  rw [if_pos g2]
  by_cases g3 : r3 = s3
  case neg => rw [if_neg g3]; exact congrArg some (decide_eq_false (fun h => g3 h.2.2.2.1)).symm
  rw [if_pos g3]
  by_cases g4 : r4 = s4
  case neg => rw [if_neg g4]; exact congrArg some (decide_eq_false (fun h => g4 h.2.2.2.2.1)).symm
  rw [if_pos g4]
  by_cases g5 : r5 = s5
  case neg => rw [if_neg g5]; exact congrArg some (decide_eq_false (fun h => g5 h.2.2.2.2.2.1)).symm
  rw [if_pos g5]
  by_cases g6 : r6 = s6
  case neg => rw [if_neg g6]; exact congrArg some (decide_eq_false (fun h => g6 h.2.2.2.2.2.2.1)).symm
  rw [if_pos g6]
  by_cases g7 : r7 = s7
  case neg => rw [if_neg g7]; exact congrArg some (decide_eq_false (fun h => g7 h.2.2.2.2.2.2.2.1)).symm
  rw [if_pos g7]
  by_cases g8 : r8 = s8
  case neg => rw [if_neg g8]; exact congrArg some (decide_eq_false (fun h => g8 h.2.2.2.2.2.2.2.2.1)).symm
  rw [if_pos g8]
  by_cases g9 : rt = st
  case neg => rw [if_neg (fun h => g9 (by rw [tl, tl] at h; exact inj h))]; exact congrArg some (decide_eq_false (fun h => g9 h.2.2.2.2.2.2.2.2.2.1)).symm
  rw [if_pos (by rw [g9]), bs (eq_eq rn sn hl hk)]
  exact congrArg some (decide_eq_decide.2 ⟨fun h => ⟨g0, g1, g2, g3, g4, g5, g6, g7, g8, g9, h⟩, fun h => h.2.2.2.2.2.2.2.2.2.2⟩)
theorem sums_bulk (l : List ByteArray) : sums l ≤ (l.map fun y_ => (y_.size + 1)).sum := by
  induction l with
  | nil => simp [sums]
  | cons a l ih => rw [sums_cons, List.map_cons, List.sum_cons]; omega
theorem len_bulk (l : List ByteArray) : l.length ≤ (l.map fun y_ => (y_.size + 1)).sum := by
  induction l with
  | nil => simp
  | cons a l ih => rw [List.map_cons, List.sum_cons, List.length_cons]; omega
theorem WireLays : WireLaysSt := by
  intro p0 p1 p2 p3 p4 p5 p6 p7 p8 p9 p10 px py pz r0 r1 r2 r3 r4 r5 r6 r7 r8 rt rn s0 s1 s2 s3 s4 s5 s6 s7 s8 st sn wp0 wp1 wp2 wp3 wp4 wp5 wp6 wp7 wp8 wp9 wp10 wpx wpy wpz wr0 wr1 wr2 wr3 wr4 wr5 wr6 wr7 wr8 wrt wrn ws0 ws1 ws2 ws3 ws4 ws5 ws6 ws7 ws8 wst wsn hb
  have b1 := sums_bulk rn
  have b2 := sums_bulk sn
  have l1 := len_bulk rn
  have l2 := len_bulk sn
  have h6 := in6 (lit64 wp0) (lit64 wp1) (lit64 wp2) (lit64 wp3) (lit64 wp4) (lit64 wp5)
  have h5 := in5 (lit64 wp6) (lit64 wp7) (lit64 wp8) (lit64 wp9) (lit64 wp10)
  have h9 := in9 (lit64 wr0) (lit64 wr1) (lit64 wr2) (lit64 wr3) (lit64 wr4) (lit64 wr5) (lit64 wr6) (lit64 wr7) (lit64 wr8)
  obtain ⟨K, hK⟩ : ∃ K, 1000000000 ≤ K := ⟨_, Nat.le_refl _⟩
  refine ⟨K + 1, ?_⟩
  have up : V.copyholdlaw15_WireLays.j0 (K + 1) true true p0 p1 p2 p3 p4 p5 p6 p7 p8 p9 p10 px py pz r0 r1 r2 r3 r4 r5 r6 r7 r8 rt rn s0 s1 s2 s3 s4 s5 s6 s7 s8 st sn = some true := by rw [V.copyholdlaw15_WireLays.j0]; rfl
  unfold V.copyholdlaw15_WireLays.f
  rw [bs shown_eq, bs (short_eq wpx wpy wpz)]
  by_cases hp : px.size + py.size + pz.size ≤ 4000
  · rw [if_pos (decide_eq_true hp), bs (ref_long (l := rn) (by omega) (by omega) (by omega)), w64 (n := (rt.size : Int) + ((rn.length + sums rn : Nat) : Int)) (by omega) (by omega)]
    by_cases hT : (rt.size : Int) + ((rn.length + sums rn : Nat) : Int) > 4000
    · rw [if_pos hT]; exact up
    · rw [if_neg hT, bs (ref_long (l := sn) (by omega) (by omega) (by omega))]
      by_cases hS : ((sn.length + sums sn : Nat) : Int) > 4000
      · rw [decide_eq_true hS]; exact up
      · have hrn := lensS_sums rn
        have eC : wire_Call.f p6 p7 p8 p9 p10 px py pz = some (callS p6 p7 p8 p9 p10 px py pz) := call_eq h5 (by omega) (by omega) (by omega)
        rw [decide_eq_false hS, V.copyholdlaw15_WireLays.j0, if_neg (by decide), if_pos rfl, bs eC, bs (ref_call (lit64 wp6) (lit64 wp7) (lit64 wp8) (lit64 wp9) (lit64 wp10) (by omega) (by omega) (by omega) (by omega)), if_pos rfl,
          bs (msg_eq h6 h5 (by omega) (by omega) (by omega)), bs (ref_msg (lit64 wp0) (lit64 wp1) (lit64 wp2) (lit64 wp3) (lit64 wp4) (lit64 wp5) (lit64 wp6) (lit64 wp7) (lit64 wp8) (lit64 wp9) (lit64 wp10) (by omega) (by omega) (by omega) (by omega)), if_pos rfl,
          bs (rsp_eq h9 (by omega) (by omega)), bs (ref_rsp (lit64 wr0) (lit64 wr1) (lit64 wr2) (lit64 wr3) (lit64 wr4) (lit64 wr5) (lit64 wr6) (lit64 wr7) (lit64 wr8) (by omega) (by omega) (by omega) hK), if_pos rfl, bs (wsame_eq (by omega) (by omega)), bs (same_eq (by omega) (by omega)), beq_self_eq_true]
  · rw [if_neg (by rw [decide_eq_false hp]; decide)]; exact up
end Go.Proofs.Ytgnmhbkialgeaaa.Pure
end
