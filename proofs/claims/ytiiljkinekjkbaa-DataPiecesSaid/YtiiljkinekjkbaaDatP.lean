/- Layer 9, plain: what a text is with a part written into it, place by place. -/
import Derived.Test.YtiiljkinekjkbaaDatN
set_option linter.unusedVariables false
set_option linter.unusedSimpArgs false
namespace Go.Proofs.Ytiiljkinekjkbaa
open Go.RowKit Go.Lib Go.Proofs.YtiiljkinekjkbaaW.PrintWords Math Clean Flt

/-- A part written into a text, as lists. -/
def wrS (S : List UInt8) (a : Nat) (T : List UInt8) : List UInt8 :=
  (S ++ List.replicate (a + T.length - S.length) 0).take a ++ T ++ (S ++ List.replicate (a + T.length - S.length) 0).drop (a + T.length)
theorem padL_big (s : ByteArray) (m : Nat) (h : s.size ≤ m) : padL s m = s.data.toList ++ List.replicate (m - s.size) 0 := by
  unfold padL
  rw [List.take_of_length_le (by rw [← size_eq]; exact h)]
theorem wrL_wrS (s : ByteArray) (a : Nat) (t : ByteArray) : wrL s a t = wrS s.data.toList a t.data.toList := by
  unfold wrL wrS
  have hs : s.size = s.data.toList.length := size_eq s
  have ht : t.size = t.data.toList.length := size_eq t
  rw [padL_big _ _ (by omega), hs, ht]
  have e : max s.data.toList.length (a + t.data.toList.length) - s.data.toList.length = a + t.data.toList.length - s.data.toList.length := by omega
  rw [e]
theorem wrS_len (S : List UInt8) (a : Nat) (T : List UInt8) : (wrS S a T).length = max S.length (a + T.length) := by
  unfold wrS
  simp only [List.length_append, List.length_take, List.length_drop, List.length_replicate]
  omega
theorem wrS_get (S : List UInt8) (a : Nat) (T : List UInt8) (i : Nat) : (wrS S a T)[i]? = if i < a then some (S.getD i 0) else if i < a + T.length then T[i - a]? else S[i]? := by
  unfold wrS
  have hP : ∀ j, (S ++ List.replicate (a + T.length - S.length) 0)[j]? = if j < S.length then S[j]? else if j < a + T.length then some 0 else none := by
    intro j
    rw [List.getElem?_append]
    by_cases h : j < S.length
    · rw [if_pos h, if_pos h]
    · rw [if_neg h, if_neg h, List.getElem?_replicate]
      by_cases h2 : j < a + T.length
      · rw [if_pos h2, if_pos (by omega)]
      · rw [if_neg h2, if_neg (by omega)]
  rw [List.append_assoc, List.getElem?_append, List.length_take, List.length_append, List.length_replicate]
  by_cases h : i < a
  · rw [if_pos (by omega), if_pos h, List.getElem?_take, if_pos h, hP]
    rw [List.getD_eq_getElem?_getD]
    by_cases h2 : i < S.length
    · rw [if_pos h2, List.getElem?_eq_getElem h2]; rfl
    · rw [if_neg h2, if_pos (by omega), List.getElem?_eq_none (by omega)]; rfl
  · rw [if_neg (by omega), if_neg h, List.getElem?_append]
    have e : min a (S.length + (a + T.length - S.length)) = a := by omega
    rw [e]
    by_cases h2 : i < a + T.length
    · rw [if_pos (by omega), if_pos h2]
    · rw [if_neg (by omega), if_neg h2, List.getElem?_drop, show a + T.length + (i - a - T.length) = i by omega, hP]
      by_cases h3 : i < S.length
      · rw [if_pos h3]
      · rw [if_neg h3, if_neg h2, List.getElem?_eq_none (by omega)]
/-- Written in two pieces. -/
theorem wrS_two (S : List UInt8) (a : Nat) (A B : List UInt8) : wrS (wrS S a A) (a + A.length) B = wrS S a (A ++ B) := by
  apply List.ext_getElem?
  intro i
  rw [wrS_get (wrS S a A), wrS_get S a (A ++ B), List.length_append]
  by_cases h1 : i < a + A.length
  · rw [if_pos h1, List.getD_eq_getElem?_getD, wrS_get]
    by_cases h2 : i < a
    · rw [if_pos h2, if_pos h2]; rfl
    · rw [if_neg h2, if_neg h2, if_pos h1, if_pos (by omega), List.getElem?_append_left (by omega), List.getElem?_eq_getElem (by omega)]; rfl
  · rw [if_neg h1, if_neg (show ¬ i < a by omega)]
    by_cases h2 : i < a + A.length + B.length
    · rw [if_pos h2, if_pos (by omega), List.getElem?_append_right (by omega), show i - (a + A.length) = i - a - A.length by omega]
    · rw [if_neg h2, if_neg (by omega), wrS_get, if_neg (by omega), if_neg h1]
theorem wrS_nil (S : List UInt8) (a : Nat) (h : a ≤ S.length) : wrS S a [] = S := by
  apply List.ext_getElem?
  intro i
  rw [wrS_get]
  by_cases h1 : i < a
  · rw [if_pos h1, List.getD_eq_getElem?_getD, List.getElem?_eq_getElem (by omega)]; rfl
  · rw [if_neg h1, if_neg (by simpa using h1)]
/-- What is read of a text, as lists. -/
theorem read_list (s : ByteArray) (a n : Nat) (h : a + n ≤ 1099511627776) : readR s a n = (⟨((s.data.toList.drop a).take n).toArray⟩, 0) := by
  unfold readR
  rw [if_pos (by omega)]
  congr 1
  rw [Int.toNat_natCast, Int.toNat_natCast]
  apply ByteArray.ext
  rw [ByteArray.data_extract]
  apply Array.toList_inj.1
  rw [Array.toList_extract, List.extract_eq_take_drop, Nat.add_sub_cancel_left]
theorem get_part (L : List UInt8) (a n i : Nat) : ((L.drop a).take n)[i]? = if i < n then L[a + i]? else none := by
  rw [List.getElem?_take]
  by_cases h : i < n
  · rw [if_pos h, if_pos h, List.getElem?_drop]
  · rw [if_neg h, if_neg h]
theorem write_good (s : ByteArray) (a : Nat) (t : ByteArray) (h : a + t.size ≤ 4096) (h0 : t.size ≠ 0) : writeR s a t = (⟨(wrS s.data.toList a t.data.toList).toArray⟩, 0) := by
  unfold writeR
  rw [if_pos (by omega), if_neg (by omega), if_neg h0, Int.toNat_natCast, wrL_wrS]
theorem write_none (s : ByteArray) (a : Nat) (t : ByteArray) (h : a + t.size ≤ 4096) (h0 : t.size = 0) : writeR s a t = (s, 0) := by
  unfold writeR
  rw [if_pos (by omega), if_neg (by omega), if_pos h0]
theorem write_bad (s : ByteArray) (a : Int) (t : ByteArray) (h : ¬ (0 ≤ a ∧ a + (t.size : Int) ≤ 4096)) : ∃ e, e ≠ 0 ∧ writeR s a t = (s, e) := by
  unfold writeR
  by_cases h1 : 0 ≤ a ∧ a ≤ 1099511627776 ∧ (t.size : Int) ≤ 1099511627776 - a
  · rw [if_pos h1, if_pos (by omega)]
    exact ⟨5, by decide, rfl⟩
  · rw [if_neg h1]
    exact ⟨1, by decide, rfl⟩
theorem bsz (l : List UInt8) : (⟨l.toArray⟩ : ByteArray).size = l.length := List.size_toArray ..
theorem btl (l : List UInt8) : (⟨l.toArray⟩ : ByteArray).toList = l := by rw [tl]
theorem ext_list (l : List UInt8) (a b : Nat) : ((⟨l.toArray⟩ : ByteArray).extract a b).toList = (l.drop a).take (b - a) := by
  rw [tl, ByteArray.data_extract, Array.toList_extract, List.extract_eq_take_drop]
theorem nums_zero (n : Nat) : (strOfNums (List.replicate n 0)).toList = List.replicate n 0 := by
  unfold strOfNums
  rw [tl]
  simp
theorem app_list (x y : ByteArray) : (x ++ y).toList = x.toList ++ y.toList := by
  rw [tl, tl, tl, ByteArray.data_append, Array.toList_append]
theorem app_data (x y : ByteArray) : (x ++ y).data.toList = x.data.toList ++ y.data.toList := by
  rw [ByteArray.data_append, Array.toList_append]
theorem cut_same (s : ByteArray) (h : s.size ≤ 4096) : cutR s (s.size : Int) = (s, 0) := by
  unfold cutR
  rw [if_neg (by omega), if_neg (by omega), Int.toNat_natCast, padL_big _ _ (Nat.le_refl _), Nat.sub_self, List.replicate_zero, List.append_nil]
theorem unl_mem (a b : ByteArray) (n : Nat) (x : Sp) : x ∈ unl a b n ↔ x.2 = 1 ∧ x.1 < n ∧ dl a b x.1 = true := by
  unfold unl
  rw [List.mem_map]
  constructor
  · rintro ⟨i, hi, rfl⟩
    have h := List.mem_filter.1 hi
    exact ⟨rfl, List.mem_range.1 h.1, h.2⟩
  · rintro ⟨h1, h2, h3⟩
    exact ⟨x.1, List.mem_filter.2 ⟨List.mem_range.2 h2, h3⟩, by rw [← h1]⟩
theorem unl_cov (a b : ByteArray) (n i : Nat) : cov (unl a b n) i = (decide (i < n) && dl a b i) := by
  rw [Bool.eq_iff_iff, cov_iff, Bool.and_eq_true, decide_eq_true_eq]
  constructor
  · rintro ⟨s, hs, h1, h2⟩
    obtain ⟨h3, h4, h5⟩ := (unl_mem a b n s).1 hs
    have : s.1 = i := by omega
    rw [← this]
    exact ⟨h4, h5⟩
  · rintro ⟨h1, h2⟩
    exact ⟨(i, 1), (unl_mem a b n (i, 1)).2 ⟨rfl, h1, h2⟩, Nat.le_refl _, Nat.lt_succ_self _⟩
theorem dl_comm (a b : ByteArray) (i : Nat) : dl a b i = dl b a i := by
  unfold dl
  rw [bne_comm]
  cases decide (a.size ≤ i) <;> cases decide (b.size ≤ i) <;> rfl
theorem unl_comm (a b : ByteArray) (n : Nat) : unl a b n = unl b a n := by
  unfold unl
  rw [show dl a b = dl b a from funext (dl_comm a b)]
theorem dl_at (a b : ByteArray) (i : Nat) (ha : i < a.size) (hb : i < b.size) : dl a b i = (a.data.toList.getD i 0 != b.data.toList.getD i 0) := by
  unfold dl
  rw [decide_eq_false (by omega), decide_eq_false (by omega), Bool.false_or, Bool.false_or]
/-- Two texts are the same just if they differ nowhere. -/
theorem unl_none (a b : ByteArray) : cleanF (unl a b (max a.size b.size)) = [] ↔ a = b := by
  constructor
  · intro h
    have hc : ∀ i, i < max a.size b.size → dl a b i = false := by
      intro i hi
      have h2 := (cleanF_spec (unl a b (max a.size b.size))).2 i
      rw [h, cov_nil, unl_cov, decide_eq_true hi, Bool.true_and] at h2
      exact h2.symm
    have hd : ∀ i, i < max a.size b.size → i < a.size ∧ i < b.size := by
      intro i hi
      have h2 := hc i hi
      unfold dl at h2
      simp only [Bool.or_eq_false_iff, decide_eq_false_iff_not] at h2
      omega
    have hz : a.size = b.size := by
      rcases Nat.lt_trichotomy a.size b.size with k | k | k
      · have := hd a.size (by omega); omega
      · exact k
      · have := hd b.size (by omega); omega
    apply ByteArray.ext
    apply Array.toList_inj.1
    apply List.ext_getElem?
    intro i
    have sa : a.size = a.data.toList.length := size_eq a
    have sb : b.size = b.data.toList.length := size_eq b
    by_cases hi : i < a.size
    · have h2 := hc i (by omega)
      rw [dl_at a b i hi (by omega)] at h2
      have h3 : a.data.toList.getD i 0 = b.data.toList.getD i 0 := by simpa using h2
      rw [List.getD_eq_getElem?_getD, List.getD_eq_getElem?_getD, List.getElem?_eq_getElem (by omega), List.getElem?_eq_getElem (by omega)] at h3
      rw [List.getElem?_eq_getElem (by omega), List.getElem?_eq_getElem (by omega)]
      exact congrArg some h3
    · rw [List.getElem?_eq_none (by omega), List.getElem?_eq_none (by omega)]
  · rintro rfl
    have h0 : unl a a (max a.size a.size) = [] := by
      apply List.eq_nil_iff_forall_not_mem.2
      intro x hx
      obtain ⟨_, h2, h3⟩ := (unl_mem _ _ _ _).1 hx
      rw [dl_at a a x.1 (by omega) (by omega)] at h3
      simp at h3
    rw [h0]
    exact List.eq_nil_of_length_eq_zero (Nat.le_zero.1 (cleanF_len []))
theorem unl_clean_le (a b : ByteArray) (n : Nat) : ∀ x ∈ cleanF (unl a b n), x.1 + x.2 ≤ n := cleanF_le n _ fun s hs => by
  obtain ⟨h1, h2, _⟩ := (unl_mem a b n s).1 hs
  omega
theorem unl_clean_len (a b : ByteArray) (n : Nat) : (cleanF (unl a b n)).length ≤ n := Nat.le_trans (cleanF_len _) (unl_len a b n)
theorem getD_of {L M : List UInt8} {i j : Nat} (h : L[i]? = M[j]?) : L.getD i 0 = M.getD j 0 := by rw [List.getD_eq_getElem?_getD, List.getD_eq_getElem?_getD, h]
/-- Parts of one text, written into another one of its length. -/
theorem mend_go (t s0 : ByteArray) (n : Nat) (ht : t.size = n) (hn : n ≤ 4096) : ∀ (l : List Sp) (out : ByteArray), out.size = n → (∀ x ∈ l, 1 ≤ x.2 ∧ x.1 + x.2 ≤ n) →
    ∃ r, patchGo s0 out l (pcs t l) = (r, 0) ∧ r.size = n ∧ ∀ i, i < n → r.data.toList.getD i 0 = if cov l i = true then t.data.toList.getD i 0 else out.data.toList.getD i 0
  | [], out, ho, _ => ⟨out, by unfold patchGo; rfl, ho, fun i _ => by rw [cov_nil, if_neg (by decide)]⟩
  | x :: l, out, ho, hl => by
    obtain ⟨h1, h2⟩ := hl x (List.mem_cons_self ..)
    have hr := read_list t x.1 x.2 (by omega)
    have htl : t.size = t.data.toList.length := size_eq t
    have hol : out.size = out.data.toList.length := size_eq out
    have hps : ((t.data.toList.drop x.1).take x.2).length = x.2 := by rw [List.length_take, List.length_drop]; omega
    have hpz : (⟨((t.data.toList.drop x.1).take x.2).toArray⟩ : ByteArray).size = x.2 := by rw [bsz, hps]
    have hw := write_good out x.1 ⟨((t.data.toList.drop x.1).take x.2).toArray⟩ (by rw [hpz]; omega) (by rw [hpz]; omega)
    have e : pcs t (x :: l) = (readR t x.1 x.2).1 :: pcs t l := rfl
    rw [e, hr]
    unfold patchGo
    dsimp only at hw ⊢
    rw [hw]
    dsimp only
    rw [if_pos rfl]
    have hos : (⟨(wrS out.data.toList x.1 ((t.data.toList.drop x.1).take x.2)).toArray⟩ : ByteArray).size = n := by rw [bsz, wrS_len, hps]; omega
    obtain ⟨r, k1, k2, k3⟩ := mend_go t s0 n ht hn l _ hos (fun y hy => hl y (List.mem_cons_of_mem _ hy))
    refine ⟨r, k1, k2, fun i hi => ?_⟩
    rw [k3 i hi, cov_cons]
    cases hc : cov l i with
    | true => rw [Bool.or_true, if_pos rfl, if_pos rfl]
    | false =>
      rw [Bool.or_false, if_neg (by decide)]
      show (wrS out.data.toList x.1 ((t.data.toList.drop x.1).take x.2)).getD i 0 = _
      rw [List.getD_eq_getElem?_getD, wrS_get, hps]
      by_cases c1 : i < x.1
      · rw [if_pos c1, if_neg (by rw [has_iff]; omega)]; rfl
      · rw [if_neg c1]
        by_cases c2 : i < x.1 + x.2
        · rw [if_pos c2, if_pos (by rw [has_iff]; omega), get_part, if_pos (by omega), show x.1 + (i - x.1) = i by omega, List.getD_eq_getElem?_getD]
        · rw [if_neg c2, if_neg (by rw [has_iff]; omega), List.getD_eq_getElem?_getD]
theorem mend (s t : ByteArray) (h : s.size = t.size) (hn : s.size ≤ 4096) : patchR s (cleanF (unl s t (max s.size t.size))) (pcs t (cleanF (unl s t (max s.size t.size)))) = (t, 0) := by
  unfold patchR
  rw [if_pos (pcs_len _ _).symm]
  have hle := unl_clean_le s t (max s.size t.size)
  have hsp := cleanF_spec (unl s t (max s.size t.size))
  obtain ⟨r, k1, k2, k3⟩ := mend_go t s s.size h.symm hn (cleanF (unl s t (max s.size t.size))) s rfl (fun x hx => ⟨hsp.1.some x hx, by have := hle x hx; omega⟩)
  rw [k1]
  congr 1
  apply ByteArray.ext
  apply Array.toList_inj.1
  apply List.ext_getElem?
  intro i
  have hr : r.size = r.data.toList.length := size_eq r
  have htl : t.size = t.data.toList.length := size_eq t
  by_cases hi : i < s.size
  · have h1 : r.data.toList.getD i 0 = t.data.toList.getD i 0 := by
      rw [k3 i hi, hsp.2, unl_cov, decide_eq_true (by omega), Bool.true_and, dl_at s t i hi (by omega)]
      split
      · rfl
      · rename_i hne
        simpa using hne
    rw [List.getD_eq_getElem?_getD, List.getD_eq_getElem?_getD, List.getElem?_eq_getElem (by omega), List.getElem?_eq_getElem (by omega)] at h1
    rw [List.getElem?_eq_getElem (by omega), List.getElem?_eq_getElem (by omega)]
    exact congrArg some h1
  · rw [List.getElem?_eq_none (by omega), List.getElem?_eq_none (by omega)]
end Go.Proofs.Ytiiljkinekjkbaa
