/- The plain mathematics of short numbers and texts: what is laid is taken, what is taken was laid, no beginning is. -/
import Derived.Test.YtoenhajcjebmeaaOctE
set_option linter.unusedVariables false
set_option linter.unusedSimpArgs false
namespace Go.Proofs.Ytoenhajcjebmeaa
open Go.RowKit Math

/-- The short number's bytes. -/
def numB (n : Nat) : List UInt8 := (numL n).map fun x => UInt8.ofNat x.toNat
theorem numS_dl (n : Nat) : (numS n).data.toList = numB n := rfl
theorem numB_lo {n : Nat} (h : ¬ 128 ≤ n) : numB n = [UInt8.ofNat n] := by rw [numB, numL_lo h]; simp
theorem numB_hi {n : Nat} (h : 128 ≤ n) : numB n = UInt8.ofNat (n % 128 + 128) :: numB (n / 128) := by rw [numB, numL_hi h]; rfl
theorem ofNat_toNat {n : Nat} (h : n < 256) : (UInt8.ofNat n).toNat = n := by rw [UInt8.toNat_ofNat']; omega
theorem numB_len {n : Nat} (h : n < 18446744073709551616) : (numB n).length ≤ 10 := by rw [numB, List.length_map]; exact numL_len10 h
theorem numB_pos (n : Nat) : 1 ≤ (numB n).length := by
  by_cases h : 128 ≤ n
  · rw [numB_hi h]; simp
  · rw [numB_lo h]; simp
theorem pow7 (a : Nat) : 2 ^ (7 * (a + 1)) = 128 * 2 ^ (7 * a) := by rw [show 7 * (a + 1) = 7 * a + 7 from by omega, Nat.pow_add]; omega
/-- What was laid is taken as it was, whatever stands behind it. -/
theorem take_num (n : Nat) : ∀ (a acc : Nat) (m : List UInt8), (1 ≤ a → 1 ≤ n) → n * 2 ^ (7 * a) < 18446744073709551616 → takeN a acc (numB n ++ m) = (acc + n * 2 ^ (7 * a), m, 0) := by
  induction n using Nat.strongRecOn with
  | _ n ih =>
    intro a acc m ha hn
    have ha9 : a ≤ 9 := by
      rcases Nat.lt_or_ge 9 a with h | h
      · have h1 := ha (by omega)
        have h2 : 2 ^ 70 ≤ 2 ^ (7 * a) := Nat.pow_le_pow_right (by decide) (by omega)
        have h3 : 1 * 2 ^ (7 * a) ≤ n * 2 ^ (7 * a) := Nat.mul_le_mul_right _ h1
        omega
      · exact h
    by_cases h : 128 ≤ n
    · rw [numB_hi h, List.cons_append]
      have hc : (UInt8.ofNat (n % 128 + 128)).toNat = n % 128 + 128 := ofNat_toNat (by omega)
      rw [tk_go ha9 (by rw [hc]; omega), hc]
      have e : n * 2 ^ (7 * a) = n % 128 * 2 ^ (7 * a) + n / 128 * 2 ^ (7 * (a + 1)) := by
        rw [pow7, ← Nat.mul_assoc, ← Nat.add_mul]
        congr 1; omega
      rw [ih (n / 128) (by omega) (a + 1) _ m (by omega) (by omega)]
      rw [show (n % 128 + 128) % 128 = n % 128 from by omega]
      congr 1
      omega
    · rw [numB_lo h, List.cons_append, List.nil_append]
      have hc : (UInt8.ofNat n).toNat = n := ofNat_toNat (by omega)
      rw [tk_ok ha9 (by rw [hc]; omega) (by
        rw [hc]
        rintro (⟨h1, h2⟩ | ⟨h1, h2⟩)
        · have := ha h1; omega
        · subst h1
          have : 2 * 2 ^ (7 * 9) ≤ n * 2 ^ (7 * 9) := Nat.mul_le_mul_right _ h2
          omega), hc]
theorem take_num0 {n : Nat} (h : n < 18446744073709551616) (m : List UInt8) : takeN 0 0 (numB n ++ m) = (n, m, 0) := by
  have := take_num n 0 0 m (by omega) (by simpa using h)
  simpa using this
/-- What is taken was laid. -/
theorem take_inv (l : List UInt8) : ∀ (a acc : Nat), a ≤ 10 → (takeN a acc l).2.2 = 0 → ∃ n, (takeN a acc l).1 = acc + n * 2 ^ (7 * a) ∧ l = numB n ++ (takeN a acc l).2.1 ∧ (1 ≤ a → 1 ≤ n) := by
  induction l with
  | nil => intro a acc _ h; rw [takeN] at h; simp only at h; split at h <;> cases h
  | cons c r ih =>
    intro a acc ha h
    have hcc : c = UInt8.ofNat c.toNat := by simp
    by_cases h10 : a = 10
    · rw [takeN, if_pos h10] at h; cases h
    · have ha9 : a ≤ 9 := by omega
      by_cases hc : c.toNat < 128
      · by_cases hb : (1 ≤ a ∧ c.toNat = 0) ∨ (a = 9 ∧ 1 < c.toNat)
        · rw [tk_bad ha9 hc hb] at h; cases h
        · rw [tk_ok ha9 hc hb]
          refine ⟨c.toNat, rfl, ?_, by omega⟩
          rw [numB_lo (by omega), ← hcc]; rfl
      · rw [tk_go ha9 hc] at h ⊢
        obtain ⟨n, h1, h2, h3⟩ := ih (a + 1) _ (by omega) h
        have hlt := c.toNat_lt
        have hn := h3 (by omega)
        refine ⟨c.toNat % 128 + 128 * n, ?_, ?_, by omega⟩
        · rw [h1, pow7, Nat.add_mul, ← Nat.mul_assoc, Nat.mul_comm n 128]; omega
        · rw [numB_hi (by omega), show (c.toNat % 128 + 128 * n) / 128 = n from by omega, show (c.toNat % 128 + 128 * n) % 128 + 128 = c.toNat from by omega, ← hcc, List.cons_append, ← h2]
theorem take_inv0 {l : List UInt8} (h : (takeN 0 0 l).2.2 = 0) : l = numB (takeN 0 0 l).1 ++ (takeN 0 0 l).2.1 := by
  obtain ⟨n, h1, h2, _⟩ := take_inv l 0 0 (by decide) h
  have : (takeN 0 0 l).1 = n := by rw [h1]; simp
  rw [this]; exact h2
/-- No beginning of a short number is one. -/
theorem take_cut (n : Nat) : ∀ (a acc k : Nat), (1 ≤ a → 1 ≤ n) → n * 2 ^ (7 * a) < 18446744073709551616 → k < (numB n).length → takeN a acc ((numB n).take k) = (0, [], 2) := by
  induction n using Nat.strongRecOn with
  | _ n ih =>
    intro a acc k ha hn hk
    have ha9 : a ≤ 9 := by
      rcases Nat.lt_or_ge 9 a with h | h
      · have h1 := ha (by omega)
        have h2 : 2 ^ 70 ≤ 2 ^ (7 * a) := Nat.pow_le_pow_right (by decide) (by omega)
        have h3 : 1 * 2 ^ (7 * a) ≤ n * 2 ^ (7 * a) := Nat.mul_le_mul_right _ h1
        omega
      · exact h
    cases k with
    | zero => rw [List.take_zero, takeN, if_neg (by omega)]
    | succ k =>
      by_cases h : 128 ≤ n
      · rw [numB_hi h, List.length_cons] at hk
        rw [numB_hi h, List.take_succ_cons]
        have hc : (UInt8.ofNat (n % 128 + 128)).toNat = n % 128 + 128 := ofNat_toNat (by omega)
        rw [tk_go ha9 (by rw [hc]; omega)]
        have e : n * 2 ^ (7 * a) = n % 128 * 2 ^ (7 * a) + n / 128 * 2 ^ (7 * (a + 1)) := by
          rw [pow7, ← Nat.mul_assoc, ← Nat.add_mul]
          congr 1; omega
        exact ih (n / 128) (by omega) (a + 1) _ k (by omega) (by omega) (by omega)
      · rw [numB_lo h] at hk; simp at hk
theorem take_cut0 {n k : Nat} (h : n < 18446744073709551616) (hk : k < (numB n).length) : takeN 0 0 ((numB n).take k) = (0, [], 2) :=
  take_cut n 0 0 k (by omega) (by simpa using h) hk

/-! ### texts -/
def textB (t : List UInt8) : List UInt8 := numB t.length ++ t
theorem textS_dl (s : ByteArray) : (textS s).data.toList = textB s.data.toList := by rw [textS, app, numS_dl, textB, ← sz]
theorem text_take (t m : List UInt8) (long : Int) (hl : (t.length : Int) ≤ long) (ht : t.length < 18446744073709551616) : textL (textB t ++ m) long = (t, m, 0) := by
  unfold textL textB
  rw [List.append_assoc, take_num0 ht]
  dsimp only
  rw [if_pos rfl, if_neg (by omega), if_neg (by simp), List.take_left', List.drop_left'] <;> rfl
theorem text_inv {l : List UInt8} {m : Int} (h : (textL l m).2.2 = 0) : l = textB (textL l m).1 ++ (textL l m).2.1 ∧ ((textL l m).1.length : Int) ≤ m := by
  unfold textL at h ⊢
  by_cases h0 : (takeN 0 0 l).2.2 = 0
  · rw [if_pos h0] at h ⊢
    have hi := take_inv0 h0
    by_cases h1 : m < 0 ∨ m < ((takeN 0 0 l).1 : Int)
    · rw [if_pos h1] at h; cases h
    · rw [if_neg h1] at h ⊢
      by_cases h2 : (takeN 0 0 l).2.1.length < (takeN 0 0 l).1
      · rw [if_pos h2] at h; cases h
      · rw [if_neg h2]
        have e : ((takeN 0 0 l).2.1.take (takeN 0 0 l).1).length = (takeN 0 0 l).1 := by rw [List.length_take]; omega
        refine ⟨?_, by rw [e]; omega⟩
        unfold textB
        rw [e, List.append_assoc, List.take_append_drop]
        exact hi
  · rw [if_neg h0] at h; exact absurd h h0
theorem text_cut (t : List UInt8) (k : Nat) (long : Int) (hl : (t.length : Int) ≤ long) (ht : t.length < 18446744073709551616) (hk : k < (textB t).length) : textL ((textB t).take k) long = ([], [], 2) := by
  unfold textL textB
  by_cases h : k < (numB t.length).length
  · rw [List.take_append_of_le_length (by omega), take_cut0 ht h]
    rfl
  · have e : (numB t.length ++ t).take k = numB t.length ++ t.take (k - (numB t.length).length) := by
      rw [List.take_append, List.take_of_length_le (by omega)]
    rw [e, take_num0 ht]
    dsimp only
    unfold textB at hk
    rw [List.length_append] at hk
    rw [if_pos rfl, if_neg (by omega), if_pos (by rw [List.length_take]; omega)]

/-! ### lists -/
def listB (l : List (List UInt8)) : List UInt8 := numB l.length ++ (l.map textB).flatten
theorem loop_take (l : List (List UInt8)) (long : Int) (hl : ∀ t ∈ l, (t.length : Int) ≤ long ∧ t.length < 18446744073709551616) : ∀ (acc : List (List UInt8)) (m : List UInt8),
    loopL l.length ((l.map textB).flatten ++ m) acc long = (acc ++ l, m, 0) := by
  induction l with
  | nil => intro acc m; simp [loopL]
  | cons t l ih =>
    intro acc m
    have ht := hl t List.mem_cons_self
    rw [List.length_cons, loopL, List.map_cons, List.flatten_cons, List.append_assoc, text_take t _ long ht.1 ht.2]
    dsimp only
    rw [if_pos rfl, ih (fun t h => hl t (List.mem_cons_of_mem _ h))]
    simp
theorem list_take (l : List (List UInt8)) (m : List UInt8) (most long : Int) (hm : (l.length : Int) ≤ most) (hn : l.length < 18446744073709551616) (hl : ∀ t ∈ l, (t.length : Int) ≤ long ∧ t.length < 18446744073709551616) : listL (listB l ++ m) most long = (l, m, 0) := by
  unfold listL listB
  rw [List.append_assoc, take_num0 hn]
  dsimp only
  rw [if_pos rfl, if_neg (by omega), loop_take l long hl]
  simp
theorem loop_inv (long : Int) : ∀ (n : Nat) (r : List UInt8) (acc : List (List UInt8)), (loopL n r acc long).2.2 = 0 → ∃ l : List (List UInt8), (loopL n r acc long).1 = acc ++ l ∧ l.length = n ∧ r = (l.map textB).flatten ++ (loopL n r acc long).2.1 := by
  intro n
  induction n with
  | zero => intro r acc _; exact ⟨[], by simp [loopL]⟩
  | succ n ih =>
    intro r acc h
    rw [loopL] at h ⊢
    by_cases h0 : (textL r long).2.2 = 0
    · rw [if_pos h0] at h ⊢
      obtain ⟨l, h1, h2, h3⟩ := ih _ _ h
      refine ⟨(textL r long).1 :: l, by rw [h1]; simp, by simp [h2], ?_⟩
      have hi := (text_inv h0).1
      rw [List.map_cons, List.flatten_cons, List.append_assoc, ← h3]
      exact hi
    · rw [if_neg h0] at h; exact absurd h h0
theorem list_inv {l : List UInt8} {most long : Int} (h : (listL l most long).2.2 = 0) : l = listB (listL l most long).1 ++ (listL l most long).2.1 := by
  unfold listL at h ⊢
  by_cases h0 : (takeN 0 0 l).2.2 = 0
  · rw [if_pos h0] at h ⊢
    by_cases h1 : most < 0 ∨ most < ((takeN 0 0 l).1 : Int)
    · rw [if_pos h1] at h; cases h
    · rw [if_neg h1] at h ⊢
      obtain ⟨q, e1, e2, e3⟩ := loop_inv long _ _ _ h
      rw [List.nil_append] at e1
      rw [e1, listB, e2, List.append_assoc, ← e3]
      exact take_inv0 h0
  · rw [if_neg h0] at h; exact absurd h h0
theorem loop_cut (l : List (List UInt8)) (long : Int) (hl : ∀ t ∈ l, (t.length : Int) ≤ long ∧ t.length < 18446744073709551616) : ∀ (acc : List (List UInt8)) (k : Nat), k < ((l.map textB).flatten).length →
    loopL l.length (((l.map textB).flatten).take k) acc long = ([], [], 2) := by
  induction l with
  | nil => intro acc k hk; simp at hk
  | cons t l ih =>
    intro acc k hk
    have ht := hl t List.mem_cons_self
    rw [List.map_cons, List.flatten_cons, List.length_append] at hk
    rw [List.length_cons, loopL, List.map_cons, List.flatten_cons]
    by_cases h : k < (textB t).length
    · rw [List.take_append_of_le_length (by omega), text_cut t k long ht.1 ht.2 h]
      rfl
    · have e : (textB t ++ (l.map textB).flatten).take k = textB t ++ ((l.map textB).flatten).take (k - (textB t).length) := by
        rw [List.take_append, List.take_of_length_le (by omega)]
      rw [e, text_take t _ long ht.1 ht.2]
      dsimp only
      rw [if_pos rfl]
      exact ih (fun t h => hl t (List.mem_cons_of_mem _ h)) _ _ (by omega)
theorem list_cut (l : List (List UInt8)) (k : Nat) (most long : Int) (hm : (l.length : Int) ≤ most) (hn : l.length < 18446744073709551616) (hl : ∀ t ∈ l, (t.length : Int) ≤ long ∧ t.length < 18446744073709551616) (hk : k < (listB l).length) : listL ((listB l).take k) most long = ([], [], 2) := by
  unfold listL listB
  unfold listB at hk
  rw [List.length_append] at hk
  by_cases h : k < (numB l.length).length
  · rw [List.take_append_of_le_length (by omega), take_cut0 hn h]
    rfl
  · have e : (numB l.length ++ (l.map textB).flatten).take k = numB l.length ++ ((l.map textB).flatten).take (k - (numB l.length).length) := by
      rw [List.take_append, List.take_of_length_le (by omega)]
    rw [e, take_num0 hn]
    dsimp only
    rw [if_pos rfl, if_neg (by omega)]
    exact loop_cut l long hl [] _ (by omega)
def lists (l : List ByteArray) : List (List UInt8) := l.map (·.data.toList)
theorem listS_dl (l : List ByteArray) : (listS l).data.toList = listB (lists l) := by
  unfold listS joinS listP listB lists
  show flat _ = _
  rw [List.take_length, flat, List.map_cons, List.flatten_cons, numS_dl, List.length_map]
  congr 2
  rw [List.map_map, List.map_map]
  exact List.map_congr_left fun s _ => textS_dl s
theorem mks_lists (l : List ByteArray) : mks (lists l) = l := by
  unfold mks lists
  rw [List.map_map]
  conv => rhs; rw [← List.map_id l]
  exact List.map_congr_left fun s _ => by apply inj; rfl
theorem lists_mks (l : List (List UInt8)) : lists (mks l) = l := by
  unfold mks lists
  rw [List.map_map]
  conv => rhs; rw [← List.map_id l]
  exact List.map_congr_left fun s _ => rfl
end Go.Proofs.Ytoenhajcjebmeaa
