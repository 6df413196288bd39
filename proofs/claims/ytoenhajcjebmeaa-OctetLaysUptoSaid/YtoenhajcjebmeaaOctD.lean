/- What octet.TakeNum and octet.TakeText come to, in closed form. -/
import Derived.Test.YtoenhajcjebmeaaOctC
import Derived.Test.YtoenhajcjebmeaaT1
set_option linter.unusedVariables false
set_option linter.unusedSimpArgs false
namespace Go.Proofs.Ytoenhajcjebmeaa
open Go.RowKit Go.Proofs.YtoenhajcjebmeaaW.PrintWords Go.Proofs.YtoenhajcjebmeaaW.PrintLast Go.Proofs.YtoenhajcjebmeaaW.PrintMore Math

/-- Taken from the figure at 'at_' on, acc being taken. -/
def takeN : Nat → Nat → List UInt8 → Nat × List UInt8 × Int
  | at_, _, [] => (0, [], if at_ = 10 then 3 else 2)
  | at_, acc, c :: r =>
    if at_ = 10 then (0, [], 3)
    else if c.toNat < 128 then (if (1 ≤ at_ ∧ c.toNat = 0) ∨ (at_ = 9 ∧ 1 < c.toNat) then (0, [], 3) else (acc + c.toNat * 2 ^ (7 * at_), r, 0))
    else takeN (at_ + 1) (acc + c.toNat % 128 * 2 ^ (7 * at_)) r
def outN (p : Nat × List UInt8 × Int) : Int × ByteArray × Int := ((p.1 : Int), ⟨p.2.1.toArray⟩, p.2.2)
def takeNumS (s : ByteArray) : Int × ByteArray × Int := outN (takeN 0 0 s.data.toList)
theorem bt_at_ (s : ByteArray) (i : Nat) (h : i < s.data.toList.length) : bt s (i : Int) = ((s.data.toList[i]).toNat : Int) := by
  unfold bt
  rw [dif_pos (by rw [Int.toNat_natCast, sz]; exact h)]
  simp only [Int.toNat_natCast]
  rfl
theorem drop_bytes (s : ByteArray) (i : Nat) : s.extract i s.size = ⟨(s.data.toList.drop i).toArray⟩ := by
  apply inj
  rw [ext_, List.take_of_length_le (by rw [← sz]; exact Nat.le_refl _)]
theorem and127 (c : UInt8) : IntKind.u64.wrap (Go.bits .and .u8 (c.toNat : Int) 127) = ((c.toNat % 128 : Nat) : Int) := by
  have hc := c.toNat_lt
  have h := u8_and_nat c.toNat 127 hc (by decide)
  rw [nat_mask7] at h
  rw [show ((127 : Nat) : Int) = 127 from rfl] at h
  rw [h, IntKind.wrap_u64]
  omega
theorem or_shl {acc x a : Nat} (ha : acc < 2 ^ (7 * a)) (hx : x * 2 ^ (7 * a) < 18446744073709551616) (ha9 : a ≤ 9) :
    Go.bits .or .u64 (acc : Int) (shl .u64 (x : Int) (wrap64 (7 * (a : Int)))) = ((acc + x * 2 ^ (7 * a) : Nat) : Int) := by
  have e : shl .u64 (x : Int) (wrap64 (7 * (a : Int))) = ((x * 2 ^ (7 * a) : Nat) : Int) := by
    unfold shl
    rw [w64 (by omega) (by omega), show (7 * (a : Int)).toNat = 7 * a from by omega, show min (7 * a) IntKind.u64.bits = 7 * a from by (have : IntKind.u64.bits = 64 := rfl); omega, IntKind.wrap_u64]
    have : ((x : Int) * 2 ^ (7 * a)) = ((x * 2 ^ (7 * a) : Nat) : Int) := by push_cast; rfl
    rw [this]; omega
  have hlt : 2 ^ (7 * a) ≤ 2 ^ 63 := Nat.pow_le_pow_right (by decide) (by omega)
  rw [e, u64_or_nat _ _ (by omega) hx, Nat.or_comm, Nat.mul_comm x, ← Nat.two_pow_add_eq_or_of_lt ha, Nat.add_comm]
theorem l0_ten (s : ByteArray) (hs : 10 ≤ s.size) (k : Nat) (acc : Int) : T.octet_TakeNum.l0 (k + 2) s acc 10 = some (0, ⟨#[]⟩, 3) := by
  simp only [T.octet_TakeNum.l0, T.octet_TakeNum.j1]
  by_cases h : (10 : Int) < (s.size : Int)
  · rw [if_pos h, if_neg (by decide), if_pos trivial]
  · rw [if_neg h, if_neg (by decide), if_pos trivial]
theorem tk_bad {a acc : Nat} {c : UInt8} {r : List UInt8} (ha : a ≤ 9) (hc : c.toNat < 128) (h : (1 ≤ a ∧ c.toNat = 0) ∨ (a = 9 ∧ 1 < c.toNat)) : takeN a acc (c :: r) = (0, [], 3) := by
  rw [takeN, if_neg (by omega), if_pos hc, if_pos h]
theorem tk_ok {a acc : Nat} {c : UInt8} {r : List UInt8} (ha : a ≤ 9) (hc : c.toNat < 128) (h : ¬((1 ≤ a ∧ c.toNat = 0) ∨ (a = 9 ∧ 1 < c.toNat))) : takeN a acc (c :: r) = (acc + c.toNat * 2 ^ (7 * a), r, 0) := by
  rw [takeN, if_neg (by omega), if_pos hc, if_neg h]
theorem tk_go {a acc : Nat} {c : UInt8} {r : List UInt8} (ha : a ≤ 9) (hc : ¬ c.toNat < 128) : takeN a acc (c :: r) = takeN (a + 1) (acc + c.toNat % 128 * 2 ^ (7 * a)) r := by
  rw [takeN, if_neg (by omega), if_neg hc]
theorem l0_eq (s : ByteArray) (hs : s.size ≤ 9223372036854775807) (d : Nat) : ∀ (a k acc : Nat), a + d = 10 → a ≤ s.size → acc < 2 ^ (7 * a) →
    T.octet_TakeNum.l0 (k + 2 * d + 2) s (acc : Int) (a : Int) = some (outN (takeN a acc (s.data.toList.drop a))) := by
  induction d with
  | zero =>
    intro a k acc ha hsz hacc
    obtain rfl : a = 10 := by omega
    have h := l0_ten s hsz k acc
    rw [show k + 2 * 0 + 2 = k + 2 from by omega, show ((10 : Nat) : Int) = 10 from rfl, h]
    cases hd : s.data.toList.drop 10 with
    | nil => rfl
    | cons c r => rfl
  | succ d ih =>
    intro a k acc ha hsz hacc
    rw [show k + 2 * (d + 1) + 2 = (k + 2 * d + 2) + 1 + 1 from by omega]
    generalize hK : k + 2 * d + 2 = K
    simp only [T.octet_TakeNum.l0, T.octet_TakeNum.j1]
    by_cases hlt : a < s.size
    · have hl : a < s.data.toList.length := by rw [← sz]; exact hlt
      rw [if_pos (by omega), if_pos (decide_eq_true (by omega)), if_pos (by omega), if_pos (by omega), if_pos (by rw [w64 (by omega) (by omega)]; omega)]
      rw [bt_at_ s a hl, List.drop_eq_getElem_cons hl, w64 (n := (a : Int) + 1) (by omega) (by omega)]
      generalize s.data.toList[a] = c
      have hc := c.toNat_lt
      have ha9 : a ≤ 9 := by omega
      rw [and127]
      by_cases hc1 : c.toNat < 128
      · rw [if_pos (by omega)]
        have e1 : ((a : Int) + 1).toNat = a + 1 := by omega
        have fin : ∀ (_ : ¬((1 ≤ a ∧ c.toNat = 0) ∨ (a = 9 ∧ 1 < c.toNat))), (some (Go.bits .or .u64 (acc : Int) (shl .u64 ((c.toNat % 128 : Nat) : Int) (wrap64 (7 * (a : Int)))), s.extract ((a : Int) + 1).toNat s.size, (0 : Int)) : Option (Int × ByteArray × Int)) = some (outN (takeN a acc (c :: s.data.toList.drop (a + 1)))) := by
          intro hn
          have hx : c.toNat % 128 * 2 ^ (7 * a) < 18446744073709551616 := by
            rw [Nat.mod_eq_of_lt hc1]
            by_cases h9 : a = 9
            · subst h9
              have : c.toNat ≤ 1 := by omega
              calc c.toNat * 2 ^ (7 * 9) ≤ 1 * 2 ^ (7 * 9) := Nat.mul_le_mul_right _ this
                _ < 18446744073709551616 := by decide
            · calc c.toNat * 2 ^ (7 * a) ≤ 127 * 2 ^ (7 * a) := Nat.mul_le_mul_right _ (by omega)
                _ ≤ 127 * 2 ^ 56 := Nat.mul_le_mul_left _ (Nat.pow_le_pow_right (by decide) (by omega))
                _ < 18446744073709551616 := by decide
          rw [tk_ok ha9 hc1 hn, or_shl hacc hx (by omega), e1, drop_bytes, Nat.mod_eq_of_lt hc1]
          rfl
        by_cases ha1 : 1 ≤ a
        · rw [if_pos (by omega)]
          by_cases hz : c.toNat = 0
          · rw [if_pos (by omega), tk_bad ha9 hc1 (.inl ⟨ha1, hz⟩)]; rfl
          · rw [if_neg (by omega)]
            by_cases h9 : a = 9
            · rw [if_pos (by omega)]
              by_cases h1 : 1 < c.toNat
              · rw [if_pos (by omega), tk_bad ha9 hc1 (.inr ⟨h9, h1⟩)]; rfl
              · rw [if_neg (by omega), if_pos (by omega), if_pos (by omega)]
                exact fin (by omega)
            · rw [if_neg (by omega), if_pos (by omega), if_pos (by omega)]
              exact fin (by omega)
        · rw [if_neg (by omega), if_neg (by omega), if_pos (by omega), if_pos (by omega)]
          exact fin (by omega)
      · rw [if_neg (by omega), tk_go ha9 hc1]
        by_cases h9 : a = 9
        · subst h9
          obtain rfl : d = 0 := by omega
          rw [show ((9 : Nat) : Int) + 1 = 10 from rfl, ← hK, show k + 2 * 0 + 2 = k + 2 from by omega, l0_ten s (by omega)]
          cases hd : s.data.toList.drop (9 + 1) with
          | nil => rfl
          | cons c r => rfl
        · have hx : c.toNat % 128 * 2 ^ (7 * a) < 18446744073709551616 := by
            calc c.toNat % 128 * 2 ^ (7 * a) ≤ 127 * 2 ^ (7 * a) := Nat.mul_le_mul_right _ (by omega)
              _ ≤ 127 * 2 ^ 56 := Nat.mul_le_mul_left _ (Nat.pow_le_pow_right (by decide) (by omega))
              _ < 18446744073709551616 := by decide
          rw [or_shl hacc hx (by omega), ← hK]
          exact ih (a + 1) k _ (by omega) (by omega) (by
            have : c.toNat % 128 * 2 ^ (7 * a) ≤ 127 * 2 ^ (7 * a) := Nat.mul_le_mul_right _ (by omega)
            rw [show 7 * (a + 1) = 7 * a + 7 from by omega, Nat.pow_add]
            omega)
    · obtain rfl : a = s.size := by omega
      rw [if_neg (by omega), if_neg (by decide), if_neg (by omega), List.drop_eq_nil_of_le (by rw [← sz]; exact Nat.le_refl _)]
      unfold takeN
      rw [if_neg (by omega)]
      rfl
theorem takeNum_T (s : ByteArray) (hs : s.size ≤ 9223372036854775807) (k : Nat) : T.octet_TakeNum.f (k + 22) s = some (takeNumS s) := by
  have h := l0_eq s hs 10 0 k 0 rfl (Nat.zero_le _) (by decide)
  exact h
theorem takeN_len (l : List UInt8) : ∀ a acc, (takeN a acc l).2.1.length ≤ l.length ∧ ((takeN a acc l).2.2 = 0 → (takeN a acc l).2.1.length < l.length) := by
  induction l with
  | nil => intro a acc; rw [takeN]; refine ⟨by simp, fun h => ?_⟩; simp only at h; split at h <;> cases h
  | cons c r ih =>
    intro a acc
    rw [takeN]
    split
    · exact ⟨by simp, fun h => by cases h⟩
    · split
      · split
        · exact ⟨by simp, fun h => by cases h⟩
        · exact ⟨by simp, fun _ => by simp⟩
      · have := ih (a + 1) (acc + c.toNat % 128 * 2 ^ (7 * a))
        simp only [List.length_cons]
        exact ⟨by omega, fun h => by have := this.2 h; omega⟩
theorem takeN_lt (l : List UInt8) : ∀ a acc, a ≤ 10 → (acc < 2 ^ (7 * a)) → (takeN a acc l).1 < 18446744073709551616 := by
  induction l with
  | nil => intro a acc _ _; rw [takeN]; show 0 < _; decide
  | cons c r ih =>
    intro a acc ha hacc
    rw [takeN]
    split
    · decide
    · rename_i h10
      split
      · rename_i hc
        split
        · decide
        · rename_i hn
          show acc + c.toNat * 2 ^ (7 * a) < _
          by_cases h9 : a = 9
          · subst h9
            have h1 : c.toNat ≤ 1 := by omega
            have : c.toNat * 2 ^ (7 * 9) ≤ 1 * 2 ^ (7 * 9) := Nat.mul_le_mul_right _ h1
            omega
          · have h2 : 2 ^ (7 * a) ≤ 2 ^ 56 := Nat.pow_le_pow_right (by decide) (by omega)
            have : c.toNat * 2 ^ (7 * a) ≤ 127 * 2 ^ (7 * a) := Nat.mul_le_mul_right _ (by omega)
            omega
      · by_cases h9 : a = 9
        · subst h9
          cases r with
          | nil => rw [takeN]; decide
          | cons c r => rw [takeN, if_pos rfl]; decide
        · refine ih (a + 1) _ (by omega) ?_
          have : c.toNat % 128 * 2 ^ (7 * a) ≤ 127 * 2 ^ (7 * a) := Nat.mul_le_mul_right _ (by omega)
          rw [show 7 * (a + 1) = 7 * a + 7 from by omega, Nat.pow_add]
          omega
theorem takeN0_lt (l : List UInt8) : (takeN 0 0 l).1 < 18446744073709551616 := takeN_lt l 0 0 (by decide) (by decide)

/-- A text that is taken. -/
def textL (l : List UInt8) (m : Int) : List UInt8 × List UInt8 × Int :=
  if (takeN 0 0 l).2.2 = 0 then
    (if m < 0 ∨ m < ((takeN 0 0 l).1 : Int) then ([], [], 5)
     else if (takeN 0 0 l).2.1.length < (takeN 0 0 l).1 then ([], [], 2)
     else ((takeN 0 0 l).2.1.take (takeN 0 0 l).1, (takeN 0 0 l).2.1.drop (takeN 0 0 l).1, 0))
  else ([], [], (takeN 0 0 l).2.2)
def outT (p : List UInt8 × List UInt8 × Int) : ByteArray × ByteArray × Int := (⟨p.1.toArray⟩, ⟨p.2.1.toArray⟩, p.2.2)
theorem mk_size (l : List UInt8) : (⟨l.toArray⟩ : ByteArray).size = l.length := by rw [sz]
theorem takeText_T (s : ByteArray) (hs : s.size ≤ 9223372036854775807) (m : Int) (hm : -9223372036854775808 ≤ m ∧ m ≤ 9223372036854775807) (k : Nat) :
    T.octet_TakeText.f (k + 22) s m = some (outT (textL s.data.toList m)) := by
  unfold T.octet_TakeText.f
  rw [bs (takeNum_T s hs k)]
  have hlt := takeN0_lt s.data.toList
  have hl := (takeN_len s.data.toList 0 0).1
  rw [← sz] at hl
  unfold takeNumS textL
  generalize takeN 0 0 s.data.toList = p at *
  obtain ⟨n, r, e⟩ := p
  replace hlt : n < 18446744073709551616 := hlt
  replace hl : r.length ≤ s.size := hl
  by_cases he : e = 0
  · rw [if_pos (show (outN (n, r, e)).2.2 = 0 from he), if_pos (show (n, r, e).2.2 = 0 from he)]
    dsimp only [outN]
    have j0 : ∀ b : Bool, T.octet_TakeText.j0 (k + 22) (n : Int) ⟨r.toArray⟩ b = if b = true then some (⟨#[]⟩, ⟨#[]⟩, 5) else if r.length < n then some (⟨#[]⟩, ⟨#[]⟩, 2) else some (⟨(r.take n).toArray⟩, ⟨(r.drop n).toArray⟩, 0) := by
      intro b
      show T.octet_TakeText.j0 ((k + 21) + 1) _ _ _ = _
      rw [T.octet_TakeText.j0]
      by_cases hb : b = true
      · rw [if_pos hb, if_pos hb]
      · rw [if_neg hb, if_neg hb, mk_size, IntKind.wrap_u64]
        by_cases h2 : r.length < n
        · rw [if_pos (by omega), if_pos h2]
        · rw [if_neg (by omega), if_neg h2, if_pos (by omega), if_pos (by omega), Int.toNat_natCast]
          congr 2
          · apply inj; rw [ext_, List.drop_zero]
          · congr 1; apply inj; rw [ext_, List.take_of_length_le (Nat.le_refl _)]
    by_cases h1 : m < 0
    · rw [if_pos h1, j0, if_pos rfl, if_pos (.inl h1)]; rfl
    · rw [if_neg h1, j0]
      by_cases h2 : m < (n : Int)
      · rw [if_pos (by simp [IntKind.wrap_u64]; omega), if_pos (.inr h2)]; rfl
      · rw [if_neg (by simp [IntKind.wrap_u64]; omega), if_neg (show ¬(m < 0 ∨ m < (n : Int)) by omega)]
        by_cases h3 : r.length < n
        · rw [if_pos h3, if_pos h3]; rfl
        · rw [if_neg h3, if_neg h3]; rfl
  · rw [if_neg (show ¬ (outN (n, r, e)).2.2 = 0 from he), if_neg (show ¬ (n, r, e).2.2 = 0 from he)]; rfl
def octet_TakeNum.f (a0 : ByteArray) : Option (Int × ByteArray × Int) := if a0.size ≤ 9223372036854775807 then some (takeNumS a0) else none
theorem octet_TakeNum.calls (a0 : ByteArray) (r1 : Int) (r2 : ByteArray) (r3 : Int) (w : World) (h : octet_TakeNum.f a0 = some (r1, r2, r3)) :
    Calls Try.prog 23 #[.string a0] w fun e w' => e = .returned (.tuple #[.int .u64 r1, .string r2, .int .i64 r3]) ∧ Drawn0 w w' := by
  unfold octet_TakeNum.f at h
  split at h
  · rename_i hh; exact T.octet_TakeNum.calls 22 a0 r1 r2 r3 w ((takeNum_T a0 hh 0).trans h)
  · cases h
def octet_TakeText.f (a0 : ByteArray) (a1 : Int) : Option (ByteArray × ByteArray × Int) := if a0.size ≤ 9223372036854775807 ∧ -9223372036854775808 ≤ a1 ∧ a1 ≤ 9223372036854775807 then some (outT (textL a0.data.toList a1)) else none
theorem octet_TakeText.calls (a0 : ByteArray) (a1 : Int) (r1 : ByteArray) (r2 : ByteArray) (r3 : Int) (w : World) (h : octet_TakeText.f a0 a1 = some (r1, r2, r3)) :
    Calls Try.prog 22 #[.string a0, .int .i64 a1] w fun e w' => e = .returned (.tuple #[.string r1, .string r2, .int .i64 r3]) ∧ Drawn0 w w' := by
  unfold octet_TakeText.f at h
  split at h
  · rename_i hh; exact T.octet_TakeText.calls 22 a0 a1 r1 r2 r3 w ((takeText_T a0 hh.1 a1 hh.2 0).trans h)
  · cases h
/-- Texts that are taken, one by one. -/
def loopL : Nat → List UInt8 → List (List UInt8) → Int → List (List UInt8) × List UInt8 × Int
  | 0, r, acc, _ => (acc, r, 0)
  | n + 1, r, acc, m => if (textL r m).2.2 = 0 then loopL n (textL r m).2.1 (acc ++ [(textL r m).1]) m else ([], [], (textL r m).2.2)
def listL (l : List UInt8) (most long : Int) : List (List UInt8) × List UInt8 × Int :=
  if (takeN 0 0 l).2.2 = 0 then (if most < 0 ∨ most < ((takeN 0 0 l).1 : Int) then ([], [], 5) else loopL (takeN 0 0 l).1 (takeN 0 0 l).2.1 [] long)
  else ([], [], (takeN 0 0 l).2.2)
def mks (l : List (List UInt8)) : List ByteArray := l.map fun x => ⟨x.toArray⟩
def outLs (p : List (List UInt8) × List UInt8 × Int) : List ByteArray × ByteArray × Int := (mks p.1, ⟨p.2.1.toArray⟩, p.2.2)
theorem textL_len (l : List UInt8) (m : Int) : (textL l m).2.2 = 0 → (textL l m).2.1.length < l.length := by
  intro h
  unfold textL at h ⊢
  have hl := takeN_len l 0 0
  split at h
  · rename_i h0
    rw [if_pos h0]
    have h1 := hl.2 h0
    split at h
    · cases h
    · rename_i h2
      split at h
      · cases h
      · rename_i h3
        rw [if_neg h2, if_neg h3]
        simp only [List.length_drop]; omega
  · rename_i h0; exact absurd h h0
end Go.Proofs.Ytoenhajcjebmeaa
