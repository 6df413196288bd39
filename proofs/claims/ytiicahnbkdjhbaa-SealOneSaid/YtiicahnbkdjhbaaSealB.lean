/- The plain mathematics of check sums: the table and the bit by bit way come to the same; a turn is linear and loses nothing. -/
import Derived.Test.YtiicahnbkdjhbaaSealA
import Derived.Test.YtiicahnbkdjhbaaMath
namespace Go.Proofs.Ytiicahnbkdjhbaa
open Go.RowKit

def P32 : Nat := 2197175160
def tqN (c : Nat) : Nat := if c % 2 = 1 then (c / 2) ^^^ P32 else c / 2
def tqsN : Nat → Nat → Nat
  | 0, c => c
  | n + 1, c => tqN (tqsN n c)
theorem tqN_lt {c : Nat} (h : c < 4294967296) : tqN c < 4294967296 := by
  unfold tqN
  split
  · exact Nat.xor_lt_two_pow (n := 32) (by omega) (by decide)
  · omega
theorem tqsN_lt {c : Nat} (h : c < 4294967296) (n : Nat) : tqsN n c < 4294967296 := by
  induction n with
  | zero => exact h
  | succ n ih => exact tqN_lt ih
theorem tq_nat {c : Nat} (h : c < 4294967296) : tq (c : Int) = (tqN c : Int) := by
  unfold tq tqN
  have e1 : Go.bits .and .u32 (c : Int) 1 = ((c % 2 : Nat) : Int) := by
    have := u32_and_nat c 1 h (by decide)
    rw [nat_mask1] at this
    exact this
  rw [e1]
  by_cases h1 : c % 2 = 1
  · rw [if_pos (by omega), if_pos h1, show ((c : Int) / 2) = ((c / 2 : Nat) : Int) from by omega, show (2197175160 : Int) = ((P32 : Nat) : Int) from rfl, u32_xor_nat _ _ (by omega) (by decide)]
  · rw [if_neg (by omega), if_neg h1]; omega
theorem tqs_nat {c : Nat} (h : c < 4294967296) (n : Nat) : tqs n (c : Int) = (tqsN n c : Int) := by
  induction n with
  | zero => rfl
  | succ n ih => show tq (tqs n c) = _; rw [ih, tq_nat (tqsN_lt h n)]; rfl
theorem xor_div2 (a b : Nat) : (a ^^^ b) / 2 = (a / 2) ^^^ (b / 2) := by
  have := Nat.shiftRight_xor_distrib (a := a) (b := b) (i := 1)
  simpa [Nat.shiftRight_eq_div_pow] using this
theorem xor_mod2 (a b : Nat) : (a ^^^ b) % 2 = (a % 2 + b % 2) % 2 := by
  have h := Nat.testBit_xor a b 0
  simp only [Nat.testBit_zero] at h
  have ha : a % 2 = 0 ∨ a % 2 = 1 := by omega
  have hb : b % 2 = 0 ∨ b % 2 = 1 := by omega
  have hx : (a ^^^ b) % 2 = 0 ∨ (a ^^^ b) % 2 = 1 := by omega
  rcases ha with ha | ha <;> rcases hb with hb | hb <;> rcases hx with hx | hx <;> simp [ha, hb, hx] at h ⊢
theorem tqN_xor (a b : Nat) : tqN (a ^^^ b) = tqN a ^^^ tqN b := by
  unfold tqN
  rw [xor_div2, xor_mod2]
  have ha : a % 2 = 0 ∨ a % 2 = 1 := by omega
  have hb : b % 2 = 0 ∨ b % 2 = 1 := by omega
  rcases ha with ha | ha <;> rcases hb with hb | hb <;> simp only [ha, hb] <;> simp only [Nat.reduceAdd, Nat.reduceMod, Nat.zero_ne_one, if_true, if_false]
  · rw [Nat.xor_assoc]
  · rw [Nat.xor_assoc, Nat.xor_assoc, Nat.xor_comm P32]
  · rw [Nat.xor_assoc, Nat.xor_comm P32 (b / 2 ^^^ P32), Nat.xor_assoc, Nat.xor_self, Nat.xor_zero]
theorem tqsN_xor (n a b : Nat) : tqsN n (a ^^^ b) = tqsN n a ^^^ tqsN n b := by
  induction n with
  | zero => rfl
  | succ n ih => show tqN _ = tqN _ ^^^ tqN _; rw [ih, tqN_xor]
theorem tqsN_succ (n c : Nat) : tqsN (n + 1) c = tqsN n (tqN c) := by
  induction n with
  | zero => rfl
  | succ n ih => show tqN (tqsN (n + 1) c) = tqN (tqsN n (tqN c)); rw [ih]
theorem tqsN_mul (n y : Nat) : tqsN n (y * 2 ^ n) = y := by
  induction n with
  | zero => show y * 1 = y; omega
  | succ n ih =>
    rw [tqsN_succ]
    have : tqN (y * 2 ^ (n + 1)) = y * 2 ^ n := by
      unfold tqN
      rw [Nat.pow_succ, show y * (2 ^ n * 2) = 2 * (y * 2 ^ n) from by rw [Nat.mul_comm (2 ^ n) 2, ← Nat.mul_assoc, Nat.mul_comm y 2, Nat.mul_assoc], if_neg (by omega)]
      omega
    rw [this, ih]
/-- A turn loses nothing. -/
theorem tqN_zero {z : Nat} (hz : z < 4294967296) (h : tqN z = 0) : z = 0 := by
  unfold tqN at h
  split at h
  · have : z / 2 = P32 := by
      have h2 := congrArg (· ^^^ P32) h
      simp only [Nat.xor_assoc, Nat.xor_self, Nat.xor_zero, Nat.zero_xor] at h2
      exact h2
    unfold P32 at this
    omega
  · omega
theorem tqsN_zero {z : Nat} (hz : z < 4294967296) (n : Nat) (h : tqsN n z = 0) : z = 0 := by
  induction n with
  | zero => exact h
  | succ n ih => exact ih (tqN_zero (tqsN_lt hz n) h)

/-- Bit by bit: what the document says. -/
def mbN (c b : Nat) : Nat := tqsN 8 (c ^^^ b)
def moresN (c : Nat) (l : List UInt8) : Nat := l.foldl (fun c b => mbN c b.toNat) c
theorem split8 (c : Nat) : c = (c % 256) ^^^ (c / 256 * 2 ^ 8) := by
  have h := Nat.two_pow_add_eq_or_of_lt (i := 8) (b := c % 256) (by omega) (c / 256)
  apply Nat.eq_of_testBit_eq
  intro i
  rw [Nat.testBit_xor, show (256 : Nat) = 2 ^ 8 from rfl, Nat.testBit_mod_two_pow, Nat.testBit_mul_two_pow, Nat.testBit_div_two_pow]
  by_cases hi : i < 8
  · simp [hi, show ¬ 8 ≤ i from by omega]
  · simp [hi, show 8 ≤ i from by omega]
theorem mb_nat {c : Nat} (h : c < 4294967296) (b : UInt8) : mb (c : Int) (b.toNat : Int) = (mbN c b.toNat : Int) := by
  have hb := b.toNat_lt
  unfold mb tb mbN
  rw [show ((c : Int) % 256) = ((c % 256 : Nat) : Int) from by omega, u8_xor_nat _ _ (by omega) (by omega), show ((c : Int) / 256) = ((c / 256 : Nat) : Int) from by omega]
  have h1 : (c % 256 ^^^ b.toNat) < 256 := Nat.xor_lt_two_pow (n := 8) (by omega) (by omega)
  rw [tqs_nat (by omega), u32_xor_nat _ _ (tqsN_lt (by omega) 8) (by omega)]
  congr 1
  have e : c ^^^ b.toNat = (c % 256 ^^^ b.toNat) ^^^ (c / 256 * 2 ^ 8) := by
    conv => lhs; rw [split8 c]
    rw [Nat.xor_assoc, Nat.xor_assoc, Nat.xor_comm (c / 256 * 2 ^ 8)]
  rw [e, tqsN_xor 8 (c % 256 ^^^ b.toNat), tqsN_mul]
theorem mbN_lt {c : Nat} (h : c < 4294967296) (b : UInt8) : mbN c b.toNat < 4294967296 := by
  have hb := b.toNat_lt
  exact tqsN_lt (Nat.xor_lt_two_pow (n := 32) h (by omega)) 8
theorem mores_nat (l : List UInt8) : ∀ {c : Nat}, c < 4294967296 → mores (c : Int) l = (moresN c l : Int) ∧ moresN c l < 4294967296 := by
  induction l with
  | nil => intro c h; exact ⟨rfl, h⟩
  | cons b l ih =>
    intro c h
    have h2 := ih (mbN_lt h b)
    refine ⟨?_, h2.2⟩
    show mores (mb c b.toNat) l = _
    rw [mb_nat h]; exact h2.1
theorem mores_append (c : Int) (l m : List UInt8) : mores c (l ++ m) = mores (mores c l) m := by simp [mores]
/-- Two registers that differ, or two texts that differ in one byte, end unlike. -/
theorem mbN_inj {c d : Nat} (hc : c < 4294967296) (hd : d < 4294967296) (x y : UInt8) (h : mbN c x.toNat = mbN d y.toNat) : c ^^^ x.toNat = d ^^^ y.toNat := by
  have hx := x.toNat_lt
  have hy := y.toNat_lt
  unfold mbN at h
  have h2 := congrArg (· ^^^ tqsN 8 (d ^^^ y.toNat)) h
  simp only [Nat.xor_self] at h2
  rw [← tqsN_xor] at h2
  have lt : ((c ^^^ x.toNat) ^^^ (d ^^^ y.toNat)) < 4294967296 := Nat.xor_lt_two_pow (n := 32) (Nat.xor_lt_two_pow (n := 32) hc (by omega)) (Nat.xor_lt_two_pow (n := 32) hd (by omega))
  have h3 := tqsN_zero lt 8 h2
  have h4 := congrArg (· ^^^ (d ^^^ y.toNat)) h3
  simp only [Nat.xor_assoc, Nat.xor_self, Nat.xor_zero, Nat.zero_xor] at h4
  exact h4
theorem moresN_inj (l : List UInt8) : ∀ {c d : Nat}, c < 4294967296 → d < 4294967296 → moresN c l = moresN d l → c = d := by
  induction l with
  | nil => intro c d _ _ h; exact h
  | cons b l ih =>
    intro c d hc hd h
    have h2 := mbN_inj hc hd b b (ih (mbN_lt hc b) (mbN_lt hd b) h)
    have h3 := congrArg (· ^^^ b.toNat) h2
    simp only [Nat.xor_assoc, Nat.xor_self, Nat.xor_zero] at h3
    exact h3
end Go.Proofs.Ytiicahnbkdjhbaa
