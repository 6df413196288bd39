/- Whole numbers below 0 as doubles: what is added. -/
import Derived.Test.YtnoognbnkopdnaaFlt
set_option linter.unusedVariables false
set_option linter.unusedSimpArgs false
namespace Go.Proofs.Ytnoognbnkopdnaa.Flt
open Ieee
theorem cut_neg (n d : Nat) : Toward.even.cut true n d = Toward.even.cut false n d := by unfold Toward.cut; rfl
theorem word_neg (r : Nat) : Ieee.double.word true r = 2 ^ 63 + Ieee.double.word false r := by
  unfold Format.word
  rw [if_pos rfl, if_neg (by decide), show Ieee.double.signWeight = 2 ^ 63 from rfl]
theorem nearest_neg (m : Nat) (p : Int) : Ieee.double.nearest true m p = 2 ^ 63 + Ieee.double.nearest false m p := by
  unfold Format.nearest
  by_cases h : m = 0
  · rw [if_pos h, if_pos h, word_neg]
  · rw [if_neg h, if_neg h]
    dsimp only
    rw [cut_neg, word_neg]
theorem read_neg (w : Nat) (h : w < 2 ^ 63) : Ieee.double.read (2 ^ 63 + w) = (Ieee.double.read w).opposite := by
  have hsw : Ieee.double.signWeight = 2 ^ 63 := rfl
  unfold Format.read
  rw [hsw]
  dsimp only
  rw [show (2 ^ 63 + w) % 2 ^ 63 = w by omega, show w % 2 ^ 63 = w by omega, show (2 ^ 63 + w) / 2 ^ 63 = 1 by omega, show w / 2 ^ 63 = 0 by omega]
  split
  · rfl
  · split
    · rfl
    · split <;> rfl
theorem fb_lt (n : Nat) (h : n < 2 ^ 53) : fb n < 2 ^ 63 := by
  rcases Nat.eq_zero_or_pos n with rfl | h0
  · rw [fb_zero]; omega
  · rw [fb_eq n (by omega) h]
    have := (full n (by omega) h).2
    have := log2_lt53 h
    omega
theorem of_neg (b : Nat) : floatOfInt .f64 (-(b : Int)) = if b = 0 then 0 else 2 ^ 63 + fb b := by
  unfold floatOfInt FloatKind.nearest FloatKind.encode
  by_cases h : b = 0
  · rw [if_pos h]; subst h; decide +kernel
  · rw [if_neg h, show decide (-(b : Int) < 0) = true from decide_eq_true (by omega), Int.natAbs_neg, Int.natAbs_natCast]
    exact nearest_neg b 0
theorem add_neg {x a b : Nat} (hx : Val x a) (hb : b ≤ a) (ha : a < 2 ^ 53) (h0 : b ≠ 0) : Ieee.double.add x (floatOfInt .f64 (-(b : Int))) = some (fb (a - b)) := by
  rw [of_neg, if_neg h0]
  have := sub_val hx (val_fb b (by omega)) hb ha
  unfold Format.sub at this
  unfold Format.add
  rw [read_neg _ (fb_lt b (by omega))]
  exact this
end Go.Proofs.Ytnoognbnkopdnaa.Flt
