/- The document's examples hold; folded numbers, in closed form; the reference's functions of layer 1, in closed form. -/
import Derived.Test.YtoenhajcjebmeaaOctM
import Derived.Test.YtoenhajcjebmeaaQ1
import Derived.Test.YtoenhajcjebmeaaQ2
import Derived.Test.YtoenhajcjebmeaaQ3
set_option linter.unusedVariables false
set_option linter.unusedSimpArgs false
namespace Go.Proofs.Ytoenhajcjebmeaa
open Go.RowKit Go.Proofs.Ytoenhajcjebmeaa.Q Go.Proofs.YtoenhajcjebmeaaW.PrintWords Go.Proofs.YtoenhajcjebmeaaW.PrintLast Go.Proofs.YtoenhajcjebmeaaW.PrintMore Math

theorem octet_Num_eq {n : Nat} (h : n < 18446744073709551616) : octet_Num.f (n : Int) = some (numS n) := by
  unfold octet_Num.f; rw [if_pos ⟨by omega, by omega⟩, Int.toNat_natCast]
theorem octet_Text_eq {s : ByteArray} (h : s.size ≤ 140737488355000) : octet_Text.f s = some (textS s) := by unfold octet_Text.f; rw [if_pos h]
theorem shown_eq : copyholdlaw01_shown.f = some true := by
  unfold copyholdlaw01_shown.f
  have h1 : octet_Num.f 300 = some (numS 300) := octet_Num_eq (n := 300) (by decide)
  have e1 : (numS 300).toList = ([172, 2] : List UInt8) := by rw [tl, numS_dl, numB_hi (by decide), numB_lo (by decide)]; rfl
  rw [bs h1, if_pos e1]
  have h2 : octet_Text.f (⟨#[104, 105]⟩ : ByteArray) = some (textS ⟨#[104, 105]⟩) := octet_Text_eq (by decide)
  have e2 : (textS (⟨#[104, 105]⟩ : ByteArray)).toList = ([2, 104, 105] : List UInt8) := by rw [tl, textS_dl, textB, numB_lo (by decide)]; rfl
  rw [bs h2, e2]
  rfl

theorem not64 {a : Nat} (h : a < 18446744073709551616) : a ^^^ 18446744073709551615 = 18446744073709551615 - a := by
  have h1 : (BitVec.ofNat 64 a ^^^ BitVec.allOnes 64).toNat = (~~~ BitVec.ofNat 64 a).toNat := by rw [BitVec.xor_allOnes]
  rw [BitVec.toNat_xor, BitVec.toNat_not, BitVec.toNat_allOnes, BitVec.toNat_ofNat, Nat.mod_eq_of_lt (by omega)] at h1
  exact h1
def foldN (n : Int) : Nat := if 0 ≤ n then (2 * n).toNat else (-2 * n - 1).toNat
theorem foldN_lt {n : Int} (h : -9223372036854775808 ≤ n ∧ n ≤ 9223372036854775807) : foldN n < 18446744073709551616 := by unfold foldN; split <;> omega
theorem fold_eq {n : Int} (h : -9223372036854775808 ≤ n ∧ n ≤ 9223372036854775807) : octet_Fold.f n = some ((foldN n : Nat) : Int) := by
  unfold octet_Fold.f foldN
  congr 1
  rw [IntKind.wrap_u64, IntKind.wrap_u64, IntKind.wrap_u64]
  by_cases h0 : 0 ≤ n
  · rw [if_pos h0, show n / 9223372036854775808 % 18446744073709551616 = ((0 : Nat) : Int) from by omega, show n % 18446744073709551616 * 2 % 18446744073709551616 = (((2 * n).toNat : Nat) : Int) from by omega, u64_xor_nat _ _ (by omega) (by decide), Nat.xor_zero]
  · rw [if_neg h0, show n / 9223372036854775808 % 18446744073709551616 = ((18446744073709551615 : Nat) : Int) from by omega, show n % 18446744073709551616 * 2 % 18446744073709551616 = (((2 * n + 18446744073709551616).toNat : Nat) : Int) from by omega, u64_xor_nat _ _ (by omega) (by decide), not64 (by omega)]
    omega
theorem xor_m1 {a : Nat} (h : a < 9223372036854775808) : Go.bits .xor .i64 (a : Int) (-1) = -1 - (a : Int) := by
  unfold Go.bits
  dsimp only
  have e : (BitVec.ofInt IntKind.i64.bits (a : Int) ^^^ BitVec.ofInt IntKind.i64.bits (-1)).toNat = 18446744073709551615 - a := by
    show (BitVec.ofInt 64 (a : Int) ^^^ BitVec.ofInt 64 (-1)).toNat = _
    rw [BitVec.toNat_xor, show (BitVec.ofInt 64 (-1)).toNat = 18446744073709551615 from by decide, show (BitVec.ofInt 64 (a : Int)).toNat = a from by rw [BitVec.ofInt_natCast, BitVec.toNat_ofNat]; omega]
    exact not64 (by omega)
  rw [e, IntKind.wrap_i64]
  omega
theorem xor_0 {a : Nat} (h : a < 9223372036854775808) : Go.bits .xor .i64 (a : Int) 0 = (a : Int) := by
  unfold Go.bits
  dsimp only
  have e : (BitVec.ofInt IntKind.i64.bits (a : Int) ^^^ BitVec.ofInt IntKind.i64.bits 0).toNat = a := by
    show (BitVec.ofInt 64 (a : Int) ^^^ BitVec.ofInt 64 0).toNat = _
    rw [BitVec.toNat_xor, show (BitVec.ofInt 64 0).toNat = 0 from by decide, show (BitVec.ofInt 64 (a : Int)).toNat = a from by rw [BitVec.ofInt_natCast, BitVec.toNat_ofNat]; omega]
    exact Nat.xor_zero a
  rw [e, IntKind.wrap_i64]
  omega
def unfoldN (m : Nat) : Int := if m % 2 = 0 then ((m / 2 : Nat) : Int) else -1 - ((m / 2 : Nat) : Int)
theorem unfoldN_in {m : Nat} (h : m < 18446744073709551616) : -9223372036854775808 ≤ unfoldN m ∧ unfoldN m ≤ 9223372036854775807 := by unfold unfoldN; split <;> omega
theorem unfold_eq {m : Nat} (h : m < 18446744073709551616) : octet_Unfold.f (m : Int) = some (unfoldN m) := by
  unfold octet_Unfold.f unfoldN
  congr 1
  have e1 : Go.bits .and .u64 (m : Int) 1 = ((m % 2 : Nat) : Int) := by
    have := u64_and_nat m 1 h (by decide)
    rw [nat_mask1] at this
    exact this
  rw [e1, w64 (n := (m : Int) / 2) (by omega) (by omega), show ((m : Int) / 2) = ((m / 2 : Nat) : Int) from by omega, w64 (n := ((m % 2 : Nat) : Int)) (by omega) (by omega)]
  by_cases h0 : m % 2 = 0
  · rw [if_pos h0, h0, w64 (by decide) (by decide)]
    exact xor_0 (by omega)
  · rw [if_neg h0, show m % 2 = 1 from by omega, w64 (by decide) (by decide)]
    exact xor_m1 (by omega)
theorem unfold_fold {n : Int} : unfoldN (foldN n) = n := by
  unfold unfoldN foldN
  by_cases h : 0 ≤ n
  · rw [if_pos h, if_pos (by omega)]; omega
  · rw [if_neg h, if_neg (by omega)]; omega
theorem fold_unfold {m : Nat} : foldN (unfoldN m) = m := by
  unfold unfoldN foldN
  by_cases h : m % 2 = 0
  · rw [if_pos h, if_pos (by omega)]; omega
  · rw [if_neg h, if_neg (by omega)]; omega
theorem ref_fold {n : Int} (h : -9223372036854775808 ≤ n ∧ n ≤ 9223372036854775807) : copyholdref01_Fold.f n = some ((foldN n : Nat) : Int) := by
  unfold copyholdref01_Fold.f foldN
  simp only [IntKind.wrap_u64]
  by_cases h0 : 0 ≤ n
  · rw [if_pos h0, if_pos h0]; congr 1; omega
  · rw [if_neg h0, if_neg h0]; congr 1; omega
theorem ref_unfold {m : Nat} (h : m < 18446744073709551616) : copyholdref01_Unfold.f (m : Int) = some (unfoldN m) := by
  unfold copyholdref01_Unfold.f unfoldN
  rw [Int.tmod_eq_emod_of_nonneg (by omega), Int.tdiv_eq_ediv_of_nonneg (by omega), IntKind.wrap_u64]
  by_cases h0 : m % 2 = 0
  · rw [if_pos (by omega), if_pos h0, w64 (by omega) (by omega)]; congr 1; omega
  · rw [if_neg (by omega), if_neg h0, w64 (n := (m : Int) / 2 % 18446744073709551616) (by omega) (by omega), w64 (n := -((m : Int) / 2 % 18446744073709551616)) (by omega) (by omega), w64 (by omega) (by omega)]; congr 1; omega

/-- The reference's short number, with rounds enough. -/
theorem ref_num (k : Nat) : ∀ n : Nat, n < 128 ^ (k + 1) → n < 18446744073709551616 → copyholdref01_Num.f (k + 1) (n : Int) = some (numS n) := by
  induction k with
  | zero =>
    intro n h h2
    simp only [copyholdref01_Num.f]
    rw [if_pos (by omega)]
    refine congrArg some ?_
    apply inj
    rw [numS_dl, numB_lo (by omega), nums_dl]
    rw [List.map_cons, List.map_nil, show ((n : Int) % 256).toNat = n from by omega]
  | succ k ih =>
    intro n h h2
    have hu : copyholdref01_Num.f (k + 1 + 1) (n : Int) = if (n : Int) < 128 then (some (strOfNums (([((n : Int)) % 256] : List Int)))) else ((some (([(IntKind.u64.wrap ((Int.tmod (n : Int) 128) + 128)) % 256] : List Int) : List Int)).bind fun y113 => ((copyholdref01_Num.f (k + 1) (IntKind.u64.wrap (Int.tdiv (n : Int) 128))).bind fun t116 => (if (strOfNums y113).size + t116.size ≤ 9223372036854775807 then (some ((strOfNums y113) ++ t116)) else (none)))) := rfl
    rw [hu]
    by_cases h1 : n < 128
    · rw [if_pos (by omega)]
      refine congrArg some ?_
      apply inj
      rw [numS_dl, numB_lo (by omega), nums_dl]
      rw [List.map_cons, List.map_nil, show ((n : Int) % 256).toNat = n from by omega]
    · have hr := ih (n / 128) (by rw [Nat.div_lt_iff_lt_mul (by decide)]; rw [Nat.pow_succ] at h; exact h) (by omega)
      have hsz := numS_size10 (n := n / 128) (by omega)
      rw [if_neg (by omega), bs rfl, Int.tdiv_eq_ediv_of_nonneg (by omega), Int.tmod_eq_emod_of_nonneg (by omega), IntKind.wrap_u64, IntKind.wrap_u64, show ((n : Int) / 128 % 18446744073709551616) = ((n / 128 : Nat) : Int) from by omega, bs hr, if_pos (by rw [nums_size, List.length_cons, List.length_nil]; omega)]
      refine congrArg some ?_
      apply inj
      rw [app, nums_dl, numS_dl, numS_dl, numB_hi (n := n) (by omega)]
      rw [List.map_cons, List.map_nil, List.cons_append, List.nil_append, show (((n : Int) % 128 + 128) % 18446744073709551616 % 256).toNat = n % 128 + 128 from by omega]
theorem ref_num10 {n k : Nat} (h : n < 18446744073709551616) (hk : 10 ≤ k) : copyholdref01_Num.f k (n : Int) = some (numS n) := by
  obtain ⟨j, rfl⟩ : ∃ j, k = j + 1 := ⟨k - 1, by omega⟩
  refine ref_num j n ?_ h
  have : 128 ^ 10 ≤ 128 ^ (j + 1) := Nat.pow_le_pow_right (by decide) (by omega)
  omega
theorem ref_text {s : ByteArray} (hs : s.size ≤ 140737488355000) {k : Nat} (hk : 10 ≤ k) : copyholdref01_Text.f k s = some (textS s) := by
  unfold copyholdref01_Text.f
  have hsz := numS_size10 (n := s.size) (by omega)
  rw [IntKind.wrap_u64, show ((s.size : Int) % 18446744073709551616) = ((s.size : Nat) : Int) from by omega, bs (ref_num10 (by omega) hk), if_pos (by omega)]
  rfl
end Go.Proofs.Ytoenhajcjebmeaa
