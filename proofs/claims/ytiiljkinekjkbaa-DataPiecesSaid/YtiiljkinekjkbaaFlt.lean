/- Whole numbers as doubles: plain, without program and memory. -/
import Derived.Laws.FloatArith
import Derived.Laws.ComplexArith
set_option linter.unusedVariables false
set_option linter.unusedSimpArgs false
namespace Go.Proofs.Ytiiljkinekjkbaa.Flt
open Ieee
set_option exponentiation.threshold 2000
theorem pow_nz (d : Nat) : 2 ^ d ≠ 0 := Nat.ne_of_gt (Nat.pow_pos (by decide))

/-- The word of a whole number. -/
def fb (n : Nat) : Nat := Ieee.double.nearest false n 0
/-- A word stands for a whole number. -/
def Val (w n : Nat) : Prop := ∃ m s : Nat, Ieee.double.read w = .number false m (-(s : Int)) ∧ m = n * 2 ^ s

theorem read_zero : Ieee.double.read 0 = .number false 0 (-1074) := by decide +kernel
theorem lp : Ieee.double.leastPlace = -1074 := by decide
theorem bin : Ieee.double.binade = 2 ^ 52 := rfl
theorem log2_lt53 {n : Nat} (h : n < 2 ^ 53) : n.log2 ≤ 52 := by
  rcases Nat.eq_zero_or_pos n with rfl | h0
  · decide
  · exact Nat.le_of_lt_succ ((Nat.log2_lt (by omega)).2 h)
theorem log2_mul_pow (n s : Nat) (h : n ≠ 0) : (n * 2 ^ s).log2 = n.log2 + s := by
  apply (Nat.log2_eq_iff (Nat.mul_ne_zero h (pow_nz _))).2
  constructor
  · rw [Nat.pow_add]; exact Nat.mul_le_mul_right _ (Nat.log2_self_le h)
  · rw [show n.log2 + s + 1 = (n.log2 + 1) + s by omega, Nat.pow_add]
    exact Nat.mul_lt_mul_of_pos_right Nat.lt_log2_self (Nat.pow_pos (by decide))
/-- A significand of full length. -/
theorem full (n : Nat) (h0 : n ≠ 0) (h : n < 2 ^ 53) : 2 ^ 52 ≤ n * 2 ^ (52 - n.log2) ∧ n * 2 ^ (52 - n.log2) < 2 ^ 53 := by
  have hl := log2_lt53 h
  constructor
  · have := Nat.mul_le_mul_right (2 ^ (52 - n.log2)) (Nat.log2_self_le h0)
    rwa [← Nat.pow_add, show n.log2 + (52 - n.log2) = 52 by omega] at this
  · have := Nat.mul_lt_mul_of_pos_right (k := 2 ^ (52 - n.log2)) (@Nat.lt_log2_self n) (Nat.pow_pos (by decide))
    rwa [← Nat.pow_add, show n.log2 + 1 + (52 - n.log2) = 53 by omega] at this
theorem cut_even_pow (n d : Nat) (h : d ≤ (n * 2 ^ d).log2 + 2) : Toward.even.cut false (n * 2 ^ d) d = n := by
  unfold Toward.cut
  rw [Nat.min_eq_left h, Nat.shiftLeft_eq, Nat.one_mul]
  simp only [Nat.mul_div_cancel _ (Nat.pow_pos (n := d) (show 0 < 2 by decide)), Nat.mul_mod_left]
  have : 2 ^ d ≠ 0 := pow_nz _
  have h2 : ((2 ^ d == 2 * 0) = false) := by rw [beq_eq_false_iff_ne]; exact this
  rw [show (decide (2 ^ d < 2 * 0)) = false from decide_eq_false (Nat.not_lt_zero _), h2]
  rfl
/-- Rounding of what needs none. -/
theorem nearest_exact (neg : Bool) (n M : Nat) (h0 : n ≠ 0) (h : n < 2 ^ 53) (hn : neg = false) :
    Ieee.double.nearest neg (n * 2 ^ M) (-(M : Int)) = (n.log2 + 1022) * 2 ^ 52 + n * 2 ^ (52 - n.log2) := by
  subst hn
  have hl := log2_lt53 h
  have hf := full n h0 h
  have hm : n * 2 ^ M ≠ 0 := Nat.mul_ne_zero h0 (pow_nz _)
  unfold Format.nearest
  rw [if_neg hm, log2_mul_pow n M h0, lp]
  have hfb : (Ieee.double.fractionBits : Int) = 52 := rfl
  have hlast : max (-(M : Int) + ((n.log2 + M : Nat) : Int) - (Ieee.double.fractionBits : Int)) (-1074) = (n.log2 : Int) - 52 := by rw [hfb]; omega
  rw [hlast]
  dsimp only
  have hk : Toward.even.cut false ((n * 2 ^ M) <<< (-(M : Int) - ((n.log2 : Int) - 52)).toNat) ((n.log2 : Int) - 52 - -(M : Int)).toNat = n * 2 ^ (52 - n.log2) := by
    by_cases hc : M ≤ 52 - n.log2
    · rw [show ((n.log2 : Int) - 52 - -(M : Int)).toNat = 0 by omega, Nat.shiftLeft_eq, Nat.mul_assoc, ← Nat.pow_add, show M + (-(M : Int) - ((n.log2 : Int) - 52)).toNat = 52 - n.log2 by omega]
      have := cut_even_pow (n * 2 ^ (52 - n.log2)) 0 (Nat.zero_le _)
      rwa [Nat.pow_zero, Nat.mul_one] at this
    · rw [show (-(M : Int) - ((n.log2 : Int) - 52)).toNat = 0 by omega, Nat.shiftLeft_zero, show ((n.log2 : Int) - 52 - -(M : Int)).toNat = M - (52 - n.log2) by omega]
      have e : n * 2 ^ M = (n * 2 ^ (52 - n.log2)) * 2 ^ (M - (52 - n.log2)) := by rw [Nat.mul_assoc, ← Nat.pow_add, show 52 - n.log2 + (M - (52 - n.log2)) = M by omega]
      rw [e]
      refine cut_even_pow _ _ ?_
      rw [← e, log2_mul_pow n M h0]; omega
  rw [hk]
  have h1 : ((n.log2 : Int) - 52 - -1074).toNat = n.log2 + 1022 := by omega
  rw [h1, bin]
  unfold Format.word
  rw [if_neg (by decide)]
  apply Nat.min_eq_left
  have : Ieee.double.infRung = 2047 * 2 ^ 52 := rfl
  rw [this]
  have := hf.2
  omega
theorem nearest_zero (p : Int) : Ieee.double.nearest false 0 p = 0 := rfl
theorem fb_eq (n : Nat) (h0 : n ≠ 0) (h : n < 2 ^ 53) : fb n = (n.log2 + 1022) * 2 ^ 52 + n * 2 ^ (52 - n.log2) := by
  have := nearest_exact false n 0 h0 h rfl
  rwa [Nat.pow_zero, Nat.mul_one] at this
theorem nearest_fb (n M : Nat) (h : n < 2 ^ 53) : Ieee.double.nearest false (n * 2 ^ M) (-(M : Int)) = fb n := by
  rcases Nat.eq_zero_or_pos n with rfl | h0
  · rw [Nat.zero_mul]; unfold fb; rw [nearest_zero, nearest_zero]
  · rw [nearest_exact false n M (by omega) h rfl, fb_eq n (by omega) h]
theorem fb_zero : fb 0 = 0 := rfl
/-- What is read of the word of a whole number. -/
theorem val_fb (n : Nat) (h : n < 2 ^ 53) : Val (fb n) n := by
  rcases Nat.eq_zero_or_pos n with rfl | h0
  · exact ⟨0, 1074, by rw [fb_zero]; exact read_zero, (Nat.zero_mul _).symm⟩
  · have hl := log2_lt53 h
    have hf := full n (by omega) h
    refine ⟨n * 2 ^ (52 - n.log2), 52 - n.log2, ?_, rfl⟩
    rw [fb_eq n (by omega) h]
    generalize n * 2 ^ (52 - n.log2) = m at hf
    generalize hL : n.log2 = L at hl
    have hsw : Ieee.double.signWeight = 2 ^ 63 := rfl
    have hir : Ieee.double.infRung = 2047 * 2 ^ 52 := rfl
    have hw : (L + 1022) * 2 ^ 52 + m < 2 ^ 63 := by omega
    unfold Format.read
    rw [hsw, hir, bin, lp]
    dsimp only
    rw [Nat.mod_eq_of_lt hw, if_neg (by omega), if_pos (by omega), Nat.div_eq_of_lt hw]
    have e1 : ((L + 1022) * 2 ^ 52 + m) % 2 ^ 52 = m - 2 ^ 52 := by omega
    have e2 : ((L + 1022) * 2 ^ 52 + m) / 2 ^ 52 = L + 1023 := by omega
    rw [e1, e2]
    have e3 : 2 ^ 52 + (m - 2 ^ 52) = m := by omega
    rw [e3]
    have e4 : (-1074 : Int) + ((L + 1023 - 1 : Nat) : Int) = -((52 - L : Nat) : Int) := by omega
    rw [e4]
    rfl
theorem signed_false (m up : Nat) : signed false m up = ((m * 2 ^ up : Nat) : Int) := by unfold signed; rw [if_neg (by decide), Nat.shiftLeft_eq]
theorem signed_true (m up : Nat) : signed true m up = -((m * 2 ^ up : Nat) : Int) := by unfold signed; rw [if_pos rfl, Nat.shiftLeft_eq]
theorem lift_ (n s M : Nat) (h : s ≤ M) : n * 2 ^ s * 2 ^ ((-(s : Int)) - (-(M : Int))).toNat = n * 2 ^ M := by
  rw [Nat.mul_assoc, ← Nat.pow_add, show s + ((-(s : Int)) - (-(M : Int))).toNat = M by omega]
theorem base_ (s t : Nat) : min (-(s : Int)) (-(t : Int)) = -((max s t : Nat) : Int) := by omega
theorem order_val {x y a b : Nat} (hx : Val x a) (hy : Val y b) : Ieee.double.order x y = some (compare a b) := by
  obtain ⟨m, s, hr, hm⟩ := hx
  obtain ⟨n, t, hr2, hn⟩ := hy
  unfold Format.order
  rw [hr, hr2]
  unfold Datum.order
  simp only
  rw [base_, signed_false, signed_false, hm, hn, lift_ a s _ (Nat.le_max_left _ _), lift_ b t _ (Nat.le_max_right _ _)]
  congr 1
  have hp : 0 < 2 ^ max s t := Nat.pow_pos (by decide)
  generalize 2 ^ max s t = p at hp
  rcases Nat.lt_trichotomy a b with h | h | h
  · rw [Nat.compare_eq_lt.2 h]
    exact Int.compare_eq_lt.2 (Int.ofNat_lt.2 (Nat.mul_lt_mul_of_pos_right h hp))
  · subst h
    rw [Nat.compare_eq_eq.2 rfl]
    exact Int.compare_eq_eq.2 rfl
  · rw [Nat.compare_eq_gt.2 h]
    exact Int.compare_eq_gt.2 (Int.ofNat_lt.2 (Nat.mul_lt_mul_of_pos_right h hp))
theorem add_val {x y a b : Nat} (hx : Val x a) (hy : Val y b) (h : a + b < 2 ^ 53) : Ieee.double.add x y = some (fb (a + b)) := by
  obtain ⟨m, s, hr, hm⟩ := hx
  obtain ⟨n, t, hr2, hn⟩ := hy
  unfold Format.add
  rw [hr, hr2]
  unfold Datum.sum
  simp only
  rw [base_, signed_false, signed_false, hm, hn, lift_ a s _ (Nat.le_max_left _ _), lift_ b t _ (Nat.le_max_right _ _)]
  rw [show ((a * 2 ^ max s t : Nat) : Int) + ((b * 2 ^ max s t : Nat) : Int) = (((a + b) * 2 ^ max s t : Nat) : Int) by rw [Nat.add_mul]; omega, Int.natAbs_natCast]
  have hneg : (if (((a + b) * 2 ^ max s t : Nat) : Int) = 0 then (false && false) else decide ((((a + b) * 2 ^ max s t : Nat) : Int) < 0)) = false := by
    split
    · rfl
    · exact decide_eq_false (by omega)
  rw [hneg]
  exact congrArg some (nearest_fb (a + b) _ h)
theorem sub_val {x y a b : Nat} (hx : Val x a) (hy : Val y b) (hab : b ≤ a) (h : a < 2 ^ 53) : Ieee.double.sub x y = some (fb (a - b)) := by
  obtain ⟨m, s, hr, hm⟩ := hx
  obtain ⟨n, t, hr2, hn⟩ := hy
  unfold Format.sub
  rw [hr, hr2]
  unfold Datum.opposite Datum.sum
  simp only [Bool.not_false]
  rw [base_, signed_false, signed_true, hm, hn, lift_ a s _ (Nat.le_max_left _ _), lift_ b t _ (Nat.le_max_right _ _)]
  have hle : b * 2 ^ max s t ≤ a * 2 ^ max s t := Nat.mul_le_mul_right _ hab
  rw [show ((a * 2 ^ max s t : Nat) : Int) + -((b * 2 ^ max s t : Nat) : Int) = (((a - b) * 2 ^ max s t : Nat) : Int) by rw [Nat.sub_mul]; omega, Int.natAbs_natCast]
  have hneg : (if (((a - b) * 2 ^ max s t : Nat) : Int) = 0 then (false && true) else decide ((((a - b) * 2 ^ max s t : Nat) : Int) < 0)) = false := by
    split
    · rfl
    · exact decide_eq_false (by omega)
  rw [hneg]
  exact congrArg some (nearest_fb (a - b) _ (by omega))
theorem cut_zero_pow (n d : Nat) : Toward.zero.cut false (n * 2 ^ d) d = n := by
  unfold Toward.cut
  dsimp only
  rw [Nat.shiftLeft_eq, Nat.one_mul]
  rcases Nat.eq_zero_or_pos n with rfl | h0
  · simp
  · have h : d ≤ (n * 2 ^ d).log2 + 2 := by rw [log2_mul_pow n d (by omega)]; omega
    rw [Nat.min_eq_left h, Nat.mul_div_cancel _ (Nat.pow_pos (show 0 < 2 by decide))]
    rfl
theorem toInt_val {x a : Nat} (hx : Val x a) : (Ieee.double.read x).toInt .zero = some (a : Int) := by
  obtain ⟨m, s, hr, hm⟩ := hx
  rw [hr]
  unfold Datum.toInt Datum.integral
  simp only
  rw [show (-(s : Int)).toNat = 0 by omega, show (-(-(s : Int))).toNat = s by omega, Nat.shiftLeft_zero, hm, cut_zero_pow, signed_false, Nat.pow_zero, Nat.mul_one]
/-! ### Any word -/
/-- What is read of a finite number: its place is no less than the least, and a place above that has a full significand. -/
theorem read_number {w : Nat} {s : Bool} {m : Nat} {p : Int} (h : Ieee.double.read w = .number s m p) : -1074 ≤ p ∧ (p ≠ -1074 → 2 ^ 52 ≤ m) := by
  unfold Format.read at h
  dsimp only at h
  rw [lp, bin] at h
  split at h
  · injection h with h1 h2 h3
    omega
  · split at h
    · injection h with h1 h2 h3
      refine ⟨by omega, fun _ => by omega⟩
    · split at h <;> cases h
/-- A number as so many of the least. -/
def units (m : Nat) (p : Int) : Nat := m * 2 ^ (p + 1074).toNat
theorem pow_split (m : Nat) (p base : Int) (h1 : -1074 ≤ base) (h2 : base ≤ p) : m * 2 ^ (p - base).toNat * 2 ^ (base + 1074).toNat = units m p := by
  unfold units
  rw [Nat.mul_assoc, ← Nat.pow_add, show (p - base).toNat + (base + 1074).toNat = (p + 1074).toNat by omega]
theorem compare_mul (a b k : Nat) (hk : 0 < k) : compare (a * k) (b * k) = compare a b := by
  rcases Nat.lt_trichotomy a b with h | h | h
  · rw [Nat.compare_eq_lt.2 h]; exact Nat.compare_eq_lt.2 (Nat.mul_lt_mul_of_pos_right h hk)
  · subst h; exact (Nat.compare_eq_eq.2 rfl).trans (Nat.compare_eq_eq.2 rfl).symm
  · rw [Nat.compare_eq_gt.2 h]; exact Nat.compare_eq_gt.2 (Nat.mul_lt_mul_of_pos_right h hk)
theorem compare_cast (a b : Nat) : compare (a : Int) (b : Int) = compare a b := by
  rcases Nat.lt_trichotomy a b with h | h | h
  · rw [Nat.compare_eq_lt.2 h]; exact Int.compare_eq_lt.2 (Int.ofNat_lt.2 h)
  · subst h; rw [Nat.compare_eq_eq.2 rfl]; exact Int.compare_eq_eq.2 rfl
  · rw [Nat.compare_eq_gt.2 h]; exact Int.compare_eq_gt.2 (Int.ofNat_lt.2 h)
theorem order_units (m n : Nat) (p q : Int) (hp : -1074 ≤ p) (hq : -1074 ≤ q) : Datum.order (.number false m p) (.number false n q) = some (compare (units m p) (units n q)) := by
  unfold Datum.order
  simp only
  rw [signed_false, signed_false, compare_cast, ← compare_mul _ _ (2 ^ (min p q + 1074).toNat) (Nat.pow_pos (by decide)), pow_split m p _ (by omega) (by omega), pow_split n q _ (by omega) (by omega)]
theorem order_fb {w m : Nat} {p : Int} (h : Ieee.double.read w = .number false m p) (n : Nat) (hn : n < 2 ^ 53) : Ieee.double.order w (fb n) = some (compare (units m p) (n * 2 ^ 1074)) := by
  obtain ⟨m', s, hr, hm⟩ := val_fb n hn
  have h1 := read_number h
  have h2 := read_number hr
  unfold Format.order
  rw [h, hr, order_units m m' p _ h1.1 h2.1]
  have : units m' (-(s : Int)) = n * 2 ^ 1074 := by
    unfold units
    rw [hm, Nat.mul_assoc, ← Nat.pow_add, show s + (-(s : Int) + 1074).toNat = 1074 by omega]
  rw [this]
theorem div_pow (m a b : Nat) (h : b ≤ a) : m * 2 ^ b / 2 ^ a = m / 2 ^ (a - b) := by
  rw [show a = (a - b) + b by omega, Nat.pow_add, Nat.mul_div_mul_right _ _ (Nat.pow_pos (by decide)), show a - b + b - b = a - b by omega]
theorem toInt_units {w m : Nat} {p : Int} (h : Ieee.double.read w = .number false m p) : (Ieee.double.read w).toInt .zero = some ((units m p / 2 ^ 1074 : Nat) : Int) := by
  have h1 := (read_number h).1
  rw [h]
  unfold Datum.toInt Datum.integral
  simp only
  rw [signed_false, Nat.pow_zero, Nat.mul_one]
  congr 2
  by_cases hp : 0 ≤ p
  · rw [show (-p).toNat = 0 by omega, Nat.shiftLeft_eq]
    have := cut_zero_pow (m * 2 ^ p.toNat) 0
    rw [Nat.pow_zero, Nat.mul_one] at this
    rw [this]
    unfold units
    rw [show (p + 1074).toNat = p.toNat + 1074 by omega, Nat.pow_add, ← Nat.mul_assoc, Nat.mul_div_cancel _ (Nat.pow_pos (by decide))]
  · rw [show p.toNat = 0 by omega, Nat.shiftLeft_zero]
    unfold units
    rw [div_pow m 1074 _ (by omega), show 1074 - (p + 1074).toNat = (-p).toNat by omega]
    generalize (-p).toNat = d
    unfold Toward.cut
    dsimp only
    rw [Nat.shiftLeft_eq, Nat.one_mul]
    by_cases hd : d ≤ m.log2 + 2
    · rw [Nat.min_eq_left hd]; rfl
    · rw [Nat.min_eq_right (by omega)]
      have hlt : m < 2 ^ (m.log2 + 2) := Nat.lt_trans Nat.lt_log2_self (Nat.pow_lt_pow_right (by decide) (by omega))
      have hlt2 : m < 2 ^ d := Nat.lt_trans hlt (Nat.pow_lt_pow_right (by decide) (by omega))
      rw [Nat.div_eq_of_lt hlt, Nat.div_eq_of_lt hlt2]
      rfl
/-- A word that stands as far as a whole number of 2^40 at most is such a number's. -/
theorem val_of_units {w m : Nat} {p : Int} (h : Ieee.double.read w = .number false m p) (n : Nat) (hn : n ≤ 2 ^ 40) (hu : units m p = n * 2 ^ 1074) : Val w n := by
  have h1 := read_number h
  have hp : p ≤ 0 := by
    rcases Int.lt_or_le 0 p with hc | hc
    · have hm := h1.2 (by omega)
      exfalso
      unfold units at hu
      rw [show (p + 1074).toNat = p.toNat + 1074 by omega, Nat.pow_add, ← Nat.mul_assoc] at hu
      have := Nat.eq_of_mul_eq_mul_right (Nat.pow_pos (by decide)) hu
      have h2 : 1 ≤ 2 ^ p.toNat := Nat.pow_pos (by decide)
      have h3 : m * 1 ≤ m * 2 ^ p.toNat := Nat.mul_le_mul_left _ h2
      omega
    · exact hc
  refine ⟨m, (-p).toNat, by rw [h]; congr 1; omega, ?_⟩
  unfold units at hu
  have e : (2 : Nat) ^ 1074 = 2 ^ (-p).toNat * 2 ^ (p + 1074).toNat := by rw [← Nat.pow_add, show (-p).toNat + (p + 1074).toNat = 1074 by omega]
  rw [e, ← Nat.mul_assoc] at hu
  exact Nat.eq_of_mul_eq_mul_right (Nat.pow_pos (by decide)) hu
/-- The ways that a word may be. -/
inductive Way (w : Nat) : Prop
  | nan (h0 : Ieee.double.order w 0 = none) (h1 : Ieee.double.order w w = none) (h2 : Ieee.double.order w (fb 1099511627776) = none)
  | less (h0 : Ieee.double.order w 0 = some .lt)
  | great (h0 : Ieee.double.order w 0 = some .gt) (h2 : Ieee.double.order w (fb 1099511627776) = some .gt)
  | broken (n : Nat) (o2 : Ordering) (hn : n ≤ 1099511627776) (h0 : Ieee.double.order w 0 = some .gt) (h1 : Ieee.double.order w w = some .eq) (h2 : Ieee.double.order w (fb 1099511627776) = some o2) (h2g : o2 ≠ .gt) (h3 : (Ieee.double.read w).toInt .zero = some (n : Int)) (o : Ordering) (h4 : Ieee.double.order w (fb n) = some o) (ho : o ≠ .eq)
  | whole (n : Nat) (o2 : Ordering) (hn : n ≤ 1099511627776) (hpos : 0 < n) (h0 : Ieee.double.order w 0 = some .gt) (h1 : Ieee.double.order w w = some .eq) (h2 : Ieee.double.order w (fb 1099511627776) = some o2) (h2g : o2 ≠ .gt) (h3 : (Ieee.double.read w).toInt .zero = some (n : Int)) (h4 : Ieee.double.order w (fb n) = some .eq) (hv : Val w n)
  | nought (h0 : Ieee.double.order w 0 = some .eq) (h1 : Ieee.double.order w w = some .eq) (h2 : Ieee.double.order w (fb 1099511627776) = some .lt) (h3 : (Ieee.double.read w).toInt .zero = some 0) (i : Nat) (h5 : Ieee.double.div (fb 1) w = some i) (h6 : Ieee.double.order i 0 = some .gt) (hv : Val w 0)
  | below (h0 : Ieee.double.order w 0 = some .eq) (h1 : Ieee.double.order w w = some .eq) (h2 : Ieee.double.order w (fb 1099511627776) = some .lt) (h3 : (Ieee.double.read w).toInt .zero = some 0) (i : Nat) (h5 : Ieee.double.div (fb 1) w = some i) (h6 : Ieee.double.order i 0 = some .lt) (hnv : ∀ n, ¬ Val w n)
theorem read_most : Ieee.double.read (fb 1099511627776) = .number false 4503599627370496 (-12) := by decide +kernel
theorem read_one : Ieee.double.read (fb 1) = .number false 4503599627370496 (-52) := by decide +kernel
theorem units_zero (p : Int) : units 0 p = 0 := Nat.zero_mul _
theorem way (w : Nat) : Way w := by
  cases hr : Ieee.double.read w with
  | nan s f =>
    refine .nan ?_ ?_ ?_ <;> (unfold Format.order; rw [hr]; rfl)
  | infinity s =>
    cases s with
    | true => exact .less (by unfold Format.order; rw [hr, read_zero]; rfl)
    | false => exact .great (by unfold Format.order; rw [hr, read_zero]; rfl) (by unfold Format.order; rw [hr, read_most]; rfl)
  | number s m p =>
    have hp := read_number hr
    by_cases hm : m = 0
    · subst hm
      have hp2 : p = -1074 := by
        rcases Classical.em (p = -1074) with h | h
        · exact h
        · have := hp.2 h; omega
      subst hp2
      cases s with
      | true => exact .below (by unfold Format.order; rw [hr, read_zero]; rfl) (by unfold Format.order; rw [hr]; rfl) (by unfold Format.order; rw [hr, read_most]; decide +kernel) (by rw [hr]; decide +kernel) (Ieee.double.write (.infinity true)) (by unfold Format.div; rw [hr, read_one]; rfl) (by decide +kernel) (fun n ⟨m, s, h, _⟩ => by rw [hr] at h; cases h)
      | false => exact .nought (by unfold Format.order; rw [hr, read_zero]; rfl) (by unfold Format.order; rw [hr]; rfl) (by unfold Format.order; rw [hr, read_most]; decide +kernel) (by rw [hr]; decide +kernel) (Ieee.double.write (.infinity false)) (by unfold Format.div; rw [hr, read_one]; rfl) (by decide +kernel) ⟨0, 1074, hr, (Nat.zero_mul _).symm⟩
    · cases s with
      | true =>
        refine .less ?_
        unfold Format.order
        rw [hr, read_zero]
        unfold Datum.order
        simp only
        rw [signed_true, signed_false, Nat.zero_mul]
        have : 0 < m * 2 ^ (p - min p (-1074)).toNat := Nat.mul_pos (by omega) (Nat.pow_pos (by decide))
        exact congrArg some (Int.compare_eq_lt.2 (by omega))
      | false =>
        have hu : 0 < units m p := Nat.mul_pos (by omega) (Nat.pow_pos (by decide))
        have h0 : Ieee.double.order w 0 = some .gt := by
          have := order_fb hr 0 (by decide)
          rw [Nat.zero_mul, fb_zero] at this
          rw [this, Nat.compare_eq_gt.2 hu]
        have h1 : Ieee.double.order w w = some .eq := by
          unfold Format.order
          rw [hr, order_units m m p p hp.1 hp.1, Nat.compare_eq_eq.2 rfl]
        have h2 := order_fb hr 1099511627776 (by decide)
        by_cases hg : 1099511627776 * 2 ^ 1074 < units m p
        · exact .great h0 (by rw [h2, Nat.compare_eq_gt.2 hg])
        · have hno : compare (units m p) (1099511627776 * 2 ^ 1074) ≠ .gt := fun h => hg (Nat.compare_eq_gt.1 h)
          obtain ⟨n, hn⟩ : ∃ n, n = units m p / 2 ^ 1074 := ⟨_, rfl⟩
          have hn40 : n ≤ 1099511627776 := by
            rw [hn]
            exact Nat.div_le_of_le_mul (by rw [Nat.mul_comm]; omega)
          have h3 := toInt_units hr
          rw [← hn] at h3
          have h4 := order_fb hr n (by omega)
          by_cases he : units m p = n * 2 ^ 1074
          · refine .whole n _ hn40 ?_ h0 h1 h2 hno h3 (by rw [h4, Nat.compare_eq_eq.2 he]) (val_of_units hr n hn40 he)
            rcases Nat.eq_zero_or_pos n with h | h
            · rw [h, Nat.zero_mul] at he; omega
            · exact h
          · exact .broken n _ hn40 h0 h1 h2 hno h3 _ h4 (fun h => he (Nat.compare_eq_eq.1 h))
theorem Val.inj {w a b : Nat} (h1 : Val w a) (h2 : Val w b) : a = b := by
  have e := order_val h1 h2
  rw [order_val h1 h1, Nat.compare_eq_eq.2 rfl] at e
  exact Nat.compare_eq_eq.1 (Option.some.inj e).symm
theorem compare_swap (a b : Int) : compare b a = (compare a b).swap := (Std.OrientedCmp.eq_swap (cmp := (compare : Int → Int → Ordering)) (a := b) (b := a))
theorem order_swap (x y : Nat) : Ieee.double.order y x = (Ieee.double.order x y).map Ordering.swap := by
  unfold Format.order
  cases Ieee.double.read x with
  | nan s f => cases Ieee.double.read y <;> rfl
  | infinity s =>
    cases Ieee.double.read y with
    | nan t f => rfl
    | infinity t => cases s <;> cases t <;> rfl
    | number t n j => cases s <;> rfl
  | number s m i =>
    cases Ieee.double.read y with
    | nan t f => rfl
    | infinity t => cases t <;> rfl
    | number t n j =>
      unfold Datum.order
      simp only [Option.map_some]
      rw [Int.min_comm j i, compare_swap]
end Go.Proofs.Ytiiljkinekjkbaa.Flt
