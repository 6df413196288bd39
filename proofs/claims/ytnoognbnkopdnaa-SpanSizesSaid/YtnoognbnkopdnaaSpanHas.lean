/- Layer 3: a place as a double, against whole numbers. -/
import Derived.Test.YtnoognbnkopdnaaSpanShifts
set_option linter.unusedVariables false
set_option linter.unusedSimpArgs false
set_option exponentiation.threshold 2000
namespace Go.Proofs.Ytnoognbnkopdnaa
open Go.RowKit Go.Proofs.YtnoognbnkopdnaaW.PrintWords Flt Math Ieee

theorem word_read (neg : Bool) (r : Nat) (h : r ≤ 2047 * 2 ^ 52) : (∃ m p, Ieee.double.read (Ieee.double.word neg r) = .number neg m p) ∨ Ieee.double.read (Ieee.double.word neg r) = .infinity neg := by
  have hsw : Ieee.double.signWeight = 2 ^ 63 := rfl
  have hir : Ieee.double.infRung = 2047 * 2 ^ 52 := rfl
  have key : ∀ w : Nat, w % 2 ^ 63 = r → (w / 2 ^ 63 % 2 == 1) = neg → (∃ m p, Ieee.double.read w = .number neg m p) ∨ Ieee.double.read w = .infinity neg := by
    intro w h1 h2
    unfold Format.read
    rw [hsw, hir]
    dsimp only
    rw [h1, h2]
    split
    · exact .inl ⟨_, _, rfl⟩
    · split
      · exact .inl ⟨_, _, rfl⟩
      · split
        · exact .inr rfl
        · omega
  cases neg with
  | true => rw [word_neg]; unfold Format.word; rw [if_neg (by decide)]; exact key _ (by omega) (by rw [show (2 ^ 63 + r) / 2 ^ 63 = 1 by omega]; rfl)
  | false => unfold Format.word; rw [if_neg (by decide)]; exact key _ (by omega) (by rw [show r / 2 ^ 63 = 0 by omega]; rfl)
theorem nearest_read (neg : Bool) (m : Nat) (p : Int) : (∃ m' p', Ieee.double.read (Ieee.double.nearest neg m p) = .number neg m' p') ∨ Ieee.double.read (Ieee.double.nearest neg m p) = .infinity neg := by
  unfold Format.nearest
  split
  · exact word_read neg 0 (by omega)
  · exact word_read neg _ (Nat.min_le_right _ _)
theorem compare_mul_int (x y k : Int) (hk : 0 < k) : compare (x * k) (y * k) = compare x y := by
  rcases Int.lt_trichotomy x y with h | h | h
  · rw [Int.compare_eq_lt.2 h]; exact Int.compare_eq_lt.2 (Int.mul_lt_mul_of_pos_right h hk)
  · subst h; exact (Int.compare_eq_eq.2 rfl).trans (Int.compare_eq_eq.2 rfl).symm
  · rw [Int.compare_eq_gt.2 h]; exact Int.compare_eq_gt.2 (Int.mul_lt_mul_of_pos_right h hk)
/-- A place against whole numbers. -/
theorem place_order (at_ : Int) : ∃ U : Int, ∀ a : Nat, a < 2 ^ 53 → FloatKind.f64.format.order (floatOfInt .f64 at_) (fb a) = some (compare U ((a : Int) * 2 ^ 1074)) := by
  have hk : (0 : Int) < 2 ^ 1074 := Int.pow_pos (by decide)
  have hr := nearest_read (decide (at_ < 0)) at_.natAbs 0
  have he : floatOfInt .f64 at_ = Ieee.double.nearest (decide (at_ < 0)) at_.natAbs 0 := rfl
  rw [← he] at hr
  generalize decide (at_ < 0) = neg at hr
  generalize floatOfInt .f64 at_ = w at hr
  rcases hr with ⟨m, p, hr⟩ | hr
  · cases neg with
    | false =>
      refine ⟨((units m p : Nat) : Int), fun a ha => ?_⟩
      have := order_fb hr a ha
      show Ieee.double.order w (fb a) = _
      rw [this, ← compare_cast]
      congr 2
    | true =>
      refine ⟨-((units m p : Nat) : Int), fun a ha => ?_⟩
      obtain ⟨m', s, hr2, hm⟩ := val_fb a ha
      have h1 := read_number hr
      have h2 := read_number hr2
      show Ieee.double.order w (fb a) = _
      unfold Format.order
      rw [hr, hr2]
      unfold Datum.order
      simp only
      rw [signed_true, signed_false]
      have e1 := pow_split m p (min p (-(s : Int))) (by omega) (by omega)
      have e2 := pow_split m' (-(s : Int)) (min p (-(s : Int))) (by omega) (by omega)
      have e3 : units m' (-(s : Int)) = a * 2 ^ 1074 := by
        unfold units
        rw [hm, Nat.mul_assoc, ← Nat.pow_add, show s + (-(s : Int) + 1074).toNat = 1074 by omega]
      rw [e3] at e2
      have hp : 0 < 2 ^ (min p (-(s : Int)) + 1074).toNat := Nat.pow_pos (by decide)
      generalize 2 ^ (min p (-(s : Int)) + 1074).toNat = k at e1 e2 hp
      generalize m * 2 ^ (p - min p (-(s : Int))).toNat = A at e1
      generalize m' * 2 ^ (-(s : Int) - min p (-(s : Int))).toNat = B at e2
      rw [show ((a : Int) * 2 ^ 1074) = ((a * 2 ^ 1074 : Nat) : Int) by rw [Int.natCast_mul, Int.natCast_pow]; congr 2, ← e2, ← e1]
      congr 1
      rw [Int.natCast_mul, Int.natCast_mul, ← Int.neg_mul]
      exact (compare_mul_int _ _ _ (Int.ofNat_lt.2 hp)).symm
  · cases neg with
    | false =>
      refine ⟨2 ^ 53 * 2 ^ 1074, fun a ha => ?_⟩
      obtain ⟨m', s, hr2, hm⟩ := val_fb a ha
      show Ieee.double.order w (fb a) = _
      unfold Format.order
      rw [hr, hr2, compare_mul_int _ _ _ hk]
      exact congrArg some (Int.compare_eq_gt.2 (by omega)).symm
    | true =>
      refine ⟨-1, fun a ha => ?_⟩
      obtain ⟨m', s, hr2, hm⟩ := val_fb a ha
      show Ieee.double.order w (fb a) = _
      unfold Format.order
      rw [hr, hr2]
      have : (0 : Int) ≤ (a : Int) * 2 ^ 1074 := Int.mul_nonneg (by omega) (Int.le_of_lt hk)
      exact congrArg some (Int.compare_eq_lt.2 (by omega)).symm
end Go.Proofs.Ytnoognbnkopdnaa
