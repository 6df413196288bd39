/- Layer 3, walked: Shift, and the reference's. -/
import Derived.Test.YtnoognbnkopdnaaSpanAround
set_option linter.unusedVariables false
set_option linter.unusedSimpArgs false
namespace Go.Proofs.Ytnoognbnkopdnaa
open Go.RowKit Go.Proofs.YtnoognbnkopdnaaW.PrintWords Flt Math

set_option maxRecDepth 100000 in
set_option maxHeartbeats 2000000 in
theorem shift_low (s : Value) (X N B : Int) (p1 : Gives 16 #[s] (.tuple #[.int .i64 X, .int .i64 N])) (g1 : decide (B < -1099511627776) = true) : Gives 14 #[s, .int .i64 B] (.tuple #[.complex .f64 0 0, .int .i64 1]) := by
  intro W
  go_enter Try.func14, Try.ntmps14
  go_wp2_with fail
  refine (p1 _).mono ?_
  rintro e w1 ⟨rfl, rfl⟩
  go_wp2_with fail
  go_ret2
  exact ⟨rfl, rfl⟩
set_option maxRecDepth 100000 in
set_option maxHeartbeats 2000000 in
theorem shift_high (s : Value) (X N B : Int) (p1 : Gives 16 #[s] (.tuple #[.int .i64 X, .int .i64 N])) (g1 : decide (B < -1099511627776) = false) (g2 : decide (1099511627776 < B) = true) : Gives 14 #[s, .int .i64 B] (.tuple #[.complex .f64 0 0, .int .i64 1]) := by
  intro W
  go_enter Try.func14, Try.ntmps14
  go_wp2_with fail
  refine (p1 _).mono ?_
  rintro e w1 ⟨rfl, rfl⟩
  go_wp2_with fail
  go_ret2
  exact ⟨rfl, rfl⟩
set_option maxRecDepth 100000 in
set_option maxHeartbeats 2000000 in
theorem rshift_low (s : Value) (X N B : Int) (p1 : Gives 20 #[s] (.tuple #[.int .i64 X, .int .i64 N])) (g1 : decide (B < -1099511627776) = true) : Gives 22 #[s, .int .i64 B] (.tuple #[.complex .f64 0 0, .int .i64 1]) := by
  intro W
  go_enter Try.func22, Try.ntmps22
  go_wp2_with fail
  refine (p1 _).mono ?_
  rintro e w1 ⟨rfl, rfl⟩
  go_wp2_with fail
  go_ret2
  exact ⟨rfl, rfl⟩
set_option maxRecDepth 100000 in
set_option maxHeartbeats 2000000 in
theorem rshift_high (s : Value) (X N B : Int) (p1 : Gives 20 #[s] (.tuple #[.int .i64 X, .int .i64 N])) (g1 : decide (B < -1099511627776) = false) (g2 : decide (1099511627776 < B) = true) : Gives 22 #[s, .int .i64 B] (.tuple #[.complex .f64 0 0, .int .i64 1]) := by
  intro W
  go_enter Try.func22, Try.ntmps22
  go_wp2_with fail
  refine (p1 _).mono ?_
  rintro e w1 ⟨rfl, rfl⟩
  go_wp2_with fail
  go_ret2
  exact ⟨rfl, rfl⟩
set_option maxRecDepth 100000 in
set_option maxHeartbeats 2000000 in
theorem shift_in (s v : Value) (X N B E : Int) (p1 : Gives 16 #[s] (.tuple #[.int .i64 X, .int .i64 N])) (g1 : decide (B < -1099511627776) = false) (g2 : decide (1099511627776 < B) = false) (w1 : wrap64 (X + B) = X + B) (p2 : Gives 18 #[.int .i64 (X + B), .int .i64 N] (.tuple #[v, .int .i64 E])) : Gives 14 #[s, .int .i64 B] (.tuple #[v, .int .i64 E]) := by
  intro W
  go_enter Try.func14, Try.ntmps14
  go_wp2_with fail
  refine (p1 _).mono ?_
  rintro e w1 ⟨rfl, rfl⟩
  go_wp2_with fail
  refine (p2 _).mono ?_
  rintro e w1 ⟨rfl, rfl⟩
  go_wp2_with fail
  go_ret2
  exact ⟨rfl, rfl⟩
set_option maxRecDepth 100000 in
set_option maxHeartbeats 2000000 in
theorem rshift_neg (s : Value) (X N B : Int) (p1 : Gives 20 #[s] (.tuple #[.int .i64 X, .int .i64 N])) (g1 : decide (B < -1099511627776) = false) (g2 : decide (1099511627776 < B) = false) (w1 : wrap64 (X + B) = X + B) (g3 : decide (X + B < 0) = true) : Gives 22 #[s, .int .i64 B] (.tuple #[.complex .f64 0 0, .int .i64 1]) := by
  intro W
  go_enter Try.func22, Try.ntmps22
  go_wp2_with fail
  refine (p1 _).mono ?_
  rintro e w1 ⟨rfl, rfl⟩
  go_wp2_with fail
  go_ret2
  exact ⟨rfl, rfl⟩
set_option maxRecDepth 100000 in
set_option maxHeartbeats 2000000 in
theorem rshift_far (s : Value) (X N B : Int) (p1 : Gives 20 #[s] (.tuple #[.int .i64 X, .int .i64 N])) (g1 : decide (B < -1099511627776) = false) (g2 : decide (1099511627776 < B) = false) (w1 : wrap64 (X + B) = X + B) (g3 : decide (X + B < 0) = false) (w2 : wrap64 (1099511627776 - N) = 1099511627776 - N) (g4 : decide (1099511627776 - N < X + B) = true) : Gives 22 #[s, .int .i64 B] (.tuple #[.complex .f64 0 0, .int .i64 1]) := by
  intro W
  go_enter Try.func22, Try.ntmps22
  go_wp2_with fail
  refine (p1 _).mono ?_
  rintro e w1 ⟨rfl, rfl⟩
  go_wp2_with fail
  go_ret2
  exact ⟨rfl, rfl⟩
set_option maxRecDepth 100000 in
set_option maxHeartbeats 2000000 in
theorem rshift_in (s v : Value) (X N B : Int) (p1 : Gives 20 #[s] (.tuple #[.int .i64 X, .int .i64 N])) (g1 : decide (B < -1099511627776) = false) (g2 : decide (1099511627776 < B) = false) (w1 : wrap64 (X + B) = X + B) (g3 : decide (X + B < 0) = false) (w2 : wrap64 (1099511627776 - N) = 1099511627776 - N) (g4 : decide (1099511627776 - N < X + B) = false) (p2 : Gives 32 #[.int .i64 (X + B), .int .i64 N] v) : Gives 22 #[s, .int .i64 B] (.tuple #[v, .int .i64 0]) := by
  intro W
  go_enter Try.func22, Try.ntmps22
  go_wp2_with fail
  refine (p1 _).mono ?_
  rintro e w1 ⟨rfl, rfl⟩
  go_wp2_with fail
  refine (p2 _).mono ?_
  rintro e w1 ⟨rfl, rfl⟩
  go_wp2_with fail
  go_ret2
  exact ⟨rfl, rfl⟩
def ShiftOk (x n : Nat) (b : Int) : Prop := -1099511627776 ≤ b ∧ b ≤ 1099511627776 ∧ 0 ≤ (x : Int) + b ∧ (x : Int) + b ≤ 1099511627776 - (n : Int)
theorem shift_good (x n : Nat) (h : x + n ≤ 1099511627776) (b : Int) (y : Nat) (hok : ShiftOk x n b) (hy : (y : Int) = (x : Int) + b) : Gives 14 #[sp x n, .int .i64 b] (.tuple #[sp y n, .int .i64 0]) ∧ Gives 22 #[sp x n, .int .i64 b] (.tuple #[sp y n, .int .i64 0]) := by
  unfold ShiftOk at hok
  have o := of_good y n (by omega)
  rw [hy] at o
  refine ⟨shift_in _ _ _ _ _ _ (parts_good x n h).1 (decide_eq_false (by omega)) (decide_eq_false (by omega)) (w64 (by omega) (by omega)) o.1, ?_⟩
  exact rshift_in _ _ _ _ _ (parts_good x n h).2 (decide_eq_false (by omega)) (decide_eq_false (by omega)) (w64 (by omega) (by omega)) (decide_eq_false (by omega)) (w64 (by omega) (by omega)) (decide_eq_false (by omega)) o.2.2
theorem shift_bad (x n : Nat) (h : x + n ≤ 1099511627776) (b : Int) (hok : ¬ ShiftOk x n b) : Gives 14 #[sp x n, .int .i64 b] (.tuple #[sp 0 0, .int .i64 1]) ∧ Gives 22 #[sp x n, .int .i64 b] (.tuple #[sp 0 0, .int .i64 1]) := by
  rw [sp_zero]
  unfold ShiftOk at hok
  have q := parts_good x n h
  by_cases c1 : b < -1099511627776
  · exact ⟨shift_low _ _ _ _ q.1 (decide_eq_true c1), rshift_low _ _ _ _ q.2 (decide_eq_true c1)⟩
  · have d1 : decide (b < -1099511627776) = false := decide_eq_false c1
    by_cases c2 : 1099511627776 < b
    · exact ⟨shift_high _ _ _ _ q.1 d1 (decide_eq_true c2), rshift_high _ _ _ _ q.2 d1 (decide_eq_true c2)⟩
    · have d2 : decide (1099511627776 < b) = false := decide_eq_false c2
      have w1 : wrap64 ((x : Int) + b) = (x : Int) + b := w64 (by omega) (by omega)
      refine ⟨shift_in _ _ _ _ _ _ q.1 d1 d2 w1 (of_bad _ _ (by unfold Good; omega)).1, ?_⟩
      by_cases c3 : (x : Int) + b < 0
      · exact rshift_neg _ _ _ _ q.2 d1 d2 w1 (decide_eq_true c3)
      · exact rshift_far _ _ _ _ q.2 d1 d2 w1 (decide_eq_false c3) (w64 (by omega) (by omega)) (decide_eq_true (by omega))
end Go.Proofs.Ytnoognbnkopdnaa
