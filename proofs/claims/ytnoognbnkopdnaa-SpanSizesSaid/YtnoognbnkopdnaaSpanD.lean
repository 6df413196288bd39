/- Layer 3, walked: Around, Shift, given, and the reference's Both, Around, Shift, of right spans. -/
import Derived.Test.YtnoognbnkopdnaaSpanC
set_option linter.unusedVariables false
set_option linter.unusedSimpArgs false
namespace Go.Proofs.Ytnoognbnkopdnaa
open Go.RowKit Go.Proofs.YtnoognbnkopdnaaW.PrintWords Flt Math

theorem sp_zero : sp 0 0 = .complex .f64 0 0 := rfl
theorem order_nought (n : Nat) (h : n < 2 ^ 53) : FloatKind.f64.format.order (fb n) 0 = some (if n = 0 then .eq else .gt) := by
  have h2 := order_fb2 n 0 h (by decide)
  rw [fb_zero] at h2
  rw [h2]
  by_cases hn : n = 0
  · rw [if_pos hn, Nat.compare_eq_eq.2 hn]
  · rw [if_neg hn, Nat.compare_eq_gt.2 (by omega)]
theorem made_int (f m : Int) (F M : Nat) (hf : f = F) (hm : m = M) (h : F + M ≤ 1099511627776) : Gives 32 #[.int .i64 f, .int .i64 m] (sp F M) := by
  subst hf hm
  exact (of_good F M h).2.2
/-- What is around two spans. -/
def aroundX (x n y m : Nat) : Nat := if m = 0 then x else if n = 0 then y else min x y
def aroundN (x n y m : Nat) : Nat := if m = 0 then n else if n = 0 then m else max (x + n) (y + m) - min x y
theorem around_ok (x n y m : Nat) (h : x + n ≤ 1099511627776) (h2 : y + m ≤ 1099511627776) : aroundX x n y m + aroundN x n y m ≤ 1099511627776 := by
  unfold aroundX aroundN
  split
  · exact h
  · split
    · exact h2
    · omega
set_option maxRecDepth 100000 in
set_option maxHeartbeats 2000000 in
theorem around_good (x n y m : Nat) (h : x + n ≤ 1099511627776) (h2 : y + m ≤ 1099511627776) : Gives 17 #[sp x n, sp y m] (sp (aroundX x n y m) (aroundN x n y m)) := by
  intro W
  have o1 := order_nought m (by omega)
  have o2 := order_nought n (by omega)
  unfold aroundX aroundN
  by_cases hm : m = 0
  · rw [if_pos hm, if_pos hm]
    rw [if_pos hm] at o1
    clear o2 h h2 hm
    unfold sp
    generalize fb x = fx at *
    generalize fb n = fn at *
    generalize fb y = fy at *
    generalize fb m = fm at *
    go_enter Try.func17, Try.ntmps17
    go_wp2
    go_ret
    exact ⟨rfl, rfl⟩
  · rw [if_neg hm, if_neg hm]
    rw [if_neg hm] at o1
    by_cases hn : n = 0
    · rw [if_pos hn, if_pos hn]
      rw [if_pos hn] at o2
      clear h h2 hm hn
      unfold sp
      generalize fb x = fx at *
      generalize fb n = fn at *
      generalize fb y = fy at *
      generalize fb m = fm at *
      go_enter Try.func17, Try.ntmps17
      go_wp2
      go_ret
      exact ⟨rfl, rfl⟩
    · rw [if_neg hn, if_neg hn]
      rw [if_neg hn] at o2
      have e1 := end_good x n h
      have e2 := end_good y m h2
      have k1 := fun W ts t => run_min_fb (P := Try.prog) W ts t x y (by omega) (by omega)
      have k2 := fun W ts t => run_max_fb (P := Try.prog) W ts t (x + n) (y + m) (by omega) (by omega)
      have k3 := run_sub_fb (P := Try.prog) 25 (max (x + n) (y + m)) (min x y) (by omega) (by omega)
      clear h h2 hm hn
      unfold sp at *
      generalize fb (max (x + n) (y + m) - min x y) = f3 at *
      generalize fb (max (x + n) (y + m)) = f2 at *
      generalize fb (min x y) = f1 at *
      generalize fb (x + n) = f4 at *
      generalize fb (y + m) = f5 at *
      generalize fb x = fx at *
      generalize fb n = fn at *
      generalize fb y = fy at *
      generalize fb m = fm at *
      go_enter Try.func17, Try.ntmps17
      go_wp2_with fail
      refine (e1 _).mono ?_
      rintro e w1 ⟨rfl, rfl⟩
      go_wp2_with fail
      refine (e2 _).mono ?_
      rintro e w1 ⟨rfl, rfl⟩
      go_wp2_with fail
      go_ret
      exact ⟨rfl, rfl⟩
set_option maxRecDepth 100000 in
set_option maxHeartbeats 4000000 in
theorem ref_both_no (s1 s2 : Value) (X N Y M : Int) (p1 : Gives 20 #[s1] (.tuple #[.int .i64 X, .int .i64 N])) (p2 : Gives 20 #[s2] (.tuple #[.int .i64 Y, .int .i64 M]))
    (w1 : wrap64 (X + N) = X + N) (w2 : wrap64 (Y + M) = Y + M) (b1 b2 : Bool) (g1 : decide (X < Y) = b1) (g2 : decide (Y + M < X + N) = b2) (g3 : decide ((if b2 = true then Y + M else X + N) ≤ (if b1 = true then Y else X)) = true) :
    Gives 21 #[s1, s2] (.tuple #[.complex .f64 0 0, .bool false]) := by
  intro W
  have hp1 := Lib.hid p1
  have hp2 := Lib.hid p2
  clear p1 p2
  cases b1 <;> cases b2
  all_goals
    simp only [if_true, if_false, Bool.false_eq_true] at g3
    go_enter Try.func21, Try.ntmps21
    go_wp2_with fail
    refine (hp1.out _).mono ?_
    rintro e w1 ⟨rfl, rfl⟩
    go_wp2_with fail
    refine (hp2.out _).mono ?_
    rintro e w1 ⟨rfl, rfl⟩
    go_wp2_with fail
    go_ret2
    exact ⟨rfl, rfl⟩
set_option maxRecDepth 100000 in
set_option maxHeartbeats 4000000 in
theorem ref_both_yes (s1 s2 v : Value) (X N Y M : Int) (p1 : Gives 20 #[s1] (.tuple #[.int .i64 X, .int .i64 N])) (p2 : Gives 20 #[s2] (.tuple #[.int .i64 Y, .int .i64 M]))
    (w1 : wrap64 (X + N) = X + N) (w2 : wrap64 (Y + M) = Y + M) (b1 b2 : Bool) (g1 : decide (X < Y) = b1) (g2 : decide (Y + M < X + N) = b2) (g3 : decide ((if b2 = true then Y + M else X + N) ≤ (if b1 = true then Y else X)) = false)
    (D : Int) (w3 : wrap64 ((if b2 = true then Y + M else X + N) - (if b1 = true then Y else X)) = D) (p3 : Gives 32 #[.int .i64 (if b1 = true then Y else X), .int .i64 D] v) :
    Gives 21 #[s1, s2] (.tuple #[v, .bool true]) := by
  intro W
  have hp1 := Lib.hid p1
  have hp2 := Lib.hid p2
  clear p1 p2
  cases b1 <;> cases b2
  all_goals
    simp only [if_true, if_false, Bool.false_eq_true] at g3 w3 p3
    have hp3 := Lib.hid p3
    clear p3
    go_enter Try.func21, Try.ntmps21
    go_wp2_with fail
    refine (hp1.out _).mono ?_
    rintro e w1 ⟨rfl, rfl⟩
    go_wp2_with fail
    refine (hp2.out _).mono ?_
    rintro e w1 ⟨rfl, rfl⟩
    go_wp2_with fail
    refine (hp3.out _).mono ?_
    rintro e w1 ⟨rfl, rfl⟩
    go_wp2_with fail
    go_ret2
    exact ⟨rfl, rfl⟩
theorem max_if (x y : Nat) : (if decide ((x : Int) < (y : Int)) = true then (y : Int) else (x : Int)) = ((max x y : Nat) : Int) := by
  by_cases h : (x : Int) < (y : Int)
  · rw [if_pos (decide_eq_true h)]; omega
  · rw [if_neg (by rw [decide_eq_false h]; decide)]; omega
theorem min_if (x n y m : Nat) : (if decide ((y : Int) + (m : Int) < (x : Int) + (n : Int)) = true then (y : Int) + (m : Int) else (x : Int) + (n : Int)) = ((min (x + n) (y + m) : Nat) : Int) := by
  by_cases h : (y : Int) + (m : Int) < (x : Int) + (n : Int)
  · rw [if_pos (decide_eq_true h)]; omega
  · rw [if_neg (by rw [decide_eq_false h]; decide)]; omega
theorem ref_both_good (x n y m : Nat) (h : x + n ≤ 1099511627776) (h2 : y + m ≤ 1099511627776) : Gives 21 #[sp x n, sp y m] (.tuple #[(bothV x n y m).1, .bool (bothV x n y m).2]) := by
  have p1 := (parts_good x n h).2
  have p2 := (parts_good y m h2).2
  have w1 : wrap64 ((x : Int) + (n : Int)) = (x : Int) + (n : Int) := w64 (by omega) (by omega)
  have w2 : wrap64 ((y : Int) + (m : Int)) = (y : Int) + (m : Int) := w64 (by omega) (by omega)
  unfold bothV
  by_cases hc : min (x + n) (y + m) ≤ max x y
  · rw [if_pos hc]
    exact ref_both_no _ _ _ _ _ _ p1 p2 w1 w2 _ _ rfl rfl (by rw [max_if, min_if]; exact decide_eq_true (by omega))
  · rw [if_neg hc]
    refine ref_both_yes _ _ _ _ _ _ _ p1 p2 w1 w2 _ _ rfl rfl (by rw [max_if, min_if]; exact decide_eq_false (by omega)) _ rfl ?_
    rw [max_if, min_if, w64 (by omega) (by omega)]
    exact made_int _ _ _ _ rfl (by omega) (by omega)
set_option maxRecDepth 100000 in
set_option maxHeartbeats 4000000 in
theorem ref_around_in (s1 s2 : Value) (X N Y M : Int) (p1 : Gives 20 #[s1] (.tuple #[.int .i64 X, .int .i64 N])) (p2 : Gives 20 #[s2] (.tuple #[.int .i64 Y, .int .i64 M])) (g0 : (M == 0) = true) :
    Gives 23 #[s1, s2] s1 := by
  intro W
  have hp1 := Lib.hid p1
  have hp2 := Lib.hid p2
  clear p1 p2
  go_enter Try.func23, Try.ntmps23
  go_wp2_with fail
  refine (hp1.out _).mono ?_
  rintro e w1 ⟨rfl, rfl⟩
  go_wp2_with fail
  refine (hp2.out _).mono ?_
  rintro e w1 ⟨rfl, rfl⟩
  go_wp2_with fail
  go_ret
  exact ⟨rfl, rfl⟩
set_option maxRecDepth 100000 in
set_option maxHeartbeats 4000000 in
theorem ref_around_out (s1 s2 : Value) (X N Y M : Int) (p1 : Gives 20 #[s1] (.tuple #[.int .i64 X, .int .i64 N])) (p2 : Gives 20 #[s2] (.tuple #[.int .i64 Y, .int .i64 M])) (g0 : (M == 0) = false) (g1 : (N == 0) = true) :
    Gives 23 #[s1, s2] s2 := by
  intro W
  have hp1 := Lib.hid p1
  have hp2 := Lib.hid p2
  clear p1 p2
  go_enter Try.func23, Try.ntmps23
  go_wp2_with fail
  refine (hp1.out _).mono ?_
  rintro e w1 ⟨rfl, rfl⟩
  go_wp2_with fail
  refine (hp2.out _).mono ?_
  rintro e w1 ⟨rfl, rfl⟩
  go_wp2_with fail
  go_ret
  exact ⟨rfl, rfl⟩
set_option maxRecDepth 100000 in
set_option maxHeartbeats 4000000 in
theorem ref_around_all (s1 s2 v : Value) (X N Y M : Int) (p1 : Gives 20 #[s1] (.tuple #[.int .i64 X, .int .i64 N])) (p2 : Gives 20 #[s2] (.tuple #[.int .i64 Y, .int .i64 M])) (g0 : (M == 0) = false) (g00 : (N == 0) = false)
    (w1 : wrap64 (X + N) = X + N) (w2 : wrap64 (Y + M) = Y + M) (b1 b2 : Bool) (g1 : decide (Y < X) = b1) (g2 : decide (X + N < Y + M) = b2)
    (D : Int) (w3 : wrap64 ((if b2 = true then Y + M else X + N) - (if b1 = true then Y else X)) = D) (p3 : Gives 32 #[.int .i64 (if b1 = true then Y else X), .int .i64 D] v) :
    Gives 23 #[s1, s2] v := by
  intro W
  have hp1 := Lib.hid p1
  have hp2 := Lib.hid p2
  clear p1 p2
  cases b1 <;> cases b2
  all_goals
    simp only [if_true, if_false, Bool.false_eq_true] at w3 p3
    have hp3 := Lib.hid p3
    clear p3
    go_enter Try.func23, Try.ntmps23
    go_wp2_with fail
    refine (hp1.out _).mono ?_
    rintro e w1 ⟨rfl, rfl⟩
    go_wp2_with fail
    refine (hp2.out _).mono ?_
    rintro e w1 ⟨rfl, rfl⟩
    go_wp2_with fail
    refine (hp3.out _).mono ?_
    rintro e w1 ⟨rfl, rfl⟩
    go_wp2_with fail
    go_ret
    exact ⟨rfl, rfl⟩
theorem min_if2 (x y : Nat) : (if decide ((y : Int) < (x : Int)) = true then (y : Int) else (x : Int)) = ((min x y : Nat) : Int) := by
  by_cases h : (y : Int) < (x : Int)
  · rw [if_pos (decide_eq_true h)]; omega
  · rw [if_neg (by rw [decide_eq_false h]; decide)]; omega
theorem max_if2 (x n y m : Nat) : (if decide ((x : Int) + (n : Int) < (y : Int) + (m : Int)) = true then (y : Int) + (m : Int) else (x : Int) + (n : Int)) = ((max (x + n) (y + m) : Nat) : Int) := by
  by_cases h : (x : Int) + (n : Int) < (y : Int) + (m : Int)
  · rw [if_pos (decide_eq_true h)]; omega
  · rw [if_neg (by rw [decide_eq_false h]; decide)]; omega
theorem ref_around_good (x n y m : Nat) (h : x + n ≤ 1099511627776) (h2 : y + m ≤ 1099511627776) : Gives 23 #[sp x n, sp y m] (sp (aroundX x n y m) (aroundN x n y m)) := by
  have p1 := (parts_good x n h).2
  have p2 := (parts_good y m h2).2
  have w1 : wrap64 ((x : Int) + (n : Int)) = (x : Int) + (n : Int) := w64 (by omega) (by omega)
  have w2 : wrap64 ((y : Int) + (m : Int)) = (y : Int) + (m : Int) := w64 (by omega) (by omega)
  unfold aroundX aroundN
  by_cases hm : m = 0
  · rw [if_pos hm, if_pos hm]
    exact ref_around_in _ _ _ _ _ _ p1 p2 (by rw [beq_iff_eq]; omega)
  · rw [if_neg hm, if_neg hm]
    have g0 : ((m : Int) == 0) = false := by rw [beq_eq_false_iff_ne]; omega
    by_cases hn : n = 0
    · rw [if_pos hn, if_pos hn]
      exact ref_around_out _ _ _ _ _ _ p1 p2 g0 (by rw [beq_iff_eq]; omega)
    · rw [if_neg hn, if_neg hn]
      refine ref_around_all _ _ _ _ _ _ _ p1 p2 g0 (by rw [beq_eq_false_iff_ne]; omega) w1 w2 _ _ rfl rfl _ rfl ?_
      rw [min_if2, max_if2, w64 (by omega) (by omega)]
      exact made_int _ _ _ _ rfl (by omega) (by omega)
end Go.Proofs.Ytnoognbnkopdnaa
