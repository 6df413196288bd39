/- Layer 3, walked: Of, Parts, Both, Around, Shift of right spans. -/
import Derived.Test.YtnoognbnkopdnaaSpanB
set_option linter.unusedVariables false
set_option linter.unusedSimpArgs false
namespace Go.Proofs.Ytnoognbnkopdnaa
open Go.RowKit Go.Proofs.YtnoognbnkopdnaaW.PrintWords Flt Math

def Good (x n : Int) : Prop := 0 ≤ x ∧ x ≤ 1099511627776 ∧ 0 ≤ n ∧ n ≤ 1099511627776 - x
set_option maxRecDepth 100000 in
set_option maxHeartbeats 1000000 in
theorem of_bad (x n : Int) (h : ¬ Good x n) : Gives 18 #[.int .i64 x, .int .i64 n] (.tuple #[.complex .f64 0 0, .int .i64 1]) ∧ Gives 19 #[.int .i64 x, .int .i64 n] (.tuple #[.complex .f64 0 0, .int .i64 1]) := by
  unfold Good at h
  by_cases h1 : x < 0
  · have g1 : decide (x < 0) = true := decide_eq_true h1
    clear h h1
    constructor <;> intro W
    · go_enter Try.func18, Try.ntmps18
      go_wp2
      go_ret2
      exact ⟨rfl, rfl⟩
    · go_enter Try.func19, Try.ntmps19
      go_wp2
      go_ret2
      exact ⟨rfl, rfl⟩
  · have g1 : decide (x < 0) = false := decide_eq_false h1
    by_cases h2 : 1099511627776 < x
    · have g2 : decide (1099511627776 < x) = true := decide_eq_true h2
      clear h h1 h2
      constructor <;> intro W
      · go_enter Try.func18, Try.ntmps18
        go_wp2
        go_ret2
        exact ⟨rfl, rfl⟩
      · go_enter Try.func19, Try.ntmps19
        go_wp2
        go_ret2
        exact ⟨rfl, rfl⟩
    · have g2 : decide (1099511627776 < x) = false := decide_eq_false h2
      by_cases h3 : n < 0
      · have g3 : decide (n < 0) = true := decide_eq_true h3
        clear h h1 h2 h3
        constructor <;> intro W
        · go_enter Try.func18, Try.ntmps18
          go_wp2
          go_ret2
          exact ⟨rfl, rfl⟩
        · go_enter Try.func19, Try.ntmps19
          go_wp2
          go_ret2
          exact ⟨rfl, rfl⟩
      · have g3 : decide (n < 0) = false := decide_eq_false h3
        have g4 : wrap64 (1099511627776 - x) = 1099511627776 - x := w64 (by omega) (by omega)
        have g5 : decide (1099511627776 - x < n) = true := decide_eq_true (by omega)
        clear h h1 h2 h3
        constructor <;> intro W
        · go_enter Try.func18, Try.ntmps18
          go_wp2
          go_ret2
          exact ⟨rfl, rfl⟩
        · go_enter Try.func19, Try.ntmps19
          go_wp2
          go_ret2
          exact ⟨rfl, rfl⟩
set_option maxRecDepth 100000 in
set_option maxHeartbeats 1000000 in
theorem of_good (x n : Nat) (h : x + n ≤ 1099511627776) : Gives 18 #[.int .i64 x, .int .i64 n] (.tuple #[sp x n, .int .i64 0]) ∧ Gives 19 #[.int .i64 x, .int .i64 n] (.tuple #[sp x n, .int .i64 0]) ∧ Gives 32 #[.int .i64 x, .int .i64 n] (sp x n) := by
  have g1 : decide ((x : Int) < 0) = false := decide_eq_false (by omega)
  have g2 : decide (1099511627776 < (x : Int)) = false := decide_eq_false (by omega)
  have g3 : decide ((n : Int) < 0) = false := decide_eq_false (by omega)
  have g4 : wrap64 (1099511627776 - (x : Int)) = 1099511627776 - (x : Int) := w64 (by omega) (by omega)
  have g5 : decide (1099511627776 - (x : Int) < (n : Int)) = false := decide_eq_false (by omega)
  have k1 := conv_if x
  have k2 := conv_if n
  unfold sp
  clear h
  generalize fb x = fx at *
  generalize fb n = fn at *
  refine ⟨?_, ?_, ?_⟩ <;> intro W
  · go_enter Try.func18, Try.ntmps18
    go_wp2
    go_ret2
    exact ⟨rfl, rfl⟩
  · go_enter Try.func19, Try.ntmps19
    go_wp2
    go_ret2
    exact ⟨rfl, rfl⟩
  · go_enter Try.func32, Try.ntmps32
    go_wp2
    go_ret
    exact ⟨rfl, rfl⟩
theorem part_good (n : Nat) (h : n ≤ 1099511627776) : Gives 31 #[.float .f64 (fb n)] (.int .i64 (n : Int)) := by
  rcases whole_part (fb n) with ⟨a, ha, va, wa, pa⟩ | ⟨wa, pa, na⟩
  · obtain rfl := Val.inj va (val_fb n (by omega))
    exact pa
  · exact absurd (val_fb n (by omega)) (na n h)
set_option maxRecDepth 100000 in
set_option maxHeartbeats 1000000 in
theorem parts_good (x n : Nat) (h : x + n ≤ 1099511627776) : Gives 16 #[sp x n] (.tuple #[.int .i64 x, .int .i64 n]) ∧ Gives 20 #[sp x n] (.tuple #[.int .i64 x, .int .i64 n]) := by
  have k1 := conv_fi (toInt_val (val_fb x (by omega))) (by omega) (by omega)
  have k2 := conv_fi (toInt_val (val_fb n (by omega))) (by omega) (by omega)
  have p1 := part_good x (by omega)
  have p2 := part_good n (by omega)
  unfold sp
  clear h
  generalize fb x = fx at *
  generalize fb n = fn at *
  constructor <;> intro W
  · clear p1 p2
    go_enter Try.func16, Try.ntmps16
    go_wp2
    go_ret2
    exact ⟨rfl, rfl⟩
  · clear k1 k2
    go_enter Try.func20, Try.ntmps20
    go_wp2_with fail
    refine (p1 _).mono ?_
    rintro e w1 ⟨rfl, rfl⟩
    go_wp2_with fail
    refine (p2 _).mono ?_
    rintro e w1 ⟨rfl, rfl⟩
    go_wp2_with fail
    go_ret2
    exact ⟨rfl, rfl⟩
theorem end_good (x n : Nat) (h : x + n ≤ 1099511627776) : Gives 30 #[sp x n] (.float .f64 (fb (x + n))) := end_any (val_fb x (by omega)) (val_fb n (by omega)) (by omega)
/-- What two spans both have. -/
def bothV (x n y m : Nat) : Value × Bool := if min (x + n) (y + m) ≤ max x y then (.complex .f64 0 0, false) else (sp (max x y) (min (x + n) (y + m) - max x y), true)
set_option maxRecDepth 100000 in
set_option maxHeartbeats 2000000 in
theorem both_good (x n y m : Nat) (h : x + n ≤ 1099511627776) (h2 : y + m ≤ 1099511627776) : Gives 15 #[sp x n, sp y m] (.tuple #[(bothV x n y m).1, .bool (bothV x n y m).2]) := by
  have e1 := end_good x n h
  have e2 := end_good y m h2
  have k1 := fun W ts t => run_max_fb (P := Try.prog) W ts t x y (by omega) (by omega)
  have k2 := fun W ts t => run_min_fb (P := Try.prog) W ts t (x + n) (y + m) (by omega) (by omega)
  have ho := order_fb2 (max x y) (min (x + n) (y + m)) (by omega) (by omega)
  intro W
  unfold bothV
  by_cases hc : min (x + n) (y + m) ≤ max x y
  · rw [if_pos hc]
    obtain ⟨o, ho2, ho3⟩ : ∃ o, compare (max x y) (min (x + n) (y + m)) = o ∧ o ≠ .lt := ⟨_, rfl, fun h' => by have := Nat.compare_eq_lt.1 h'; omega⟩
    rw [ho2] at ho
    clear ho2 hc
    unfold sp at *
    generalize fb (max x y) = f1 at *
    generalize fb (min (x + n) (y + m)) = f2 at *
    go_enter Try.func15, Try.ntmps15
    go_wp2_with fail
    refine (e1 _).mono ?_
    rintro e w1 ⟨rfl, rfl⟩
    go_wp2_with fail
    refine (e2 _).mono ?_
    rintro e w1 ⟨rfl, rfl⟩
    clear e1 e2 h h2
    cases o <;> first | exact absurd rfl ho3 | skip
    all_goals
      go_wp2_with fail
      go_ret2
      exact ⟨rfl, rfl⟩
  · rw [if_neg hc]
    rw [Nat.compare_eq_lt.2 (by omega)] at ho
    have k3 := run_sub_fb (P := Try.prog) 25 (min (x + n) (y + m)) (max x y) (by omega) (by omega)
    clear hc
    unfold sp at *
    generalize fb (max x y) = f1 at *
    generalize fb (min (x + n) (y + m) - max x y) = f3 at *
    generalize fb (min (x + n) (y + m)) = f2 at *
    go_enter Try.func15, Try.ntmps15
    go_wp2_with fail
    refine (e1 _).mono ?_
    rintro e w1 ⟨rfl, rfl⟩
    go_wp2_with fail
    refine (e2 _).mono ?_
    rintro e w1 ⟨rfl, rfl⟩
    clear e1 e2 h h2
    go_wp2_with fail
    go_ret2
    exact ⟨rfl, rfl⟩
end Go.Proofs.Ytnoognbnkopdnaa
