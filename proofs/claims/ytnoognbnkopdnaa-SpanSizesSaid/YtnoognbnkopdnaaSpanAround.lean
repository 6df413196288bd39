/- SpanAround, walked. -/
import Derived.Test.YtnoognbnkopdnaaSpanD
import Derived.Test.YtnoognbnkopdnaaSpanRights
set_option linter.unusedVariables false
set_option linter.unusedSimpArgs false
namespace Go.Proofs.Ytnoognbnkopdnaa
open Go.RowKit Go.Proofs.YtnoognbnkopdnaaW.PrintWords Flt Math

/-- A given span: of the two numbers, if they may be; else the empty one. -/
def givX (x n : Int) : Nat := if 0 ≤ x ∧ x ≤ 1099511627776 ∧ 0 ≤ n ∧ n ≤ 1099511627776 - x then x.toNat else 0
def givN (x n : Int) : Nat := if 0 ≤ x ∧ x ≤ 1099511627776 ∧ 0 ≤ n ∧ n ≤ 1099511627776 - x then n.toNat else 0
theorem giv_ok (x n : Int) : givX x n + givN x n ≤ 1099511627776 := by unfold givX givN; split <;> omega
set_option maxRecDepth 100000 in
set_option maxHeartbeats 1000000 in
theorem given_gives (x n : Int) : Gives 13 #[.int .i64 x, .int .i64 n] (sp (givX x n) (givN x n)) := by
  unfold givX givN
  by_cases h : 0 ≤ x ∧ x ≤ 1099511627776 ∧ 0 ≤ n ∧ n ≤ 1099511627776 - x
  · rw [if_pos h, if_pos h]
    obtain ⟨a, rfl⟩ := Int.eq_ofNat_of_zero_le h.1
    obtain ⟨b, rfl⟩ := Int.eq_ofNat_of_zero_le h.2.2.1
    have o := (of_good a b (by omega)).2.1
    simp only [Int.toNat_natCast]
    intro W
    generalize sp a b = v at *
    generalize (a : Int) = a at *
    generalize (b : Int) = b at *
    clear h
    go_enter Try.func13, Try.ntmps13
    go_wp2_with fail
    refine (o _).mono ?_
    rintro e w1 ⟨rfl, rfl⟩
    go_wp2_with fail
    go_ret
    exact ⟨rfl, rfl⟩
  · rw [if_neg h, if_neg h, sp_zero]
    have o := (of_bad x n h).2
    intro W
    clear h
    go_enter Try.func13, Try.ntmps13
    go_wp2_with fail
    refine (o _).mono ?_
    rintro e w1 ⟨rfl, rfl⟩
    go_wp2_with fail
    go_ret
    exact ⟨rfl, rfl⟩
/-- Two right spans that are the same compare as the same. -/
theorem around_self (x n : Nat) : aroundX x n x n = x ∧ aroundN x n x n = n := by
  unfold aroundX aroundN
  by_cases h : n = 0
  · subst h; exact ⟨rfl, rfl⟩
  · rw [if_neg h, if_neg h, if_neg h, if_neg h]; omega
theorem around_comm (x n y m : Nat) (hn : n ≠ 0) (hm : m ≠ 0) : aroundX x n y m = aroundX y m x n ∧ aroundN x n y m = aroundN y m x n := by
  unfold aroundX aroundN
  rw [if_neg hm, if_neg hm, if_neg hn, if_neg hn, if_neg hn, if_neg hn, if_neg hm, if_neg hm]; omega
theorem right_good (x n : Nat) (h : x + n ≤ 1099511627776) : Gives 11 #[sp x n] (.bool true) := by
  obtain ⟨b, h1, h2, h3⟩ := right_same (fb x) (fb n)
  have := h3 x n h (val_fb x (by omega)) (val_fb n (by omega))
  subst this
  exact h1
theorem order_self (a : Nat) (h : a ≤ 1099511627776) : FloatKind.f64.format.order (fb a) (fb a) = some .eq := order_eq (by omega) rfl
set_option maxRecDepth 100000 in
set_option maxHeartbeats 4000000 in
theorem span_around_calls (a b c d : Int) (w : World) : Calls Try.prog 5 #[.agg #[.int .i64 a, .int .i64 b], .agg #[.int .i64 c, .int .i64 d]] w fun e w' => e = .returned (.bool true) ∧ Below w.heap.size w w' := by
  have s0 := shown_gives
  have g1 := given_gives a b
  have g2 := given_gives c d
  have k1 := giv_ok a b
  have k2 := giv_ok c d
  generalize givX a b = x at *
  generalize givN a b = n at *
  generalize givX c d = y at *
  generalize givN c d = m at *
  have r1 := around_good x n x n k1 k1
  rw [(around_self x n).1, (around_self x n).2] at r1
  have r2 := around_good x n y m k1 k2
  have r3 := around_good y m x n k2 k1
  have q := right_good _ _ (around_ok x n y m k1 k2)
  have kk := around_ok x n y m k1 k2
  have o1 := order_nought n (by omega)
  have o2 := order_nought m (by omega)
  have z1 := order_self x (by omega)
  have z2 := order_self n (by omega)
  have z3 := order_self (aroundX x n y m) (by omega)
  have z4 := order_self (aroundN x n y m) (by omega)
  by_cases hn : n = 0
  · rw [if_pos hn] at o1
    clear r3 o2 z3 z4 k1 k2 kk hn
    unfold sp at *
    generalize fb (aroundX x n y m) = fax at *
    generalize fb (aroundN x n y m) = fan at *
    generalize fb x = fx at *
    generalize fb n = fn at *
    generalize fb y = fy at *
    generalize fb m = fm at *
    go_enter Try.func5, Try.ntmps5
    go_wp2_with fail
    refine (s0 _).mono ?_
    rintro e w1 ⟨rfl, rfl⟩
    go_wp2_with fail
    refine (g1 _).mono ?_
    rintro e w1 ⟨rfl, rfl⟩
    go_wp2_with fail
    refine (g2 _).mono ?_
    rintro e w1 ⟨rfl, rfl⟩
    go_wp2_with fail
    refine (r1 _).mono ?_
    rintro e w1 ⟨rfl, rfl⟩
    go_wp2_with fail
    refine (r2 _).mono ?_
    rintro e w1 ⟨rfl, rfl⟩
    go_wp2_with fail
    refine (q _).mono ?_
    rintro e w1 ⟨rfl, rfl⟩
    go_wp2_with fail
    go_ret
    exact ⟨rfl, rights_alloc (rights_alloc (Below.refl _ _))⟩
  · rw [if_neg hn] at o1
    by_cases hm : m = 0
    · rw [if_pos hm] at o2
      clear r3 z3 z4 k1 k2 kk hn hm
      unfold sp at *
      generalize fb (aroundX x n y m) = fax at *
      generalize fb (aroundN x n y m) = fan at *
      generalize fb x = fx at *
      generalize fb n = fn at *
      generalize fb y = fy at *
      generalize fb m = fm at *
      go_enter Try.func5, Try.ntmps5
      go_wp2_with fail
      refine (s0 _).mono ?_
      rintro e w1 ⟨rfl, rfl⟩
      go_wp2_with fail
      refine (g1 _).mono ?_
      rintro e w1 ⟨rfl, rfl⟩
      go_wp2_with fail
      refine (g2 _).mono ?_
      rintro e w1 ⟨rfl, rfl⟩
      go_wp2_with fail
      refine (r1 _).mono ?_
      rintro e w1 ⟨rfl, rfl⟩
      go_wp2_with fail
      refine (r2 _).mono ?_
      rintro e w1 ⟨rfl, rfl⟩
      go_wp2_with fail
      refine (q _).mono ?_
      rintro e w1 ⟨rfl, rfl⟩
      go_wp2_with fail
      go_ret
      exact ⟨rfl, rights_alloc (rights_alloc (Below.refl _ _))⟩
    · rw [if_neg hm] at o2
      rw [← (around_comm x n y m hn hm).1, ← (around_comm x n y m hn hm).2] at r3
      clear k1 k2 kk hn hm
      unfold sp at *
      generalize fb (aroundX x n y m) = fax at *
      generalize fb (aroundN x n y m) = fan at *
      generalize fb x = fx at *
      generalize fb n = fn at *
      generalize fb y = fy at *
      generalize fb m = fm at *
      go_enter Try.func5, Try.ntmps5
      go_wp2_with fail
      refine (s0 _).mono ?_
      rintro e w1 ⟨rfl, rfl⟩
      go_wp2_with fail
      refine (g1 _).mono ?_
      rintro e w1 ⟨rfl, rfl⟩
      go_wp2_with fail
      refine (g2 _).mono ?_
      rintro e w1 ⟨rfl, rfl⟩
      go_wp2_with fail
      refine (r1 _).mono ?_
      rintro e w1 ⟨rfl, rfl⟩
      go_wp2_with fail
      refine (r2 _).mono ?_
      rintro e w1 ⟨rfl, rfl⟩
      go_wp2_with fail
      refine (r3 _).mono ?_
      rintro e w1 ⟨rfl, rfl⟩
      go_wp2_with fail
      refine (r2 _).mono ?_
      rintro e w1 ⟨rfl, rfl⟩
      go_wp2_with fail
      refine (q _).mono ?_
      rintro e w1 ⟨rfl, rfl⟩
      go_wp2_with fail
      go_ret
      exact ⟨rfl, rights_alloc (rights_alloc (Below.refl _ _))⟩
def copyholdlaw03_SpanAround.f (a0_0 a0_1 a1_0 a1_1 : Int) : Option Bool := some true
theorem copyholdlaw03_SpanAround.calls (a0_0 a0_1 a1_0 a1_1 : Int) (r : Bool) (w : World) (h : copyholdlaw03_SpanAround.f a0_0 a0_1 a1_0 a1_1 = some r) :
    Calls Try.prog 5 #[.agg #[.int .i64 a0_0, .int .i64 a0_1], .agg #[.int .i64 a1_0, .int .i64 a1_1]] w fun e w' => e = .returned (.bool r) ∧ Below w.heap.size w w' := by
  obtain rfl := Option.some.inj h
  exact span_around_calls _ _ _ _ w
end Go.Proofs.Ytnoognbnkopdnaa
