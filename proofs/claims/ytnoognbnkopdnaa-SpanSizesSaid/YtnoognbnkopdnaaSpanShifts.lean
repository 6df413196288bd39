/- SpanShifts, walked. -/
import Derived.Test.YtnoognbnkopdnaaSpanPairs
import Derived.Test.YtnoognbnkopdnaaFlt2
set_option linter.unusedVariables false
set_option linter.unusedSimpArgs false
namespace Go.Proofs.Ytnoognbnkopdnaa
open Go.RowKit Go.Proofs.YtnoognbnkopdnaaW.PrintWords Flt Math

theorem add_shift (F F' : Nat) (b : Int) (hF : F ≤ 1099511627776) (hF' : F' ≤ 1099511627776) (h : (F' : Int) = (F : Int) + b) (W : World) : (binOp .add 25 (.float .f64 (fb F)) (.float .f64 (floatOfInt .f64 b))).run Try.prog W = .ok (.float .f64 (fb F')) W := by
  refine run_float_arith W .add 25 .f64 _ _ _ ?_
  show Ieee.double.add _ _ = _
  rcases Int.lt_or_le b 0 with hb | hb
  · obtain ⟨m, hm⟩ := Int.eq_ofNat_of_zero_le (show 0 ≤ -b by omega)
    have e : b = -(m : Int) := by omega
    subst e
    rw [add_neg (val_fb F (by omega)) (by omega) (by omega) (by omega), show F - m = F' by omega]
  · obtain ⟨m, rfl⟩ := Int.eq_ofNat_of_zero_le hb
    rw [of_int, add_val (val_fb F (by omega)) (val_fb m (by omega)) (by omega), show F + m = F' by omega]
set_option maxRecDepth 100000 in
set_option maxHeartbeats 8000000 in
theorem span_shifts_calls (a b c d by_ : Int) (w : World) : Calls Try.prog 4 #[.agg #[.int .i64 a, .int .i64 b], .agg #[.int .i64 c, .int .i64 d], .int .i64 by_] w fun e w' => e = .returned (.bool true) ∧ Below w.heap.size w w' := by
  have s0 := shown_gives
  have g1 := given_gives a b
  have g2 := given_gives c d
  have k1 := giv_ok a b
  have k2 := giv_ok c d
  generalize givX a b = x at *
  generalize givN a b = n at *
  generalize givX c d = y at *
  generalize givN c d = m at *
  by_cases hx : ShiftOk x n by_
  · obtain ⟨x', hx'⟩ := Int.eq_ofNat_of_zero_le hx.2.2.1
    have t1 := (shift_good x n k1 by_ x' hx hx'.symm).1
    by_cases hy : ShiftOk y m by_
    · obtain ⟨y', hy'⟩ := Int.eq_ofNat_of_zero_le hy.2.2.1
      have t2 := (shift_good y m k2 by_ y' hy hy'.symm).1
      unfold ShiftOk at hx hy
      have k3 : x' + n ≤ 1099511627776 := by omega
      have k4 : y' + m ≤ 1099511627776 := by omega
      have t3 := (shift_good x' n k3 (-by_) x (by unfold ShiftOk; omega) (by omega)).1
      have p1 := (parts_good x n k1).1
      have p2 := (parts_good x' n k3).1
      have b1 := both_good x n y m k1 k2
      have b2 := both_good x' n y' m k3 k4
      unfold bothV at b1 b2
      have w0 : wrap64 (0 - by_) = -by_ := by rw [w64 (by omega) (by omega)]; omega
      have w1 : wrap64 (-by_) = -by_ := w64 (by omega) (by omega)
      have c1 : decide (by_ < -1125899906842624) = false := decide_eq_false (by omega)
      have c2 : decide (1125899906842624 < by_) = false := decide_eq_false (by omega)
      have z1 := order_self x (by omega)
      have z2 := order_self n (by omega)
      have kc := conv_any by_
      by_cases hc : min (x + n) (y + m) ≤ max x y
      · rw [if_pos hc] at b1
        rw [if_pos (by omega)] at b2
        clear hc hx hy k1 k2 k3 k4 hx' hy' kc
        unfold sp at *
        generalize fb x = fx at *
        generalize fb n = fn at *
        generalize fb y = fy at *
        generalize fb m = fm at *
        generalize fb x' = fx1 at *
        generalize fb y' = fy1 at *
        generalize (x : Int) = X at *
        generalize (n : Int) = N at *
        generalize (x' : Int) = X1 at *
        go_enter Try.func4, Try.ntmps4
        go_wp2_with fail
        refine (s0 _).mono ?_
        rintro e w1 ⟨rfl, rfl⟩
        go_wp2_with fail
        refine (g1 _).mono ?_
        rintro e w1 ⟨rfl, rfl⟩
        go_wp2_with fail
        refine (g2 _).mono ?_
        rintro e w1 ⟨rfl, rfl⟩
        go_wp2_with fail
        refine (t1 _).mono ?_
        rintro e w1 ⟨rfl, rfl⟩
        go_wp2_with fail
        refine (t2 _).mono ?_
        rintro e w1 ⟨rfl, rfl⟩
        go_wp2_with fail
        refine (t3 _).mono ?_
        rintro e w1 ⟨rfl, rfl⟩
        go_wp2_with fail
        refine (b1 _).mono ?_
        rintro e w1 ⟨rfl, rfl⟩
        go_wp2_with fail
        refine (b2 _).mono ?_
        rintro e w1 ⟨rfl, rfl⟩
        go_wp2_with fail
        refine (p1 _).mono ?_
        rintro e w1 ⟨rfl, rfl⟩
        go_wp2_with fail
        refine (p2 _).mono ?_
        rintro e w1 ⟨rfl, rfl⟩
        go_wp2_with fail
        go_ret
        exact ⟨rfl, rights_alloc (rights_alloc (Below.refl _ _))⟩
      · rw [if_neg hc] at b1
        rw [if_neg (by omega)] at b2
        rw [show min (x' + n) (y' + m) - max x' y' = min (x + n) (y + m) - max x y by omega] at b2
        have ks := add_shift (max x y) (max x' y') by_ (by omega) (by omega) (by omega)
        have z3 := order_self (max x' y') (by omega)
        have z4 := order_self (min (x + n) (y + m) - max x y) (by omega)
        clear hc hx hy k1 k2 k3 k4 hx' hy'
        unfold sp at *
        generalize floatOfInt .f64 by_ = fby at *
        generalize fb (min (x + n) (y + m) - max x y) = fw at *
        generalize fb (max x y) = fF at *
        generalize fb (max x' y') = fF1 at *
        generalize fb x = fx at *
        generalize fb n = fn at *
        generalize fb y = fy at *
        generalize fb m = fm at *
        generalize fb x' = fx1 at *
        generalize fb y' = fy1 at *
        generalize (x : Int) = X at *
        generalize (n : Int) = N at *
        generalize (x' : Int) = X1 at *
        go_enter Try.func4, Try.ntmps4
        go_wp2_with fail
        refine (s0 _).mono ?_
        rintro e w1 ⟨rfl, rfl⟩
        go_wp2_with fail
        refine (g1 _).mono ?_
        rintro e w1 ⟨rfl, rfl⟩
        go_wp2_with fail
        refine (g2 _).mono ?_
        rintro e w1 ⟨rfl, rfl⟩
        go_wp2_with fail
        refine (t1 _).mono ?_
        rintro e w1 ⟨rfl, rfl⟩
        go_wp2_with fail
        refine (t2 _).mono ?_
        rintro e w1 ⟨rfl, rfl⟩
        go_wp2_with fail
        refine (t3 _).mono ?_
        rintro e w1 ⟨rfl, rfl⟩
        go_wp2_with fail
        refine (b1 _).mono ?_
        rintro e w1 ⟨rfl, rfl⟩
        go_wp2_with fail
        refine (b2 _).mono ?_
        rintro e w1 ⟨rfl, rfl⟩
        go_wp2_with fail
        refine (p1 _).mono ?_
        rintro e w1 ⟨rfl, rfl⟩
        go_wp2_with fail
        refine (p2 _).mono ?_
        rintro e w1 ⟨rfl, rfl⟩
        go_wp2_with fail
        go_ret
        exact ⟨rfl, rights_alloc (rights_alloc (Below.refl _ _))⟩
    · have t2 := (shift_bad y m k2 by_ hy).1
      clear hx hy k1 k2 hx'
      unfold sp at *
      go_enter Try.func4, Try.ntmps4
      go_wp2_with fail
      refine (s0 _).mono ?_
      rintro e w1 ⟨rfl, rfl⟩
      go_wp2_with fail
      refine (g1 _).mono ?_
      rintro e w1 ⟨rfl, rfl⟩
      go_wp2_with fail
      refine (g2 _).mono ?_
      rintro e w1 ⟨rfl, rfl⟩
      go_wp2_with fail
      refine (t1 _).mono ?_
      rintro e w1 ⟨rfl, rfl⟩
      go_wp2_with fail
      refine (t2 _).mono ?_
      rintro e w1 ⟨rfl, rfl⟩
      go_wp2_with fail
      go_ret
      exact ⟨rfl, rights_alloc (rights_alloc (Below.refl _ _))⟩
  · have t1 := (shift_bad x n k1 by_ hx).1
    obtain ⟨p, q, e0, _, t2, _⟩ := shift_same y m k2 by_
    clear hx k1 k2
    unfold sp at *
    go_enter Try.func4, Try.ntmps4
    go_wp2_with fail
    refine (s0 _).mono ?_
    rintro e w1 ⟨rfl, rfl⟩
    go_wp2_with fail
    refine (g1 _).mono ?_
    rintro e w1 ⟨rfl, rfl⟩
    go_wp2_with fail
    refine (g2 _).mono ?_
    rintro e w1 ⟨rfl, rfl⟩
    go_wp2_with fail
    refine (t1 _).mono ?_
    rintro e w1 ⟨rfl, rfl⟩
    go_wp2_with fail
    refine (t2 _).mono ?_
    rintro e w1 ⟨rfl, rfl⟩
    go_wp2_with fail
    go_ret
    exact ⟨rfl, rights_alloc (rights_alloc (Below.refl _ _))⟩
def copyholdlaw03_SpanShifts.f (a0_0 a0_1 a1_0 a1_1 a2 : Int) : Option Bool := some true
theorem copyholdlaw03_SpanShifts.calls (a0_0 a0_1 a1_0 a1_1 a2 : Int) (r : Bool) (w : World) (h : copyholdlaw03_SpanShifts.f a0_0 a0_1 a1_0 a1_1 a2 = some r) :
    Calls Try.prog 4 #[.agg #[.int .i64 a0_0, .int .i64 a0_1], .agg #[.int .i64 a1_0, .int .i64 a1_1], .int .i64 a2] w fun e w' => e = .returned (.bool r) ∧ Below w.heap.size w w' := by
  obtain rfl := Option.some.inj h
  exact span_shifts_calls _ _ _ _ _ w
end Go.Proofs.Ytnoognbnkopdnaa
