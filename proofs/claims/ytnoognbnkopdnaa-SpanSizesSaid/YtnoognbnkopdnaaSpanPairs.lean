/- SpanPairs, walked. -/
import Derived.Test.YtnoognbnkopdnaaSpanE
set_option linter.unusedVariables false
set_option linter.unusedSimpArgs false
namespace Go.Proofs.Ytnoognbnkopdnaa
open Go.RowKit Go.Proofs.YtnoognbnkopdnaaW.PrintWords Flt Math

theorem of_same (a b : Int) : ∃ x n : Nat, ∃ e : Int, x + n ≤ 1099511627776 ∧ Gives 18 #[.int .i64 a, .int .i64 b] (.tuple #[sp x n, .int .i64 e]) ∧ Gives 19 #[.int .i64 a, .int .i64 b] (.tuple #[sp x n, .int .i64 e]) := by
  by_cases h : Good a b
  · obtain ⟨x, rfl⟩ := Int.eq_ofNat_of_zero_le h.1
    obtain ⟨n, rfl⟩ := Int.eq_ofNat_of_zero_le h.2.2.1
    have hx : x + n ≤ 1099511627776 := by unfold Good at h; omega
    exact ⟨x, n, 0, hx, (of_good x n hx).1, (of_good x n hx).2.1⟩
  · exact ⟨0, 0, 1, by decide, (of_bad a b h).1, (of_bad a b h).2⟩
theorem both_same (x n y m : Nat) (h : x + n ≤ 1099511627776) (h2 : y + m ≤ 1099511627776) : ∃ p q : Nat, ∃ b : Bool, p + q ≤ 1099511627776 ∧ Gives 15 #[sp x n, sp y m] (.tuple #[sp p q, .bool b]) ∧ Gives 21 #[sp x n, sp y m] (.tuple #[sp p q, .bool b]) := by
  have h3 := both_good x n y m h h2
  have h4 := ref_both_good x n y m h h2
  unfold bothV at h3 h4
  by_cases hc : min (x + n) (y + m) ≤ max x y
  · rw [if_pos hc] at h3 h4
    exact ⟨0, 0, false, by decide, h3, h4⟩
  · rw [if_neg hc] at h3 h4
    exact ⟨_, _, true, by omega, h3, h4⟩
theorem shift_same (x n : Nat) (h : x + n ≤ 1099511627776) (b : Int) : ∃ p q : Nat, ∃ e : Int, p + q ≤ 1099511627776 ∧ Gives 14 #[sp x n, .int .i64 b] (.tuple #[sp p q, .int .i64 e]) ∧ Gives 22 #[sp x n, .int .i64 b] (.tuple #[sp p q, .int .i64 e]) := by
  by_cases hok : ShiftOk x n b
  · obtain ⟨y, hy⟩ := Int.eq_ofNat_of_zero_le hok.2.2.1
    have := shift_good x n h b y hok hy.symm
    refine ⟨y, n, 0, ?_, this.1, this.2⟩
    unfold ShiftOk at hok; omega
  · have := shift_bad x n h b hok
    exact ⟨0, 0, 1, by decide, this.1, this.2⟩
set_option maxRecDepth 100000 in
set_option maxHeartbeats 8000000 in
theorem span_pairs_calls (a b c d by_ : Int) (w : World) : Calls Try.prog 6 #[.agg #[.int .i64 a, .int .i64 b], .agg #[.int .i64 c, .int .i64 d], .int .i64 by_] w fun e w' => e = .returned (.bool true) ∧ Below w.heap.size w w' := by
  have s0 := shown_gives
  have g1 := given_gives a b
  have g2 := given_gives c d
  have k1 := giv_ok a b
  have k2 := giv_ok c d
  generalize givX a b = x at *
  generalize givN a b = n at *
  generalize givX c d = y at *
  generalize givN c d = m at *
  obtain ⟨ox, on, oe, o1, o2, o3⟩ := of_same a b
  obtain ⟨bx, bn, bb, b1, b2, b3⟩ := both_same x n y m k1 k2
  obtain ⟨sx, sn, se, s1, s2, s3⟩ := shift_same x n k1 by_
  have p := parts_good x n k1
  have p1 := p.1
  have p2 := p.2
  have a1 := around_good x n y m k1 k2
  have a2 := ref_around_good x n y m k1 k2
  have ak := around_ok x n y m k1 k2
  have q := right_good x n k1
  generalize aroundX x n y m = ax at *
  generalize aroundN x n y m = an at *
  have z1 := order_self ox (by omega)
  have z2 := order_self on (by omega)
  have z3 := order_self bx (by omega)
  have z4 := order_self bn (by omega)
  have z5 := order_self sx (by omega)
  have z6 := order_self sn (by omega)
  have z7 := order_self ax (by omega)
  have z8 := order_self an (by omega)
  clear p ak o1 b1 s1 k1 k2
  unfold sp at *
  generalize fb ox = fox at *
  generalize fb on = fon at *
  generalize fb bx = fbx at *
  generalize fb bn = fbn at *
  generalize fb sx = fsx at *
  generalize fb sn = fsn at *
  generalize fb ax = fax at *
  generalize fb an = fan at *
  generalize fb x = fx at *
  generalize fb n = fn at *
  generalize fb y = fy at *
  generalize fb m = fm at *
  generalize (x : Int) = X at *
  generalize (n : Int) = N at *
  go_enter Try.func6, Try.ntmps6
  go_wp2_with fail
  refine (s0 _).mono ?_
  rintro e w1 ⟨rfl, rfl⟩
  go_wp2_with fail
  refine (o2 _).mono ?_
  rintro e w1 ⟨rfl, rfl⟩
  go_wp2_with fail
  refine (o3 _).mono ?_
  rintro e w1 ⟨rfl, rfl⟩
  go_wp2_with fail
  refine (g1 _).mono ?_
  rintro e w1 ⟨rfl, rfl⟩
  go_wp2_with fail
  refine (g2 _).mono ?_
  rintro e w1 ⟨rfl, rfl⟩
  go_wp2_with fail
  refine (p1 _).mono ?_
  rintro e w1 ⟨rfl, rfl⟩
  go_wp2_with fail
  refine (p2 _).mono ?_
  rintro e w1 ⟨rfl, rfl⟩
  go_wp2_with fail
  refine (b2 _).mono ?_
  rintro e w1 ⟨rfl, rfl⟩
  go_wp2_with fail
  refine (b3 _).mono ?_
  rintro e w1 ⟨rfl, rfl⟩
  go_wp2_with fail
  refine (s2 _).mono ?_
  rintro e w1 ⟨rfl, rfl⟩
  go_wp2_with fail
  refine (s3 _).mono ?_
  rintro e w1 ⟨rfl, rfl⟩
  clear s0 g1 g2 o2 o3 p1 p2 b2 b3 s2 s3
  cases bb
  all_goals
    go_wp2_with fail
    refine (a1 _).mono ?_
    rintro e w1 ⟨rfl, rfl⟩
    go_wp2_with fail
    refine (a2 _).mono ?_
    rintro e w1 ⟨rfl, rfl⟩
    go_wp2_with fail
    refine (q _).mono ?_
    rintro e w1 ⟨rfl, rfl⟩
    go_wp2_with fail
    go_ret
    exact ⟨rfl, rights_alloc (rights_alloc (Below.refl _ _))⟩
def copyholdlaw03_SpanPairs.f (a0_0 a0_1 a1_0 a1_1 a2 : Int) : Option Bool := some true
theorem copyholdlaw03_SpanPairs.calls (a0_0 a0_1 a1_0 a1_1 a2 : Int) (r : Bool) (w : World) (h : copyholdlaw03_SpanPairs.f a0_0 a0_1 a1_0 a1_1 a2 = some r) :
    Calls Try.prog 6 #[.agg #[.int .i64 a0_0, .int .i64 a0_1], .agg #[.int .i64 a1_0, .int .i64 a1_1], .int .i64 a2] w fun e w' => e = .returned (.bool r) ∧ Below w.heap.size w w' := by
  obtain rfl := Option.some.inj h
  exact span_pairs_calls _ _ _ _ _ w
end Go.Proofs.Ytnoognbnkopdnaa
