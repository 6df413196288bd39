/- Layer 3, walked: what is done with right spans. -/
import Derived.Test.YtnoognbnkopdnaaSpanA
import Derived.Test.YtnoognbnkopdnaaMath
set_option linter.unusedVariables false
set_option linter.unusedSimpArgs false
namespace Go.Proofs.Ytnoognbnkopdnaa
open Go.RowKit Go.Proofs.YtnoognbnkopdnaaW.PrintWords Flt Math

def sp (x n : Nat) : Value := .complex .f64 (fb x) (fb n)
theorem order_fb2 (a b : Nat) (ha : a < 2 ^ 53) (hb : b < 2 ^ 53) : FloatKind.f64.format.order (fb a) (fb b) = some (compare a b) := order_val (val_fb a ha) (val_fb b hb)
theorem order_lt {a b : Nat} (ha : a < 2 ^ 53) (hb : b < 2 ^ 53) (h : a < b) : FloatKind.f64.format.order (fb a) (fb b) = some .lt := by rw [order_fb2 a b ha hb, Nat.compare_eq_lt.2 h]
theorem order_gt {a b : Nat} (ha : a < 2 ^ 53) (hb : b < 2 ^ 53) (h : b < a) : FloatKind.f64.format.order (fb a) (fb b) = some .gt := by rw [order_fb2 a b ha hb, Nat.compare_eq_gt.2 h]
theorem order_eq {a b : Nat} (ha : a < 2 ^ 53) (h : a = b) : FloatKind.f64.format.order (fb a) (fb b) = some .eq := by subst h; rw [order_fb2 a a ha ha, Nat.compare_eq_eq.2 rfl]
theorem run_max_fb {P : Program} (W : World) (ts : Array TypeId) (t : TypeId) (a b : Nat) (ha : a < 2 ^ 53) (hb : b < 2 ^ 53) : (Builtin.max_ ts t #[.float .f64 (fb a), .float .f64 (fb b)]).run P W = .ok (.float .f64 (fb (max a b))) W := by
  rcases Nat.lt_trichotomy a b with h | h | h
  · rw [Nat.max_eq_right (by omega)]; simp [Builtin.max_, Builtin.max2, order_lt ha hb h]
  · subst h; rw [Nat.max_self]; simp [Builtin.max_, Builtin.max2, order_eq ha rfl]
  · rw [Nat.max_eq_left (by omega)]; simp [Builtin.max_, Builtin.max2, order_gt ha hb h]
theorem run_min_fb {P : Program} (W : World) (ts : Array TypeId) (t : TypeId) (a b : Nat) (ha : a < 2 ^ 53) (hb : b < 2 ^ 53) : (Builtin.min_ ts t #[.float .f64 (fb a), .float .f64 (fb b)]).run P W = .ok (.float .f64 (fb (min a b))) W := by
  rcases Nat.lt_trichotomy a b with h | h | h
  · rw [Nat.min_eq_left (by omega)]; simp [Builtin.min_, Builtin.min2, order_lt ha hb h]
  · subst h; rw [Nat.min_self]; simp [Builtin.min_, Builtin.min2, order_eq ha rfl]
  · rw [Nat.min_eq_right (by omega)]; simp [Builtin.min_, Builtin.min2, order_gt ha hb h]
theorem run_add_fb {P : Program} (t : TypeId) {x y a b : Nat} (hx : Val x a) (hy : Val y b) (h : a + b < 2 ^ 53) (W : World) : (binOp .add t (.float .f64 x) (.float .f64 y)).run P W = .ok (.float .f64 (fb (a + b))) W :=
  run_float_arith W .add t .f64 x y _ (add_val hx hy h)
theorem run_sub_fb {P : Program} (t : TypeId) (a b : Nat) (ha : a < 2 ^ 53) (h : b ≤ a) (W : World) : (binOp .sub t (.float .f64 (fb a)) (.float .f64 (fb b))).run P W = .ok (.float .f64 (fb (a - b))) W :=
  run_float_arith W .sub t .f64 _ _ _ (sub_val (val_fb a ha) (val_fb b (by omega)) h ha)

set_option maxRecDepth 100000 in
theorem end_any {x y a b : Nat} (hx : Val x a) (hy : Val y b) (h : a + b < 2 ^ 53) : Gives 30 #[.complex .f64 x y] (.float .f64 (fb (a + b))) := by
  intro W
  have k := run_add_fb (P := Try.prog) 25 hx hy h
  go_enter Try.func30, Try.ntmps30
  go_wp2
  go_ret
  exact ⟨rfl, rfl⟩
set_option maxRecDepth 100000 in
set_option maxHeartbeats 1000000 in
/-- Which complex numbers are spans. -/
theorem right_same (x y : Nat) : ∃ b : Bool, Gives 11 #[.complex .f64 x y] (.bool b) ∧ Gives 12 #[.complex .f64 x y] (.bool b) ∧ (∀ a n, a + n ≤ 1099511627776 → Val x a → Val y n → b = true) := by
  rcases whole_part x with ⟨a, ha, va, wa, pa⟩ | ⟨wa, pa, na⟩
  · rcases whole_part y with ⟨n, hn, vn, wn, pn⟩ | ⟨wn, pn, nn⟩
    · have he := end_any va vn (by omega)
      have ho := order_fb2 (a + n) 1099511627776 (by omega) (by omega)
      rw [fb_most] at ho
      have hw : wrap64 ((a : Int) + (n : Int)) = (a : Int) + (n : Int) := w64 (by omega) (by omega)
      have ga : decide ((0 : Int) ≤ (a : Int)) = true := decide_eq_true (by omega)
      have gn : decide ((0 : Int) ≤ (n : Int)) = true := decide_eq_true (by omega)
      by_cases h : a + n ≤ 1099511627776
      · refine ⟨true, ?_, ?_, fun _ _ _ _ _ => rfl⟩
        · intro W
          obtain ⟨o, ho2, ho3⟩ : ∃ o, compare (a + n) 1099511627776 = o ∧ o ≠ .gt := ⟨_, rfl, fun h' => by have := Nat.compare_eq_gt.1 h'; omega⟩
          rw [ho2] at ho
          generalize fb (a + n) = q at *
          clear va vn hw ga gn ha hn h ho2
          go_enter Try.func11, Try.ntmps11
          go_wp2_with fail
          refine (wa _).mono ?_
          rintro e w1 ⟨rfl, rfl⟩
          go_wp2_with fail
          refine (wn _).mono ?_
          rintro e w1 ⟨rfl, rfl⟩
          go_wp2_with fail
          refine (he _).mono ?_
          rintro e w1 ⟨rfl, rfl⟩
          clear wa wn he pa pn
          cases o <;> first | exact absurd rfl ho3 | (go_wp2_with fail; go_ret; exact ⟨rfl, rfl⟩)
        · intro W
          have gs : decide ((a : Int) + (n : Int) ≤ 1099511627776) = true := decide_eq_true (by omega)
          clear va vn ho
          go_enter Try.func12, Try.ntmps12
          go_wp2_with fail
          refine (pa _).mono ?_
          rintro e w1 ⟨rfl, rfl⟩
          go_wp2_with fail
          refine (pn _).mono ?_
          rintro e w1 ⟨rfl, rfl⟩
          clear wa wn he pa pn ha hn h
          go_wp2_with fail
          go_ret
          exact ⟨rfl, rfl⟩
      · refine ⟨false, ?_, ?_, ?_⟩
        · intro W
          have ho2 : compare (a + n) 1099511627776 = .gt := Nat.compare_eq_gt.2 (by omega)
          rw [ho2] at ho
          generalize fb (a + n) = q at *
          clear va vn hw ga gn ha hn h ho2
          go_enter Try.func11, Try.ntmps11
          go_wp2_with fail
          refine (wa _).mono ?_
          rintro e w1 ⟨rfl, rfl⟩
          go_wp2_with fail
          refine (wn _).mono ?_
          rintro e w1 ⟨rfl, rfl⟩
          go_wp2_with fail
          refine (he _).mono ?_
          rintro e w1 ⟨rfl, rfl⟩
          clear wa wn he pa pn
          go_wp2_with fail
          go_ret
          exact ⟨rfl, rfl⟩
        · intro W
          have gs : decide ((a : Int) + (n : Int) ≤ 1099511627776) = false := decide_eq_false (by omega)
          clear va vn ho
          go_enter Try.func12, Try.ntmps12
          go_wp2_with fail
          refine (pa _).mono ?_
          rintro e w1 ⟨rfl, rfl⟩
          go_wp2_with fail
          refine (pn _).mono ?_
          rintro e w1 ⟨rfl, rfl⟩
          clear wa wn he pa pn ha hn h
          go_wp2_with fail
          go_ret
          exact ⟨rfl, rfl⟩
        · intro a' n' h' hx hy
          have e1 := Val.inj va hx
          have e2 := Val.inj vn hy
          omega
    · refine ⟨false, ?_, ?_, ?_⟩
      · intro W
        go_enter Try.func11, Try.ntmps11
        go_wp2_with fail
        refine (wa _).mono ?_
        rintro e w1 ⟨rfl, rfl⟩
        go_wp2_with fail
        refine (wn _).mono ?_
        rintro e w1 ⟨rfl, rfl⟩
        clear wa wn pa pn va
        go_wp2_with fail
        go_ret
        exact ⟨rfl, rfl⟩
      · intro W
        have ga : decide ((0 : Int) ≤ (a : Int)) = true := decide_eq_true (by omega)
        go_enter Try.func12, Try.ntmps12
        go_wp2_with fail
        refine (pa _).mono ?_
        rintro e w1 ⟨rfl, rfl⟩
        go_wp2_with fail
        refine (pn _).mono ?_
        rintro e w1 ⟨rfl, rfl⟩
        clear wa wn pa pn va ha
        go_wp2_with fail
        go_ret
        exact ⟨rfl, rfl⟩
      · intro a' n' h' hx hy
        exact absurd hy (nn n' (by omega))
  · have hp : ∃ v : Int, Gives 31 #[.float .f64 y] (.int .i64 v) := by
      rcases whole_part y with ⟨n, hn, vn, wn, pn⟩ | ⟨wn, pn, nn⟩
      · exact ⟨_, pn⟩
      · exact ⟨_, pn⟩
    obtain ⟨v, pn⟩ := hp
    refine ⟨false, ?_, ?_, ?_⟩
    · intro W
      go_enter Try.func11, Try.ntmps11
      go_wp2_with fail
      refine (wa _).mono ?_
      rintro e w1 ⟨rfl, rfl⟩
      clear wa pa pn
      go_wp2_with fail
      go_ret
      exact ⟨rfl, rfl⟩
    · intro W
      go_enter Try.func12, Try.ntmps12
      go_wp2_with fail
      refine (pa _).mono ?_
      rintro e w1 ⟨rfl, rfl⟩
      go_wp2_with fail
      refine (pn _).mono ?_
      rintro e w1 ⟨rfl, rfl⟩
      clear wa pa pn
      go_wp2_with fail
      go_ret
      exact ⟨rfl, rfl⟩
    · intro a' n' h' hx hy
      exact absurd hx (na a' (by omega))
end Go.Proofs.Ytnoognbnkopdnaa
