/- Layer 9: spans, as far as layer 9 reaches them (written by dat.py out of layer 3's texts). -/
import Derived.Test.YtiiljkinekjkbaaProg
import Derived.Test.YtiiljkinekjkbaaBase
import Derived.Test.YtiiljkinekjkbaaFlt
import Derived.Below
import Derived.WalkKit
import Derived.KernelRfl
import Derived.Lib.Hide
import Derived.BigQuiet
import Derived.Test.YtiiljkinekjkbaaWWords
import Derived.Laws.Cover3
import Derived.Test.YtiiljkinekjkbaaMath
set_option linter.unusedVariables false
set_option linter.unusedSimpArgs false
namespace Go.Proofs.Ytiiljkinekjkbaa
open Go.RowKit Go.Proofs.YtiiljkinekjkbaaW.PrintWords Flt Math
theorem fb_most : fb 1099511627776 = 4787326403894837248 := by decide +kernel
theorem fb_one : fb 1 = 4607182418800017408 := by decide +kernel
theorem of_int (n : Nat) : floatOfInt .f64 (n : Int) = fb n := by
  unfold floatOfInt FloatKind.nearest FloatKind.encode
  rw [show decide ((n : Int) < 0) = false from decide_eq_false (by omega), Int.natAbs_natCast]
  rfl
theorem conv_if (n : Nat) (W : World) : (convert 3 56 (.int .i64 (n : Int))).run Try.prog W = .ok (.float .f64 (fb n)) W := by
  rw [run_convert_int_float W 3 56 .i64 .f64 (n : Int) (by rw [Try.underlying3]; rfl) Try.underlying56, of_int]
theorem conv_fi {x : Nat} {n : Int} (h : (Ieee.double.read x).toInt .zero = some n) (h0 : 0 ≤ n) (h1 : n ≤ 1099511627776) (W : World) : (convert 56 3 (.float .f64 x)).run Try.prog W = .ok (.int .i64 n) W := by
  refine run_convert_float_int W 56 3 .f64 .i64 x n (by rw [Try.underlying56]; rfl) Try.underlying3 ?_
  unfold floatToIntVal
  rw [show (FloatKind.f64.decode x).toInt .zero = some n from h]
  simp only
  rw [if_pos]
  constructor
  · show (-9223372036854775808 : Int) ≤ n; omega
  · show n ≤ (9223372036854775807 : Int); omega
def Gives (f : FuncId) (args : Array Value) (v : Value) : Prop := ∀ W : World, Calls Try.prog f args W fun e w' => e = .returned v ∧ w' = W
set_option maxHeartbeats 1000000 in
set_option maxRecDepth 100000 in
theorem whole_part (x : Nat) : (∃ n, n ≤ 1099511627776 ∧ Val x n ∧ Gives 41 #[.float .f64 x] (.int .i64 (n : Int))) ∨
    (Gives 41 #[.float .f64 x] (.int .i64 (-1)) ∧ ∀ n, n ≤ 1099511627776 → ¬ Val x n) := by
  have hone := fb_one
  cases way x with
  | nan h0 h1 h2 =>
    refine .inr ⟨?_, fun n _ hv => by rw [order_val hv hv] at h1; cases h1⟩
    all_goals
      intro W
      rw [fb_most] at h2
      replace h0 : FloatKind.f64.format.order x 0 = none := h0
      replace h1 : FloatKind.f64.format.order x x = none := h1
      replace h2 : FloatKind.f64.format.order x 4787326403894837248 = none := h2
    · go_enter Try.func41, Try.ntmps41
      go_wp2
      go_ret
      exact ⟨rfl, rfl⟩
  | less h0 =>
    refine .inr ⟨?_, fun n _ hv => by have h := order_val hv (val_fb 0 (by decide)); rw [fb_zero, h0] at h; have := Nat.compare_eq_lt.1 (Option.some.inj h).symm; omega⟩
    all_goals
      intro W
      replace h0 : FloatKind.f64.format.order x 0 = some .lt := h0
    · go_enter Try.func41, Try.ntmps41
      go_wp2
      go_ret
      exact ⟨rfl, rfl⟩
  | great h0 h2 =>
    refine .inr ⟨?_, fun n hn hv => by have h := order_val hv (val_fb 1099511627776 (by decide)); rw [h2] at h; have := Nat.compare_eq_gt.1 (Option.some.inj h).symm; omega⟩
    all_goals
      intro W
      rw [fb_most] at h2
      replace h0 : FloatKind.f64.format.order x 0 = some .gt := h0
      replace h2 : FloatKind.f64.format.order x 4787326403894837248 = some .gt := h2
    · go_enter Try.func41, Try.ntmps41
      go_wp2
      go_ret
      exact ⟨rfl, rfl⟩
  | broken n o2 hn h0 h1 h2 h2g h3 o h4 ho =>
    have k1 := conv_fi h3 (by omega) (by omega)
    have k2 := conv_if n
    have h5 := order_swap x (fb n)
    rw [h4] at h5
    refine .inr ⟨?_, fun k hk hv => by have h := toInt_val hv; rw [h3] at h; have hkn : n = k := Int.ofNat_inj.1 (Option.some.inj h); subst hkn; have h := order_val hv (val_fb n (by omega)); rw [h4, Nat.compare_eq_eq.2 rfl] at h; exact ho (Option.some.inj h)⟩
    all_goals
      intro W
      rw [fb_most] at h2
      replace h0 : FloatKind.f64.format.order x 0 = some .gt := h0
      replace h1 : FloatKind.f64.format.order x x = some .eq := h1
      replace h2 : FloatKind.f64.format.order x 4787326403894837248 = some o2 := h2
      replace h4 : FloatKind.f64.format.order x (fb n) = some o := h4
      replace h5 : FloatKind.f64.format.order (fb n) x = some o.swap := h5
      clear hn h3
      generalize fb n = y at *
      cases o2 <;> first | exact absurd rfl h2g | skip
    all_goals clear h2g
    all_goals cases o <;> first | exact absurd rfl ho | skip
    all_goals clear ho
    all_goals first
      | (go_enter Try.func41, Try.ntmps41
         go_wp2
         go_ret
         exact ⟨rfl, rfl⟩)
  | whole n o2 hn hpos h0 h1 h2 h2g h3 h4 hv =>
    have k1 := conv_fi h3 (by omega) (by omega)
    have k2 := conv_if n
    have h5 := order_swap x (fb n)
    rw [h4] at h5
    have hnz : ((n : Int) == 0) = false := by rw [beq_eq_false_iff_ne]; omega
    have hnz2 : ¬ (n = 0) := by omega
    refine .inl ⟨n, hn, hv, ?_⟩
    all_goals
      intro W
      rw [fb_most] at h2
      replace h0 : FloatKind.f64.format.order x 0 = some .gt := h0
      replace h1 : FloatKind.f64.format.order x x = some .eq := h1
      replace h2 : FloatKind.f64.format.order x 4787326403894837248 = some o2 := h2
      replace h4 : FloatKind.f64.format.order x (fb n) = some .eq := h4
      replace h5 : FloatKind.f64.format.order (fb n) x = some .eq := h5
      clear hn h3 hv hpos
      generalize fb n = y at *
      cases o2 <;> first | exact absurd rfl h2g | skip
    all_goals clear h2g
    all_goals first
      | (go_enter Try.func41, Try.ntmps41
         go_wp2
         go_ret
         exact ⟨rfl, rfl⟩)
  | nought h0 h1 h2 h3 i h5 h6 hv =>
    have k1 := conv_fi h3 (by omega) (by omega)
    have k2 := conv_if 0
    rw [fb_zero] at k2
    have h7 := order_swap x 0
    rw [h0] at h7
    refine .inl ⟨0, by omega, hv, ?_⟩
    all_goals
      intro W
      rw [fb_most] at h2
      rw [fb_one] at h5
      replace h0 : FloatKind.f64.format.order x 0 = some .eq := h0
      replace h1 : FloatKind.f64.format.order x x = some .eq := h1
      replace h2 : FloatKind.f64.format.order x 4787326403894837248 = some .lt := h2
      replace h6 : FloatKind.f64.format.order i 0 = some .gt := h6
      replace h7 : FloatKind.f64.format.order 0 x = some .eq := h7
      have k3 := fun W => run_float_arith (P := Try.prog) W .quo 56 .f64 4607182418800017408 x i h5
      replace k2 : ∀ W : World, (convert 3 56 (.int .i64 0)).run Try.prog W = .ok (.float .f64 0) W := k2
      clear h3 h5 hv
    · go_enter Try.func41, Try.ntmps41
      go_wp2
      go_ret
      exact ⟨rfl, rfl⟩
  | below h0 h1 h2 h3 i h5 h6 hnv =>
    have k1 := conv_fi h3 (by omega) (by omega)
    have k2 := conv_if 0
    rw [fb_zero] at k2
    have h7 := order_swap x 0
    rw [h0] at h7
    refine .inr ⟨?_, fun n _ => hnv n⟩
    all_goals
      intro W
      rw [fb_most] at h2
      rw [fb_one] at h5
      replace h0 : FloatKind.f64.format.order x 0 = some .eq := h0
      replace h1 : FloatKind.f64.format.order x x = some .eq := h1
      replace h2 : FloatKind.f64.format.order x 4787326403894837248 = some .lt := h2
      replace h6 : FloatKind.f64.format.order i 0 = some .lt := h6
      replace h7 : FloatKind.f64.format.order 0 x = some .eq := h7
      have k3 := fun W => run_float_arith (P := Try.prog) W .quo 56 .f64 4607182418800017408 x i h5
      replace k2 : ∀ W : World, (convert 3 56 (.int .i64 0)).run Try.prog W = .ok (.float .f64 0) W := k2
      clear h3 h5
    · go_enter Try.func41, Try.ntmps41
      go_wp2
      go_ret
      exact ⟨rfl, rfl⟩
def sp (x n : Nat) : Value := .complex .f64 (fb x) (fb n)
theorem order_fb2 (a b : Nat) (ha : a < 2 ^ 53) (hb : b < 2 ^ 53) : FloatKind.f64.format.order (fb a) (fb b) = some (compare a b) := order_val (val_fb a ha) (val_fb b hb)
theorem order_lt {a b : Nat} (ha : a < 2 ^ 53) (hb : b < 2 ^ 53) (h : a < b) : FloatKind.f64.format.order (fb a) (fb b) = some .lt := by rw [order_fb2 a b ha hb, Nat.compare_eq_lt.2 h]
theorem order_gt {a b : Nat} (ha : a < 2 ^ 53) (hb : b < 2 ^ 53) (h : b < a) : FloatKind.f64.format.order (fb a) (fb b) = some .gt := by rw [order_fb2 a b ha hb, Nat.compare_eq_gt.2 h]
theorem order_eq {a b : Nat} (ha : a < 2 ^ 53) (h : a = b) : FloatKind.f64.format.order (fb a) (fb b) = some .eq := by subst h; rw [order_fb2 a a ha ha, Nat.compare_eq_eq.2 rfl]
theorem run_max_fb {P : Program} (W : World) (ts : Array TypeId) (t : TypeId) (a b : Nat) (ha : a < 2 ^ 53) (hb : b < 2 ^ 53) : (Builtin.max_ ts t #[.float .f64 (fb a), .float .f64 (fb b)]).run P W = .ok (.float .f64 (fb (max a b))) W := by
  rcases Nat.lt_trichotomy a b with h | h | h
  · rw [Nat.max_eq_right (by omega)]; simp [Builtin.max_, Builtin.max2, order_lt ha hb h]
  · subst h; rw [Nat.max_self]; simp [Builtin.max_, Builtin.max2, order_eq ha rfl]
  · rw [Nat.max_eq_left (by omega)]; simp [Builtin.max_, Builtin.max2, order_gt ha hb h]
theorem run_min_fb {P : Program} (W : World) (ts : Array TypeId) (t : TypeId) (a b : Nat) (ha : a < 2 ^ 53) (hb : b < 2 ^ 53) : (Builtin.min_ ts t #[.float .f64 (fb a), .float .f64 (fb b)]).run P W = .ok (.float .f64 (fb (min a b))) W := by
  rcases Nat.lt_trichotomy a b with h | h | h
  · rw [Nat.min_eq_left (by omega)]; simp [Builtin.min_, Builtin.min2, order_lt ha hb h]
  · subst h; rw [Nat.min_self]; simp [Builtin.min_, Builtin.min2, order_eq ha rfl]
  · rw [Nat.min_eq_right (by omega)]; simp [Builtin.min_, Builtin.min2, order_gt ha hb h]
theorem run_add_fb {P : Program} (t : TypeId) {x y a b : Nat} (hx : Val x a) (hy : Val y b) (h : a + b < 2 ^ 53) (W : World) : (binOp .add t (.float .f64 x) (.float .f64 y)).run P W = .ok (.float .f64 (fb (a + b))) W :=
  run_float_arith W .add t .f64 x y _ (add_val hx hy h)
theorem run_sub_fb {P : Program} (t : TypeId) (a b : Nat) (ha : a < 2 ^ 53) (h : b ≤ a) (W : World) : (binOp .sub t (.float .f64 (fb a)) (.float .f64 (fb b))).run P W = .ok (.float .f64 (fb (a - b))) W :=
  run_float_arith W .sub t .f64 _ _ _ (sub_val (val_fb a ha) (val_fb b (by omega)) h ha)
set_option maxRecDepth 100000 in
theorem end_any {x y a b : Nat} (hx : Val x a) (hy : Val y b) (h : a + b < 2 ^ 53) : Gives 33 #[.complex .f64 x y] (.float .f64 (fb (a + b))) := by
  intro W
  have k := run_add_fb (P := Try.prog) 56 hx hy h
  go_enter Try.func33, Try.ntmps33
  go_wp2
  go_ret
  exact ⟨rfl, rfl⟩
def Good (x n : Int) : Prop := 0 ≤ x ∧ x ≤ 1099511627776 ∧ 0 ≤ n ∧ n ≤ 1099511627776 - x
set_option maxRecDepth 100000 in
set_option maxHeartbeats 1000000 in
theorem of_bad (x n : Int) (h : ¬ Good x n) : Gives 27 #[.int .i64 x, .int .i64 n] (.tuple #[.complex .f64 0 0, .int .i64 1]) ∧ Gives 31 #[.int .i64 x, .int .i64 n] (.tuple #[.complex .f64 0 0, .int .i64 1]) := by
  unfold Good at h
  by_cases h1 : x < 0
  · have g1 : decide (x < 0) = true := decide_eq_true h1
    clear h h1
    constructor <;> intro W
    · go_enter Try.func27, Try.ntmps27
      go_wp2
      go_ret2
      exact ⟨rfl, rfl⟩
    · go_enter Try.func31, Try.ntmps31
      go_wp2
      go_ret2
      exact ⟨rfl, rfl⟩
  · have g1 : decide (x < 0) = false := decide_eq_false h1
    by_cases h2 : 1099511627776 < x
    · have g2 : decide (1099511627776 < x) = true := decide_eq_true h2
      clear h h1 h2
      constructor <;> intro W
      · go_enter Try.func27, Try.ntmps27
        go_wp2
        go_ret2
        exact ⟨rfl, rfl⟩
      · go_enter Try.func31, Try.ntmps31
        go_wp2
        go_ret2
        exact ⟨rfl, rfl⟩
    · have g2 : decide (1099511627776 < x) = false := decide_eq_false h2
      by_cases h3 : n < 0
      · have g3 : decide (n < 0) = true := decide_eq_true h3
        clear h h1 h2 h3
        constructor <;> intro W
        · go_enter Try.func27, Try.ntmps27
          go_wp2
          go_ret2
          exact ⟨rfl, rfl⟩
        · go_enter Try.func31, Try.ntmps31
          go_wp2
          go_ret2
          exact ⟨rfl, rfl⟩
      · have g3 : decide (n < 0) = false := decide_eq_false h3
        have g4 : wrap64 (1099511627776 - x) = 1099511627776 - x := w64 (by omega) (by omega)
        have g5 : decide (1099511627776 - x < n) = true := decide_eq_true (by omega)
        clear h h1 h2 h3
        constructor <;> intro W
        · go_enter Try.func27, Try.ntmps27
          go_wp2
          go_ret2
          exact ⟨rfl, rfl⟩
        · go_enter Try.func31, Try.ntmps31
          go_wp2
          go_ret2
          exact ⟨rfl, rfl⟩
set_option maxRecDepth 100000 in
set_option maxHeartbeats 1000000 in
theorem of_good (x n : Nat) (h : x + n ≤ 1099511627776) : Gives 27 #[.int .i64 x, .int .i64 n] (.tuple #[sp x n, .int .i64 0]) ∧ Gives 31 #[.int .i64 x, .int .i64 n] (.tuple #[sp x n, .int .i64 0]) := by
  have g1 : decide ((x : Int) < 0) = false := decide_eq_false (by omega)
  have g2 : decide (1099511627776 < (x : Int)) = false := decide_eq_false (by omega)
  have g3 : decide ((n : Int) < 0) = false := decide_eq_false (by omega)
  have g4 : wrap64 (1099511627776 - (x : Int)) = 1099511627776 - (x : Int) := w64 (by omega) (by omega)
  have g5 : decide (1099511627776 - (x : Int) < (n : Int)) = false := decide_eq_false (by omega)
  have k1 := conv_if x
  have k2 := conv_if n
  unfold sp
  clear h
  generalize fb x = fx at *
  generalize fb n = fn at *
  refine ⟨?_, ?_⟩ <;> intro W
  · go_enter Try.func27, Try.ntmps27
    go_wp2
    go_ret2
    exact ⟨rfl, rfl⟩
  · go_enter Try.func31, Try.ntmps31
    go_wp2
    go_ret2
    exact ⟨rfl, rfl⟩
theorem part_good (n : Nat) (h : n ≤ 1099511627776) : Gives 41 #[.float .f64 (fb n)] (.int .i64 (n : Int)) := by
  rcases whole_part (fb n) with ⟨a, ha, va, pa⟩ | ⟨pa, na⟩
  · obtain rfl := Val.inj va (val_fb n (by omega))
    exact pa
  · exact absurd (val_fb n (by omega)) (na n h)
set_option maxRecDepth 100000 in
set_option maxHeartbeats 1000000 in
theorem parts_good (x n : Nat) (h : x + n ≤ 1099511627776) : Gives 29 #[sp x n] (.tuple #[.int .i64 x, .int .i64 n]) ∧ Gives 32 #[sp x n] (.tuple #[.int .i64 x, .int .i64 n]) := by
  have k1 := conv_fi (toInt_val (val_fb x (by omega))) (by omega) (by omega)
  have k2 := conv_fi (toInt_val (val_fb n (by omega))) (by omega) (by omega)
  have p1 := part_good x (by omega)
  have p2 := part_good n (by omega)
  unfold sp
  clear h
  generalize fb x = fx at *
  generalize fb n = fn at *
  constructor <;> intro W
  · clear p1 p2
    go_enter Try.func29, Try.ntmps29
    go_wp2
    go_ret2
    exact ⟨rfl, rfl⟩
  · clear k1 k2
    go_enter Try.func32, Try.ntmps32
    go_wp2_with fail
    refine (p1 _).mono ?_
    rintro e w1 ⟨rfl, rfl⟩
    go_wp2_with fail
    refine (p2 _).mono ?_
    rintro e w1 ⟨rfl, rfl⟩
    go_wp2_with fail
    go_ret2
    exact ⟨rfl, rfl⟩
theorem end_good (x n : Nat) (h : x + n ≤ 1099511627776) : Gives 33 #[sp x n] (.float .f64 (fb (x + n))) := end_any (val_fb x (by omega)) (val_fb n (by omega)) (by omega)
/-- What two spans both have. -/
def bothV (x n y m : Nat) : Value × Bool := if min (x + n) (y + m) ≤ max x y then (.complex .f64 0 0, false) else (sp (max x y) (min (x + n) (y + m) - max x y), true)
set_option maxRecDepth 100000 in
set_option maxHeartbeats 2000000 in
theorem both_good (x n y m : Nat) (h : x + n ≤ 1099511627776) (h2 : y + m ≤ 1099511627776) : Gives 28 #[sp x n, sp y m] (.tuple #[(bothV x n y m).1, .bool (bothV x n y m).2]) := by
  have e1 := end_good x n h
  have e2 := end_good y m h2
  have k1 := fun W ts t => run_max_fb (P := Try.prog) W ts t x y (by omega) (by omega)
  have k2 := fun W ts t => run_min_fb (P := Try.prog) W ts t (x + n) (y + m) (by omega) (by omega)
  have ho := order_fb2 (max x y) (min (x + n) (y + m)) (by omega) (by omega)
  intro W
  unfold bothV
  by_cases hc : min (x + n) (y + m) ≤ max x y
  · rw [if_pos hc]
    obtain ⟨o, ho2, ho3⟩ : ∃ o, compare (max x y) (min (x + n) (y + m)) = o ∧ o ≠ .lt := ⟨_, rfl, fun h' => by have := Nat.compare_eq_lt.1 h'; omega⟩
    rw [ho2] at ho
    clear ho2 hc
    unfold sp at *
    generalize fb (max x y) = f1 at *
    generalize fb (min (x + n) (y + m)) = f2 at *
    go_enter Try.func28, Try.ntmps28
    go_wp2_with fail
    refine (e1 _).mono ?_
    rintro e w1 ⟨rfl, rfl⟩
    go_wp2_with fail
    refine (e2 _).mono ?_
    rintro e w1 ⟨rfl, rfl⟩
    clear e1 e2 h h2
    cases o <;> first | exact absurd rfl ho3 | skip
    all_goals
      go_wp2_with fail
      go_ret2
      exact ⟨rfl, rfl⟩
  · rw [if_neg hc]
    rw [Nat.compare_eq_lt.2 (by omega)] at ho
    have k3 := run_sub_fb (P := Try.prog) 56 (min (x + n) (y + m)) (max x y) (by omega) (by omega)
    clear hc
    unfold sp at *
    generalize fb (max x y) = f1 at *
    generalize fb (min (x + n) (y + m) - max x y) = f3 at *
    generalize fb (min (x + n) (y + m)) = f2 at *
    go_enter Try.func28, Try.ntmps28
    go_wp2_with fail
    refine (e1 _).mono ?_
    rintro e w1 ⟨rfl, rfl⟩
    go_wp2_with fail
    refine (e2 _).mono ?_
    rintro e w1 ⟨rfl, rfl⟩
    clear e1 e2 h h2
    go_wp2_with fail
    go_ret2
    exact ⟨rfl, rfl⟩
theorem sp_zero : sp 0 0 = .complex .f64 0 0 := rfl
theorem order_nought (n : Nat) (h : n < 2 ^ 53) : FloatKind.f64.format.order (fb n) 0 = some (if n = 0 then .eq else .gt) := by
  have h2 := order_fb2 n 0 h (by decide)
  rw [fb_zero] at h2
  rw [h2]
  by_cases hn : n = 0
  · rw [if_pos hn, Nat.compare_eq_eq.2 hn]
  · rw [if_neg hn, Nat.compare_eq_gt.2 (by omega)]
/-- What is around two spans. -/
def aroundX (x n y m : Nat) : Nat := if m = 0 then x else if n = 0 then y else min x y
def aroundN (x n y m : Nat) : Nat := if m = 0 then n else if n = 0 then m else max (x + n) (y + m) - min x y
theorem around_ok (x n y m : Nat) (h : x + n ≤ 1099511627776) (h2 : y + m ≤ 1099511627776) : aroundX x n y m + aroundN x n y m ≤ 1099511627776 := by
  unfold aroundX aroundN
  split
  · exact h
  · split
    · exact h2
    · omega
set_option maxRecDepth 100000 in
set_option maxHeartbeats 2000000 in
theorem around_good (x n y m : Nat) (h : x + n ≤ 1099511627776) (h2 : y + m ≤ 1099511627776) : Gives 40 #[sp x n, sp y m] (sp (aroundX x n y m) (aroundN x n y m)) := by
  intro W
  have o1 := order_nought m (by omega)
  have o2 := order_nought n (by omega)
  unfold aroundX aroundN
  by_cases hm : m = 0
  · rw [if_pos hm, if_pos hm]
    rw [if_pos hm] at o1
    clear o2 h h2 hm
    unfold sp
    generalize fb x = fx at *
    generalize fb n = fn at *
    generalize fb y = fy at *
    generalize fb m = fm at *
    go_enter Try.func40, Try.ntmps40
    go_wp2
    go_ret
    exact ⟨rfl, rfl⟩
  · rw [if_neg hm, if_neg hm]
    rw [if_neg hm] at o1
    by_cases hn : n = 0
    · rw [if_pos hn, if_pos hn]
      rw [if_pos hn] at o2
      clear h h2 hm hn
      unfold sp
      generalize fb x = fx at *
      generalize fb n = fn at *
      generalize fb y = fy at *
      generalize fb m = fm at *
      go_enter Try.func40, Try.ntmps40
      go_wp2
      go_ret
      exact ⟨rfl, rfl⟩
    · rw [if_neg hn, if_neg hn]
      rw [if_neg hn] at o2
      have e1 := end_good x n h
      have e2 := end_good y m h2
      have k1 := fun W ts t => run_min_fb (P := Try.prog) W ts t x y (by omega) (by omega)
      have k2 := fun W ts t => run_max_fb (P := Try.prog) W ts t (x + n) (y + m) (by omega) (by omega)
      have k3 := run_sub_fb (P := Try.prog) 56 (max (x + n) (y + m)) (min x y) (by omega) (by omega)
      clear h h2 hm hn
      unfold sp at *
      generalize fb (max (x + n) (y + m) - min x y) = f3 at *
      generalize fb (max (x + n) (y + m)) = f2 at *
      generalize fb (min x y) = f1 at *
      generalize fb (x + n) = f4 at *
      generalize fb (y + m) = f5 at *
      generalize fb x = fx at *
      generalize fb n = fn at *
      generalize fb y = fy at *
      generalize fb m = fm at *
      go_enter Try.func40, Try.ntmps40
      go_wp2_with fail
      refine (e1 _).mono ?_
      rintro e w1 ⟨rfl, rfl⟩
      go_wp2_with fail
      refine (e2 _).mono ?_
      rintro e w1 ⟨rfl, rfl⟩
      go_wp2_with fail
      go_ret
      exact ⟨rfl, rfl⟩
theorem max_if (x y : Nat) : (if decide ((x : Int) < (y : Int)) = true then (y : Int) else (x : Int)) = ((max x y : Nat) : Int) := by
  by_cases h : (x : Int) < (y : Int)
  · rw [if_pos (decide_eq_true h)]; omega
  · rw [if_neg (by rw [decide_eq_false h]; decide)]; omega
theorem min_if (x n y m : Nat) : (if decide ((y : Int) + (m : Int) < (x : Int) + (n : Int)) = true then (y : Int) + (m : Int) else (x : Int) + (n : Int)) = ((min (x + n) (y + m) : Nat) : Int) := by
  by_cases h : (y : Int) + (m : Int) < (x : Int) + (n : Int)
  · rw [if_pos (decide_eq_true h)]; omega
  · rw [if_neg (by rw [decide_eq_false h]; decide)]; omega
theorem min_if2 (x y : Nat) : (if decide ((y : Int) < (x : Int)) = true then (y : Int) else (x : Int)) = ((min x y : Nat) : Int) := by
  by_cases h : (y : Int) < (x : Int)
  · rw [if_pos (decide_eq_true h)]; omega
  · rw [if_neg (by rw [decide_eq_false h]; decide)]; omega
theorem max_if2 (x n y m : Nat) : (if decide ((x : Int) + (n : Int) < (y : Int) + (m : Int)) = true then (y : Int) + (m : Int) else (x : Int) + (n : Int)) = ((max (x + n) (y + m) : Nat) : Int) := by
  by_cases h : (x : Int) + (n : Int) < (y : Int) + (m : Int)
  · rw [if_pos (decide_eq_true h)]; omega
  · rw [if_neg (by rw [decide_eq_false h]; decide)]; omega
end Go.Proofs.Ytiiljkinekjkbaa
