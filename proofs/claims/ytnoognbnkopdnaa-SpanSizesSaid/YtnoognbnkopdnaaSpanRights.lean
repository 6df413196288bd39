/- SpanRights, walked. -/
import Derived.Test.YtnoognbnkopdnaaSpanC
set_option linter.unusedVariables false
set_option linter.unusedSimpArgs false
namespace Go.Proofs.Ytnoognbnkopdnaa
open Go.RowKit Go.Proofs.YtnoognbnkopdnaaW.PrintWords Flt Math

set_option maxRecDepth 100000 in
set_option maxHeartbeats 1000000 in
theorem shown_gives : Gives 10 #[] (.bool true) := by
  intro W
  have o1 := (of_good 3 4 (by decide)).1
  have o2 := (of_good 5 9 (by decide)).1
  have b := both_good 3 4 5 9 (by decide) (by decide)
  rw [show bothV 3 4 5 9 = (sp 5 2, true) from rfl] at b
  have c1 : FloatKind.f64.format.order (fb 3) 4613937818241073152 = some .eq := by decide +kernel
  have c2 : FloatKind.f64.format.order (fb 4) 4616189618054758400 = some .eq := by decide +kernel
  have c3 : FloatKind.f64.format.order (fb 5) 4617315517961601024 = some .eq := by decide +kernel
  have c4 : FloatKind.f64.format.order (fb 2) 4611686018427387904 = some .eq := by decide +kernel
  unfold sp at *
  generalize fb 3 = f3 at *
  generalize fb 4 = f4 at *
  generalize fb 5 = f5 at *
  generalize fb 2 = f2 at *
  generalize fb 9 = f9 at *
  go_enter Try.func10, Try.ntmps10
  go_wp2_with fail
  refine (o1 _).mono ?_
  rintro e w1 ⟨rfl, rfl⟩
  go_wp2_with fail
  refine (o2 _).mono ?_
  rintro e w1 ⟨rfl, rfl⟩
  go_wp2_with fail
  refine (b _).mono ?_
  rintro e w1 ⟨rfl, rfl⟩
  clear o1 o2 b
  go_wp2_with fail
  go_ret
  exact ⟨rfl, rfl⟩
theorem run_quo {P : Program} (x y : Nat) (W : World) : ∃ r W', (∀ t, (binOp .quo t (.float .f64 x) (.float .f64 y)).run P W = .ok (.float .f64 r) W') ∧ Below W.heap.size W W' := by
  cases h : FloatKind.f64.format.div x y with
  | some r => exact ⟨r, W, fun t => run_float_arith W .quo t .f64 x y r h, Below.refl _ _⟩
  | none =>
    by_cases hf : (Question.nanBits .f64 x y).forced = true
    · exact ⟨0, W, fun t => by simp [binOp, Op.floatArith, h, hf], Below.refl _ _⟩
    · exact ⟨_, W.drew, fun t => by simp [binOp, Op.floatArith, h, hf]; rfl, below_drew (Below.refl _ _)⟩
theorem Gives.calls {f : FuncId} {args : Array Value} {v : Value} (h : Gives f args v) (W : World) : Calls Try.prog f args W fun e w' => e = .returned v ∧ Below W.heap.size W w' :=
  (h W).mono (by rintro e w' ⟨rfl, rfl⟩; exact ⟨rfl, Below.refl _ _⟩)
theorem rights_alloc {w w1 : World} {o : Obj} (h : Below (w.alloc o).heap.size (w.alloc o) w1) : Below w.heap.size w w1 :=
  below_then ((Below.refl _ _).alloc (Nat.le_refl _) _) (by simp) h
theorem conv_any (n : Int) (W : World) : (convert 3 25 (.int .i64 n)).run Try.prog W = .ok (.float .f64 (floatOfInt .f64 n)) W :=
  run_convert_int_float W 3 25 .i64 .f64 n (by rw [Try.underlying3]; rfl) Try.underlying25
set_option maxRecDepth 100000 in
set_option maxHeartbeats 4000000 in
theorem rights_calls (a b c d : Int) (w : World) : Calls Try.prog 3 #[.agg #[.int .i64 a, .int .i64 b, .int .i64 c, .int .i64 d]] w fun e w' => e = .returned (.bool true) ∧ Below w.heap.size w w' := by
  have k1 := conv_any a
  have k2 := conv_any b
  have k3 := conv_any c
  have k4 := conv_any d
  generalize floatOfInt .f64 a = fa at *
  generalize floatOfInt .f64 b = fbb at *
  generalize floatOfInt .f64 c = fc at *
  generalize floatOfInt .f64 d = fd at *
  go_enter Try.func3, Try.ntmps3
  go_wp2_with fail
  refine (shown_gives.calls _).mono ?_
  rintro e w1 ⟨rfl, hb⟩
  have HB1 := Lib.hid (rights_alloc hb)
  clear hb
  obtain ⟨x, w2, q1, hb2⟩ := run_quo (P := Try.prog) fa fbb w1
  obtain ⟨y, w3, q2, hb3⟩ := run_quo (P := Try.prog) fc fd w2
  have HB3 := Lib.hid (below_then (below_then HB1.out HB1.out.size hb2) (below_then HB1.out HB1.out.size hb2).size hb3)
  clear HB1 hb2 hb3
  obtain ⟨b1, r1, s1, _⟩ := right_same x y
  obtain ⟨b2, r2, s2, _⟩ := right_same y x
  go_wp2_with fail
  refine (r1 _).mono ?_
  rintro e w1 ⟨rfl, rfl⟩
  go_wp2_with fail
  refine (s1 _).mono ?_
  rintro e w1 ⟨rfl, rfl⟩
  clear k1 k2 k3 k4 q1 q2
  cases b1
  all_goals
    go_wp2_with fail
    refine (r2 _).mono ?_
    rintro e w1 ⟨rfl, rfl⟩
    go_wp2_with fail
    refine (s2 _).mono ?_
    rintro e w1 ⟨rfl, rfl⟩
    cases b2
    all_goals
      go_wp2_with fail
      go_ret
      exact ⟨rfl, HB3.out⟩
def copyholdlaw03_SpanRights.f (a0_0 a0_1 a0_2 a0_3 : Int) : Option Bool := some true
theorem copyholdlaw03_SpanRights.calls (a0_0 a0_1 a0_2 a0_3 : Int) (r : Bool) (w : World) (h : copyholdlaw03_SpanRights.f a0_0 a0_1 a0_2 a0_3 = some r) :
    Calls Try.prog 3 #[.agg #[.int .i64 a0_0, .int .i64 a0_1, .int .i64 a0_2, .int .i64 a0_3]] w fun e w' => e = .returned (.bool r) ∧ Below w.heap.size w w' := by
  obtain rfl := Option.some.inj h
  exact rights_calls _ _ _ _ w
end Go.Proofs.Ytnoognbnkopdnaa
