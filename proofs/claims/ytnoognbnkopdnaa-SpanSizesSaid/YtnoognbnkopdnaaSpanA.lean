/- Layer 3, walked: whole, part, Right of any complex number. -/
import Derived.Test.YtnoognbnkopdnaaProg
import Derived.Test.YtnoognbnkopdnaaBase
import Derived.Test.YtnoognbnkopdnaaFlt
import Derived.Below
import Derived.WalkKit
import Derived.KernelRfl
import Derived.Lib.Hide
import Derived.BigQuiet
import Derived.Test.YtnoognbnkopdnaaWWords
import Derived.Laws.Cover3
set_option linter.unusedVariables false
set_option linter.unusedSimpArgs false
namespace Go.Proofs.Ytnoognbnkopdnaa
open Go.RowKit Go.Proofs.YtnoognbnkopdnaaW.PrintWords Flt

theorem fb_most : fb 1099511627776 = 4787326403894837248 := by decide +kernel
theorem fb_one : fb 1 = 4607182418800017408 := by decide +kernel
theorem of_int (n : Nat) : floatOfInt .f64 (n : Int) = fb n := by
  unfold floatOfInt FloatKind.nearest FloatKind.encode
  rw [show decide ((n : Int) < 0) = false from decide_eq_false (by omega), Int.natAbs_natCast]
  rfl
theorem conv_if (n : Nat) (W : World) : (convert 3 25 (.int .i64 (n : Int))).run Try.prog W = .ok (.float .f64 (fb n)) W := by
  rw [run_convert_int_float W 3 25 .i64 .f64 (n : Int) (by rw [Try.underlying3]; rfl) Try.underlying25, of_int]
theorem conv_fi {x : Nat} {n : Int} (h : (Ieee.double.read x).toInt .zero = some n) (h0 : 0 ≤ n) (h1 : n ≤ 1099511627776) (W : World) : (convert 25 3 (.float .f64 x)).run Try.prog W = .ok (.int .i64 n) W := by
  refine run_convert_float_int W 25 3 .f64 .i64 x n (by rw [Try.underlying25]; rfl) Try.underlying3 ?_
  unfold floatToIntVal
  rw [show (FloatKind.f64.decode x).toInt .zero = some n from h]
  simp only
  rw [if_pos]
  constructor
  · show (-9223372036854775808 : Int) ≤ n; omega
  · show n ≤ (9223372036854775807 : Int); omega
def Gives (f : FuncId) (args : Array Value) (v : Value) : Prop := ∀ W : World, Calls Try.prog f args W fun e w' => e = .returned v ∧ w' = W
set_option maxHeartbeats 1000000 in
set_option maxRecDepth 100000 in
theorem whole_part (x : Nat) : (∃ n, n ≤ 1099511627776 ∧ Val x n ∧ Gives 29 #[.float .f64 x] (.bool true) ∧ Gives 31 #[.float .f64 x] (.int .i64 (n : Int))) ∨
    (Gives 29 #[.float .f64 x] (.bool false) ∧ Gives 31 #[.float .f64 x] (.int .i64 (-1)) ∧ ∀ n, n ≤ 1099511627776 → ¬ Val x n) := by
  have hone := fb_one
  cases way x with
  | nan h0 h1 h2 =>
    refine .inr ⟨?_, ?_, fun n _ hv => by rw [order_val hv hv] at h1; cases h1⟩
    all_goals
      intro W
      rw [fb_most] at h2
      replace h0 : FloatKind.f64.format.order x 0 = none := h0
      replace h1 : FloatKind.f64.format.order x x = none := h1
      replace h2 : FloatKind.f64.format.order x 4787326403894837248 = none := h2
    · go_enter Try.func29, Try.ntmps29
      go_wp2
      go_ret
      exact ⟨rfl, rfl⟩
    · go_enter Try.func31, Try.ntmps31
      go_wp2
      go_ret
      exact ⟨rfl, rfl⟩
  | less h0 =>
    refine .inr ⟨?_, ?_, fun n _ hv => by have h := order_val hv (val_fb 0 (by decide)); rw [fb_zero, h0] at h; have := Nat.compare_eq_lt.1 (Option.some.inj h).symm; omega⟩
    all_goals
      intro W
      replace h0 : FloatKind.f64.format.order x 0 = some .lt := h0
    · go_enter Try.func29, Try.ntmps29
      go_wp2
      go_ret
      exact ⟨rfl, rfl⟩
    · go_enter Try.func31, Try.ntmps31
      go_wp2
      go_ret
      exact ⟨rfl, rfl⟩
  | great h0 h2 =>
    refine .inr ⟨?_, ?_, fun n hn hv => by have h := order_val hv (val_fb 1099511627776 (by decide)); rw [h2] at h; have := Nat.compare_eq_gt.1 (Option.some.inj h).symm; omega⟩
    all_goals
      intro W
      rw [fb_most] at h2
      replace h0 : FloatKind.f64.format.order x 0 = some .gt := h0
      replace h2 : FloatKind.f64.format.order x 4787326403894837248 = some .gt := h2
    · go_enter Try.func29, Try.ntmps29
      go_wp2
      go_ret
      exact ⟨rfl, rfl⟩
    · go_enter Try.func31, Try.ntmps31
      go_wp2
      go_ret
      exact ⟨rfl, rfl⟩
  | broken n o2 hn h0 h1 h2 h2g h3 o h4 ho =>
    have k1 := conv_fi h3 (by omega) (by omega)
    have k2 := conv_if n
    have h5 := order_swap x (fb n)
    rw [h4] at h5
    refine .inr ⟨?_, ?_, fun k hk hv => by have h := toInt_val hv; rw [h3] at h; have hkn : n = k := Int.ofNat_inj.1 (Option.some.inj h); subst hkn; have h := order_val hv (val_fb n (by omega)); rw [h4, Nat.compare_eq_eq.2 rfl] at h; exact ho (Option.some.inj h)⟩
    all_goals
      intro W
      rw [fb_most] at h2
      replace h0 : FloatKind.f64.format.order x 0 = some .gt := h0
      replace h1 : FloatKind.f64.format.order x x = some .eq := h1
      replace h2 : FloatKind.f64.format.order x 4787326403894837248 = some o2 := h2
      replace h4 : FloatKind.f64.format.order x (fb n) = some o := h4
      replace h5 : FloatKind.f64.format.order (fb n) x = some o.swap := h5
      clear hn h3
      generalize fb n = y at *
      cases o2 <;> first | exact absurd rfl h2g | skip
    all_goals clear h2g
    all_goals cases o <;> first | exact absurd rfl ho | skip
    all_goals clear ho
    all_goals first
      | (go_enter Try.func29, Try.ntmps29
         go_wp2
         go_ret
         exact ⟨rfl, rfl⟩)
      | (go_enter Try.func31, Try.ntmps31
         go_wp2
         go_ret
         exact ⟨rfl, rfl⟩)
  | whole n o2 hn hpos h0 h1 h2 h2g h3 h4 hv =>
    have k1 := conv_fi h3 (by omega) (by omega)
    have k2 := conv_if n
    have h5 := order_swap x (fb n)
    rw [h4] at h5
    have hnz : ((n : Int) == 0) = false := by rw [beq_eq_false_iff_ne]; omega
    have hnz2 : ¬ (n = 0) := by omega
    refine .inl ⟨n, hn, hv, ?_, ?_⟩
    all_goals
      intro W
      rw [fb_most] at h2
      replace h0 : FloatKind.f64.format.order x 0 = some .gt := h0
      replace h1 : FloatKind.f64.format.order x x = some .eq := h1
      replace h2 : FloatKind.f64.format.order x 4787326403894837248 = some o2 := h2
      replace h4 : FloatKind.f64.format.order x (fb n) = some .eq := h4
      replace h5 : FloatKind.f64.format.order (fb n) x = some .eq := h5
      clear hn h3 hv hpos
      generalize fb n = y at *
      cases o2 <;> first | exact absurd rfl h2g | skip
    all_goals clear h2g
    all_goals first
      | (go_enter Try.func29, Try.ntmps29
         go_wp2
         go_ret
         exact ⟨rfl, rfl⟩)
      | (go_enter Try.func31, Try.ntmps31
         go_wp2
         go_ret
         exact ⟨rfl, rfl⟩)
  | nought h0 h1 h2 h3 i h5 h6 hv =>
    have k1 := conv_fi h3 (by omega) (by omega)
    have k2 := conv_if 0
    rw [fb_zero] at k2
    have h7 := order_swap x 0
    rw [h0] at h7
    refine .inl ⟨0, by omega, hv, ?_, ?_⟩
    all_goals
      intro W
      rw [fb_most] at h2
      rw [fb_one] at h5
      replace h0 : FloatKind.f64.format.order x 0 = some .eq := h0
      replace h1 : FloatKind.f64.format.order x x = some .eq := h1
      replace h2 : FloatKind.f64.format.order x 4787326403894837248 = some .lt := h2
      replace h6 : FloatKind.f64.format.order i 0 = some .gt := h6
      replace h7 : FloatKind.f64.format.order 0 x = some .eq := h7
      have k3 := fun W => run_float_arith (P := Try.prog) W .quo 25 .f64 4607182418800017408 x i h5
      replace k2 : ∀ W : World, (convert 3 25 (.int .i64 0)).run Try.prog W = .ok (.float .f64 0) W := k2
      clear h3 h5 hv
    · go_enter Try.func29, Try.ntmps29
      go_wp2
      go_ret
      exact ⟨rfl, rfl⟩
    · go_enter Try.func31, Try.ntmps31
      go_wp2
      go_ret
      exact ⟨rfl, rfl⟩
  | below h0 h1 h2 h3 i h5 h6 hnv =>
    have k1 := conv_fi h3 (by omega) (by omega)
    have k2 := conv_if 0
    rw [fb_zero] at k2
    have h7 := order_swap x 0
    rw [h0] at h7
    refine .inr ⟨?_, ?_, fun n _ => hnv n⟩
    all_goals
      intro W
      rw [fb_most] at h2
      rw [fb_one] at h5
      replace h0 : FloatKind.f64.format.order x 0 = some .eq := h0
      replace h1 : FloatKind.f64.format.order x x = some .eq := h1
      replace h2 : FloatKind.f64.format.order x 4787326403894837248 = some .lt := h2
      replace h6 : FloatKind.f64.format.order i 0 = some .lt := h6
      replace h7 : FloatKind.f64.format.order 0 x = some .eq := h7
      have k3 := fun W => run_float_arith (P := Try.prog) W .quo 25 .f64 4607182418800017408 x i h5
      replace k2 : ∀ W : World, (convert 3 25 (.int .i64 0)).run Try.prog W = .ok (.float .f64 0) W := k2
      clear h3 h5
    · go_enter Try.func29, Try.ntmps29
      go_wp2
      go_ret
      exact ⟨rfl, rfl⟩
    · go_enter Try.func31, Try.ntmps31
      go_wp2
      go_ret
      exact ⟨rfl, rfl⟩
end Go.Proofs.Ytnoognbnkopdnaa
