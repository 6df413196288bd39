/- Layer 3, walked: Has. -/
import Derived.Test.YtnoognbnkopdnaaSpanHas
import Derived.Deep.QuietTactic
import Derived.BigQuiet
set_option linter.unusedVariables false
set_option linter.unusedSimpArgs false
set_option exponentiation.threshold 2000
namespace Go.Proofs.Ytnoognbnkopdnaa
open Go.RowKit Go.Proofs.YtnoognbnkopdnaaW.PrintWords Flt Math

/-- Is a place (so many of the least) in a span? -/
def inS (U : Int) (x n : Nat) : Bool := decide ((x : Int) * 2 ^ 1074 ≤ U) && decide (U < ((x + n : Nat) : Int) * 2 ^ 1074)
set_option maxRecDepth 100000 in
set_option maxHeartbeats 1000000 in
theorem has1_calls (x n : Nat) (h : x + n ≤ 1099511627776) (p : Nat) (U : Int) (hp : ∀ a : Nat, a < 2 ^ 53 → FloatKind.f64.format.order p (fb a) = some (compare U ((a : Int) * 2 ^ 1074))) (blk : Nat) (W : World) (hc : W.cell? ⟨blk, 0, none⟩ = some (.float .f64 p)) :
    Calls Try.prog 34 #[sp x n, .pointer (some ⟨blk, 0, none⟩)] W fun e w' => e = .returned (.bool (inS U x n)) ∧ Drawn0 W w' := by
  have e1 := end_good x n h
  have o1 := hp x (by omega)
  have o2 := hp (x + n) (by omega)
  unfold inS
  generalize (x : Int) * 2 ^ 1074 = L at *
  generalize ((x + n : Nat) : Int) * 2 ^ 1074 = R at *
  unfold sp at *
  generalize fb (x + n) = fe at *
  generalize fb x = fx at *
  generalize fb n = fn at *
  clear hp h
  by_cases c1 : U < L
  · rw [decide_eq_false (show ¬ L ≤ U by omega), Bool.false_and]
    rw [Int.compare_eq_lt.2 c1] at o1
    clear o2 c1
    go_enter Try.func34, Try.ntmps34
    go_wp2_with fail
    go_quiet ((go_at_call 30; exact Calls.quiet_of_same (e1 _)))
    go_wp2_with fail
    go_ret
    exact ⟨rfl, ⟨_, rfl⟩⟩
  · rw [decide_eq_true (show L ≤ U by omega), Bool.true_and]
    obtain ⟨o, ho, ho2⟩ : ∃ o, compare U L = o ∧ o ≠ .lt := ⟨_, rfl, fun h => c1 (Int.compare_eq_lt.1 h)⟩
    rw [ho] at o1
    obtain ⟨q, hq, hq2⟩ : ∃ q, compare U R = q ∧ decide (U < R) = (some q == some .lt) := ⟨_, rfl, by
      by_cases h : U < R
      · rw [Int.compare_eq_lt.2 h, decide_eq_true h]; rfl
      · rw [decide_eq_false h]
        have : compare U R ≠ .lt := fun h' => h (Int.compare_eq_lt.1 h')
        cases hh : compare U R <;> first | exact absurd hh this | rfl⟩
    rw [hq] at o2
    rw [hq2]
    clear ho hq hq2 c1
    cases o <;> first | exact absurd rfl ho2 | skip
    all_goals clear ho2
    all_goals cases q
    all_goals
      go_enter Try.func34, Try.ntmps34
      go_wp2_with fail
      go_quiet ((go_at_call 30; exact Calls.quiet_of_same (e1 _)))
      go_wp2_with fail
      go_ret
      exact ⟨rfl, ⟨_, rfl⟩⟩
end Go.Proofs.Ytnoognbnkopdnaa
