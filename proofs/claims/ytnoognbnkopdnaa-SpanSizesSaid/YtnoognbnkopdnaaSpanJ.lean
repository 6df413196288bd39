/- Layer 3, walked: the reference's Same; Has at any row. -/
import Derived.Test.YtnoognbnkopdnaaSpanI
import Derived.Test.YtnoognbnkopdnaaSpanHas3
set_option linter.unusedVariables false
set_option linter.unusedSimpArgs false
set_option exponentiation.threshold 2000
namespace Go.Proofs.Ytnoognbnkopdnaa
open Go.RowKit Go.Shelf Go.Lib Go.Sort Go.Proofs.YtnoognbnkopdnaaW.PrintWords Flt Math Clean

set_option maxHeartbeats 4000000 in
set_option maxRecDepth 1000000 in
theorem same_calls (A B : Option Addr) (c d : Nat) (l : List Sp) (w : World) (ha : RdP w A l) (hb : RdP w B l) (hf : Fit l) (hn : l.length ≤ 1000000) :
    Calls Try.prog 28 #[.slice A l.length c, .slice B l.length d] w fun e w' => e = .returned (.bool true) ∧ Below w.heap.size w w' := by
  have HA := Lib.hid ha; have HB := Lib.hid hb; have HF := Lib.hid hf
  clear ha hb hf
  have hne : ((l.length : Int) != (l.length : Int)) = false := by simp
  go_enter Try.func28, Try.ntmps28
  go_wp2_with fail
  go_loopg [5] l.length (fun gk v5 wx => ∃ i : Nat, i + gk = l.length ∧ v5 = .int .i64 i ∧ Hid (Below w.heap.size w wx))
  case atStart => exact ⟨0, by omega, rfl, Lib.hid (Below.refl _ _)⟩
  case round =>
    obtain ⟨i, hi, rfl, HW⟩ := hrel
    by_cases hlt : i < l.length
    · have hd : decide ((i : Int) < (l.length : Int)) = true := decide_eq_true (by omega)
      cases gk with
      | zero => omega
      | succ k =>
        obtain ⟨b1, o1, hA, hx⟩ := HA.out.at_ i hlt
        obtain ⟨b2, o2, hB, hy⟩ := HB.out.at_ i hlt
        subst hA hB
        replace hx := (HW.out.cell (World.block_lt_of_cell? w _ hx)).trans hx
        replace hy := (HW.out.cell (World.block_lt_of_cell? w _ hy)).trans hy
        have hfi := HF.out _ (List.getElem_mem hlt)
        have q1 := order_eq (show l[i].1 < 2 ^ 53 by omega) (rfl : l[i].1 = l[i].1)
        have q2 := order_eq (show l[i].2 < 2 ^ 53 by omega) (rfl : l[i].2 = l[i].2)
        rw [show eP l[i] = .complex .f64 (fb l[i].1) (fb l[i].2) from rfl] at hx hy
        clear hfi
        generalize fb l[i].1 = f1 at *
        generalize fb l[i].2 = f2 at *
        go_wp2_with fail
        go_quiet (fail)
        go_wp2_with fail
        go_roundg k
        case measure => omega
        case rel => exact ⟨i + 1, by omega, by congr 1, by first | exact HW | exact Lib.hid (pw_below_drewN HW.out _)⟩
    · obtain rfl : gk = 0 := by omega
      obtain rfl : i = l.length := by omega
      have hd : decide ((l.length : Int) < (l.length : Int)) = false := decide_eq_false (by omega)
      go_wp2_with fail
      go_ret
      exact ⟨rfl, HW.out⟩
/-- Is a place in one of them: it hangs on their places alone. -/
theorem inS_cov (U : Int) : ∃ f : (Nat → Bool) → Bool, ∀ l : List Sp, (l.any fun s => inS U s.1 s.2) = f (cov l) := by
  have hK : (0 : Int) < 2 ^ 1074 := Int.pow_pos (by decide)
  by_cases h : 0 ≤ U
  · refine ⟨fun c => c (U / 2 ^ 1074).toNat, fun l => ?_⟩
    show _ = cov l _
    unfold cov
    congr 1
    funext s
    rw [inS]
    unfold has
    generalize (2 : Int) ^ 1074 = K at *
    have e : ((U / K).toNat : Int) = U / K := Int.toNat_of_nonneg (Int.ediv_nonneg h (by omega))
    congr 1
    · apply decide_eq_decide.2
      rw [← Int.ofNat_le, e]
      exact (Int.le_ediv_iff_mul_le hK).symm
    · apply decide_eq_decide.2
      rw [← Int.ofNat_lt, e]
      exact (Int.ediv_lt_iff_lt_mul hK).symm
  · refine ⟨fun _ => false, fun l => ?_⟩
    rw [List.any_eq_false]
    intro s _
    rw [inS]
    have : ¬ ((s.1 : Int) * 2 ^ 1074 ≤ U) := by
      have := Int.mul_nonneg (show (0 : Int) ≤ (s.1 : Int) by omega) (Int.le_of_lt hK)
      omega
    rw [decide_eq_false this]; simp
set_option maxHeartbeats 1000000 in
set_option maxRecDepth 1000000 in
theorem index_none (c : Nat) (lb : Array Value) : Gives 41 #[.slice none 0 c, .func (.func 34) #[] lb] (.int .i64 (-1)) := by
  intro w
  go_enter Try.func41, Try.ntmps41
  go_wp2
  go_loopg [8] 0 (fun gk v8 wx => v8 = .int .i64 0 ∧ wx = w)
  case atStart => exact ⟨rfl, rfl⟩
  case round =>
    obtain ⟨rfl, rfl⟩ := hrel
    go_wp2
    go_ret
    exact ⟨rfl, rfl⟩
theorem contains_none (c : Nat) (lb : Array Value) : Gives 33 #[.slice none 0 c, .func (.func 34) #[] lb] (.bool false) := by
  intro w
  go_enter Try.func33, Try.ntmps33
  go_wp2_with fail
  refine (index_none _ _ _).mono ?_
  rintro e w1 ⟨rfl, rfl⟩
  go_wp2_with fail
  go_ret
  exact ⟨rfl, rfl⟩
attribute [local go_sem] run_store_float
set_option maxHeartbeats 1000000 in
set_option maxRecDepth 1000000 in
theorem has_none (at_ : Int) (c : Nat) (w : World) : Calls Try.prog 24 #[.slice none 0 c, .int .i64 at_] w fun e w' => e = .returned (.bool false) ∧ Below w.heap.size w w' := by
  have hcv : ∀ W, (convert 3 25 (.int .i64 at_)).run Try.prog W = .ok (.float .f64 (floatOfInt .f64 at_)) W := fun W => by
    rw [run_convert_int_float W 3 25 .i64 .f64 at_ (by rw [Try.underlying3]; rfl) Try.underlying25]
  generalize floatOfInt .f64 at_ = P at *
  go_enter Try.func24, Try.ntmps24
  go_wp2_with fail
  refine (contains_none _ _ _).mono ?_
  rintro e w1 ⟨rfl, rfl⟩
  go_wp2_with fail
  go_ret
  exact ⟨rfl, (Below.refl _ _).alloc (Nat.le_refl _) _⟩
/-- Has, at any row of spans: it hangs on their places alone. -/
theorem has_any (at_ : Int) : ∃ f : (Nat → Bool) → Bool, ∀ (A : Option Addr) (c : Nat) (l : List Sp) (w : World), RdP w A l → Fit l → l.length ≤ 1000000 →
    Calls Try.prog 24 #[.slice A l.length c, .int .i64 at_] w fun e w' => e = .returned (.bool (f (cov l))) ∧ Below w.heap.size w w' := by
  obtain ⟨U, hU⟩ := has_calls at_
  obtain ⟨f, hf⟩ := inS_cov U
  refine ⟨f, fun A c l w h hfit hn => ?_⟩
  rw [← hf]
  rcases h with ⟨rfl, rfl⟩ | ⟨bk, o, rfl, hbk, hc⟩
  · exact has_none at_ c w
  · exact hU l hfit bk o c w (by omega) hbk hc
end Go.Proofs.Ytnoognbnkopdnaa
