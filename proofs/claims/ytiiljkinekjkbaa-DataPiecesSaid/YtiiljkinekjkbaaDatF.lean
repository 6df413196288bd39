/- Layer 9 (by dat.py out of layer 3's text): what Clean asks of its closures. -/
import Derived.Test.YtiiljkinekjkbaaDatA
import Derived.Test.YtiiljkinekjkbaaCleanP
import Derived.Test.YtiiljkinekjkbaaShelf
import Derived.Test.YtiiljkinekjkbaaShelfC
import Derived.Shelf.SlSortCmp.Whole1
import Derived.Shelf.SlicesE.DeleteFunc
import Derived.Shelf.SlicesE.Clone
import Derived.Lib.OwnBridge
import Derived.Lib.AppendIntMem
set_option linter.unusedVariables false
set_option linter.unusedSimpArgs false
set_option exponentiation.threshold 2000
namespace Go.Proofs.Ytiiljkinekjkbaa
open Go.RowKit Go.Shelf Go.Lib Go.Sort Go.Proofs.YtiiljkinekjkbaaW.PrintWords Flt Math

/-- Spans whose parts may be. -/
abbrev SpS := {s : Nat × Nat // s.1 + s.2 ≤ 1099511627776}
instance : Inhabited SpS := ⟨⟨(0, 0), by decide⟩⟩
def eS (s : SpS) : Value := sp s.1.1 s.1.2
theorem eS_one : OneCell eS := fun _ => rfl
def cmpN (x y : Nat) : Int := if x < y then -1 else if y < x then 1 else 0
theorem lt_cmp (s t : SpS) : ltOf (fun a b : SpS => cmpN a.1.1 b.1.1) s t = decide (s.1.1 < t.1.1) := by
  show decide (cmpN s.1.1 t.1.1 < 0) = _
  unfold cmpN
  by_cases h : s.1.1 < t.1.1
  · rw [if_pos h]; simp [h]
  · rw [if_neg h]; split <;> simp [h]
theorem swo_cmp : SWO (ltOf (fun a b : SpS => cmpN a.1.1 b.1.1)) where
  irrefl x := by rw [lt_cmp]; simp
  trans x y z h1 h2 := by rw [lt_cmp] at *; simp at *; omega
  ntrans x y z h1 h2 := by rw [lt_cmp] at *; simp at *; omega
theorem nan_good (x : Nat) (h : x < 2 ^ 53) : Gives 45 #[.float .f64 (fb x)] (.bool false) := by
  intro W
  have o := order_eq h (rfl : x = x)
  generalize fb x = f at *
  go_enter Try.func45, Try.ntmps45
  go_wp2
  go_ret
  exact ⟨rfl, rfl⟩
set_option maxRecDepth 100000 in
set_option maxHeartbeats 1000000 in
theorem compare_good (x y : Nat) (hx : x < 2 ^ 53) (hy : y < 2 ^ 53) : Gives 39 #[.float .f64 (fb x), .float .f64 (fb y)] (.int .i64 (cmpN x y)) := by
  intro W
  have n1 := nan_good x hx
  have n2 := nan_good y hy
  unfold cmpN
  rcases Nat.lt_trichotomy x y with h | h | h
  · rw [if_pos h]
    have o := order_lt hx hy h
    generalize fb x = f at *
    generalize fb y = g at *
    clear hx hy h
    go_enter Try.func39, Try.ntmps39
    go_wp2_with fail
    refine (n1 _).mono ?_
    rintro e w' ⟨rfl, rfl⟩
    go_wp2_with fail
    refine (n2 _).mono ?_
    rintro e w' ⟨rfl, rfl⟩
    go_wp2_with fail
    go_ret
    exact ⟨rfl, rfl⟩
  · rw [if_neg (by omega), if_neg (by omega)]
    have o := order_eq hx h
    generalize fb x = f at *
    generalize fb y = g at *
    clear hx hy h
    go_enter Try.func39, Try.ntmps39
    go_wp2_with fail
    refine (n1 _).mono ?_
    rintro e w' ⟨rfl, rfl⟩
    go_wp2_with fail
    refine (n2 _).mono ?_
    rintro e w' ⟨rfl, rfl⟩
    go_wp2_with fail
    go_ret
    exact ⟨rfl, rfl⟩
  · rw [if_neg (by omega), if_pos h]
    have o := order_gt hx hy h
    generalize fb x = f at *
    generalize fb y = g at *
    clear hx hy h
    go_enter Try.func39, Try.ntmps39
    go_wp2_with fail
    refine (n1 _).mono ?_
    rintro e w' ⟨rfl, rfl⟩
    go_wp2_with fail
    refine (n2 _).mono ?_
    rintro e w' ⟨rfl, rfl⟩
    go_wp2_with fail
    go_ret
    exact ⟨rfl, rfl⟩
theorem del_fn (s : SpS) : Gives 36 #[eS s] (.bool (decide (s.1.2 = 0))) := by
  intro W
  have hs := s.2
  have o := order_nought s.1.2 (by omega)
  unfold eS sp
  by_cases h : s.1.2 = 0
  · rw [if_pos h] at o
    rw [decide_eq_true h]
    generalize fb s.1.1 = f at *
    generalize fb s.1.2 = g at *
    clear hs h
    go_enter Try.func36, Try.ntmps36
    go_wp2
    go_ret
    exact ⟨rfl, rfl⟩
  · rw [if_neg h] at o
    rw [decide_eq_false h]
    generalize fb s.1.1 = f at *
    generalize fb s.1.2 = g at *
    clear hs h
    go_enter Try.func36, Try.ntmps36
    go_wp2
    go_ret
    exact ⟨rfl, rfl⟩
theorem cmp_fn (s t : SpS) : Gives 38 #[eS s, eS t] (.int .i64 (cmpN s.1.1 t.1.1)) := by
  intro W
  have hs := s.2
  have ht := t.2
  have c := compare_good s.1.1 t.1.1 (by omega) (by omega)
  unfold eS sp
  generalize cmpN s.1.1 t.1.1 = r at *
  generalize fb s.1.1 = f at *
  generalize fb s.1.2 = g at *
  generalize fb t.1.1 = f' at *
  generalize fb t.1.2 = g' at *
  clear hs ht
  go_enter Try.func38, Try.ntmps38
  go_wp2_with fail
  refine (c _).mono ?_
  rintro e w' ⟨rfl, rfl⟩
  go_wp2_with fail
  go_ret
  exact ⟨rfl, rfl⟩
theorem del_pred (w : World) : PredAt Try.prog 36 #[] eS (fun s => decide (s.1.2 = 0)) w := fun W s _ => (del_fn s W).mono fun _ _ ⟨he, hw⟩ => ⟨he, 0, hw⟩
theorem del_over (blk off size : Nat) (w : World) : PredOver Try.prog 36 #[] eS (fun s => decide (s.1.2 = 0)) blk off size w := fun _ _ _ s _ => (del_fn s _).mono fun _ _ ⟨he, hw⟩ => ⟨he, 0, hw⟩
theorem cmp_lays (blk off size : Nat) (w : World) : CmpLays1 Try.prog 38 #[] eS (fun a b : SpS => cmpN a.1.1 b.1.1) blk off size w :=
  CmpReads.lays (fun _ _ _ _ s t => (cmp_fn s t _).mono fun _ _ ⟨he, hw⟩ => ⟨he, 0, hw⟩)
theorem del_enters : ∀ args w, (callFunc 36 args).run Try.prog w = .ok (.enter 36 args) w := enters_of Try.func36 (by kernel_rfl) rfl
theorem cmp_enters : ∀ args w, (callFunc 38 args).run Try.prog w = .ok (.enter 38 args) w := enters_of Try.func38 (by kernel_rfl) rfl
end Go.Proofs.Ytiiljkinekjkbaa
