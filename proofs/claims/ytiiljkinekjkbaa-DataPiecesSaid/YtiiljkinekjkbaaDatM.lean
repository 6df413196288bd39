/- Layer 9, walked: the laws' example; Read, Write, Cut in the print's form. -/
import Derived.Test.YtiiljkinekjkbaaDatL
set_option linter.unusedVariables false
set_option linter.unusedSimpArgs false
set_option exponentiation.threshold 2000
namespace Go.Proofs.Ytiiljkinekjkbaa
open Go.RowKit Go.Shelf Go.Lib Go.Sort Go.Proofs.YtiiljkinekjkbaaW.PrintWords Flt Math Clean

theorem fb_two : fb 2 = 4611686018427387904 := by decide +kernel
theorem at_zero {w : World} {A : Option Addr} {s : Sp} (h : RdP w A [s]) : ∃ bk o, A = some ⟨bk, o, none⟩ ∧ w.cell? ⟨bk, o, none⟩ = some (eP s) := by
  rcases h with ⟨_, h⟩ | ⟨bk, o, ha, _, hc⟩
  · cases h
  · exact ⟨bk, o, ha, hc 0 (by simp)⟩
set_option maxHeartbeats 2000000 in
set_option maxRecDepth 100000 in
theorem shown_calls (w : World) : Calls Try.prog 10 #[] w fun e w' => e = .returned (.bool true) ∧ Below w.heap.size w w' := by
  have h1 := write_calls ⟨#[97, 98, 99]⟩ 5 ⟨#[120]⟩ (by decide) w
  have e1 : writeR ⟨#[97, 98, 99]⟩ 5 ⟨#[120]⟩ = (⟨#[97, 98, 99, 0, 0, 120]⟩, 0) := by decide +kernel
  rw [e1] at h1
  have h2 := unlike_calls ⟨#[97, 98, 99, 100]⟩ ⟨#[97, 88, 88, 100]⟩ (by decide) (by decide)
  have e3 : unl ⟨#[97, 98, 99, 100]⟩ ⟨#[97, 88, 88, 100]⟩ (max (ByteArray.size ⟨#[97, 98, 99, 100]⟩) (ByteArray.size ⟨#[97, 88, 88, 100]⟩)) = [(1, 1), (2, 1)] := by decide +kernel
  have e2 : cleanF [(1, 1), (2, 1)] = [(1, 2)] := by
    rw [← cleanF_of (l := [(1, 1), (2, 1)]) (d := [(1, 1), (2, 1)]) (by rw [show Clean.full [(1, 1), (2, 1)] = [(1, 1), (2, 1)] from by decide]) (by simp)]
    decide
  rw [e3] at h2
  rw [e2] at h2
  have H2 := Lib.hid h2
  have q1 : FloatKind.f64.format.order 4607182418800017408 4607182418800017408 = some .eq := by decide +kernel
  have q2 : FloatKind.f64.format.order 4611686018427387904 4611686018427387904 = some .eq := by decide +kernel
  clear h2 e1 e2 e3
  go_enter Try.func10, Try.ntmps10
  go_wp2_with fail
  refine h1.mono ?_
  rintro e w1 ⟨rfl, hb1⟩
  have HB1 := Lib.hid hb1
  clear hb1 h1
  go_wp2_with fail
  refine (H2.out w1).mono ?_
  rintro e w2 ⟨A', c', rfl, hr, hc', hb2⟩
  obtain ⟨bk, o, hA, hx⟩ := at_zero hr
  subst hA
  rw [show eP (1, 2) = .complex .f64 (fb 1) (fb 2) from rfl, fb_one, fb_two] at hx
  have HB2 := Lib.hid (below_then HB1.out HB1.out.size hb2)
  clear hr hb2 HB1 H2
  go_wp2_with fail
  first | go_ret | (go_quiet (fail); go_wp2_with fail; go_ret)
  first | exact ⟨rfl, HB2.out⟩ | exact ⟨rfl, pw_below_drewN HB2.out _⟩
def copyholdlaw09_shown.f : Option Bool := some true
theorem copyholdlaw09_shown.calls (r : Bool) (w : World) (h : copyholdlaw09_shown.f = some r) : Calls Try.prog 10 #[] w fun e w' => e = .returned (.bool r) ∧ Below w.heap.size w w' := by
  obtain rfl := Option.some.inj h
  exact shown_calls w
def data_Read.f (a0 : ByteArray) (a1 a2 : Int) : Option (ByteArray × Int) := if a0.size ≤ 1099511627776 then some (readR a0 a1 a2) else none
theorem data_Read.calls (a0 : ByteArray) (a1 a2 : Int) (r1 : ByteArray) (r2 : Int) (w : World) (h : data_Read.f a0 a1 a2 = some (r1, r2)) : Calls Try.prog 13 #[.string a0, .int .i64 a1, .int .i64 a2] w fun e w' => e = .returned (.tuple #[.string r1, .int .i64 r2]) ∧ Below w.heap.size w w' := by
  unfold data_Read.f at h
  split at h
  · rename_i hs
    have e := Option.some.inj h
    have k := read_gives a0 a1 a2 hs w
    rw [e] at k
    exact k.mono fun _ _ ⟨he, hw⟩ => ⟨he, by rw [hw]; exact Below.refl _ _⟩
  · cases h
def data_Cut.f (a0 : ByteArray) (a1 : Int) : Option (ByteArray × Int) := some (cutR a0 a1)
theorem data_Cut.calls (a0 : ByteArray) (a1 : Int) (r1 : ByteArray) (r2 : Int) (w : World) (h : data_Cut.f a0 a1 = some (r1, r2)) : Calls Try.prog 11 #[.string a0, .int .i64 a1] w fun e w' => e = .returned (.tuple #[.string r1, .int .i64 r2]) ∧ Below w.heap.size w w' := by
  have e := Option.some.inj h
  have k := cut_calls a0 a1 w
  rw [e] at k
  exact k
def data_Write.f (a0 : ByteArray) (a1 : Int) (a2 : ByteArray) : Option (ByteArray × Int) := if a0.size ≤ 1099511627776 then some (writeR a0 a1 a2) else none
theorem data_Write.calls (a0 : ByteArray) (a1 : Int) (a2 : ByteArray) (r1 : ByteArray) (r2 : Int) (w : World) (h : data_Write.f a0 a1 a2 = some (r1, r2)) : Calls Try.prog 12 #[.string a0, .int .i64 a1, .string a2] w fun e w' => e = .returned (.tuple #[.string r1, .int .i64 r2]) ∧ Below w.heap.size w w' := by
  unfold data_Write.f at h
  split at h
  · rename_i hs
    have e := Option.some.inj h
    have k := write_calls a0 a1 a2 hs w
    rw [e] at k
    exact k
  · cases h
end Go.Proofs.Ytiiljkinekjkbaa
