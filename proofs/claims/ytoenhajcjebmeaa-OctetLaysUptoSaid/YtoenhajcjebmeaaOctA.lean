/- What octet.Num comes to, for every number: its short number's bytes. (A loop by goto.) -/
import Derived.Test.YtoenhajcjebmeaaProg
import Derived.Below
import Derived.OwnWalk
import Derived.WalkKit
import Derived.WalkMore
import Derived.ScopeJumps
import Derived.KernelRfl
import Derived.RowKit3
import Derived.Lib.Hide
import Derived.Laws.BitsAllLaws
import Derived.Outline
import Derived.Deep.DeepMust
import Derived.Test.YtoenhajcjebmeaaWWords
set_option linter.unusedVariables false
set_option linter.unusedSimpArgs false
namespace Go.Proofs.Ytoenhajcjebmeaa
open Go.RowKit Go.Proofs.YtoenhajcjebmeaaW.PrintWords

/-- The short number's figures, the lowest first. -/
def numL (n : Nat) : List Int := if 128 ≤ n then ((n % 128 + 128 : Nat) : Int) :: numL (n / 128) else [(n : Int)]
termination_by n
theorem numL_lo {n : Nat} (h : ¬ 128 ≤ n) : numL n = [(n : Int)] := by rw [numL, if_neg h]
theorem numL_hi {n : Nat} (h : 128 ≤ n) : numL n = ((n % 128 + 128 : Nat) : Int) :: numL (n / 128) := by rw [numL, if_pos h]
theorem numL_len (k : Nat) : ∀ n : Nat, n < 128 ^ (k + 1) → (numL n).length ≤ k + 1 := by
  induction k with
  | zero => intro n h; rw [numL_lo (by simpa using h)]; simp
  | succ k ih =>
    intro n h
    by_cases h1 : 128 ≤ n
    · rw [numL_hi h1, List.length_cons]
      have := ih (n / 128) (by rw [Nat.div_lt_iff_lt_mul (by decide)]; rw [Nat.pow_succ] at h; exact h)
      omega
    · rw [numL_lo h1]; simp
theorem numL_len10 {n : Nat} (h : n < 18446744073709551616) : (numL n).length ≤ 10 := numL_len 9 n (Nat.lt_of_lt_of_le h (by decide))
theorem or128_all : ∀ x : Fin 256, x.val ||| 128 = x.val % 128 + 128 := by decide +kernel
theorem or128 (m : Nat) : Go.bits .or .u8 ((m : Int) % 256) 128 = ((m % 128 + 128 : Nat) : Int) := by
  rw [show ((m : Int) % 256) = ((m % 256 : Nat) : Int) from by omega]
  have h := u8_or_nat (m % 256) 128 (by omega) (by decide)
  rw [show ((128 : Nat) : Int) = 128 from rfl] at h
  rw [h]
  have h2 := or128_all ⟨m % 256, by omega⟩
  simp only at h2
  rw [h2]
  congr 1
  omega
def numS (n : Nat) : ByteArray := strOfNums (numL n)
def octet_Num.f (a0 : Int) : Option ByteArray := if 0 ≤ a0 ∧ a0 < 18446744073709551616 then some (numS a0.toNat) else none

theorem info5 : (Try.prog.info? 5).map (fun i => (i.zero, i.size, i.bytes)) = some (some (.int .u8 0), 1, 1) := by kernel_rfl

set_option maxHeartbeats 4000000 in
set_option maxRecDepth 1000000 in
theorem num_calls (n : Nat) (hn : n < 18446744073709551616) (w : World) :
    Calls Try.prog 16 #[.int .u64 n] w fun e w' => e = .returned (.string (numS n)) ∧ Below w.heap.size w w' := by
  have HL := Lib.hid (numL_len10 hn)
  go_enter Try.func16, Try.ntmps16
  go_wp2
  refine wp_scope_jumps 0 (fun a' w' => ∃ (m : Nat) (v : Value) (xs : List Int) (u4 u5 u6 u7 u8 u9 u10 u11 u12 u13 : Value), a' = { tmps := #[.int .u64 m, undef, .string { data := #[] }, v, u4, u5, u6, u7, u8, u9, u10, u11, u12, u13, undef, undef, undef, undef, undef, undef], defers := [] } ∧ m < 18446744073709551616 ∧ Hid (xs ++ numL m = numL n) ∧ Hid (w'.ownsRow w.heap.size 5 1 v xs.length (nums .u8 xs)) ∧ Hid (Below w.heap.size w w')) (fun a' _ => (intOf (a'.tmps.getD 0 undef)).toNat) rfl ?_ ?_
  · by_cases h : 128 ≤ n
    · have h0 : (128 : Int) ≤ (n : Int) := by omega
      have HO := Lib.hid (own_nil w w.heap.size 5 1)
      have HB := Lib.hid (Below.refl w.heap.size w)
      have HR := Lib.hid (or128 n)
      have HN := Lib.hid (numL_hi h)
      have HD : n / 128 < 18446744073709551616 := by omega
      go_wp2
      go_step3
      go_wp2_with (at_builtin; go_must (refine print_append_num (xs := []) w.heap.size rfl (.tmp 6) (.tmp 10) 55 5 .u8 1 rfl Try.underlying55 info5 (by decide) (.slice none 0 0) _ rfl rfl HO.out HB.out (Nat.le_refl _) (by simp) ?_); intro v1 w1 hown1 hb1 _ _; have HO1 := Lib.hid hown1; have HB1 := Lib.hid hb1; clear hown1 hb1)
      go_step3
      refine ⟨rfl, n / 128, v1, _, _, _, _, _, _, _, _, _, _, _, rfl, HD, Lib.hid ?_, HO1, HB1⟩
      rw [HN.out, HR.out]; rfl
    · have h0 : (n : Int) < 128 := by omega
      have HO := Lib.hid (own_nil w w.heap.size 5 1)
      have HB := Lib.hid (Below.refl w.heap.size w)
      have HN := Lib.hid (numL_lo h)
      have HM : (n : Int) % 256 = n := by omega
      go_wp2
      go_step3
      go_wp2_with (at_builtin; go_must (refine print_append_num (xs := []) w.heap.size rfl (.tmp 14) (.tmp 17) 55 5 .u8 1 rfl Try.underlying55 info5 (by decide) (.slice none 0 0) _ rfl rfl HO.out HB.out (Nat.le_refl _) (by simp) ?_); intro v1 w1 hown1 hb1 _ _; have hconv := own_string (P := Try.prog) (dst := 9) Try.underlying55 Try.underlying5 Try.underlying9 hown1; have HB1 := Lib.hid hb1; clear hown1 hb1)
      simp only [Exit.jump]
      go_ret
      refine ⟨?_, HB1.out⟩
      show Ending.returned (.string (strOfNums ([] ++ [(n : Int)]))) = _
      rw [← HN.out]; rfl
  · rintro a' W ⟨m, v, xs, u4, u5, u6, u7, u8, u9, u10, u11, u12, u13, rfl, hm, HX, HO, HB⟩
    have HL2 := Lib.hid (show xs.length + (numL m).length ≤ 10 by rw [← List.length_append, HX.out]; exact HL.out)
    by_cases h : 128 ≤ m
    · have h0 : (128 : Int) ≤ (m : Int) := by omega
      have HR := Lib.hid (or128 m)
      have HN := Lib.hid (numL_hi h)
      have HD : m / 128 < 18446744073709551616 := by omega
      go_wp2_with (at_builtin; go_must (refine print_append_num (xs := xs) w.heap.size rfl (.tmp 6) (.tmp 10) 55 5 .u8 1 rfl Try.underlying55 info5 (by decide) v _ rfl rfl HO.out HB.out HB.out.size (by have := HL2.out; omega) ?_); intro v1 w1 hown1 hb1 _ _; have HO1 := Lib.hid hown1; have HB1 := Lib.hid hb1; clear hown1 hb1)
      go_step3
      refine ⟨rfl, ⟨m / 128, v1, _, _, _, _, _, _, _, _, _, _, _, rfl, HD, Lib.hid ?_, HO1, HB1⟩, ?_⟩
      · rw [← HX.out, HN.out, HR.out, List.append_assoc]; rfl
      · simp [intOf]; omega
    · have h0 : (m : Int) < 128 := by omega
      have HN := Lib.hid (numL_lo h)
      have HM : (m : Int) % 256 = m := by omega
      go_wp2_with (at_builtin; go_must (refine print_append_num (xs := xs) w.heap.size rfl (.tmp 14) (.tmp 17) 55 5 .u8 1 rfl Try.underlying55 info5 (by decide) v _ rfl rfl HO.out HB.out HB.out.size (by have := HL2.out; omega) ?_); intro v1 w1 hown1 hb1 _ _; have hconv := own_string (P := Try.prog) (dst := 9) Try.underlying55 Try.underlying5 Try.underlying9 hown1; have HB1 := Lib.hid hb1; clear hown1 hb1)
      simp only [Exit.jump]
      go_ret
      refine ⟨?_, HB1.out⟩
      show Ending.returned (.string (strOfNums (xs ++ [(m : Int)]))) = _
      rw [← HN.out, HX.out]; rfl
theorem octet_Num.calls (a0 : Int) (r : ByteArray) (w : World) (h : octet_Num.f a0 = some r) :
    Calls Try.prog 16 #[.int .u64 a0] w fun e w' => e = .returned (.string r) ∧ Below w.heap.size w w' := by
  unfold octet_Num.f at h
  split at h
  · rename_i hh
    obtain rfl := Option.some.inj h
    obtain ⟨n, rfl⟩ := Int.eq_ofNat_of_zero_le hh.1
    rw [Int.toNat_natCast]
    exact num_calls n (by omega) w
  · cases h
end Go.Proofs.Ytoenhajcjebmeaa
