/- Layer 9, walked: Read, Cut. -/
import Derived.Test.YtiiljkinekjkbaaDatH
set_option linter.unusedVariables false
set_option linter.unusedSimpArgs false
set_option exponentiation.threshold 2000
namespace Go.Proofs.Ytiiljkinekjkbaa
open Go.RowKit Go.Proofs.YtiiljkinekjkbaaW.PrintWords Flt Math

/-- A part of a text. -/
def readR (s : ByteArray) (a m : Int) : ByteArray × Int := if 0 ≤ a ∧ a ≤ 1099511627776 ∧ 0 ≤ m ∧ m ≤ 1099511627776 - a then (s.extract a.toNat (a.toNat + m.toNat), 0) else (⟨#[]⟩, 1)
theorem extract_none (s : ByteArray) (a b : Nat) (h : min b s.size ≤ a) : s.extract a b = ⟨#[]⟩ := by
  apply ByteArray.ext
  rw [ByteArray.data_extract]
  apply Array.eq_empty_of_size_eq_zero
  rw [Array.size_extract]
  have : s.data.size = s.size := rfl
  omega
theorem extract_min (s : ByteArray) (a b : Nat) : s.extract a (min b s.size) = s.extract a b := by
  apply ByteArray.ext
  rw [ByteArray.data_extract, ByteArray.data_extract]
  have e : s.data.size = s.size := rfl
  apply Array.ext
  · rw [Array.size_extract, Array.size_extract]; omega
  · intro i h1 h2
    rw [Array.getElem_extract, Array.getElem_extract]
set_option maxHeartbeats 2000000 in
set_option maxRecDepth 100000 in
theorem read_gives (s : ByteArray) (a m : Int) (hs : s.size ≤ 1099511627776) : Gives 13 #[.string s, .int .i64 a, .int .i64 m] (.tuple #[.string (readR s a m).1, .int .i64 (readR s a m).2]) := by
  unfold readR
  by_cases h : 0 ≤ a ∧ a ≤ 1099511627776 ∧ 0 ≤ m ∧ m ≤ 1099511627776 - a
  · rw [if_pos h]
    obtain ⟨x, rfl⟩ := Int.eq_ofNat_of_zero_le h.1
    obtain ⟨n, rfl⟩ := Int.eq_ofNat_of_zero_le h.2.2.1
    have hxn : x + n ≤ 1099511627776 := by omega
    have o1 := (of_good x n hxn).1
    have o2 := (of_good 0 s.size (by omega)).1
    have b1 := both_good x n 0 s.size hxn (by omega)
    simp only [Int.toNat_natCast]
    intro W
    by_cases hb : min (x + n) (0 + s.size) ≤ max x 0
    · have hv : bothV x n 0 s.size = (.complex .f64 0 0, false) := by unfold bothV; rw [if_pos hb]
      rw [hv] at b1
      rw [extract_none s x (x + n) (by omega)]
      generalize sp x n = v1 at *
      generalize sp 0 s.size = v2 at *
      clear hv hb hxn h
      go_enter Try.func13, Try.ntmps13
      go_wp2_with fail
      refine (o1 _).mono ?_
      rintro e w1 ⟨rfl, rfl⟩
      go_wp2_with fail
      refine (o2 _).mono ?_
      rintro e w1 ⟨rfl, rfl⟩
      go_wp2_with fail
      refine (b1 _).mono ?_
      rintro e w1 ⟨rfl, rfl⟩
      go_wp2_with fail
      go_ret2
      exact ⟨rfl, rfl⟩
    · obtain ⟨p, hp⟩ : ∃ p, p = min (x + n) s.size - x := ⟨_, rfl⟩
      have hv : bothV x n 0 s.size = (sp x p, true) := by unfold bothV; rw [if_neg hb, hp, Nat.zero_add, Nat.max_zero]
      rw [hv] at b1
      have pg := (parts_good x p (by omega)).1
      rw [← extract_min s x (x + n), show min (x + n) s.size = x + p by omega]
      have hxp : x + p ≤ s.size := by omega
      have hw : wrap64 ((x : Int) + (p : Int)) = ((x + p : Nat) : Int) := by rw [w64 (by omega) (by omega)]; omega
      have hsl : ∀ W : World, (Instr.slice 9 (.string s) (some (.int .i64 (x : Int))) (some (.int .i64 ((x : Int) + (p : Int)))) none).run Try.prog W = .ok (.string (s.extract x (x + p))) W := fun W => by
        have e1 : ((x : Int) + (p : Int)).toNat = x + p := by omega
        have a1 : (0 : Int) ≤ (x : Int) + (p : Int) := by omega
        have a2 : (x : Int) + (p : Int) ≤ (s.size : Int) := by omega
        have a3 : (x : Int) ≤ (x : Int) + (p : Int) := by omega
        simp [Instr.slice, run_underlying Try.underlying9, Instr.sliceBounds, run_sliceBound, e1, a1, a2, a3]
      have q1 : (0 : Int) ≤ (x : Int) := by omega
      have q2 : (x : Int) ≤ ((x + p : Nat) : Int) := by omega
      have q3 : ((x + p : Nat) : Int) ≤ (s.size : Int) := by omega
      generalize sp x n = v1 at *
      generalize sp 0 s.size = v2 at *
      generalize sp x p = v3 at *
      clear hv hb hxn h hp
      go_enter Try.func13, Try.ntmps13
      go_wp2_with fail
      refine (o1 _).mono ?_
      rintro e w1 ⟨rfl, rfl⟩
      go_wp2_with fail
      refine (o2 _).mono ?_
      rintro e w1 ⟨rfl, rfl⟩
      go_wp2_with fail
      refine (b1 _).mono ?_
      rintro e w1 ⟨rfl, rfl⟩
      go_wp2_with fail
      refine (pg _).mono ?_
      rintro e w1 ⟨rfl, rfl⟩
      go_wp2_with fail
      go_ret2
      exact ⟨rfl, rfl⟩
  · rw [if_neg h]
    have o1 := (of_bad a m h).1
    intro W
    clear h
    go_enter Try.func13, Try.ntmps13
    go_wp2_with fail
    refine (o1 _).mono ?_
    rintro e w1 ⟨rfl, rfl⟩
    go_wp2_with fail
    go_ret2
    exact ⟨rfl, rfl⟩
end Go.Proofs.Ytiiljkinekjkbaa
