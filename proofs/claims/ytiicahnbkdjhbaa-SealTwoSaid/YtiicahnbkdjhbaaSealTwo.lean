/- SealTwo, walked. -/
import Derived.Test.YtiicahnbkdjhbaaSealD
set_option linter.unusedVariables false
set_option linter.unusedSimpArgs false
namespace Go.Proofs.Ytiicahnbkdjhbaa
open Go.RowKit Go.Proofs.YtiicahnbkdjhbaaW.PrintWords Go.Proofs.YtiicahnbkdjhbaaW.PrintLast Go.Proofs.YtiicahnbkdjhbaaW.PrintMore Math

theorem two_alloc {w w1 : World} {o : Obj} (h : Below (w.alloc o).heap.size (w.alloc o) w1) : Below w.heap.size w w1 :=
  below_then ((Below.refl _ _).alloc (Nat.le_refl _) _) (by simp) h
theorem two_sum (s : ByteArray) (j : Nat) (hj : j < s.size) (y : UInt8) : ∃ b : Bool, (((sumN s : Nat) : Int) == ((sumN (putAt s j (s.data.toList.getD j 0 ^^^ y)) : Nat) : Int)) = b ∧ ((y.toNat : Int) == 0) = b := by
  have hj' : j < s.data.toList.length := by rw [← sz]; exact hj
  rw [List.getD_eq_getElem?_getD, List.getElem?_eq_getElem hj', Option.getD_some]
  by_cases hy : y = 0
  · subst hy
    refine ⟨true, ?_, rfl⟩
    rw [beq_iff_eq]
    congr 2
    apply inj
    rw [putAt_dl, show s.data.toList[j] ^^^ 0 = s.data.toList[j] from UInt8.xor_zero, List.set_getElem_self]
  · refine ⟨false, ?_, ?_⟩
    · rw [beq_eq_false_iff_ne]
      intro h
      exact xor_ne _ y hy (sumN_set s j hj' _ (Int.ofNat_inj.1 h).symm)
    · rw [beq_eq_false_iff_ne]; intro h; apply hy; apply UInt8.toNat_inj.1; simpa using h
theorem two_more (s : ByteArray) (c d : Nat) (hc : c < 4294967296) (hd : d < 4294967296) : ∃ b : Bool, (((moresN c s.data.toList : Nat) : Int) == ((moresN d s.data.toList : Nat) : Int)) = b ∧ ((c : Int) == (d : Int)) = b := by
  by_cases h : c = d
  · subst h
    exact ⟨true, by rw [beq_iff_eq], by rw [beq_iff_eq]⟩
  · refine ⟨false, ?_, ?_⟩
    · rw [beq_eq_false_iff_ne]; intro h2; exact h (moresN_inj _ hc hd (Int.ofNat_inj.1 h2))
    · rw [beq_eq_false_iff_ne]; intro h2; exact h (Int.ofNat_inj.1 h2)

set_option maxHeartbeats 8000000 in
set_option maxRecDepth 1000000 in
theorem two_main (s : ByteArray) (j : Nat) (y : UInt8) (c d : Nat) (hc : c < 4294967296) (hd : d < 4294967296) (h3 : s.size ≤ 3000) (hj : j < s.size) (w : World) :
    Calls Try.prog 7 #[.agg #[.string s, .int .i64 j, .int .u8 y.toNat, .int .u32 c, .int .u32 d]] w fun e w' => e = .returned (.bool true) ∧ Below w.heap.size w w' := by
  have g1 : decide ((3000 : Int) < (s.size : Int)) = false := decide_eq_false (by omega)
  have g2 : decide ((j : Int) < 0) = false := decide_eq_false (by omega)
  have g5 : decide ((s.size : Int) ≤ (j : Int)) = false := decide_eq_false (by omega)
  obtain ⟨b1, k1, k2⟩ := two_sum s j hj y
  obtain ⟨b2, k3, k4⟩ := two_more s c d hc hd
  have HS1 := Lib.hid (seal_Sum_eq s (by omega))
  have HS2 := Lib.hid (seal_Sum_eq (putAt s j (s.data.toList.getD j 0 ^^^ y)) (by rw [putAt_size]; omega))
  have HM1 := Lib.hid (seal_More_eq s (by omega) c hc)
  have HM2 := Lib.hid (seal_More_eq s (by omega) d hd)
  have HTT := Lib.hid (show s.size ≤ 9223372036854775807 by omega)
  clear h3
  go_enter Try.func7, Try.ntmps7
  go_wp2_with fail
  refine (Q.copyholdlaw02_shown.calls true _ shown_eq).mono ?_
  rintro e w2 ⟨rfl, hb1⟩
  have HB2 := Lib.hid (two_alloc hb1)
  clear hb1
  have kb := fun W => print_bytes (P := Try.prog) 9 35 5 Try.underlying9 Try.underlying35 Try.underlying5 s W
  have hcell := bw_cell w2 5 s j hj
  have hfz := bw_frozen w2 5 s j hj
  have hx := bits_xor_u8 (s.data.toList.getD j 0) y
  have hcv := fun z => string_of_reads (P := Try.prog) (c := grownCap w2 s.size 0 5) (src := 35) (dst := 9) (e := 5) Try.underlying35 Try.underlying5 Try.underlying9 (bw_set w2 5 s HTT.out j hj z)
  have HBW := Lib.hid (show Below w.heap.size w ((Lib.bytesWorld w2 5 s).setCell ⟨w2.heap.size, j, none⟩ (.int .u8 ((s.data.toList.getD j 0 ^^^ y).toNat : Int))) from (bytes_below HB2.out HB2.out.size _ _).setCell HB2.out.size _)
  have hcv2 := hcv ((s.data.toList.getD j 0 ^^^ y).toNat : Int)
  rw [strOf_set] at hcv2
  clear hcv
  generalize putAt s j (s.data.toList.getD j 0 ^^^ y) = sp at *
  generalize (s.data.toList.getD j 0 ^^^ y) = yy at *
  generalize s.data.toList.getD j 0 = xx at *
  go_wp2_with fail
  refine (Q.seal_Sum.calls _ _ _ HS1.out).mono ?_
  rintro e w3 ⟨rfl, hb3⟩
  have HB3 := Lib.hid (below_then HBW.out HBW.out.size hb3)
  clear hb3 HBW hcv2 hcell hfz kb hx HB2
  go_wp2_with fail
  refine (Q.seal_Sum.calls _ _ _ HS2.out).mono ?_
  rintro e w4 ⟨rfl, hb4⟩
  have HB4 := Lib.hid (below_then HB3.out HB3.out.size hb4)
  clear hb4 HB3
  generalize sumN s = n1 at *
  generalize sumN sp = n2 at *
  have HK3 := Lib.hid k3
  have HK4 := Lib.hid k4
  clear k3 k4
  cases b1
  all_goals
    go_wp2_with fail
    refine (seal_More.calls _ _ _ _ HM1.out).mono ?_
    rintro e w5 ⟨rfl, hb5⟩
    have HB5 := Lib.hid (below_then HB4.out HB4.out.size hb5)
    clear hb5 HB4
    go_wp2_with fail
    refine (seal_More.calls _ _ _ _ HM2.out).mono ?_
    rintro e w6 ⟨rfl, hb6⟩
    have HB6 := Lib.hid (below_then HB5.out HB5.out.size hb6)
    clear hb6 HB5
    have k3 := HK3.out
    have k4 := HK4.out
    clear HK3 HK4
    generalize moresN c s.data.toList = m1 at *
    generalize moresN d s.data.toList = m2 at *
    cases b2
    all_goals
      go_wp2_with fail
      go_ret
      exact ⟨rfl, HB6.out⟩
set_option maxHeartbeats 4000000 in
set_option maxRecDepth 1000000 in
theorem two_calls (s : ByteArray) (i : Int) (y : UInt8) (c d : Nat) (hc : c < 4294967296) (hd : d < 4294967296) (w : World) :
    Calls Try.prog 7 #[.agg #[.string s, .int .i64 i, .int .u8 y.toNat, .int .u32 c, .int .u32 d]] w fun e w' => e = .returned (.bool true) ∧ Below w.heap.size w w' := by
  by_cases h3 : s.size ≤ 3000
  · have g1 : decide ((3000 : Int) < (s.size : Int)) = false := decide_eq_false (by omega)
    by_cases hi : i < 0
    · have g2 : decide (i < 0) = true := decide_eq_true (by omega)
      clear hi h3
      go_enter Try.func7, Try.ntmps7
      go_wp2_with fail
      refine (Q.copyholdlaw02_shown.calls true _ shown_eq).mono ?_
      rintro e w1 ⟨rfl, hb1⟩
      have HB1 := Lib.hid (two_alloc hb1)
      clear hb1
      go_wp2_with fail
      go_ret
      exact ⟨rfl, HB1.out⟩
    · by_cases hj : (s.size : Int) ≤ i
      · have g2 : decide (i < 0) = false := decide_eq_false (by omega)
        have g3 : decide ((s.size : Int) ≤ i) = true := decide_eq_true hj
        clear hi hj h3
        go_enter Try.func7, Try.ntmps7
        go_wp2_with fail
        refine (Q.copyholdlaw02_shown.calls true _ shown_eq).mono ?_
        rintro e w1 ⟨rfl, hb1⟩
        have HB1 := Lib.hid (two_alloc hb1)
        clear hb1
        go_wp2_with fail
        go_ret
        exact ⟨rfl, HB1.out⟩
      · obtain ⟨j, rfl⟩ := Int.eq_ofNat_of_zero_le (show 0 ≤ i by omega)
        exact two_main s j y c d hc hd h3 (by omega) w
  · have g1 : decide ((3000 : Int) < (s.size : Int)) = true := decide_eq_true (by omega)
    clear h3
    go_enter Try.func7, Try.ntmps7
    go_wp2_with fail
    refine (Q.copyholdlaw02_shown.calls true _ shown_eq).mono ?_
    rintro e w1 ⟨rfl, hb1⟩
    have HB1 := Lib.hid (two_alloc hb1)
    clear hb1
    go_wp2_with fail
    go_ret
    exact ⟨rfl, HB1.out⟩
def copyholdlaw02_SealTwo.f (a0_0 : ByteArray) (a0_1 a0_2 a0_3 a0_4 : Int) : Option Bool := if (0 ≤ a0_2 ∧ a0_2 < 256) ∧ (0 ≤ a0_3 ∧ a0_3 < 4294967296) ∧ (0 ≤ a0_4 ∧ a0_4 < 4294967296) then some true else none
theorem copyholdlaw02_SealTwo.calls (a0_0 : ByteArray) (a0_1 a0_2 a0_3 a0_4 : Int) (r : Bool) (w : World) (h : copyholdlaw02_SealTwo.f a0_0 a0_1 a0_2 a0_3 a0_4 = some r) :
    Calls Try.prog 7 #[.agg #[.string a0_0, .int .i64 a0_1, .int .u8 a0_2, .int .u32 a0_3, .int .u32 a0_4]] w fun e w' => e = .returned (.bool r) ∧ Below w.heap.size w w' := by
  unfold copyholdlaw02_SealTwo.f at h
  split at h
  · rename_i hh
    obtain rfl := Option.some.inj h
    obtain ⟨n, rfl⟩ := Int.eq_ofNat_of_zero_le hh.1.1
    obtain ⟨c, rfl⟩ := Int.eq_ofNat_of_zero_le hh.2.1.1
    obtain ⟨d, rfl⟩ := Int.eq_ofNat_of_zero_le hh.2.2.1
    have hn : n < 256 := by omega
    have := two_calls a0_0 a0_1 (UInt8.ofNat n) c d (by omega) (by omega) w
    rwa [UInt8.toNat_ofNat_of_lt' (by simpa using hn)] at this
  · cases h
end Go.Proofs.Ytiicahnbkdjhbaa
