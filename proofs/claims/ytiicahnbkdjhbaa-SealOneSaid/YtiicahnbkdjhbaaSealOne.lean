/- SealOne, walked. -/
import Derived.Test.YtiicahnbkdjhbaaSealD
set_option linter.unusedVariables false
set_option linter.unusedSimpArgs false
namespace Go.Proofs.Ytiicahnbkdjhbaa
open Go.RowKit Go.Proofs.YtiicahnbkdjhbaaW.PrintWords Go.Proofs.YtiicahnbkdjhbaaW.PrintLast Go.Proofs.YtiicahnbkdjhbaaW.PrintMore Math

set_option maxHeartbeats 4000000 in
set_option maxRecDepth 1000000 in
theorem one_main (s : ByteArray) (j : Nat) (y : UInt8) (h3 : s.size ≤ 3000) (hj : j < (putS s).size) (hy : y ≠ 0) (w : World) :
    Calls Try.prog 5 #[.string s, .int .i64 j, .int .u8 y.toNat] w fun e w' => e = .returned (.bool true) ∧ Below w.heap.size w w' := by
  have hz := putS_size s
  have g1 : decide ((3000 : Int) < (s.size : Int)) = false := decide_eq_false (by omega)
  have g2 : decide ((j : Int) < 0) = false := decide_eq_false (by omega)
  have g3 : ((y.toNat : Int) == 0) = false := by
    rw [beq_eq_false_iff_ne]; intro h; apply hy; apply UInt8.toNat_inj.1; simpa using h
  have g4 : (((putS s).size : Int) == wrap64 ((s.size : Int) + 4)) = true := by rw [w64 (by omega) (by omega)]; rw [beq_iff_eq]; omega
  have g4b : (((putS s).size : Int) == (s.size : Int) + 4) = true := by rw [beq_iff_eq]; omega
  have g4c : wrap64 ((s.size : Int) + 4) = (s.size : Int) + 4 := w64 (by omega) (by omega)
  have g5 : decide (((putS s).size : Int) ≤ (j : Int)) = false := decide_eq_false (by omega)
  have HR := Lib.hid (spoilt_right s (by omega) j hj y hy)
  have HR2 := Lib.hid (show Q.seal_Right.f (putS s) = some true by rw [seal_Right_eq _ (by omega), take_put]; rfl)
  have HP := Lib.hid (seal_Put_eq s (by omega))
  have HT : (putS s).size ≤ 9223372036854775807 := by omega
  have hj0 := Lib.hid hj
  have HTT := Lib.hid HT
  clear h3 hz HT
  go_enter Try.func5, Try.ntmps5
  go_wp2_with fail
  refine (Q.copyholdlaw02_shown.calls true _ shown_eq).mono ?_
  rintro e w1 ⟨rfl, hb1⟩
  have HB1 := Lib.hid hb1
  clear hb1
  go_wp2_with fail
  refine (Q.seal_Put.calls _ _ _ HP.out).mono ?_
  rintro e w2 ⟨rfl, hb2⟩
  have HB2 := Lib.hid (below_then HB1.out HB1.out.size hb2)
  clear hb2 HB1 HP
  have kb := fun W => print_bytes (P := Try.prog) 9 35 5 Try.underlying9 Try.underlying35 Try.underlying5 (putS s) W
  have hcell := bw_cell w2 5 (putS s) j hj
  have hfz := bw_frozen w2 5 (putS s) j hj
  have hx := bits_xor_u8 ((putS s).data.toList.getD j 0) y
  have hcv := fun z => string_of_reads (P := Try.prog) (c := grownCap w2 (putS s).size 0 5) (src := 35) (dst := 9) (e := 5) Try.underlying35 Try.underlying5 Try.underlying9 (bw_set w2 5 (putS s) HTT.out j hj z)
  have HBW := Lib.hid (show Below w.heap.size w ((Lib.bytesWorld w2 5 (putS s)).setCell ⟨w2.heap.size, j, none⟩ (.int .u8 (((putS s).data.toList.getD j 0 ^^^ y).toNat : Int))) from (bytes_below HB2.out HB2.out.size _ _).setCell HB2.out.size _)
  have hcv2 := hcv (((putS s).data.toList.getD j 0 ^^^ y).toNat : Int)
  rw [strOf_set] at hcv2
  clear hcv
  generalize putAt (putS s) j ((putS s).data.toList.getD j 0 ^^^ y) = sp at *
  generalize ((putS s).data.toList.getD j 0 ^^^ y) = yy at *
  generalize (putS s).data.toList.getD j 0 = xx at *
  generalize putS s = ps at *
  go_wp2_with fail
  refine (Q.seal_Right.calls _ _ _ HR.out).mono ?_
  rintro e w3 ⟨rfl, hb3⟩
  have HB3 := Lib.hid (below_then HBW.out HBW.out.size hb3)
  clear hb3 HBW hcv2 hcell hfz kb hx HB2
  go_wp2_with fail
  refine (Q.seal_Right.calls _ _ _ HR2.out).mono ?_
  rintro e w4 ⟨rfl, hb4⟩
  have HB4 := Lib.hid (below_then HB3.out HB3.out.size hb4)
  clear hb4 HB3
  go_wp2_with fail
  go_ret
  exact ⟨rfl, HB4.out⟩
set_option maxHeartbeats 4000000 in
set_option maxRecDepth 1000000 in
theorem one_calls (s : ByteArray) (i : Int) (y : UInt8) (hs : s.size ≤ 140737488351232) (w : World) :
    Calls Try.prog 5 #[.string s, .int .i64 i, .int .u8 y.toNat] w fun e w' => e = .returned (.bool true) ∧ Below w.heap.size w w' := by
  by_cases h3 : s.size ≤ 3000
  · by_cases hi : i < 0
    · have g1 : decide ((3000 : Int) < (s.size : Int)) = false := decide_eq_false (by omega)
      have g2 : decide (i < 0) = true := decide_eq_true (by omega)
      go_enter Try.func5, Try.ntmps5
      go_wp2_with fail
      refine (Q.copyholdlaw02_shown.calls true _ shown_eq).mono ?_
      rintro e w1 ⟨rfl, hb1⟩
      have HB1 := Lib.hid hb1
      clear hb1 h3 hi hs
      go_wp2_with fail
      go_ret
      exact ⟨rfl, HB1.out⟩
    · obtain ⟨j, rfl⟩ := Int.eq_ofNat_of_zero_le (show 0 ≤ i by omega)
      by_cases hy : y = 0
      · subst hy
        have g1 : decide ((3000 : Int) < (s.size : Int)) = false := decide_eq_false (by omega)
        have g2 : decide ((j : Int) < 0) = false := decide_eq_false (by omega)
        rw [show ((0 : UInt8).toNat : Int) = 0 from rfl]
        go_enter Try.func5, Try.ntmps5
        go_wp2_with fail
        refine (Q.copyholdlaw02_shown.calls true _ shown_eq).mono ?_
        rintro e w1 ⟨rfl, hb1⟩
        have HB1 := Lib.hid hb1
        clear hb1 h3 hi hs
        go_wp2_with fail
        go_ret
        exact ⟨rfl, HB1.out⟩
      · by_cases hj : j < (putS s).size
        · exact one_main s j y h3 hj hy w
        · have hz := putS_size s
          have g1 : decide ((3000 : Int) < (s.size : Int)) = false := decide_eq_false (by omega)
          have g2 : decide ((j : Int) < 0) = false := decide_eq_false (by omega)
          have g3 : ((y.toNat : Int) == 0) = false := by
            rw [beq_eq_false_iff_ne]; intro h; apply hy; apply UInt8.toNat_inj.1; simpa using h
          have g4b : (((putS s).size : Int) == (s.size : Int) + 4) = true := by rw [beq_iff_eq]; omega
          have g4c : wrap64 ((s.size : Int) + 4) = (s.size : Int) + 4 := w64 (by omega) (by omega)
          have g5 : decide (((putS s).size : Int) ≤ (j : Int)) = true := decide_eq_true (by omega)
          have HP := Lib.hid (seal_Put_eq s (by omega))
          clear h3 hz hs hi
          go_enter Try.func5, Try.ntmps5
          go_wp2_with fail
          refine (Q.copyholdlaw02_shown.calls true _ shown_eq).mono ?_
          rintro e w1 ⟨rfl, hb1⟩
          have HB1 := Lib.hid hb1
          clear hb1
          go_wp2_with fail
          refine (Q.seal_Put.calls _ _ _ HP.out).mono ?_
          rintro e w2 ⟨rfl, hb2⟩
          have HB2 := Lib.hid (below_then HB1.out HB1.out.size hb2)
          clear hb2 HB1 HP
          generalize putS s = ps at *
          go_wp2_with fail
          go_ret
          exact ⟨rfl, HB2.out⟩
  · have g1 : decide ((3000 : Int) < (s.size : Int)) = true := decide_eq_true (by omega)
    clear h3
    go_enter Try.func5, Try.ntmps5
    go_wp2_with fail
    refine (Q.copyholdlaw02_shown.calls true _ shown_eq).mono ?_
    rintro e w1 ⟨rfl, hb1⟩
    have HB1 := Lib.hid hb1
    clear hb1 hs
    go_wp2_with fail
    go_ret
    exact ⟨rfl, HB1.out⟩
def copyholdlaw02_SealOne.f (a0 : ByteArray) (a1 a2 : Int) : Option Bool := if a0.size ≤ 140737488351232 ∧ 0 ≤ a2 ∧ a2 < 256 then some true else none
theorem copyholdlaw02_SealOne.calls (a0 : ByteArray) (a1 a2 : Int) (r : Bool) (w : World) (h : copyholdlaw02_SealOne.f a0 a1 a2 = some r) :
    Calls Try.prog 5 #[.string a0, .int .i64 a1, .int .u8 a2] w fun e w' => e = .returned (.bool r) ∧ Below w.heap.size w w' := by
  unfold copyholdlaw02_SealOne.f at h
  split at h
  · rename_i hh
    obtain rfl := Option.some.inj h
    obtain ⟨n, rfl⟩ := Int.eq_ofNat_of_zero_le hh.2.1
    have hn : n < 256 := by omega
    have := one_calls a0 a1 (UInt8.ofNat n) hh.1 w
    rwa [UInt8.toNat_ofNat_of_lt' (by simpa using hn)] at this
  · cases h
end Go.Proofs.Ytiicahnbkdjhbaa
