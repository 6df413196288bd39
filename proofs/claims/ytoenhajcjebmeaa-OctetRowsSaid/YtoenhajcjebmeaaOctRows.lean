/- OctetRows, walked: texts one behind the other are taken one by one; a number has as many bytes as it needs. -/
import Derived.Test.YtoenhajcjebmeaaOctN
import Derived.Test.YtoenhajcjebmeaaQ1
set_option linter.unusedVariables false
set_option linter.unusedSimpArgs false
namespace Go.Proofs.Ytoenhajcjebmeaa
open Go.RowKit Go.Proofs.YtoenhajcjebmeaaW.PrintWords Go.Proofs.YtoenhajcjebmeaaW.PrintLast Go.Proofs.YtoenhajcjebmeaaW.PrintMore Math

theorem numS_len1 {n : Nat} (h : n < 128) : (numS n).size = 1 := by rw [sz, numS_dl, numB_lo (by omega)]; rfl
theorem numS_len2 {n : Nat} (h : 128 ≤ n) (h2 : n < 16384) : (numS n).size = 2 := by rw [sz, numS_dl, numB_hi h, numB_lo (by omega)]; rfl
theorem numS_len3 {n : Nat} (h : 16384 ≤ n) : 3 ≤ (numS n).size := by
  rw [sz, numS_dl, numB_hi (by omega), numB_hi (n := n / 128) (by omega)]
  have := numB_pos (n / 128 / 128)
  simp only [List.length_cons]; omega
def copyholdlaw01_OctetRows.f (a0 a1 : ByteArray) (a2 : Int) : Option Bool := if a0.size ≤ 140737488351232 ∧ a1.size ≤ 140737488351232 ∧ 0 ≤ a2 ∧ a2 < 18446744073709551616 then some true else none

set_option maxHeartbeats 4000000 in
set_option maxRecDepth 1000000 in
theorem rows_calls (a b : ByteArray) (n : Nat) (ha : a.size ≤ 140737488351232) (hb : b.size ≤ 140737488351232) (hn : n < 18446744073709551616) (w : World) :
    Calls Try.prog 5 #[.string a, .string b, .int .u64 n] w fun e w' => e = .returned (.bool true) ∧ Below w.heap.size w w' := by
  by_cases h3 : a.size + b.size > 3000
  · have h3b : decide ((3000 : Int) < (a.size : Int) + (b.size : Int)) = true := decide_eq_true (by omega)
    clear h3
    go_enter Try.func5, Try.ntmps5
    go_wp2_with fail
    refine (Q.copyholdlaw01_shown.calls true _ shown_eq).mono ?_
    rintro e w1 ⟨rfl, hb1⟩
    have HB := Lib.hid hb1
    clear hb1
    go_wp2_with fail
    go_ret
    exact ⟨rfl, HB.out⟩
  · have h3b : decide ((3000 : Int) < (a.size : Int) + (b.size : Int)) = false := decide_eq_false (by omega)
    have hts : (textS a).size + (textS b).size ≤ 9223372036854775807 := by
      have h1 := numS_size10 (n := a.size) (by omega)
      have h2 := numS_size10 (n := b.size) (by omega)
      have e1 : (textS a).size = (numS a.size).size + a.size := by rw [textS, app_size]
      have e2 : (textS b).size = (numS b.size).size + b.size := by rw [textS, app_size]
      omega
    have HT1 := Lib.hid (show octet_TakeText.f (textS a ++ textS b) 3000 = some (a, textS b, 0) by
      unfold octet_TakeText.f
      rw [if_pos ⟨by rw [app_size]; exact hts, by decide, by decide⟩, app, textS_dl, text_take a.data.toList _ 3000 (by rw [← sz]; omega) (by rw [← sz]; omega)]
      rfl)
    have HT2 := Lib.hid (show octet_TakeText.f (textS b) 3000 = some (b, ⟨#[]⟩, 0) by
      have h := text_take b.data.toList [] 3000 (by rw [← sz]; omega) (by rw [← sz]; omega)
      rw [List.append_nil, ← textS_dl] at h
      unfold octet_TakeText.f
      rw [if_pos ⟨by omega, by decide, by decide⟩, h]
      rfl)
    have hla : a.size ≤ 140737488355000 := by omega
    have hlb : b.size ≤ 140737488355000 := by omega
    have fin : ∀ (hk : (n < 128 ∧ (numS n).size = 1) ∨ (128 ≤ n ∧ n < 16384 ∧ (numS n).size = 2) ∨ (16384 ≤ n ∧ 3 ≤ (numS n).size)), (numS n).size ≤ 10 → Calls Try.prog 5 #[.string a, .string b, .int .u64 n] w fun e w' => e = .returned (.bool true) ∧ Below w.heap.size w w' := by
      intro hk h10
      clear h3
      have HK := Lib.hid hk
      have H10 := Lib.hid h10
      clear hk h10
      go_enter Try.func5, Try.ntmps5
      go_wp2_with fail
      refine (Q.copyholdlaw01_shown.calls true _ shown_eq).mono ?_
      rintro e w1 ⟨rfl, hb1⟩
      have HB1 := Lib.hid hb1
      clear hb1
      go_wp2_with fail
      refine (text_calls a hla _).mono ?_
      rintro e w2 ⟨rfl, hb2⟩
      have HB2 := Lib.hid (below_then HB1.out HB1.out.size hb2)
      clear hb2 HB1
      go_wp2_with fail
      refine (text_calls b hlb _).mono ?_
      rintro e w3 ⟨rfl, hb3⟩
      have HB3 := Lib.hid (below_then HB2.out HB2.out.size hb3)
      clear hb3 HB2
      go_wp2_with fail
      refine (octet_TakeText.calls _ _ _ _ _ _ HT1.out).mono ?_
      rintro e w4 ⟨rfl, hd4⟩
      have HB4 := Lib.hid (below_then HB3.out HB3.out.size hd4.below)
      clear hd4 HB3
      go_wp2_with fail
      refine (octet_TakeText.calls _ _ _ _ _ _ HT2.out).mono ?_
      rintro e w5 ⟨rfl, hd5⟩
      have HB5 := Lib.hid (below_then HB4.out HB4.out.size hd5.below)
      clear hd5 HB4
      go_wp2_with fail
      refine (num_calls n hn _).mono ?_
      rintro e w6 ⟨rfl, hb6⟩
      have HB6 := Lib.hid (below_then HB5.out HB5.out.size hb6)
      clear hb6 HB5
      clear HT1 HT2 hts hla hlb
      have h10 := H10.out
      have hk := HK.out
      clear HK H10 hn
      have q1 : (a.toList == a.toList) = true := by simp
      have q2 : (b.toList == b.toList) = true := by simp
      have q3 : ((⟨#[]⟩ : ByteArray).toList == ([] : List UInt8)) = true := by rw [tl]; rfl
      have q4 : ((⟨#[]⟩ : ByteArray).toList.isEmpty) = true := by rw [tl]; rfl
      rcases hk with ⟨k1, k2⟩ | ⟨k1, k2, k3⟩ | ⟨k1, k2⟩
      · go_upto_region 8 with (fail)
        generalize textS a = ta at *
        generalize textS b = tb at *
        generalize numS n = tn at *
        clear k1 k2 h10
        go_wp2_with fail
        go_ret
        exact ⟨rfl, HB6.out⟩
      · have d1 : decide ((n : Int) < 128) = false := decide_eq_false (by omega)
        have d2 : decide ((128 : Int) ≤ (n : Int)) = true := decide_eq_true (by omega)
        have d3 : decide ((n : Int) < 16384) = true := decide_eq_true (by omega)
        have d4 : ¬ ((n : Int) < 128) := by omega
        go_upto_region 8 with (fail)
        generalize textS a = ta at *
        generalize textS b = tb at *
        generalize numS n = tn at *
        clear k1 k2 k3 h10
        go_wp2_with fail
        go_ret
        exact ⟨rfl, HB6.out⟩
      · have d1 : decide ((n : Int) < 128) = false := decide_eq_false (by omega)
        have d2 : decide ((128 : Int) ≤ (n : Int)) = true := decide_eq_true (by omega)
        have d3 : decide ((n : Int) < 16384) = false := decide_eq_false (by omega)
        have d4 : decide ((16384 : Int) ≤ (n : Int)) = true := decide_eq_true (by omega)
        have d5 : decide ((3 : Int) ≤ ((numS n).size : Int)) = true := decide_eq_true (by omega)
        go_upto_region 8 with (fail)
        generalize textS a = ta at *
        generalize textS b = tb at *
        generalize numS n = tn at *
        clear k1 k2; have h10b : ((tn.size : Int) ≤ 10) := (by omega); clear h10
        go_wp2_with fail
        go_ret
        exact ⟨rfl, HB6.out⟩
    have h10 := numS_size10 hn
    refine fin ?_ h10
    by_cases c1 : n < 128
    · exact .inl ⟨c1, numS_len1 c1⟩
    · by_cases c2 : n < 16384
      · exact .inr (.inl ⟨by omega, c2, numS_len2 (by omega) c2⟩)
      · exact .inr (.inr ⟨by omega, numS_len3 (by omega)⟩)
theorem copyholdlaw01_OctetRows.calls (a0 a1 : ByteArray) (a2 : Int) (r : Bool) (w : World) (h : copyholdlaw01_OctetRows.f a0 a1 a2 = some r) :
    Calls Try.prog 5 #[.string a0, .string a1, .int .u64 a2] w fun e w' => e = .returned (.bool r) ∧ Below w.heap.size w w' := by
  unfold copyholdlaw01_OctetRows.f at h
  split at h
  · rename_i hh
    obtain rfl := Option.some.inj h
    obtain ⟨n, rfl⟩ := Int.eq_ofNat_of_zero_le hh.2.2.1
    exact rows_calls a0 a1 n hh.1 hh.2.1 (by omega) w
  · cases h
end Go.Proofs.Ytoenhajcjebmeaa
