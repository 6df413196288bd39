/- One byte that differs is seen: plain. -/
import Derived.Test.YtiicahnbkdjhbaaSealC
import Derived.Test.YtiicahnbkdjhbaaBytes
set_option linter.unusedVariables false
namespace Go.Proofs.Ytiicahnbkdjhbaa
open Go.RowKit Math

theorem xor_inj_l {c a b : Nat} (h : c ^^^ a = c ^^^ b) : a = b := by
  have h2 := congrArg (c ^^^ ·) h
  simpa [← Nat.xor_assoc] using h2
theorem moresN_one (c : Nat) (hc : c < 4294967296) (l1 l2 : List UInt8) (a b : UInt8) (h : moresN c (l1 ++ a :: l2) = moresN c (l1 ++ b :: l2)) : a = b := by
  rw [moresN_append, moresN_append] at h
  have hd := moresN_lt l1 hc
  have h2 := moresN_inj l2 (mbN_lt hd a) (mbN_lt hd b) h
  have h3 := xor_inj_l (mbN_inj hd hd a b h2)
  exact UInt8.toNat_inj.1 h3
theorem split_at (l : List UInt8) (j : Nat) (h : j < l.length) : l = l.take j ++ l[j] :: l.drop (j + 1) := by
  rw [← List.drop_eq_getElem_cons h, List.take_append_drop]
theorem set_split (l : List UInt8) (j : Nat) (h : j < l.length) (b : UInt8) : l.set j b = l.take j ++ b :: l.drop (j + 1) := List.set_eq_take_append_cons_drop .. |>.trans (if_pos h)
theorem moresN_set (c : Nat) (hc : c < 4294967296) (l : List UInt8) (j : Nat) (hj : j < l.length) (b : UInt8) (h : moresN c (l.set j b) = moresN c l) : b = l[j] := by
  rw [set_split l j hj b] at h
  conv at h => rhs; rw [split_at l j hj]
  exact moresN_one c hc _ _ _ _ h
theorem sumN_set (s : ByteArray) (j : Nat) (hj : j < s.data.toList.length) (b : UInt8) (h : sumN (putAt s j b) = sumN s) : b = s.data.toList[j] := by
  unfold sumN at h
  rw [putAt_dl] at h
  rw [Nat.xor_comm, Nat.xor_comm (moresN 4294967295 s.data.toList)] at h
  exact moresN_set 4294967295 (by decide) _ j hj b (xor_inj_l h)
theorem xor_ne (a b : UInt8) (hb : b ≠ 0) : a ^^^ b ≠ a := by
  intro h
  have h2 := congrArg (a ^^^ ·) h
  simp only [← UInt8.xor_assoc, UInt8.xor_self, UInt8.zero_xor] at h2
  exact hb h2
theorem put_spoilt (s : ByteArray) (j : Nat) (hj : j < (putS s).data.toList.length) (b : UInt8) (hb : b ≠ (putS s).data.toList[j]) : (takeS (putAt (putS s) j b)).2 ≠ 0 := by
  intro h
  have h1 := put_take _ h
  obtain ⟨x, hx⟩ : ∃ x, x = (takeS (putAt (putS s) j b)).1 := ⟨_, rfl⟩
  rw [← hx] at h1
  have hl := congrArg ByteArray.size h1
  rw [putAt_size, putS_size, putS_size] at hl
  have hd := congrArg (fun y : ByteArray => y.data.toList) h1
  simp only [putAt_dl] at hd
  have hps : (putS s).data.toList = s.data.toList ++ (fourS (sumN s)).data.toList := by rw [putS, app]
  have hpx : (putS x).data.toList = x.data.toList ++ (fourS (sumN x)).data.toList := by rw [putS, app]
  have hsx : x.data.toList.length = s.data.toList.length := by rw [← sz, ← sz]; omega
  have hlen : (putS s).data.toList.length = s.data.toList.length + 4 := by rw [← sz, putS_size, sz]
  rw [hpx] at hd
  by_cases hc : j < s.data.toList.length
  · have e1 : x.data.toList = s.data.toList.set j b := by
      have := congrArg (List.take s.data.toList.length) hd
      rw [List.take_left' hsx, hps, List.set_append_left _ _ hc, List.take_left' (by rw [List.length_set])] at this
      exact this
    have e2 : (fourS (sumN x)).data.toList = (fourS (sumN s)).data.toList := by
      have := congrArg (List.drop s.data.toList.length) hd
      rw [List.drop_left' hsx, hps, List.set_append_left _ _ hc, List.drop_left' (by rw [List.length_set])] at this
      exact this
    have e3 := fourS_inj (sumN_lt x) (sumN_lt s) e2
    have e4 : x = putAt s j b := inj (by rw [e1, putAt_dl])
    rw [e4] at e3
    have e5 := sumN_set s j hc b e3
    apply hb
    rw [e5]
    simp only [hps]
    rw [List.getElem_append_left hc]
  · have e1 : x.data.toList = s.data.toList := by
      have := congrArg (List.take s.data.toList.length) hd
      rw [List.take_left' hsx, hps, List.set_append_right _ _ (by omega), List.take_left' rfl] at this
      exact this
    have e4 : x = s := inj e1
    rw [e4, ← hps] at hd
    apply hb
    have := congrArg (fun l => l[j]?) hd
    simp only [List.getElem?_set_self hj, List.getElem?_eq_getElem hj] at this
    exact (Option.some.inj this).symm
theorem spoilt_right (s : ByteArray) (hs : s.size ≤ 1000000) (j : Nat) (hj : j < (putS s).size) (y : UInt8) (hy : y ≠ 0) :
    Q.seal_Right.f (putAt (putS s) j ((putS s).data.toList.getD j 0 ^^^ y)) = some false := by
  have hj' : j < (putS s).data.toList.length := by rw [← sz]; exact hj
  rw [List.getD_eq_getElem?_getD, List.getElem?_eq_getElem hj', Option.getD_some, seal_Right_eq _ (by rw [putAt_size, putS_size]; omega)]
  exact congrArg some (beq_eq_false_iff_ne.2 (put_spoilt s j hj' _ (xor_ne ((putS s).data.toList[j]) y hy)))
end Go.Proofs.Ytiicahnbkdjhbaa
