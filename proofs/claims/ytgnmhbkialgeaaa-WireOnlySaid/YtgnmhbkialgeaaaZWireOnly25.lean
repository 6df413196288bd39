import Derived.Test.YtgnmhbkialgeaaaZWireOnly24
/- WireOnly, pure. -/
set_option linter.unusedVariables false
namespace Go.Proofs.Ytgnmhbkialgeaaa.Pure
open Go.RowKit Go.Proofs.Ytgnmhbkialgeaaa.Q Go.Proofs.YtgnmhbkialgeaaaW.PrintWords Go.Proofs.YtgnmhbkialgeaaaW.PrintLast Math

theorem getD5 (l : List Int) (h : l.length = 5) : [l.getD 0 0, l.getD 1 0, l.getD 2 0, l.getD 3 0, l.getD 4 0] = l := by
  match l, h with
  | [a, b, c, d, e], _ => rfl
theorem getD6 (l : List Int) (h : l.length = 6) : [l.getD 0 0, l.getD 1 0, l.getD 2 0, l.getD 3 0, l.getD 4 0, l.getD 5 0] = l := by
  match l, h with
  | [a, b, c, d, e, f], _ => rfl
theorem getD9 (l : List Int) (h : l.length = 9) : [l.getD 0 0, l.getD 1 0, l.getD 2 0, l.getD 3 0, l.getD 4 0, l.getD 5 0, l.getD 6 0, l.getD 7 0, l.getD 8 0] = l := by
  match l, h with
  | [a, b, c, d, e, f, g, i, j], _ => rfl
theorem callB_ge (l : List Int) (x y z : List UInt8) : x.length + y.length + z.length ≤ (callB l x y z).length := by
  simp only [callB, textB, List.length_append]; omega
/-- A call that was taken is laid as it was. -/
theorem call_again {s : ByteArray} (h : (tcT s).2.2.2.2.2.2.2.2.2 = 0) (hs : s.size ≤ 6000) :
    ∃ t : ByteArray, wire_Call.f (tcT s).1 (tcT s).2.1 (tcT s).2.2.1 (tcT s).2.2.2.1 (tcT s).2.2.2.2.1 (tcT s).2.2.2.2.2.1 (tcT s).2.2.2.2.2.2.1 (tcT s).2.2.2.2.2.2.2.1 = some t ∧
      t ++ (tcT s).2.2.2.2.2.2.2.2.1 = s := by
  have h0 : (tcR s.data.toList).2.2 = 0 := h
  have h1 : (callR s.data.toList 0).2.2 = 0 := by
    unfold tcR at h0
    split at h0
    · assumption
    · exact h0
  obtain ⟨i1, i2⟩ := callR_inv h1
  have e : tcR s.data.toList = callR s.data.toList 0 := by rw [tcR, if_pos h1]
  have hg := callB_ge (callR s.data.toList 0).1.1 (callR s.data.toList 0).1.2.1 (callR s.data.toList 0).1.2.2.1 (callR s.data.toList 0).1.2.2.2
  have hl := congrArg List.length i1
  rw [List.length_append, ← sz] at hl
  have h5 : (callR s.data.toList 0).1.1.length = 5 := numsR_len 5 _ _
  unfold tcT
  rw [e]
  simp only
  have hi : InL [(callR s.data.toList 0).1.1.getD 0 0, (callR s.data.toList 0).1.1.getD 1 0, (callR s.data.toList 0).1.1.getD 2 0, (callR s.data.toList 0).1.1.getD 3 0, (callR s.data.toList 0).1.1.getD 4 0] := by
    rw [getD5 _ h5]; exact i2
  refine ⟨_, call_eq hi (by rw [arr_sz]; omega) (by rw [arr_sz]; omega) (by rw [arr_sz]; omega), ?_⟩
  refine inj ?_
  rw [app, getD5 _ h5]
  exact i1.symm
theorem putS_ge (s : ByteArray) : s.size ≤ (putS s).size := by rw [putS_size]; omega
theorem msg_again {s : ByteArray} (h : tmE s = 0) (hs : s.size ≤ 6000) :
    wire_Msg.f (tmT s).1 (tmT s).2.1 (tmT s).2.2.1 (tmT s).2.2.2.1 (tmT s).2.2.2.2.1 (tmT s).2.2.2.2.2.1 (tmT s).2.2.2.2.2.2.1 (tmT s).2.2.2.2.2.2.2.1 (tmT s).2.2.2.2.2.2.2.2.1 (tmT s).2.2.2.2.2.2.2.2.2.1 (tmT s).2.2.2.2.2.2.2.2.2.2.1 (tmT s).2.2.2.2.2.2.2.2.2.2.2.1 (tmT s).2.2.2.2.2.2.2.2.2.2.2.2.1 (tmT s).2.2.2.2.2.2.2.2.2.2.2.2.2.1 = some s := by
  obtain ⟨e, i2, i3, l6, l5⟩ := tm_inv h
  have hg := callB_ge (tmP s).2.1 (tmP s).2.2.1 (tmP s).2.2.2.1 (tmP s).2.2.2.2
  have hz := congrArg ByteArray.size e
  have hp := putS_ge ⟨(109 :: msgB (tmP s).1 (tmP s).2.1 (tmP s).2.2.1 (tmP s).2.2.2.1 (tmP s).2.2.2.2).toArray⟩
  rw [show msgS (tmP s).1 (tmP s).2.1 (tmP s).2.2.1 (tmP s).2.2.2.1 (tmP s).2.2.2.2 = putS ⟨(109 :: msgB (tmP s).1 (tmP s).2.1 (tmP s).2.2.1 (tmP s).2.2.2.1 (tmP s).2.2.2.2).toArray⟩ from rfl] at hz
  rw [← hz, arr_sz, List.length_cons, msgB, List.length_append] at hp
  unfold tmT
  simp only
  have hi : InL [(tmP s).1.getD 0 0, (tmP s).1.getD 1 0, (tmP s).1.getD 2 0, (tmP s).1.getD 3 0, (tmP s).1.getD 4 0, (tmP s).1.getD 5 0] := by rw [getD6 _ l6]; exact i2
  have hj : InL [(tmP s).2.1.getD 0 0, (tmP s).2.1.getD 1 0, (tmP s).2.1.getD 2 0, (tmP s).2.1.getD 3 0, (tmP s).2.1.getD 4 0] := by rw [getD5 _ l5]; exact i3
  rw [msg_eq hi hj (by rw [arr_sz]; omega) (by rw [arr_sz]; omega) (by rw [arr_sz]; omega), getD6 _ l6, getD5 _ l5]
  exact congrArg some e.symm
theorem lists_len' (l : List (List UInt8)) : lensS (mks l) ≤ 20 * (listB l).length := by
  have h1 : ∀ l : List (List UInt8), lensS (mks l) ≤ 20 * ((l.map textB).flatten).length := by
    intro l
    induction l with
    | nil => simp [mks, lensS]
    | cons a l ih =>
      have e1 : lensS (mks (a :: l)) = (a.length + 20) + lensS (mks l) := rfl
      rw [e1, List.map_cons, List.flatten_cons, List.length_append, textB, List.length_append]
      have := numB_pos a.length
      omega
  have := h1 l
  rw [listB, List.length_append]
  omega
theorem rsp_again {s : ByteArray} (h : trE s = 0) (hs : s.size ≤ 6000) :
    wire_Rsp.f (trT s).1 (trT s).2.1 (trT s).2.2.1 (trT s).2.2.2.1 (trT s).2.2.2.2.1 (trT s).2.2.2.2.2.1 (trT s).2.2.2.2.2.2.1 (trT s).2.2.2.2.2.2.2.1 (trT s).2.2.2.2.2.2.2.2.1 (trT s).2.2.2.2.2.2.2.2.2.1 (trT s).2.2.2.2.2.2.2.2.2.2.1 = some s := by
  obtain ⟨e, i2, l9⟩ := tr_inv h
  have hz := congrArg ByteArray.size e
  have hp := putS_ge ⟨(114 :: rspB (trP s).1 (trP s).2.1 (trP s).2.2).toArray⟩
  have hl := lists_len' (trP s).2.2
  rw [show rspS (trP s).1 (trP s).2.1 (trP s).2.2 = putS ⟨(114 :: rspB (trP s).1 (trP s).2.1 (trP s).2.2).toArray⟩ from rfl] at hz
  rw [← hz, arr_sz, List.length_cons, rspB, List.length_append, List.length_append, textB, List.length_append] at hp
  unfold trT
  simp only
  have hi : InL [(trP s).1.getD 0 0, (trP s).1.getD 1 0, (trP s).1.getD 2 0, (trP s).1.getD 3 0, (trP s).1.getD 4 0, (trP s).1.getD 5 0, (trP s).1.getD 6 0, (trP s).1.getD 7 0, (trP s).1.getD 8 0] := by rw [getD9 _ l9]; exact i2
  rw [rsp_eq hi (by rw [arr_sz]; omega) (by omega), getD9 _ l9, lists_mks]
  exact congrArg some e.symm
theorem WireOnly : WireOnlySt := by
  intro s _
  unfold copyholdlaw15_WireOnly.f
  rw [bs shown_eq]
  by_cases hs : (s.size : Int) > 6000
  · rw [if_pos hs]
  · rw [if_neg hs, bs (takeMsg_eq (by omega)), bs (takeRsp_eq (by omega)), bs (takeCall_eq (by omega)), if_pos rfl]
    have eM : (tmT s).2.2.2.2.2.2.2.2.2.2.2.2.2.2 = tmE s := rfl
    have eR : (trT s).2.2.2.2.2.2.2.2.2.2.2 = trE s := rfl
    have hC := fun h => call_again (s := s) h (by omega)
    rw [eM, eR]
    by_cases hm : tmE s = 0
    · have hr := not_both hm
      rw [if_pos hm, bs (msg_again hm (by omega)), if_pos rfl, if_neg hr]
      have hb : (trE s != 0) = true := bne_iff_ne.2 hr
      by_cases hc : (tcT s).2.2.2.2.2.2.2.2.2 = 0
      · obtain ⟨t, h1, h2⟩ := hC hc
        have hz := congrArg ByteArray.size h2
        rw [app_size] at hz
        rw [if_pos hc, bs h1, if_pos (by omega), h2, if_pos rfl, hb]
      · rw [if_neg hc, hb]
    · rw [if_neg hm]
      by_cases hr : trE s = 0
      · rw [if_pos hr, bs (rsp_again hr (by omega)), if_pos rfl]
        by_cases hc : (tcT s).2.2.2.2.2.2.2.2.2 = 0
        · obtain ⟨t, h1, h2⟩ := hC hc
          have hz := congrArg ByteArray.size h2
          rw [app_size] at hz
          rw [if_pos hc, bs h1, if_pos (by omega), h2, if_pos rfl]
        · rw [if_neg hc]
      · rw [if_neg hr]
        by_cases hc : (tcT s).2.2.2.2.2.2.2.2.2 = 0
        · obtain ⟨t, h1, h2⟩ := hC hc
          have hz := congrArg ByteArray.size h2
          rw [app_size] at hz
          rw [if_pos hc, bs h1, if_pos (by omega), h2, if_pos rfl]
        · rw [if_neg hc]
end Go.Proofs.Ytgnmhbkialgeaaa.Pure
