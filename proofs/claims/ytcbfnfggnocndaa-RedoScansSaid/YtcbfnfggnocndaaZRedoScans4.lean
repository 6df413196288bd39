import Derived.Test.YtcbfnfggnocndaaZRedoScans3
import Derived.Test.YtcbfnfggnocndaaZRedo35
import Derived.Test.YtcbfnfggnocndaaZRedoScans1
set_option linter.unusedVariables false
set_option linter.unusedSimpArgs false
namespace Go.Proofs.Ytcbfnfggnocndaa.Pure
open Go.RowKit Go.Lib Go.Proofs.Ytcbfnfggnocndaa Go.Proofs.Ytcbfnfggnocndaa.Q Go.Proofs.YtcbfnfggnocndaaW.PrintWords Go.Proofs.YtcbfnfggnocndaaW.PrintMore Math
theorem right_code {l0 : List ByteArray} {l1 : List S88} (off : Bool) (h : Rt l0 l1) (h1 : l1.length ≤ 1000000) {fr mn at_ used first many : Int} (hf : 0 ≤ first ∧ first < 18446744073709551616) (hm : many ≤ 9223372036854775807) :
    redo_Right.f l0 l1 off fr mn at_ used first many = some (rightR l0 l1 off fr mn at_ used first many) := by
  have hl := h.len
  unfold redo_Right.f
  rw [if_pos ⟨h.ok (by omega), by omega, hf.1, hf.2, hm, ring_sec h _ _⟩]
theorem scan_both {l0 : List ByteArray} {l1 : List S88} (off : Bool) (h : Rt l0 l1) (h1 : l1.length ≤ 1000000) {fr mn at_ first : Int} (hf : 0 ≤ first ∧ first < 18446744073709551616) :
    ∃ r1 r2 r3 r4 ts e, ts.length ≤ 5000 ∧ redo_Scan.f l0 l1 off fr mn at_ first = some (r1, r2, r3, r4, ts, e) ∧ copyholdref05_Scan.f l0 l1 off fr mn at_ first = some (r1, r2, r3, r4, ts, e) := by
  have hl := h.len
  unfold redo_Scan.f copyholdref05_Scan.f
  by_cases ho : off = true
  · exact ⟨0, 0, 0, 0, [], 19, by simp, by rw [if_pos ⟨by omega, .inl ho⟩, if_pos ho], by rw [if_pos ho]⟩
  · have hmay := may_ref l0 l1 off fr mn (by omega)
    have ho' : off = false := by simpa using ho
    cases hm : mayR l0.length fr mn with
    | false =>
      rw [hm] at hmay
      exact ⟨0, 0, 0, 0, [], 1, by simp, by rw [if_pos ⟨by omega, .inr (.inl rfl)⟩, if_neg ho], by rw [if_neg ho, bs hmay]; rfl⟩
    | true =>
      rw [hm] at hmay
      by_cases ha : at_ < 0
      · exact ⟨0, 0, 0, 0, [], 1, by simp, by rw [if_pos ⟨by omega, .inr (.inr (.inl ha))⟩, if_neg ho], by rw [if_neg ho, bs hmay, if_pos rfl, if_pos ha]⟩
      · by_cases hb : mn ≤ at_
        · exact ⟨0, 0, 0, 0, [], 1, by simp, by rw [if_pos ⟨by omega, .inr (.inr (.inr hb))⟩, if_neg ho], by rw [if_neg ho, bs hmay, if_pos rfl, if_neg ha, if_pos hb]⟩
        · have hnot : ¬ (l0.length ≤ 10000 ∧ (off = true ∨ true = false ∨ at_ < 0 ∨ mn ≤ at_)) := by
            rintro ⟨_, k | k | k | k⟩
            · exact ho k
            · cases k
            · exact ha k
            · exact hb k
          unfold mayR at hm
          simp only [Bool.and_eq_true, decide_eq_true_eq] at hm
          obtain ⟨m1, m2, m3, m4⟩ := hm
          have hok : off = false ∧ RedOk l0 l1 fr mn at_ first := ⟨ho', h.ok (by omega), by omega, by omega, by omega, by omega, by omega, by omega, by omega, by omega, ring_sec h _ _⟩
          obtain ⟨fr, rfl⟩ := Int.eq_ofNat_of_zero_le m1
          obtain ⟨mn, rfl⟩ := Int.eq_ofNat_of_zero_le (show 0 ≤ mn by omega)
          obtain ⟨at_, rfl⟩ := Int.eq_ofNat_of_zero_le (show 0 ≤ at_ by omega)
          obtain ⟨first, rfl⟩ := Int.eq_ofNat_of_zero_le hf.1
          have hfd := found_ref off h h1 (most := mn) (show 1 ≤ mn by omega) (show fr + mn ≤ l0.length by omega) (show at_ < mn by omega) (show first < 18446744073709551616 by omega) (by omega)
          refine ⟨_, _, _, _, _, _, ?_, by rw [if_neg hnot, if_pos hok], ?_⟩
          · unfold foundD
            simp only [Int.toNat_natCast]
            have := (found_lay (ring_sec h fr mn) (by rw [ringL_len _ _ _ _ (by omega)]; omega) at_ first mn).2.2.1
            omega
          · rw [if_neg ho, bs hmay, if_pos rfl, if_neg ha, if_neg hb, bs hfd]
            unfold foundD
            simp only [Int.toNat_natCast]
theorem RedoScans : RedoScansSt := by
  unfold RedoScansSt
  intro l0 l1 off fr mn at_ used first many s _ _ _ _ _ _ hf hmm hs
  obtain ⟨k, hk⟩ : ∃ k, 20050000 ≤ k := ⟨_, Nat.le_refl _⟩
  refine ⟨k + 1, ?_⟩
  have hj : ∀ b, copyholdlaw05_RedoScans.j0 (k + 1) s true true l0 l1 off fr mn at_ used first many = b → b = some true := fun b h => by rw [← h, copyholdlaw05_RedoScans.j0, if_pos rfl]
  unfold copyholdlaw05_RedoScans.f
  rw [bs (shown_eq (k + 1) (by omega)), bs (few_eq l0 l1 off (k + 1) (by omega))]
  by_cases hfw : fewB l0 l1 = true
  · obtain ⟨n0, n1, hrt⟩ := few_of hfw
    rw [if_pos hfw]
    by_cases hsz : (s.size : Int) > 5000
    · rw [decide_eq_true hsz]; exact hj _ rfl
    · rw [decide_eq_false hsz]
      clear hj
      have hf2 := litu64 hf
      obtain ⟨r1, r2, r3, r4, ts, e, ht, hA, hB⟩ := scan_both off hrt (by omega) (fr := fr) (mn := mn) (at_ := at_) hf2
      rw [copyholdlaw05_RedoScans.j0, if_neg (by decide), bs (right_ref off hrt (by omega) hf2 (lit64 hmm).2), bs hA, bs hB]
      dsimp only
      rw [bs (strings_refl ts (by omega) k (by omega)), if_pos rfl, bs (right_code off hrt (by omega) hf2 (lit64 hmm).2)]
      obtain ⟨first, rfl⟩ := Int.eq_ofNat_of_zero_le hf2.1
      rw [bs (record_eqQ first s (by omega)), bs (show copyholdref05_Record.f (first : Int) s = some (recS first s) by unfold copyholdref05_Record.f; rw [if_pos ⟨by omega, by omega, by omega⟩, Int.toNat_natCast]), if_pos rfl, bs (need_Q s (by omega)), bs (show copyholdref05_Need.f s = some ((needN s : Nat) : Int) by unfold copyholdref05_Need.f; rw [if_pos (by omega)]), if_pos rfl, if_pos (by simp), if_pos (by simp), if_pos rfl]
      simp
  · rw [if_neg hfw]; exact hj _ rfl
end Go.Proofs.Ytcbfnfggnocndaa.Pure
