/- Layer 19, walked: a text taken. -/
import Derived.Test.YtcefnaacnilojaaNetB
import Derived.Test.YtcefnaacnilojaaT
set_option linter.unusedVariables false
set_option linter.unusedSimpArgs false
namespace Go.Proofs.Ytcefnaacnilojaa.Q
open Go.RowKit Go.Shelf Go.Proofs.YtcefnaacnilojaaW.PrintWords Go.Proofs.YtcefnaacnilojaaW.PrintLast Go.Proofs.YtcefnaacnilojaaW.PrintMore

set_option maxRecDepth 100000 in
set_option maxHeartbeats 1000000 in
theorem take1_turns (bi : Nat) (i : Nat) (xs : List ByteArray) (w : World) (hb : w.heap[bi]? = some (.cells #[.int .i64 i] 3 (0, 0))) (hm : xs.length ≤ 8796093022208) (hi : i < xs.length) : Turns 20 #[.pointer (some ⟨bi, 0, none⟩)] w xs (xs.take i ++ xs.drop (i + 1)) := by
  intro W g0 hB hg hrow
  have hc : W.cell? ⟨bi, 0, none⟩ = some (.int .i64 i) := by rw [blk_cell ((hB.block _ (blk_lt hb)).trans hb)]; rfl
  have hwr : IntKind.i64.wrap ((i : Int) + 1) = ((i + 1 : Nat) : Int) := by rw [show (i : Int) + 1 = ((i + 1 : Nat) : Int) by omega]; exact IntWalk.i64_in _ (by omega)
  have hdel := Try.slices_Delete_string_cells g0 0 xs.length xs.length i (i + 1) (fun k => xs.getD k ⟨#[]⟩) W (Nat.le_refl _) (by omega) (by omega) (by omega)
    (fun k hk => by rw [Nat.zero_add, blk_cell hrow]; simp [hk])
    (fun k hk => by rw [Nat.zero_add]; exact blk_frozen hrow k)
  have HD := Lib.hid hdel; have HROW := Lib.hid hrow
  clear hdel hrow hB hb
  go_enter Try.func20, Try.ntmps20
  go_wp2_with fail
  refine HD.out.mono ?_
  rintro e w2 ⟨rfl, q, hw2⟩
  have HW2 := Lib.hid hw2
  clear hw2
  go_wp2_with fail
  go_ret
  have hrow : (W.drewN q).heap[g0]? = some (.cells (xs.map Value.string).toArray 9 (0, 0)) := HROW.out
  have hL : (((Lib.strsOf (fun k => xs.getD k ⟨#[]⟩) xs.length).take i ++ (Lib.strsOf (fun k => xs.getD k ⟨#[]⟩) xs.length).drop (i + 1) ++ List.replicate (i + 1 - i) []).map encStr) = (xs.take i ++ xs.drop (i + 1)).map Value.string ++ [.string ⟨#[]⟩] := by
    have e : Lib.strsOf (fun k => xs.getD k ⟨#[]⟩) xs.length = xs.map fun x => x.data.toList := by
      apply List.ext_getElem
      · simp [Lib.strsOf]
      · intro k h1 h2
        have hk : k < xs.length := by simpa using h2
        simp [Lib.strsOf, List.getD_eq_getElem?_getD, hk]
    have f : ∀ x : ByteArray, encStr x.data.toList = Value.string x := fun x => rfl
    rw [e, show i + 1 - i = 1 by omega, ← List.map_take, ← List.map_drop, ← List.map_append, List.map_append, List.map_map]
    rw [show (encStr ∘ fun x : ByteArray => x.data.toList) = Value.string from funext f]; rfl
  have hw := HW2.out
  rw [hL] at hw
  have hlen : (xs.take i ++ xs.drop (i + 1)).length = xs.length - 1 := by simp; omega
  have hn : xs.length - (i + 1 - i) = (xs.take i ++ xs.drop (i + 1)).length := by omega
  obtain ⟨cur, h1, h2, h3⟩ := setCells_row ((xs.take i ++ xs.drop (i + 1)).map Value.string ++ [.string ⟨#[]⟩]) 0 (W.drewN q) _ hrow (by simp at hlen ⊢; omega)
  rw [← hw] at h1
  have hs := setCells_same g0 ((xs.take i ++ xs.drop (i + 1)).map Value.string ++ [.string ⟨#[]⟩]) 0 (W.drewN q)
  rw [← hw] at hs
  refine ⟨_, rfl, ?_, ?_⟩
  · show Kd.R Kd.string 9 w2 g0 (fun k => g0 ≤ k) (.slice (some ⟨g0, 0, none⟩) (xs.length - 1) xs.length) _
    rw [← hlen]
    refine Kd.R_of_own ⟨by simp [encs], .inr ⟨_, xs.length, cur, rfl, Nat.le_refl _, h1, by omega, by unfold maxLen; omega, ?_, ?_⟩⟩ (fun k hk => ?_)
    · rw [← Array.length_toList, h3]; simp at hlen ⊢; omega
    · rw [h3, List.take_zero, List.nil_append, List.append_assoc, List.take_left' (by simp)]; simp [encs]
    · have : g0 = k := by simpa [Value.ownBlock] using hk
      show g0 ≤ k; omega
  · exact ⟨hs.1, hs.2.1, hs.2.2.1, by rw [hs.2.2.2]; exact Nat.le_refl _, fun k hk => by rw [hw]; exact setCells_far _ _ _ (by omega)⟩
end Go.Proofs.Ytcefnaacnilojaa.Q
