import Derived.Test.YtcbfnfggnocndaaZRedoDrops2
import Derived.Test.YtcbfnfggnocndaaZRedo35
set_option linter.unusedVariables false
set_option linter.unusedSimpArgs false
namespace Go.Proofs.Ytcbfnfggnocndaa.Pure
open Go.RowKit Go.Lib Go.Proofs.Ytcbfnfggnocndaa Go.Proofs.Ytcbfnfggnocndaa.Q Go.Proofs.YtcbfnfggnocndaaW.PrintWords Go.Proofs.YtcbfnfggnocndaaW.PrintMore Math
theorem drop_no (l0 : List ByteArray) (l1 : List S88) (off : Bool) (fr mn a u f m x : Int) (h : x < 0 ∨ m < x) : redo_Drop.f l0 l1 off fr mn a u f m x = some (a, u, f, m, 1) := by
  unfold redo_Drop.f; rw [if_pos h]
theorem RedoDrops : RedoDropsSt := by
  unfold RedoDropsSt
  intro l0 l1 off fr mn at_ used first many a b _ _ _ _ _ _ hf hmm _ _
  obtain ⟨k, hk⟩ : ∃ k, 20050000 ≤ k := ⟨_, Nat.le_refl _⟩
  refine ⟨k + 2, ?_⟩
  have hj : ∀ b', copyholdlaw05_RedoDrops.j0 (k + 2) a b true true l0 l1 off fr mn at_ used first many = b' → b' = some true := fun b h => by rw [← h, copyholdlaw05_RedoDrops.j0, if_pos rfl]
  unfold copyholdlaw05_RedoDrops.f
  rw [bs (shown_eq (k + 2) (by omega)), bs (few_eq l0 l1 off (k + 2) (by omega))]
  by_cases hfw : fewB l0 l1 = true
  · obtain ⟨n0, n1, hrt⟩ := few_of hfw
    rw [if_pos hfw, bs (right_ref off hrt (by omega) (litu64 hf) (lit64 hmm).2)]
    cases hr : rightR l0 l1 off fr mn at_ used first many with
    | false => exact hj _ rfl
    | true =>
      rw [if_pos rfl]
      by_cases a0 : a < 0
      · rw [if_pos a0]; exact hj _ rfl
      · rw [if_neg a0]
        by_cases b0 : b < 0
        · rw [if_pos b0]; exact hj _ rfl
        · rw [if_neg b0]
          by_cases a1 : a > 40
          · rw [if_pos a1]; exact hj _ rfl
          · rw [if_neg a1]
            by_cases b1 : b > 40
            · rw [decide_eq_true b1]; exact hj _ rfl
            · rw [decide_eq_false b1]
              clear hj
              obtain ⟨rfl, fr, mn, at_, used, first, many, ts, rfl, rfl, rfl, rfl, rfl, rfl, g⟩ := right_lg hrt (litu64 hf) hr
              obtain ⟨a, rfl⟩ := Int.eq_ofNat_of_zero_le (show 0 ≤ a by omega)
              obtain ⟨b, rfl⟩ := Int.eq_ofNat_of_zero_le (show 0 ≤ b by omega)
              have hle := g.le
              have hT := g.texts (by omega) (used : Int)
              have hw : wrap64 ((a : Int) + (b : Int)) = ((a + b : Nat) : Int) := by rw [w64 (by omega) (by omega)]; omega
              have hmy := g.hmany
              have third : ∃ z1 z2 z3 z4 z5, redo_Drop.f l0 l1 false (fr : Int) (mn : Int) (at_ : Int) (used : Int) (first : Int) (many : Int) ((a + b : Nat) : Int) = some (z1, z2, z3, z4, z5) := by
                clear hw
                by_cases h : a + b ≤ many
                · exact ⟨_, _, _, _, _, g.dropped (by omega) (a + b) h⟩
                · exact ⟨_, _, _, _, _, drop_no _ _ _ _ _ _ _ _ _ _ (.inr (by omega))⟩
              rw [copyholdlaw05_RedoDrops.j0, if_neg (by decide), bs hT, hw]
              by_cases ha : a ≤ many
              · have hA := g.dropped (by clear hw; omega) a ha
                have gA := g.drop a ha
                rw [bs hA]
                dsimp only
                by_cases hb : b ≤ many - a
                · have hB := gA.dropped (by clear hw; omega) b hb
                  have gB := gA.drop b hb
                  have hC := g.dropped (by clear hw; omega) (a + b) (by clear hw; omega)
                  rw [bs hB]
                  dsimp only
                  rw [bs hC]
                  dsimp only
                  have hTB := gB.texts (by clear hw; omega) ((used - needs (ts.take a) - needs ((ts.drop a).take b) : Nat) : Int)
                  rw [if_pos rfl, show ((0 : Int) != 0) = false from rfl, copyholdlaw05_RedoDrops.j1, if_neg (by decide), bs hTB]
                  dsimp only
                  have hne : needs (ts.take (a + b)) = needs (ts.take a) + needs ((ts.drop a).take b) := by rw [List.take_add, needs_app]
                  have e1 : ((at_ + needs (ts.take a)) % mn + needs ((ts.drop a).take b)) % mn = (at_ + needs (ts.take (a + b))) % mn := by rw [hne, Nat.mod_add_mod, Nat.add_assoc]
                  have e2 : used - needs (ts.take a) - needs ((ts.drop a).take b) = used - needs (ts.take (a + b)) := by rw [hne]; clear hw; omega
                  have e3 : ((first + a) % 18446744073709551616 + b) % 18446744073709551616 = (first + (a + b)) % 18446744073709551616 := by rw [Nat.mod_add_mod, Nat.add_assoc]
                  have e4 : many - a - b = many - (a + b) := by clear hw; omega
                  rw [if_pos (by rw [hmy]), hw, if_neg (by rw [← hmy]; clear hw; omega), if_pos rfl, if_pos rfl, e1, e2, e3, e4, if_pos (by simp), if_pos (by clear hw; omega), if_pos (by rw [← hmy]; clear hw; omega), Int.toNat_natCast, List.drop_drop]
                  rw [bs (strings_refl _ (by rw [List.length_drop]; clear hw; omega) k (by rw [List.length_drop]; clear hw; omega))]
                · rw [bs (drop_no l0 l1 false _ _ _ _ _ _ _ (.inr (by clear hw; omega)))]
                  dsimp only
                  obtain ⟨z1, z2, z3, z4, z5, hz⟩ := third
                  rw [bs hz, if_pos rfl, show ((1 : Int) != 0) = true from rfl, copyholdlaw05_RedoDrops.j1, if_pos rfl, if_pos rfl, decide_eq_false (by clear hw; omega)]
                  rfl
              · rw [bs (drop_no l0 l1 false _ _ _ _ _ _ _ (.inr (by clear hw; omega)))]
                dsimp only
                have hB : ∃ z1 z2 z3 z4 z5, redo_Drop.f l0 l1 false (fr : Int) (mn : Int) (at_ : Int) (used : Int) (first : Int) (many : Int) (b : Int) = some (z1, z2, z3, z4, z5) := by
                  clear hw
                  by_cases h : b ≤ many
                  · exact ⟨_, _, _, _, _, g.dropped (by omega) b h⟩
                  · exact ⟨_, _, _, _, _, drop_no _ _ _ _ _ _ _ _ _ _ (.inr (by omega))⟩
                obtain ⟨y1, y2, y3, y4, y5, hy⟩ := hB
                obtain ⟨z1, z2, z3, z4, z5, hz⟩ := third
                rw [bs hy, bs hz, if_neg (by decide), copyholdlaw05_RedoDrops.j1, if_pos rfl, if_pos rfl, decide_eq_true (by clear hw; omega)]
                rfl
  · rw [if_neg hfw]; exact hj _ rfl
end Go.Proofs.Ytcbfnfggnocndaa.Pure
