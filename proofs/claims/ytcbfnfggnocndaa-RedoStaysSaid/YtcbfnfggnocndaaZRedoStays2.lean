import Derived.Test.YtcbfnfggnocndaaZRedoStays1
import Derived.Test.YtcbfnfggnocndaaZRedo35
set_option linter.unusedVariables false
set_option linter.unusedSimpArgs false
namespace Go.Proofs.Ytcbfnfggnocndaa.Pure
open Go.RowKit Go.Lib Go.Proofs.Ytcbfnfggnocndaa Go.Proofs.Ytcbfnfggnocndaa.Q Go.Proofs.YtcbfnfggnocndaaW.PrintWords Go.Proofs.YtcbfnfggnocndaaW.PrintMore Math
theorem RedoStays : RedoStaysSt := by
  unfold RedoStaysSt
  intro l0 l1 off fr mn at_ used first many s x _ _ _ _ _ _ hf hmm hs hx
  obtain ⟨k, hk⟩ : ∃ k, 20050000 ≤ k := ⟨_, Nat.le_refl _⟩
  refine ⟨k + 2, ?_⟩
  have hj : ∀ b, copyholdlaw05_RedoStays.j0 (k + 2) s x true true l0 l1 off fr mn at_ used first many = b → b = some true := fun b h => by rw [← h, copyholdlaw05_RedoStays.j0, if_pos rfl]
  unfold copyholdlaw05_RedoStays.f
  rw [bs (shown_eq (k + 2) (by omega)), bs (few_eq l0 l1 off (k + 2) (by omega))]
  by_cases hfw : fewB l0 l1 = true
  · obtain ⟨n0, n1, hrt⟩ := few_of hfw
    rw [if_pos hfw]
    by_cases hsz : (s.size : Int) > 4096
    · rw [if_pos hsz]; exact hj _ rfl
    · rw [if_neg hsz, bs (right_ref off hrt (by omega) (litu64 hf) (lit64 hmm).2)]
      cases hr : rightR l0 l1 off fr mn at_ used first many with
      | false => exact hj _ rfl
      | true =>
        clear hj
        obtain ⟨rfl, fr, mn, at_, used, first, many, ts, rfl, rfl, rfl, rfl, rfl, rfl, g⟩ := right_lg hrt (litu64 hf) hr
        have hs4 : s.size ≤ 4096 := by omega
        have hle := g.le
        have hff := g.hf
        have h66 := need66 hs4
        have hA := g.appended (by omega) hs4
        obtain ⟨more, hS, gS⟩ := g.scan (by omega)
        have hleS := gS.le
        -- the rest, whatever log stands behind it
        have tail : ∀ (l1' : List S88) (used' many' : Nat) (ts' : List ByteArray) (e : Int), l1'.length ≤ 1000000 → Lg l0 l1' fr mn at_ used' first many' ts' →
            (e = 0 → many' = many + 1 ∧ ts' = ts ++ [s]) → redo_Append.f l0 l1 false (fr : Int) (mn : Int) (at_ : Int) (used : Int) (first : Int) (many : Int) s = some (l0, l1', false, (at_ : Int), (used' : Int), (first : Int), (many' : Int), e) →
            copyholdlaw05_RedoStays.j0 (k + 2) s x true false l0 l1 false (fr : Int) (mn : Int) (at_ : Int) (used : Int) (first : Int) (many : Int) = some true := by
          intro l1' used' many' ts' e h1' g' he hA
          have hle' := g'.le
          have hT := g'.texts h1' (used' : Int)
          have hD : ∃ p1 p2 p3 p4 c : Int, redo_Drop.f l0 l1' false (fr : Int) (mn : Int) (at_ : Int) (used' : Int) (first : Int) (many' : Int) x = some (p1, p2, p3, p4, c) ∧ (c = 0 ↔ 0 ≤ x ∧ x ≤ many') ∧
              copyholdref05_Right.f l0 l1' false (fr : Int) (mn : Int) p1 p2 p3 p4 = some true := by
            by_cases hb : x < 0 ∨ (many' : Int) < x
            · refine ⟨_, _, _, _, _, by unfold redo_Drop.f; rw [if_pos hb], by omega, ?_⟩
              rw [right_ref false g'.rt h1' (by omega) (by omega), g'.right]
            · obtain ⟨y, rfl⟩ := Int.eq_ofNat_of_zero_le (show 0 ≤ x by omega)
              refine ⟨_, _, _, _, _, g'.dropped h1' y (by omega), by omega, ?_⟩
              have g2 := g'.drop y (by omega)
              have hf2 := g2.hf
              rw [right_ref false g2.rt h1' (by omega) (by omega), g2.right]
          obtain ⟨p1, p2, p3, p4, c, hD1, hD2, hD3⟩ := hD
          rw [copyholdlaw05_RedoStays.j0, if_neg (by decide), bs hA]
          dsimp only
          rw [bs hT, bs hD1, bs hS]
          dsimp only
          have hR1 : copyholdref05_Right.f l0 l1' false (fr : Int) (mn : Int) (at_ : Int) (used' : Int) (first : Int) (many' : Int) = some true := by rw [right_ref false g'.rt h1' (by omega) (by omega), g'.right]
          have hR2 : copyholdref05_Right.f l0 l1 false (fr : Int) (mn : Int) (at_ : Int) ((needs (ts ++ more) : Nat) : Int) (first : Int) (((ts ++ more).length : Nat) : Int) = some true := by rw [right_ref false gS.rt (by omega) (by omega) (by omega), gS.right]
          rw [if_pos rfl, if_pos rfl, bs hR1, if_pos rfl, bs hR2, copyholdlaw05_RedoStays.j1, if_neg (by decide)]
          have hq : (((ts ++ more).length : Nat) : Int) ≥ (many : Int) := by rw [List.length_append, g.hmany]; omega
          have hend : (if x ≥ 0 then (if ((c == 0) == (decide (x ≤ (many' : Int)))) = true then (some (decide ((((ts ++ more).length : Nat) : Int) ≥ (many : Int)))) else none) else (if ((c == 0) == false) = true then (some (decide ((((ts ++ more).length : Nat) : Int) ≥ (many : Int)))) else none)) = some true := by
            rw [decide_eq_true hq]
            by_cases hx0 : x ≥ 0
            · rw [if_pos hx0]
              by_cases hx1 : x ≤ (many' : Int)
              · rw [if_pos (by rw [beq_iff_eq.2 (hD2.2 ⟨hx0, hx1⟩), decide_eq_true hx1]; rfl)]
              · rw [if_pos (by rw [beq_eq_false_iff_ne.2 (fun h => hx1 (hD2.1 h).2), decide_eq_false hx1]; rfl)]
            · rw [if_neg hx0, if_pos (by rw [beq_eq_false_iff_ne.2 (fun h => hx0 (hD2.1 h).1)]; rfl)]
          by_cases he0 : e = 0
          · obtain ⟨e1, e2⟩ := he he0
            have hl : ts'.length = many + 1 := by rw [e2, List.length_append, ← g.hmany]; rfl
            have hw : wrap64 ((many : Int) + 1) = ((many + 1 : Nat) : Int) := by rw [w64 (by omega) (by omega)]; omega
            have hget : rdOf ByteArray.empty ts' (many : Int) = s := by
              rw [rdo (by omega)]
              subst e2
              rw [List.getElem_append_right (by rw [← g.hmany]; exact Nat.le_refl _)]
              simp [g.hmany]
            rw [if_pos he0, if_pos (by rw [hw, hl]), if_pos (by clear hw; omega), if_pos (by clear hw; omega), hget, if_pos rfl, if_pos rfl, bs hD3, if_pos rfl]
            exact hend
          · rw [if_neg he0, if_pos rfl, bs hD3, if_pos rfl]
            exact hend
        by_cases hu : mn < used + needN s
        · rw [if_pos hu] at hA
          exact tail l1 used many ts 12 (by omega) g (by omega) hA
        · rw [if_neg hu] at hA
          exact tail _ (used + needN s) (many + 1) (ts ++ [s]) 0 (by rw [List.length_append, Lg.laid_len]; omega) (g.append hs4 (by omega)) (fun _ => ⟨rfl, rfl⟩) hA
  · rw [if_neg hfw]; exact hj _ rfl
end Go.Proofs.Ytcbfnfggnocndaa.Pure
