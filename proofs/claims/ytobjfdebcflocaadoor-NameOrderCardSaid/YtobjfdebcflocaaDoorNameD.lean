/- Layer 6, walked: slices.Delete of one entry, out of a row of the caller's own. -/
import Derived.Test.YtobjfdebcflocaaDoorNameC
set_option linter.unusedVariables false
set_option linter.unusedSimpArgs false
namespace Go.Proofs.YtobjfdebcflocaaDoor.Q
open Go.RowKit Go.Shelf Go.Lib Go.Proofs.YtobjfdebcflocaaDoorW.PrintWords Go.Proofs.YtobjfdebcflocaaDoorW.PrintLast Go.Proofs.YtobjfdebcflocaaDoorW.PrintMore

theorem step_append_at {P : Program} {ops : Array Oper} {o : Oper} {a : Act} {w : World} {K : Act → World → Prop} {Q : Exit → Act → World → Prop} {E : Prop}
    (hg : o.guard = none) (d x : Operand) (dT sT : TypeId) (hop : o.op = Op.call { callee := Callee.builtin Builtin.append, args := #[d, x], argTypes := #[dT, sT] })
    (v u : Value) (hd : a.eval d = v) (hx : a.eval x = u) {v' : Value} {w' : World} (hr : (Builtin.append_ #[dT, sT] o.type #[v, u]).run P w = .ok v' w') (hK : K (a.put o.dst v') w') :
    if Region.wanted o (yielded ops a.tmps) = true then Oper.wp P o a w K Q else E := by
  have hw : Region.wanted o (yielded ops a.tmps) = true := by simp [Region.wanted, hg]
  rw [if_pos hw]
  unfold Oper.wp
  simp [execOp, hop, resolve, invoke, builtin, hd, hx, hr, Result.andThen]
  exact hK
/-- 'clear' of one element of two cells. -/
theorem run_clear_two {P : Program} (w : World) (t e ty : TypeId) (z : Value) (z0 z1 : Value) (ht : P.underlying t = some (.slice e)) (hv : ∀ w, (zeroValue e).run P w = .ok z w) (hz : z.cells = #[z0, z1]) (h0 : z0.oneCell' = true) (h1 : z1.oneCell' = true) (g o c : Nat)
    (cur : Array Value) (te : TypeId) (hg : w.heap[g]? = some (.cells cur te (0, 0))) (hfit : o + 2 ≤ cur.size) :
    (Builtin.clear_ #[t] ty #[.slice (some ⟨g, o, none⟩) 1 c]).run P w = .ok (.tuple #[]) (w.setRow g (cur.toList.take o ++ [z0, z1] ++ cur.toList.drop (o + 2)).toArray) := by
  have hzc : (Builtin.zeroCells z.cells 1).toList = [z0, z1] := by
    rw [hz]
    simp [Builtin.zeroCells, Array.range_succ]
  have hst := run_storeCells_at P g o te [z0, z1] 0 cur w hg (by simpa using hfit) (by simp [h0, h1])
  simp only [Nat.add_zero, List.length_cons, List.length_nil, Nat.zero_add] at hst
  simp [Builtin.clear_, run_underlying ht, hv, hzc, hst]

set_option maxHeartbeats 4000000 in
set_option maxRecDepth 100000 in
theorem delete_calls (base : Nat) (xs : List S56) (i : Nat) (v : Value) (w : World) (hi : i < xs.length) (hl : xs.length ≤ 1000000)
    (ho : w.ownsRow base 56 2 v xs.length (flatE xs)) :
    Calls Tryd.prog 34 #[v, .int .i64 i, .int .i64 ((i : Int) + 1)] w fun e w' =>
      ∃ v', e = .returned v' ∧ w'.ownsRow base 56 2 v' (xs.length - 1) (flatE (xs.take i ++ xs.drop (i + 1))) ∧ Below base w w' := by
  rcases ho.2 with ⟨hv, hn⟩ | ⟨g, c, _, hv, hgb, _⟩
  · omega
  subst hv
  obtain ⟨cur, hg, hnc, hcm, hcs, hct, hbg⟩ := own_block ho
  obtain ⟨i0, hi0, hz0, hzs, hzb⟩ := info_parts info_entry
  have hc63 : c ≤ 9223372036854775807 := by unfold maxLen at hcm; omega
  obtain ⟨j, hj⟩ : ∃ j, j = i + 1 := ⟨_, rfl⟩
  have hD : (flatE (xs.drop j)).length = (xs.length - j) * 2 := by rw [flatE_len, List.length_drop]
  have hA : (flatE (xs.take i)).length = i * 2 := by rw [flatE_len, List.length_take]; omega
  obtain ⟨A, hAd, hsrc⟩ : ∃ A : Addr, (if c = j then (some (⟨g, 0, none⟩ : Addr)) else some ⟨g, j * 2, none⟩) = some A ∧ ∀ t u, (flatE (xs.drop j))[t]? = some u → w.drew.cell? (A.add t) = some u := by
    by_cases h : c = j
    · refine ⟨⟨g, 0, none⟩, by simp [h], fun t u hu => ?_⟩
      have h0 : (flatE (xs.drop j)).length = 0 := by rw [hD]; omega
      rw [List.length_eq_zero_iff.1 h0] at hu
      simp at hu
    · refine ⟨⟨g, j * 2, none⟩, by simp [h], fun t u hu => row_cells (w := w.drew) hg (j * 2) t u ?_⟩
      rw [flatE_drop, ← hct, List.getElem?_drop] at hu
      rw [List.getElem?_take] at hu
      split at hu
      · exact hu
      · cases hu
  obtain ⟨R1, hR1⟩ : ∃ R1, R1 = (cur.toList.take (i * 2) ++ flatE (xs.drop j) ++ cur.toList.drop (i * 2 + (flatE (xs.drop j)).length)).toArray := ⟨_, rfl⟩
  have hap : ∀ ty, (Builtin.append_ #[30, 30] ty #[.slice (some ⟨g, 0, none⟩) i c, .slice (some A) (xs.length - j) (c - j)]).run Tryd.prog w.drew = .ok (.slice (some ⟨g, 0, none⟩) (xs.length - 1) c) (w.drew.setRow g R1) := fun ty => by
    have h := run_append_room (P := Tryd.prog) w.drew 30 ty 56 i0 Tryd.underlying30 hi0 g i c cur hg A (xs.length - j) (c - j) (flatE (xs.drop j)) (by rw [hzs]; exact hD) hsrc (flatE_one _) (by omega) (by rw [hzs, hD, hcs]; omega)
    rw [hzs, show i + (xs.length - j) = xs.length - 1 by omega] at h
    rw [hR1]
    exact h
  obtain ⟨W1, hW1⟩ : ∃ W1, W1 = w.drew.setRow g R1 := ⟨_, rfl⟩
  rw [← hW1] at hap
  have hs1 : R1.size = c * 2 := by rw [hR1]; simp only [List.size_toArray, List.length_append, List.length_take, List.length_drop, Array.length_toList, hD, hcs]; omega
  have hg1 : W1.heap[g]? = some (.cells R1 56 (0, 0)) := by rw [hW1]; exact setRow_heap w.drew g cur R1 56 (0, 0) hg
  obtain ⟨W2, hW2⟩ : ∃ W2, W2 = W1.setRow g (R1.toList.take ((xs.length - 1) * 2) ++ [Value.string ⟨#[]⟩, Value.int .i64 0] ++ R1.toList.drop ((xs.length - 1) * 2 + 2)).toArray := ⟨_, rfl⟩
  have hcl : ∀ ty, (Builtin.clear_ #[30] ty #[.slice (some ⟨g, (xs.length - 1) * 2, none⟩) 1 (c - (xs.length - 1))]).run Tryd.prog W1 = .ok (.tuple #[]) W2 := fun ty => by
    rw [hW2]
    exact run_clear_two W1 30 56 ty _ _ _ Tryd.underlying30 Tryd.zeroValue56 rfl rfl rfl g ((xs.length - 1) * 2) _ R1 56 hg1 (by rw [hs1]; omega)
  have HF := Lib.hid (show W2.ownsRow base 56 2 (.slice (some ⟨g, 0, none⟩) (xs.length - 1) c) (xs.length - 1) (flatE (xs.take i ++ xs.drop (i + 1))) ∧ Below base w W2 by
    rw [hW2]
    refine ⟨⟨?_, .inr ⟨g, c, _, rfl, hbg, setRow_heap _ g R1 _ 56 (0, 0) hg1, by omega, hcm, ?_, ?_⟩⟩, ?_⟩
    · rw [flatE_len, List.length_append, List.length_take, List.length_drop]; omega
    · simp only [List.size_toArray, List.length_append, List.length_take, List.length_drop, Array.length_toList, List.length_cons, List.length_nil, hs1]; omega
    · have e1 : cur.toList.take (i * 2) = flatE (xs.take i) := by
        rw [flatE_take, ← hct, List.take_take, Nat.min_eq_left (by omega)]
      have e2 : R1.toList.take ((xs.length - 1) * 2) = flatE (xs.take i) ++ flatE (xs.drop j) := by
        rw [hR1, e1]
        exact List.take_left' (by rw [List.length_append, hA, hD]; omega)
      rw [← hj, flatE_app, List.append_assoc, e2]
      exact List.take_left' (by rw [List.length_append, hA, hD]; omega)
    · rw [hW1]
      refine ⟨rfl, rfl, rfl, by simp [World.setRow], fun k hk => ?_⟩
      rw [setRow_other _ g k _ (by omega), setRow_other _ g k _ (by omega)]
      rfl)
  have mixed : Tryd.prog.follows .mixedOrders = true := by kernel_rfl
  have hq1 : (i : Int) + 1 = (j : Int) := by omega
  have hq2 : ¬ ((i : Int) = (j : Int)) := by omega
  have hq3 : (i : Int) ≤ (j : Int) := by omega
  have hq4 : (j : Int) ≤ (xs.length : Int) := by omega
  have hq5 : (xs.length : Int) ≤ (c : Int) := by omega
  have hq6 : (i : Int) ≤ (c : Int) := by omega
  have hq7 : ¬ (c = xs.length - 1) := by omega
  have hq8 : xs.length - (xs.length - 1) = 1 := by omega
  have hq9 : (((xs.length - 1 : Nat) : Int)) ≤ (xs.length : Int) := by omega
  have hq10 : (xs.length : Int) ≤ (c : Int) := by omega
  rw [hq1]
  have C1 := Lib.hid hap; have C2 := Lib.hid hcl
  clear hap hcl hW2 hg1 hs1 hW1 hR1 hsrc hA hD hct hcs hg hzs hzb hz0 hi0 ho hj hq1
  go_enter Tryd.func34, Tryd.ntmps34
  go_wp2_with fail
  go_region_law_o (refine step_append_at rfl (.tmp 22) (.tmp 25) 30 30 rfl (.slice (some ⟨g, 0, none⟩) i c) (.slice (some A) (xs.length - j) (c - j)) (by simp [Act.eval, Act.put]) (by simp [Act.eval, Act.put, hAd]) (C1.out 30) ?_)
  go_wp2_with (simp only [C2.out])
  go_ret
  exact ⟨_, rfl, HF.out⟩
end Go.Proofs.YtobjfdebcflocaaDoor.Q
