/- Layer 6, walked: slices.Insert at entries, into a row of the caller's own: at the end, in place, and into a new row. -/
import Derived.Test.YtobjfdebcflocaaDoorNameB
set_option linter.unusedVariables false
set_option linter.unusedSimpArgs false
namespace Go.Proofs.YtobjfdebcflocaaDoor.Q
open Go.RowKit Go.Shelf Go.Lib Go.Proofs.YtobjfdebcflocaaDoorW.PrintWords Go.Proofs.YtobjfdebcflocaaDoorW.PrintLast Go.Proofs.YtobjfdebcflocaaDoorW.PrintMore

set_option maxHeartbeats 4000000 in
set_option maxRecDepth 100000 in
theorem insert_nil (base : Nat) (x : S56) (vb : Nat) (w : World) (hbase : base ≤ w.heap.size) (hx : w.heap[vb]? = some (.cells #[.string x.f0, .int .i64 x.f1] 56 (0, 0))) :
    Calls Tryd.prog 32 #[.slice none 0 0, .int .i64 0, .slice (some ⟨vb, 0, none⟩) 1 1] w fun e w' =>
      ∃ v', e = .returned v' ∧ w'.ownsRow base 56 2 v' 1 (flatE [x]) ∧ Below base w w' := by
  obtain ⟨i0, hi0, hz0, hz1, hz2⟩ := info_parts info_entry
  have hnews := World.news_of_block (w := w) (cs := #[.string x.f0, .int .i64 x.f1]) (t := 56) (fr := (0, 0)) hx
  have HN := Lib.hid hnews
  clear hnews hx
  go_enter Tryd.func32, Tryd.ntmps32
  go_wp2_with (at_builtin; refine wpList_append_own _ rfl _ _ 30 rfl base 56 i0 _ 2 24 Tryd.underlying30 hi0 hz0 hz1 hz2 rfl (by decide) (.slice none 0 0) 0 [] rfl (World.ownsRow_nil w base 56 2) ⟨vb, 0, none⟩ 1 1 [.string x.f0, .int .i64 x.f1] rfl rfl HN.out (by simp [Value.oneCell']) (by unfold maxLen; omega) (by omega) hbase ?_)
  intro v1 w1 hown1 hgrow _
  have HO := Lib.hid hown1
  have HG := Lib.hid hgrow
  clear hown1 hgrow
  go_wp2
  go_ret
  exact ⟨_, rfl, HO.out, (Below.refl _ w).grown HG.out hbase (fun k hk => by simp [Value.ownBlock] at hk)⟩

set_option maxHeartbeats 4000000 in
set_option maxRecDepth 100000 in
theorem insert_end (base : Nat) (xs : List S56) (x : S56) (g c vb : Nat) (w : World) (hbase : base ≤ w.heap.size) (hg : base ≤ g) (hl : xs.length ≤ 1000000)
    (ho : w.ownsRow base 56 2 (.slice (some ⟨g, 0, none⟩) xs.length c) xs.length (flatE xs)) (hx : w.heap[vb]? = some (.cells #[.string x.f0, .int .i64 x.f1] 56 (0, 0))) :
    Calls Tryd.prog 32 #[.slice (some ⟨g, 0, none⟩) xs.length c, .int .i64 xs.length, .slice (some ⟨vb, 0, none⟩) 1 1] w fun e w' =>
      ∃ v', e = .returned v' ∧ w'.ownsRow base 56 2 v' (xs.length + 1) (flatE (xs ++ [x])) ∧ Below base w w' := by
  obtain ⟨i0, hi0, hz0, hz1, hz2⟩ := info_parts info_entry
  have hnews := World.news_of_block (w := w) (cs := #[.string x.f0, .int .i64 x.f1]) (t := 56) (fr := (0, 0)) hx
  have HN := Lib.hid hnews
  have HW := Lib.hid ho
  clear hnews hx ho
  go_enter Tryd.func32, Tryd.ntmps32
  go_wp2_with (at_builtin; refine wpList_append_own _ rfl _ _ 30 rfl base 56 i0 _ 2 24 Tryd.underlying30 hi0 hz0 hz1 hz2 rfl (by decide) (.slice (some ⟨g, 0, none⟩) xs.length c) xs.length (flatE xs) rfl HW.out ⟨vb, 0, none⟩ 1 1 [.string x.f0, .int .i64 x.f1] rfl rfl HN.out (by simp [Value.oneCell']) (by unfold maxLen; omega) (by omega) hbase ?_)
  all_goals
    intro v1 w1 hown1 hgrow _
    have HO := Lib.hid hown1
    have HG := Lib.hid hgrow
    clear hown1 hgrow
    go_wp2
    go_ret
    exact ⟨_, rfl, by rw [flatE_app]; exact HO.out, (Below.refl _ w).grown HG.out hbase (fun k hk => by simp [Value.ownBlock] at hk; omega)⟩

/-- What a row of the caller's own holds, as its block. -/
theorem own_block {w : World} {base g n c : Nat} {xs : List S56} (ho : w.ownsRow base 56 2 (.slice (some ⟨g, 0, none⟩) n c) n (flatE xs)) :
    ∃ cur : Array Value, w.heap[g]? = some (.cells cur 56 (0, 0)) ∧ n ≤ c ∧ c ≤ maxLen ∧ cur.size = c * 2 ∧ cur.toList.take (n * 2) = flatE xs ∧ base ≤ g := by
  rcases ho.2 with ⟨h, _⟩ | ⟨g', cap, cur, hv, hb, hg, hn, hm, hs, ht⟩
  · cases h
  · cases hv
    exact ⟨cur, hg, hn, hm, hs, ht, hb⟩

set_option maxHeartbeats 4000000 in
set_option maxRecDepth 100000 in
/-- THERE IS ROOM, ahead of the end: in place. -/
theorem insert_room (base : Nat) (xs : List S56) (i : Nat) (x : S56) (g c vb : Nat) (w : World) (hi : i < xs.length) (hroom : xs.length + 1 ≤ c) (hne : vb ≠ g) (hl : xs.length ≤ 1000000)
    (ho : w.ownsRow base 56 2 (.slice (some ⟨g, 0, none⟩) xs.length c) xs.length (flatE xs)) (hx : w.heap[vb]? = some (.cells #[.string x.f0, .int .i64 x.f1] 56 (0, 0))) :
    Calls Tryd.prog 32 #[.slice (some ⟨g, 0, none⟩) xs.length c, .int .i64 i, .slice (some ⟨vb, 0, none⟩) 1 1] w fun e w' =>
      ∃ v', e = .returned v' ∧ w'.ownsRow base 56 2 v' (xs.length + 1) (flatE (xs.take i ++ x :: xs.drop i)) ∧ Below base w w' := by
  obtain ⟨cur, hg, hnc, hcm, hcs, hct, hbg⟩ := own_block ho
  have hc63 : c ≤ 9223372036854775807 := by unfold maxLen at hcm; omega
  have hD : (flatE (xs.drop i)).length = (xs.length - i) * 2 := by rw [flatE_len, List.length_drop]
  have hA : (flatE (xs.take i)).length = i * 2 := by rw [flatE_len, List.length_take]; omega
  have hsplit : flatE xs = flatE (xs.take i) ++ flatE (xs.drop i) := by rw [← flatE_app, List.take_append_drop]
  have hz1 : ¬ ((1 : Int) = 0) := by omega
  have hz2 : ¬ ((i : Int) = (xs.length : Int)) := by omega
  have hw1 : IntKind.i64.wrap ((i : Int) + 1) = (i : Int) + 1 := by rw [IntKind.wrap_i64]; omega
  have hw2 : IntKind.i64.wrap ((xs.length : Int) + 1) = (xs.length : Int) + 1 := by rw [IntKind.wrap_i64]; omega
  have hov : ∀ lb cb, (callFunc 41 #[.slice (some ⟨vb, 0, none⟩) 1 1, .slice (some ⟨g, (i + 1) * 2, none⟩) lb cb]).run Tryd.prog w = .ok (.value (.bool false)) w := fun lb cb => by
    rw [run_callFunc_extern Tryd.func41 (by kernel_rfl) (by kernel_rfl) (by kernel_rfl) (e := Extern.SlicesOverlaps.overlaps #[30, 30] #[4]) (by kernel_rfl),
      Lib.run_overlaps_apart w 30 4 56 Tryd.underlying30 2 Tryd.sizeOf56 ⟨vb, 0, none⟩ ⟨g, (i + 1) * 2, none⟩ 1 1 lb cb hne 56 56 2 cur.size (by simp [World.shape?, hx]) (by simp [World.shape?, hg]) (by omega) (by simp [World.frozen?, hx]) (by simp [World.frozen?, hx])]
    rfl
  have hcp1 : ∀ ty dc sc, (Builtin.copy_ #[30, 30] ty #[.slice (some ⟨g, (i + 1) * 2, none⟩) (xs.length - i) dc, .slice (some ⟨g, i * 2, none⟩) (xs.length + 1 - i) sc]).run Tryd.prog w.drew = .ok (goInt ((xs.length - i : Nat) : Int)) (w.drew.setRow g (cur.toList.take (i * 2 + 2) ++ flatE (xs.drop i) ++ cur.toList.drop (i * 2 + 2 + (flatE (xs.drop i)).length)).toArray) := fun ty dc sc => by
    have hm : Nat.min (xs.length + 1 - i) (xs.length - i) = xs.length - i := by simp only [Nat.min_def]; split <;> omega
    have h := run_copy_rowK (P := Tryd.prog) w.drew 30 30 ty 56 2 g (i * 2 + 2) (xs.length - i) dc ⟨g, i * 2, none⟩ (xs.length + 1 - i) sc cur 56 (flatE (xs.drop i)) Tryd.underlying30 size_entry hg (by rw [hD, hm])
      (fun j v hj => row_cells (w := w.drew) hg (i * 2) j v (by
        rw [flatE_drop, ← hct, List.getElem?_drop] at hj
        rw [List.getElem?_take] at hj
        split at hj
        · exact hj
        · cases hj)) (by omega) (flatE_one _)
    rw [hm] at h
    rw [show (i + 1) * 2 = i * 2 + 2 by omega]
    exact h
  obtain ⟨R1, hR1⟩ : ∃ R1, R1 = (cur.toList.take (i * 2 + 2) ++ flatE (xs.drop i) ++ cur.toList.drop (i * 2 + 2 + (flatE (xs.drop i)).length)).toArray := ⟨_, rfl⟩
  rw [← hR1] at hcp1
  have hs1 : R1.size = cur.size := by rw [hR1]; simp only [List.size_toArray, List.length_append, List.length_take, List.length_drop, Array.length_toList]; omega
  have hg1 : (w.drew.setRow g R1).heap[g]? = some (.cells R1 56 (0, 0)) := setRow_heap w.drew g cur R1 56 (0, 0) hg
  have hcp2 : ∀ ty dc, (Builtin.copy_ #[30, 30] ty #[.slice (some ⟨g, i * 2, none⟩) (xs.length + 1 - i) dc, .slice (some ⟨vb, 0, none⟩) 1 1]).run Tryd.prog (w.drew.setRow g R1) = .ok (goInt 1) ((w.drew.setRow g R1).setRow g (R1.toList.take (i * 2) ++ [Value.string x.f0, Value.int .i64 x.f1] ++ R1.toList.drop (i * 2 + 2)).toArray) := fun ty dc => by
    have hm : Nat.min 1 (xs.length + 1 - i) = 1 := by simp only [Nat.min_def]; split <;> omega
    have h := run_copy_rowK (P := Tryd.prog) (w.drew.setRow g R1) 30 30 ty 56 2 g (i * 2) (xs.length + 1 - i) dc ⟨vb, 0, none⟩ 1 1 R1 56 [.string x.f0, .int .i64 x.f1] Tryd.underlying30 size_entry hg1 (by rw [hm]; rfl)
      (World.news_of_block (w := w.drew.setRow g R1) (cs := #[.string x.f0, .int .i64 x.f1]) (t := 56) (fr := (0, 0)) ((setRow_other w.drew g vb R1 hne).trans hx)) (by rw [hs1]; simp only [List.length_cons, List.length_nil]; omega) (by simp [Value.oneCell'])
    rw [hm] at h
    exact h
  obtain ⟨W1, hW1⟩ : ∃ W1, W1 = w.drew.setRow g R1 := ⟨_, rfl⟩
  rw [← hW1] at hcp1 hcp2
  obtain ⟨W2, hW2⟩ : ∃ W2, W2 = (W1.setRow g (R1.toList.take (i * 2) ++ [Value.string x.f0, Value.int .i64 x.f1] ++ R1.toList.drop (i * 2 + 2)).toArray) := ⟨_, rfl⟩
  have hcp3 : ∀ ty dc, (Builtin.copy_ #[30, 30] ty #[.slice (some ⟨g, i * 2, none⟩) (xs.length + 1 - i) dc, .slice (some ⟨vb, 0, none⟩) 1 1]).run Tryd.prog W1 = .ok (goInt 1) W2 := fun ty dc => by rw [hW2]; exact hcp2 ty dc
  have C1 := Lib.hid hcp1
  have C2 := Lib.hid hcp3
  have HF := Lib.hid (show W2.ownsRow base 56 2 (.slice (some ⟨g, 0, none⟩) (xs.length + 1) c) (xs.length + 1) (flatE (xs.take i ++ x :: xs.drop i)) ∧ Below base w W2 by
    rw [hW2]
    refine ⟨⟨?_, .inr ⟨g, c, _, rfl, hbg, setRow_heap _ g R1 _ 56 (0, 0) (by rw [hW1]; exact hg1), by omega, hcm, ?_, ?_⟩⟩, ?_⟩
    · rw [flatE_len, List.length_append, List.length_take, List.length_cons, List.length_drop]; omega
    · simp only [List.size_toArray, List.length_append, List.length_take, List.length_drop, Array.length_toList, List.length_cons, List.length_nil, hs1, hcs]; omega
    · have h := laid_in (flatE (xs.take i)) (flatE (xs.drop i)) [.string x.f0, .int .i64 x.f1] cur.toList (xs.length * 2) (i * 2) 2 hA (by rw [hD]; omega) rfl (by have e : cur.toList.length = cur.size := rfl; rw [e, hcs]; omega) (by rw [hct, hsplit])
      rw [flatE_app, flatE_cons, ← List.append_assoc, ← h, show (xs.length + 1) * 2 = xs.length * 2 + 2 by omega, hR1]
      rfl
    · rw [hW1]
      refine ⟨rfl, rfl, rfl, by simp [World.setRow], fun k hk => ?_⟩
      rw [setRow_other _ g k _ (by omega), setRow_other _ g k _ (by omega)]
      rfl)
  clear hcp1 hcp2 hcp3 hct hcs hg hg1 hsplit hA hD hx ho hs1 hW2 hW1 hR1
  go_enter Tryd.func32, Tryd.ntmps32
  have mixed : Tryd.prog.follows .mixedOrders = true := by kernel_rfl
  have hb1 : (0 : Int) ≤ (i : Int) + 1 := by omega
  have htn : ((i : Int) + 1).toNat = i + 1 := by omega
  have hb2 : ¬ (c = i + 1) := by omega
  have hb3 : (i : Int) ≤ (xs.length : Int) := by omega
  have hb4 : ¬ (c = i) := by omega
  have hb5 : (i : Int) ≤ (xs.length : Int) + 1 := by omega
  go_wp2_with (simp only [hov])
  go_region_law_o (refine step_copy_at rfl _ _ 30 30 rfl (.slice (some ⟨g, (i + 1) * 2, none⟩) (xs.length - i) (c - (i + 1))) (.slice (some ⟨g, i * 2, none⟩) (xs.length + 1 - i) (c - i)) (by simp [Act.eval, Act.put]) (by simp [Act.eval, Act.put]) (C1.out 3 (c - (i + 1)) (c - i)) ?_)
  go_wp2_with (simp only [C2.out])
  go_ret
  exact ⟨_, rfl, HF.out⟩

theorem laid_new (A X D Z : List Value) (i2 n2 : Nat) (hA : A.length = i2) (hX : X.length = 2) (hD : i2 + D.length = n2) (hZ : 2 + D.length ≤ Z.length) :
    ((((A ++ Z).take i2 ++ X ++ (A ++ Z).drop (i2 + 2)).take (i2 + 2) ++ D ++ ((A ++ Z).take i2 ++ X ++ (A ++ Z).drop (i2 + 2)).drop (i2 + 2 + D.length)).take (n2 + 2)) = A ++ X ++ D := by
  have h1 : (A ++ Z).take i2 = A := List.take_left' hA
  have h2 : (A ++ X ++ (A ++ Z).drop (i2 + 2)).take (i2 + 2) = A ++ X := List.take_left' (by rw [List.length_append]; omega)
  rw [h1, h2]
  exact List.take_left' (by simp only [List.length_append]; omega)

set_option maxHeartbeats 4000000 in
set_option maxRecDepth 100000 in
/-- NO ROOM, ahead of the end: a new row. -/
theorem insert_grow (base : Nat) (xs : List S56) (i : Nat) (x : S56) (g c vb : Nat) (w : World) (hbase : base ≤ w.heap.size) (hi : i < xs.length) (hroom : c < xs.length + 1) (hl : xs.length ≤ 1000000)
    (ho : w.ownsRow base 56 2 (.slice (some ⟨g, 0, none⟩) xs.length c) xs.length (flatE xs)) (hx : w.heap[vb]? = some (.cells #[.string x.f0, .int .i64 x.f1] 56 (0, 0))) :
    Calls Tryd.prog 32 #[.slice (some ⟨g, 0, none⟩) xs.length c, .int .i64 i, .slice (some ⟨vb, 0, none⟩) 1 1] w fun e w' =>
      ∃ v', e = .returned v' ∧ w'.ownsRow base 56 2 v' (xs.length + 1) (flatE (xs.take i ++ x :: xs.drop i)) ∧ Below base w w' := by
  obtain ⟨cur, hg, hnc, hcm, hcs, hct, hbg⟩ := own_block ho
  obtain ⟨i0, hi0, hz0, hzs, hzb⟩ := info_parts info_entry
  have hgw : g < w.heap.size := (Array.getElem?_eq_some_iff.1 hg).1
  have hvw : vb < w.heap.size := (Array.getElem?_eq_some_iff.1 hx).1
  have hD : (flatE (xs.drop i)).length = (xs.length - i) * 2 := by rw [flatE_len, List.length_drop]
  have hA : (flatE (xs.take i)).length = i * 2 := by rw [flatE_len, List.length_take]; omega
  have hsplit : flatE xs = flatE (xs.take i) ++ flatE (xs.drop i) := by rw [← flatE_app, List.take_append_drop]
  have hz1 : ¬ ((1 : Int) = 0) := by omega
  have hz2 : ¬ ((i : Int) = (xs.length : Int)) := by omega
  have hz3 : (c : Int) < (xs.length : Int) + 1 := by omega
  have hw1 : IntKind.i64.wrap ((i : Int) + 1) = (i : Int) + 1 := by rw [IntKind.wrap_i64]; omega
  have hw2 : IntKind.i64.wrap ((xs.length : Int) + 1) = (xs.length : Int) + 1 := by rw [IntKind.wrap_i64]; omega
  have hw3 : IntKind.i64.wrap ((xs.length : Int) + 1 - (i : Int)) = (xs.length : Int) + 1 - (i : Int) := by rw [IntKind.wrap_i64]; omega
  have hkk : (xs.length : Int) + 1 - (i : Int) = ((xs.length + 1 - i : Nat) : Int) := by omega
  have hik : i + (xs.length + 1 - i) = xs.length + 1 := by omega
  have hold : (Builtin.firstCells i0.size i (.slice (some ⟨g, 0, none⟩) i c)).run Tryd.prog w.drew = .ok (flatE (xs.take i)).toArray w.drew := by
    rw [hzs]
    exact run_firstCells_some w.drew 2 i ⟨g, 0, none⟩ i c (flatE (xs.take i)) hA (fun j v hj => row_cells (w := w.drew) hg 0 j v (by
      rw [flatE_take, ← hct, List.take_take, List.getElem?_take] at hj
      split at hj
      · rw [Nat.zero_add]; exact hj
      · cases hj))
  have hrz : ∀ ty, (Builtin.append_ #[30, 3] ty #[.slice (some ⟨g, 0, none⟩) i c, .int .i64 ((xs.length : Int) + 1 - (i : Int))]).run Tryd.prog w =
      .ok (.slice (some ⟨w.heap.size, 0, none⟩) (xs.length + 1) (grownCap w (xs.length + 1) c 56)) (w.drew.alloc (.cells ((flatE (xs.take i)).toArray ++ Builtin.zeroCells (Value.agg #[Value.string ⟨#[]⟩, Value.int .i64 0]).cells (xs.length + 1 - i) ++ Builtin.zeroCells (Value.agg #[Value.string ⟨#[]⟩, Value.int .i64 0]).cells (grownCap w (xs.length + 1) c 56 - (xs.length + 1))) 56)) := fun ty => by
    have h := Lib.run_append_grow_zeros w 30 3 ty 56 i0 _ .i64 .i64 Tryd.underlying30 Tryd.underlying3 hi0 hz0 (some ⟨g, 0, none⟩) i c (flatE (xs.take i)) hold (xs.length + 1 - i) (by omega) (by omega) (by omega) (by omega) (by rw [hzb]; omega) (by rw [hzb, hik]; exact growslice_fits hroom (by omega))
    rw [hik] at h
    rw [hkk]
    exact h
  have hGn : xs.length + 1 ≤ grownCap w (xs.length + 1) c 56 := grownCap_ge w _ _ _
  have hGm : grownCap w (xs.length + 1) c 56 ≤ maxLen := grownCap_le_maxLen w (xs.length + 1) c 56 (by unfold maxLen; omega)
  generalize grownCap w (xs.length + 1) c 56 = G at hrz hGn hGm
  have hG63 : G ≤ 9223372036854775807 := by unfold maxLen at hGm; omega
  obtain ⟨Z, hZ⟩ : ∃ Z : Array Value, Z = Builtin.zeroCells (Value.agg #[Value.string ⟨#[]⟩, Value.int .i64 0]).cells (xs.length + 1 - i) ++ Builtin.zeroCells (Value.agg #[Value.string ⟨#[]⟩, Value.int .i64 0]).cells (G - (xs.length + 1)) := ⟨_, rfl⟩
  have hZs : Z.size = (G - i) * 2 := by
    rw [hZ, Array.size_append, size_zeroCells, size_zeroCells]
    simp only [Value.cells, List.size_toArray, List.length_cons, List.length_nil]
    omega
  obtain ⟨ROW, hROW⟩ : ∃ ROW : Array Value, ROW = (flatE (xs.take i)).toArray ++ Z := ⟨_, rfl⟩
  rw [Array.append_assoc, ← hZ, ← hROW] at hrz
  have hRs : ROW.size = G * 2 := by rw [hROW, Array.size_append, List.size_toArray, hA, hZs]; omega
  obtain ⟨W1, hW1⟩ : ∃ W1, W1 = w.drew.alloc (.cells ROW 56) := ⟨_, rfl⟩
  rw [← hW1] at hrz
  have hg1 : W1.heap[w.heap.size]? = some (.cells ROW 56 (0, 0)) := by rw [hW1]; exact heap_alloc_new w.drew _
  have hx1 : W1.heap[vb]? = some (.cells #[.string x.f0, .int .i64 x.f1] 56 (0, 0)) := by rw [hW1, heap_alloc_old w.drew _ hvw]; exact hx
  have hs1 : W1.heap[g]? = some (.cells cur 56 (0, 0)) := by rw [hW1, heap_alloc_old w.drew _ hgw]; exact hg
  obtain ⟨R1, hR1⟩ : ∃ R1, R1 = (ROW.toList.take (i * 2) ++ [Value.string x.f0, Value.int .i64 x.f1] ++ ROW.toList.drop (i * 2 + 2)).toArray := ⟨_, rfl⟩
  have hR1s : R1.size = G * 2 := by rw [hR1]; simp only [List.size_toArray, List.length_append, List.length_take, List.length_drop, Array.length_toList, List.length_cons, List.length_nil, hRs]; omega
  have hcpA : ∀ ty dc, (Builtin.copy_ #[30, 30] ty #[.slice (some ⟨w.heap.size, i * 2, none⟩) (xs.length + 1 - i) dc, .slice (some ⟨vb, 0, none⟩) 1 1]).run Tryd.prog W1 = .ok (goInt 1) (W1.setRow w.heap.size R1) := fun ty dc => by
    have hm : Nat.min 1 (xs.length + 1 - i) = 1 := by simp only [Nat.min_def]; split <;> omega
    have h := run_copy_rowK (P := Tryd.prog) W1 30 30 ty 56 2 w.heap.size (i * 2) (xs.length + 1 - i) dc ⟨vb, 0, none⟩ 1 1 ROW 56 [.string x.f0, .int .i64 x.f1] Tryd.underlying30 size_entry hg1 (by rw [hm]; rfl)
      (World.news_of_block (w := W1) (cs := #[.string x.f0, .int .i64 x.f1]) (t := 56) (fr := (0, 0)) hx1) (by rw [hRs]; simp only [List.length_cons, List.length_nil]; omega) (by simp [Value.oneCell'])
    rw [hm] at h
    rw [hR1]
    exact h
  obtain ⟨W2, hW2⟩ : ∃ W2, W2 = W1.setRow w.heap.size R1 := ⟨_, rfl⟩
  rw [← hW2] at hcpA
  have hg2 : W2.heap[w.heap.size]? = some (.cells R1 56 (0, 0)) := by rw [hW2]; exact setRow_heap W1 w.heap.size ROW R1 56 (0, 0) hg1
  have hs2 : W2.heap[g]? = some (.cells cur 56 (0, 0)) := by rw [hW2]; exact (setRow_other W1 w.heap.size g R1 (by omega)).trans hs1
  obtain ⟨R2, hR2⟩ : ∃ R2, R2 = (R1.toList.take (i * 2 + 2) ++ flatE (xs.drop i) ++ R1.toList.drop (i * 2 + 2 + (flatE (xs.drop i)).length)).toArray := ⟨_, rfl⟩
  have hcpB : ∀ ty dc sc, (Builtin.copy_ #[30, 30] ty #[.slice (some ⟨w.heap.size, (i + 1) * 2, none⟩) (xs.length - i) dc, .slice (some ⟨g, i * 2, none⟩) (xs.length - i) sc]).run Tryd.prog W2.drew = .ok (goInt ((xs.length - i : Nat) : Int)) (W2.drew.setRow w.heap.size R2) := fun ty dc sc => by
    have hm : Nat.min (xs.length - i) (xs.length - i) = xs.length - i := by simp only [Nat.min_def]; split <;> omega
    have h := run_copy_rowK (P := Tryd.prog) W2.drew 30 30 ty 56 2 w.heap.size (i * 2 + 2) (xs.length - i) dc ⟨g, i * 2, none⟩ (xs.length - i) sc R1 56 (flatE (xs.drop i)) Tryd.underlying30 size_entry hg2 (by rw [hD, hm])
      (fun j v hj => row_cells (w := W2.drew) hs2 (i * 2) j v (by
        rw [flatE_drop, ← hct, List.getElem?_drop] at hj
        rw [List.getElem?_take] at hj
        split at hj
        · exact hj
        · cases hj)) (by rw [hR1s, hD]; omega) (flatE_one _)
    rw [hm] at h
    rw [show (i + 1) * 2 = i * 2 + 2 by omega, hR2]
    exact h
  have HF := Lib.hid (show (W2.drew.setRow w.heap.size R2).ownsRow base 56 2 (.slice (some ⟨w.heap.size, 0, none⟩) (xs.length + 1) G) (xs.length + 1) (flatE (xs.take i ++ x :: xs.drop i)) ∧ Below base w (W2.drew.setRow w.heap.size R2) by
    refine ⟨⟨?_, .inr ⟨w.heap.size, G, _, rfl, hbase, setRow_heap _ w.heap.size R1 _ 56 (0, 0) hg2, hGn, hGm, ?_, ?_⟩⟩, ?_⟩
    · rw [flatE_len, List.length_append, List.length_take, List.length_cons, List.length_drop]; omega
    · rw [hR2]; simp only [List.size_toArray, List.length_append, List.length_take, List.length_drop, Array.length_toList, List.length_cons, List.length_nil, hR1s, hD]; omega
    · have h := laid_new (flatE (xs.take i)) [.string x.f0, .int .i64 x.f1] (flatE (xs.drop i)) Z.toList (i * 2) (xs.length * 2) hA rfl (by rw [hD]; omega) (by have e : Z.toList.length = Z.size := rfl; rw [e, hZs, hD]; omega)
      rw [flatE_app, flatE_cons, ← List.append_assoc, ← h, show (xs.length + 1) * 2 = xs.length * 2 + 2 by omega, hR2, hR1, hROW]
      simp only [Array.toList_append]
    · rw [hW2, hW1]
      have e1 : ∀ (V : World) (b : Nat) (R : Array Value), (V.setRow b R).heap.size = V.heap.size := fun V b R => by simp [World.setRow]
      refine ⟨rfl, rfl, rfl, ?_, fun k hk => ?_⟩
      · rw [e1]
        show w.heap.size ≤ (World.setRow _ w.heap.size R1).heap.size
        rw [e1, World.size_alloc]
        exact Nat.le_succ _
      rw [setRow_other _ w.heap.size k _ (by omega)]
      show (World.setRow _ w.heap.size R1).heap[k]? = _
      rw [setRow_other _ w.heap.size k _ (by omega), heap_alloc_old w.drew _ (by show k < w.heap.size; omega)]
      rfl)
  have mixed : Tryd.prog.follows .mixedOrders = true := by kernel_rfl
  have hb1 : (0 : Int) ≤ (i : Int) + 1 := by omega
  have htn : ((i : Int) + 1).toNat = i + 1 := by omega
  have hb2 : ¬ (G = i + 1) := by omega
  have hb3 : (i : Int) ≤ (xs.length : Int) := by omega
  have hb4 : ¬ (G = i) := by omega
  have hb5 : (i : Int) ≤ (xs.length : Int) + 1 := by omega
  have hb6 : ¬ (c = i) := by omega
  have C0 := Lib.hid hrz; have C1 := Lib.hid hcpA; have C2 := Lib.hid hcpB
  clear hrz hcpA hcpB hR2 hs2 hg2 hW2 hR1s hR1 hs1 hx1 hg1 hW1 hRs hROW hZs hZ hold hkk hik hsplit hA hD hct hcs hg hx ho hzs hzb hz0 hi0
  go_enter Tryd.func32, Tryd.ntmps32
  go_wp2_with (first | (at_builtin; refine Lib.wpList_append_run _ rfl _ _ _ _ rfl _ _ rfl rfl _ _ (C0.out _) ?_) | (simp only [C1.out]))
  go_region_law_o (refine step_copy_at rfl _ _ 30 30 rfl (.slice (some ⟨w.heap.size, (i + 1) * 2, none⟩) (xs.length - i) (G - (i + 1))) (.slice (some ⟨g, i * 2, none⟩) (xs.length - i) (c - i)) (by simp [Act.eval, Act.put]) (by simp [Act.eval, Act.put]) (C2.out 3 (G - (i + 1)) (c - i)) ?_)
  go_wp2
  go_ret
  exact ⟨_, rfl, HF.out⟩

/-- slices.Insert of one entry into a row of the caller's own. -/
theorem insert_calls (base : Nat) (xs : List S56) (i : Nat) (hi : i ≤ xs.length) (x : S56) (v : Value) (vb : Nat) (w : World) (hbase : base ≤ w.heap.size) (hl : xs.length ≤ 1000000)
    (ho : w.ownsRow base 56 2 v xs.length (flatE xs)) (hx : w.heap[vb]? = some (.cells #[.string x.f0, .int .i64 x.f1] 56 (0, 0))) (hne : ∀ k, v.ownBlock = some k → vb ≠ k) :
    Calls Tryd.prog 32 #[v, .int .i64 i, .slice (some ⟨vb, 0, none⟩) 1 1] w fun e w' =>
      ∃ v', e = .returned v' ∧ w'.ownsRow base 56 2 v' (xs.length + 1) (flatE (xs.take i ++ x :: xs.drop i)) ∧ Below base w w' := by
  rcases ho.2 with ⟨hv, hn⟩ | ⟨g, c, cur, hv, hg, _⟩
  · subst hv
    have h0 : xs = [] := List.eq_nil_of_length_eq_zero hn
    subst h0
    obtain rfl : i = 0 := by simpa using hi
    exact insert_nil base x vb w hbase hx
  · subst hv
    by_cases h : i = xs.length
    · subst h
      have := insert_end base xs x g c vb w hbase hg hl ho hx
      rw [List.take_of_length_le (Nat.le_refl _), List.drop_of_length_le (Nat.le_refl _)]
      exact this
    · by_cases hr : xs.length + 1 ≤ c
      · exact insert_room base xs i x g c vb w (by omega) hr (hne g rfl) hl ho hx
      · exact insert_grow base xs i x g c vb w hbase (by omega) (by omega) hl ho hx
end Go.Proofs.YtobjfdebcflocaaDoor.Q
