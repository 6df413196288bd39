/- Layer 4, walked: New (a text, repeated). -/
import Derived.Test.YtoknncbdfdgfjaaDiskC
import Derived.Test.YtoknncbdfdgfjaaShelf
set_option linter.unusedVariables false
set_option linter.unusedSimpArgs false
namespace Go.Proofs.Ytoknncbdfdgfjaa.Q
open Go.RowKit Go.Shelf Go.Proofs.YtoknncbdfdgfjaaW.PrintWords Go.Proofs.YtoknncbdfdgfjaaW.PrintLast Go.Proofs.YtoknncbdfdgfjaaW.PrintMore

/-- The first n are s, the others are empty. -/
def repRow (s : ByteArray) (n N : Nat) : Array Value := (List.replicate n (Value.string s) ++ List.replicate (N - n) (Value.string ⟨#[]⟩)).toArray
theorem repRow_size (s : ByteArray) (n N : Nat) (h : n ≤ N) : (repRow s n N).size = N := by simp [repRow]; omega
/-- A row in which the first ones are s: copied on. -/
theorem rep_copy (s : ByteArray) (n m N R sc dc : Nat) (W : World) (hn : n + m ≤ N) (hmn : m = min n (N - n)) (hR : W.heap[R]? = some (.cells (repRow s n N) 9 (0, 0))) :
    ∃ W', (Builtin.copy_ #[22, 22] 3 #[.slice (some ⟨R, n, none⟩) (N - n) dc, .slice (some ⟨R, 0, none⟩) n sc]).run Try.prog W = .ok (.int .i64 m) W' ∧ W'.heap[R]? = some (.cells (repRow s (n + m) N) 9 (0, 0)) ∧ ∀ B, B ≤ R → Below B W W' := by
  have hsz := repRow_size s n N (by omega)
  have h := run_copy_cells (P := Try.prog) W 22 22 3 9 R n (N - n) dc ⟨R, 0, none⟩ n sc (List.replicate m (Value.string s)) Try.underlying22 info_str1 (by rw [List.length_replicate, hmn])
    (fun j v hj => by
      obtain ⟨hl, hv⟩ := List.getElem?_eq_some_iff.1 hj
      rw [List.getElem_replicate] at hv
      rw [List.length_replicate] at hl
      rw [Addr.add_lit, Nat.zero_add, blk_cell hR]
      show (List.toArray _)[j]? = _
      rw [List.getElem?_toArray, List.getElem?_append_left (by simp; omega), List.getElem?_replicate_of_lt (by omega), hv])
    (fun j hj => by
      rw [List.length_replicate] at hj
      rw [blk_cell hR, Array.getElem?_eq_getElem (by omega)]; rfl)
    (fun j hj => blk_frozen hR _) (fun v hv => by rw [List.eq_of_mem_replicate hv]; rfl)
  rw [List.length_replicate] at h
  obtain ⟨cur, h1, h2, h3⟩ := setCells_row (List.replicate m (Value.string s)) n W _ hR (by rw [List.length_replicate, hsz]; omega)
  refine ⟨_, h, ?_, fun B hB => ?_⟩
  · rw [h1]
    congr 2
    apply Array.toList_inj.1
    rw [h3]
    simp only [repRow, List.toList_toArray, List.length_replicate]
    rw [List.take_left' (by simp), show List.replicate (n + m) (Value.string s) = List.replicate n (Value.string s) ++ List.replicate m (Value.string s) from List.replicate_append_replicate.symm, List.append_assoc, List.append_assoc]
    congr 1
    congr 1
    rw [List.drop_append, List.drop_replicate, List.drop_replicate, List.length_replicate]
    rw [show n - (n + m) = 0 by omega, show N - n - (n + m - n) = N - (n + m) by omega]
    rfl
  · have hs := setCells_same R (List.replicate m (Value.string s)) n W
    exact ⟨hs.1, hs.2.1, hs.2.2.1, by rw [hs.2.2.2]; exact Nat.le_refl _, fun k hk => setCells_far _ _ _ (by omega)⟩
set_option maxRecDepth 100000 in
set_option maxHeartbeats 2000000 in
theorem repeat_calls (s : ByteArray) (N : Nat) (h0 : 1 ≤ N) (h1 : N ≤ 4096) (bk : Nat) (w : World) (hbk : w.heap[bk]? = some (.cells #[.string s] 9 (0, 0))) :
    Calls Try.prog 35 #[.slice (some ⟨bk, 0, none⟩) 1 1, .int .i64 N] w fun e w' => ∃ v, e = .returned v ∧ Kd.R Kd.string 9 w' w.heap.size (fun _ => True) v (List.replicate N s) ∧ Below w.heap.size w w' := by
  have hml := Try.bits_Mul 1 N (by omega) (by omega)
  rw [show (1 * N / 18446744073709551616 : Nat) = 0 by omega, show (1 * N % 18446744073709551616 : Nat) = N by omega] at hml
  have hmk := print_make_of (P := Try.prog) 22 9 (.string ⟨#[]⟩) 16 Try.underlying22 info_str rfl (by decide) N (by omega)
  have HM := Lib.hid hml
  clear hml
  have hlt := blk_lt hbk
  have hc := blk_cell hbk 0
  simp only [List.getElem?_toArray, List.getElem?_cons_zero] at hc
  -- the first copy
  obtain ⟨W1, hW1⟩ : ∃ W1, W1 = w.alloc (.cells (madeCells #[.string ⟨#[]⟩] N) 9) := ⟨_, rfl⟩
  have hrow1 : W1.heap[w.heap.size]? = some (.cells (repRow s 0 N) 9 (0, 0)) := by
    rw [hW1, heap_alloc_new]
    congr 2
    apply Array.toList_inj.1
    apply List.ext_getElem
    · simp [repRow, madeCells]
    · intro i h1 h2
      simp [repRow, madeCells, Nat.mod_one]
  obtain ⟨W2, hW2⟩ : ∃ W2, W2 = W1.setCells w.heap.size 0 [Value.string s] := ⟨_, rfl⟩
  have hcp : (Builtin.copy_ #[22, 22] 3 #[.slice (some ⟨w.heap.size, 0, none⟩) N N, .slice (some ⟨bk, 0, none⟩) 1 1]).run Try.prog W1 = .ok (.int .i64 1) W2 := by
    rw [hW2]
    exact run_copy_cells (P := Try.prog) W1 22 22 3 9 w.heap.size 0 N N ⟨bk, 0, none⟩ 1 1 [Value.string s] Try.underlying22 info_str1 (by simp [Nat.min_def]; omega)
      (fun j v hj => by
        match j, hj with
        | 0, hj => rw [hW1, ← Option.some.inj hj, ← hc]; exact ((Below.refl _ w).alloc (Nat.le_refl _) _).cell (p := ⟨bk, 0, none⟩) hlt)
      (fun j hj => by
        rw [blk_cell hrow1, Array.getElem?_eq_getElem (by rw [repRow_size _ _ _ (by omega)]; simp at hj; omega)]; rfl)
      (fun j hj => blk_frozen hrow1 _) (fun v hv => by rw [List.mem_singleton.1 hv]; rfl)
  have hrow2 : W2.heap[w.heap.size]? = some (.cells (repRow s 1 N) 9 (0, 0)) := by
    rw [hW2]
    obtain ⟨cur, h1, h2, h3⟩ := setCells_row [Value.string s] 0 W1 _ hrow1 (by rw [repRow_size _ _ _ (by omega)]; simp; omega)
    rw [h1]
    congr 2
    apply Array.toList_inj.1
    rw [h3]
    simp only [repRow, List.toList_toArray, List.take_zero, List.nil_append, List.replicate_zero, List.drop_replicate, List.length_cons, List.length_nil, Nat.zero_add, Nat.sub_zero]
    rfl
  have hB2 : Below w.heap.size w W2 := by
    have hs := setCells_same w.heap.size [Value.string s] 0 W1
    rw [hW2]
    exact ((Below.refl _ w).alloc (Nat.le_refl _) _ |> fun h => by rw [← hW1] at h; exact h.trans ⟨hs.1, hs.2.1, hs.2.2.1, by rw [hs.2.2.2]; exact Nat.le_refl _, fun k hk => setCells_far _ _ _ (by omega)⟩)
  have HW1 := Lib.hid hW1; have HW2 := Lib.hid hW2; have HR2 := Lib.hid hrow2; have HB2 := Lib.hid hB2
  rw [hW1] at hcp
  clear hW1 hW2 hrow1 hrow2 hB2 hbk
  go_enter Try.func35, Try.ntmps35
  go_wp2_with fail
  refine (HM.out _).mono ?_
  rintro e w' ⟨rfl, hw⟩
  obtain rfl : w = w' := hw.symm
  go_wp2_with fail
  go_loopg [8] (N - 1) (fun gk v8 wx => ∃ n : Nat, n + gk = N ∧ 1 ≤ n ∧ v8 = .int .i64 n ∧ Hid (wx.heap[w.heap.size]? = some (.cells (repRow s n N) 9 (0, 0))) ∧ Hid (Below w.heap.size w wx))
  case atStart => exact ⟨1, by omega, by omega, rfl, HR2, HB2⟩
  case round =>
    obtain ⟨n, hng, hn1, rfl, HR, HB⟩ := hrel
    cases gk with
    | zero =>
      obtain rfl : n = N := by omega
      have hz : ¬ ((n : Int) < (n : Int)) := by omega
      clear hng
      go_wp2_with fail
      go_ret
      refine ⟨.slice (some ⟨w.heap.size, 0, none⟩) n n, rfl, Kd.R_of_own ?_ (fun _ _ => trivial), HB.out⟩
      have hrr := HR.out
      refine ⟨by simp [encs], .inr ⟨_, n, _, ?_, Nat.le_refl _, hrr, by simp, by unfold maxLen; omega, by rw [repRow_size _ _ _ (Nat.le_refl _)]; omega, ?_⟩⟩
      · rw [List.length_replicate]
      · simp [repRow, encs]
    | succ gj =>
      have hz : (n : Int) < (N : Int) := by omega
      obtain ⟨m, hm⟩ : ∃ m, m = min n (N - n) := ⟨_, rfl⟩
      have hm1 : 1 ≤ m := by omega
      have hmN : n + m ≤ N := by omega
      have hle : n ≤ N := by omega
      have hne : ¬ (N = n) := by omega
      obtain ⟨W', hcp', hr', hb'⟩ := rep_copy s n m N w.heap.size N (N - n) wr.drew hmN hm HR.out
      have HR' := Lib.hid hr'; have HB' := Lib.hid (hb' _ (Nat.le_refl _)); have HM := Lib.hid hm
      have hwr : IntKind.i64.wrap ((n : Int) + (m : Int)) = ((n + m : Nat) : Int) := by rw [show (n : Int) + (m : Int) = ((n + m : Nat) : Int) by omega]; exact IntWalk.i64_in _ (by omega)
      clear hr' hb' hm hcp
      go_wp2_with fail
      refine start_ (n := 10) (S := fun w' => True) (ds := []) #[false, false, false, false, false, false, false, false, false, false] (by kernel_rfl) rfl rfl trivial (fun hHeld => ?_)
      refine pure_ (i := 0) (N := some 38) (v := ?_) (a' := ?_) #[true, false, false, false, false, false, false, false, false, false] rfl rfl (by kernel_rfl) (fun _ _ _ h => h) (Or.inl ⟨by rfl, ?_⟩) ?_ ?_
      rotate_left
      · intro w'
        go_simp
        with_reducible rfl
      rotate_left
      · simp only [Act.put, List.setIfInBounds_toArray, List.set_cons_zero, List.set_cons_succ, i64_w, i32_w]
        rfl
      refine pure_ (i := 1) (N := some 39) (v := ?_) (a' := ?_) #[true, true, false, false, false, false, false, false, false, false] rfl rfl (by kernel_rfl) (fun _ _ _ h => h) (Or.inl ⟨by rfl, ?_⟩) ?_ ?_
      rotate_left
      · intro w'
        go_simp
        with_reducible rfl
      rotate_left
      · simp only [Act.put, List.setIfInBounds_toArray, List.set_cons_zero, List.set_cons_succ, i64_w, i32_w]
        rfl
      refine pure_ (i := 2) (N := some 40) (v := ?_) (a' := ?_) #[true, true, true, false, false, false, false, false, false, false] rfl rfl (by kernel_rfl) (fun _ _ _ h => h) (Or.inl ⟨by rfl, ?_⟩) ?_ ?_
      rotate_left
      · intro w'
        go_simp
        with_reducible rfl
      rotate_left
      · simp only [Act.put, List.setIfInBounds_toArray, List.set_cons_zero, List.set_cons_succ, i64_w, i32_w]
        rfl
      refine pure_ (i := 3) (N := some 41) (v := ?_) (a' := ?_) #[true, true, true, true, false, false, false, false, false, false] rfl rfl (by kernel_rfl) (fun _ _ _ h => h) (Or.inl ⟨by rfl, ?_⟩) ?_ ?_
      rotate_left
      · intro w'
        go_simp
        with_reducible rfl
      rotate_left
      · simp only [Act.put, List.setIfInBounds_toArray, List.set_cons_zero, List.set_cons_succ, i64_w, i32_w]
        rfl
      refine pure_ (i := 4) (N := some 42) (v := ?_) (a' := ?_) #[true, true, true, true, true, false, false, false, false, false] rfl rfl (by kernel_rfl) (fun _ _ _ h => h) (Or.inl ⟨by rfl, ?_⟩) ?_ ?_
      rotate_left
      · intro w'
        go_simp
        with_reducible rfl
      rotate_left
      · simp only [Act.put, List.setIfInBounds_toArray, List.set_cons_zero, List.set_cons_succ, i64_w, i32_w]
        rfl
      refine pure_ (i := 5) (N := some 43) (v := ?_) (a' := ?_) #[true, true, true, true, true, true, false, false, false, false] rfl rfl (by kernel_rfl) (fun _ _ _ h => h) (Or.inl ⟨by rfl, ?_⟩) ?_ ?_
      rotate_left
      · intro w'
        go_simp
        with_reducible rfl
      rotate_left
      · simp only [Act.put, List.setIfInBounds_toArray, List.set_cons_zero, List.set_cons_succ, i64_w, i32_w]
        rfl
      refine pure_ (i := 6) (N := some 44) (v := ?_) (a' := ?_) #[true, true, true, true, true, true, true, false, false, false] rfl rfl (by kernel_rfl) (fun _ _ _ h => h) (Or.inl ⟨by rfl, ?_⟩) ?_ ?_
      rotate_left
      · intro w'
        go_simp
        with_reducible rfl
      rotate_left
      · simp only [Act.put, List.setIfInBounds_toArray, List.set_cons_zero, List.set_cons_succ, i64_w, i32_w]
        rfl
      refine one_ (i := 7) (N := some 45) #[true, true, true, true, true, true, true, true, false, false] rfl rfl (by kernel_rfl) (by decide) (fun K hK => ?_)
      refine value_ (w1 := ?_) (v := ?_) (by rfl) rfl ?_ ?_
      rotate_left 2
      · go_simp
        constructor
        · rfl
        · rfl
      refine hK.out _ _ trivial (fun hHeld => ?_)
      clear hK K
      refine norm_ (a' := ?_) ?_ ?_
      rotate_left
      · show Act.put _ (some 45) _ = _
        simp only [Act.put, List.setIfInBounds_toArray, List.set_cons_zero, List.set_cons_succ, i64_w, i32_w]
        rfl
      refine pure_ (i := 8) (N := some 46) (v := ?_) (a' := ?_) #[true, true, true, true, true, true, true, true, true, false] rfl rfl (by kernel_rfl) (fun _ _ _ h => h) (Or.inl ⟨by rfl, ?_⟩) ?_ ?_
      rotate_left
      · intro w'
        go_simp
        with_reducible rfl
      rotate_left
      · simp only [Act.put, List.setIfInBounds_toArray, List.set_cons_zero, List.set_cons_succ, i64_w, i32_w]
        rfl
      refine pure_ (i := 9) (N := some 8) (v := ?_) (a' := ?_) #[true, true, true, true, true, true, true, true, true, true] rfl rfl (by kernel_rfl) (fun _ _ _ h => h) (Or.inl ⟨by rfl, ?_⟩) ?_ ?_
      rotate_left
      · intro w'
        go_simp
        with_reducible rfl
      rotate_left
      · simp only [Act.put, List.setIfInBounds_toArray, List.set_cons_zero, List.set_cons_succ, i64_w, i32_w]
        rfl
      refine done_ (by kernel_rfl) ?_
      go_wp2_with fail
      go_roundg (N - (n + m))
      case measure => omega
      case rel => exact ⟨n + m, by omega, by omega, by go_num, HR', Lib.hid ((below_drew HB.out).trans HB'.out)⟩
def zeroS : ByteArray := strOfNums (List.replicate 64 0)
def disk_New.f (a0 : Int) : Option (List ByteArray × List S31 × Bool × Int) := if a0 < 1 ∨ 4096 < a0 then some ([], [], false, 1) else some (List.replicate a0.toNat zeroS, [], false, 0)
set_option maxRecDepth 100000 in
set_option maxHeartbeats 1000000 in
theorem new_bad (n : Int) (h : decide (n < 1) = true ∨ (decide (n < 1) = false ∧ decide (4096 < n) = true)) (w : World) : Calls Try.prog 23 #[.int .i64 n] w fun e w' => e = .returned (.tuple #[.agg #[.slice none 0 0, .slice none 0 0, .bool false], .int .i64 1]) ∧ Below w.heap.size w w' := by
  rcases h with h | ⟨h, h'⟩
  all_goals
    go_enter Try.func23, Try.ntmps23
    go_wp2_with fail
    refine bodyPost_ret (v := .tuple #[.agg #[.slice none 0 0, .slice none 0 0, .bool false], .int .i64 1]) (by simp [results, Try.results23, go_sem]) rfl ⟨rfl, ?_⟩
    exact (Below.refl _ w).alloc (Nat.le_refl _) _
set_option maxRecDepth 100000 in
set_option maxHeartbeats 1000000 in
theorem new_good (n : Nat) (h0 : 1 ≤ n) (h1 : n ≤ 4096) (w : World) : Calls Try.prog 23 #[.int .i64 n] w fun e w' => ∃ v, e = .returned (.tuple #[.agg #[v, .slice none 0 0, .bool false], .int .i64 0]) ∧ Kd.R Kd.string 9 w' w.heap.size (fun _ => True) v (List.replicate n zeroS) ∧ Below w.heap.size w w' := by
  have h : decide ((n : Int) < 1) = false := decide_eq_false (by omega)
  have h' : decide ((4096 : Int) < n) = false := decide_eq_false (by omega)
  have hd : decide (n < 1) = false := decide_eq_false (by omega)
  have hd' : decide (4096 < n) = false := decide_eq_false (by omega)
  go_enter Try.func23, Try.ntmps23
  go_wp2_with fail
  refine (zeros_calls 64 (Nat.le_refl _) _).mono ?_
  rintro e w1 ⟨rfl, hb⟩
  have HB1 := Lib.hid (((Below.refl _ w).alloc (Nat.le_refl _) (.cells #[.slice none 0 0, .slice none 0 0, .bool false] 25)).trans (hb.mono (by rw [World.size_alloc]; omega)))
  have hbox := (hb.block w.heap.size (by rw [World.size_alloc]; omega)).trans (heap_alloc_new w _)
  have HBOX := Lib.hid hbox
  have hl1 := blk_lt hbox
  clear hb hbox
  go_wp2_with fail
  refine (repeat_calls _ n h0 h1 w1.heap.size _ (heap_alloc_new w1 _)).mono ?_
  rintro e w2 ⟨v, rfl, hR, hb2⟩
  obtain ⟨A, c, rfl⟩ := Kd.R_slice hR
  have hbox2 := (hb2.block w.heap.size (by rw [World.size_alloc]; omega)).trans ((heap_alloc_old w1 _ hl1).trans HBOX.out)
  have q0 := blk_cell hbox2 0; have q1 := blk_cell hbox2 1; have q2 := blk_cell hbox2 2
  simp only [List.getElem?_toArray, List.getElem?_cons_zero, List.getElem?_cons_succ] at q0 q1 q2
  have f0 := blk_frozen hbox2 0; have f1 := blk_frozen hbox2 1; have f2 := blk_frozen hbox2 2
  have hz := blk_lt hbox2
  have HR := Lib.hid (Kd.R_lower hR (show w.heap.size + 1 ≤ _ by rw [World.size_alloc]; omega)); have HB2 := Lib.hid (hb2.mono (show w.heap.size ≤ _ by rw [World.size_alloc]; omega))
  clear hR hb2 hbox2
  go_wp2_with fail
  refine bodyPost_ret (v := .tuple #[.agg #[.slice A (List.replicate n zeroS).length c, .slice none 0 0, .bool false], .int .i64 0]) (by simp [results, Try.results23, go_sem, q0, q1, q2, zeroS]) rfl ⟨_, rfl, ?_, ?_⟩
  · exact Kd.R_mono (Kd.R_lower (Kd.R_far (Kd.R_far (Kd.R_far (Kd.R_bound HR.out) (fun k hk => by have := hk.2.1; show k ≠ w.heap.size; omega) _) (fun k hk => by have := hk.2.1; show k ≠ w.heap.size; omega) _) (fun k hk => by have := hk.2.1; show k ≠ w.heap.size; omega) _) (by omega)) (fun _ _ => trivial)
  · have h := (HB1.out.alloc HB1.out.size (.cells #[.string (strOfNums (List.replicate 64 0))] 9)).trans HB2.out
    exact ((h.setCell (p := ⟨w.heap.size, 0, none⟩) (Nat.le_refl _) _).setCell (p := ⟨w.heap.size, 1, none⟩) (Nat.le_refl _) _).setCell (p := ⟨w.heap.size, 2, none⟩) (Nat.le_refl _) _
theorem disk_New.calls (a0 : Int) (r1 : List ByteArray) (r2 : List S31) (r3 : Bool) (r4 : Int) (w : World) (h : disk_New.f a0 = some (r1, r2, r3, r4)) :
    Calls Try.prog 23 #[.int .i64 a0] w fun e w' => ∃ v0_ v1_ : Value, e = .returned (.tuple #[.agg #[v0_, v1_, .bool r3], .int .i64 r4]) ∧ Kd.R Kd.string 9 w' w.heap.size (fun _ => True) v0_ r1 ∧ Kd.R k31 31 w' w.heap.size (fun _ => True) v1_ r2 ∧ Below w.heap.size w w' := by
  unfold disk_New.f at h
  split at h
  · rename_i hh
    have h2 := Option.some.inj h
    simp only [Prod.mk.injEq] at h2
    obtain ⟨rfl, rfl, rfl, rfl⟩ := h2
    refine (new_bad a0 (by by_cases hl : a0 < 1; exact .inl (decide_eq_true hl); exact .inr ⟨decide_eq_false hl, decide_eq_true (by omega)⟩) w).mono ?_
    rintro e w' ⟨rfl, hb⟩
    exact ⟨_, _, rfl, Kd.R_nil _ _ _ _ _, Kd.R_nil _ _ _ _ _, hb⟩
  · rename_i hh
    have h2 := Option.some.inj h
    simp only [Prod.mk.injEq] at h2
    obtain ⟨rfl, rfl, rfl, rfl⟩ := h2
    obtain ⟨n, rfl⟩ := Int.eq_ofNat_of_zero_le (show 0 ≤ a0 by omega)
    refine (new_good n (by omega) (by omega) w).mono ?_
    rintro e w' ⟨v, rfl, hR, hb⟩
    exact ⟨_, _, rfl, hR, Kd.R_nil _ _ _ _ _, hb⟩
end Go.Proofs.Ytoknncbdfdgfjaa.Q
