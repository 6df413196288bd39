/- Layer 19, walked: a text taken (its regions' walks were printed by region.py). -/
import Derived.Test.YtcefnaacnilojaaNetC
set_option linter.unusedVariables false
set_option linter.unusedSimpArgs false
namespace Go.Proofs.Ytcefnaacnilojaa.Q
open Go.RowKit Go.Shelf Go.Proofs.YtcefnaacnilojaaW.PrintWords Go.Proofs.YtcefnaacnilojaaW.PrintLast Go.Proofs.YtcefnaacnilojaaW.PrintMore

/-- A net in a box, a number in the next one, and a net for the results. -/
structure TBox (w : World) (x y iv : Value) (W : World) : Prop where
  below : Below w.heap.size w W
  n : Box2 W w.heap.size x y
  i : W.heap[w.heap.size + 1]? = some (.cells #[iv] 3 (0, 0))
  r : Box2 W (w.heap.size + 2) (.slice none 0 0) (.slice none 0 0)
  sz : w.heap.size + 3 ≤ W.heap.size
theorem TBox.step {w : World} {x y iv : Value} {W V : World} (h : TBox w x y iv W) (hb : Below W.heap.size W V) : TBox w x y iv V :=
  ⟨h.below.trans (hb.mono (by have := h.sz; omega)), h.n.below hb (by have := h.sz; omega), (hb.block _ (by have := h.sz; omega)).trans h.i, h.r.below hb (by have := h.sz; omega), Nat.le_trans h.sz hb.size⟩
theorem TBox.drawn {w : World} {x y iv : Value} {W V : World} (h : TBox w x y iv W) (hd : Drawn0 W V) : TBox w x y iv V := by
  obtain ⟨q, rfl⟩ := hd
  exact h.step (pw_below_drewN (Below.refl _ W) q)
theorem TBox.draw {w : World} {x y iv : Value} {W : World} (h : TBox w x y iv W) : TBox w x y iv W.drew := ⟨below_drew h.below, h.n, h.i, h.r, h.sz⟩
theorem TBox.icell {w : World} {x y iv : Value} {W : World} (h : TBox w x y iv W) : W.cell? ⟨w.heap.size + 1, 0, none⟩ = some iv := by rw [blk_cell h.i]; rfl
theorem TBox.start (w : World) (x y iv : Value) : TBox w x y iv (((w.alloc (.cells #[x, y] 24)).alloc (.cells #[iv] 3)).alloc (.cells #[.slice none 0 0, .slice none 0 0] 24)) := by
  refine ⟨(((Below.refl _ w).alloc (Nat.le_refl _) _).alloc (by rw [World.size_alloc]; omega) _).alloc (by rw [World.size_alloc, World.size_alloc]; omega) _, ?_, ?_, ?_, by rw [World.size_alloc, World.size_alloc, World.size_alloc]; omega⟩
  · exact (heap_alloc_old _ _ (by rw [World.size_alloc, World.size_alloc]; omega)).trans ((heap_alloc_old _ _ (by rw [World.size_alloc]; omega)).trans (heap_alloc_new _ _))
  · have h := heap_alloc_new (w.alloc (.cells #[x, y] 24)) (.cells #[iv] 3)
    rw [World.size_alloc] at h
    exact (heap_alloc_old _ _ (by rw [World.size_alloc, World.size_alloc]; omega)).trans h
  · have h := heap_alloc_new ((w.alloc (.cells #[x, y] 24)).alloc (.cells #[iv] 3)) (.cells #[.slice none 0 0, .slice none 0 0] 24)
    rw [World.size_alloc, World.size_alloc] at h
    exact h
set_option maxRecDepth 100000 in
set_option maxHeartbeats 4000000 in
theorem take_in_up (A0 : Option Addr) (c0 : Nat) (A1 : Option Addr) (n1 c1 : Nat) (i : Nat) (s : ByteArray) (xs : List ByteArray) (w : World) (hr : Kd.C Kd.string w A0 xs.length xs) (hcap : xs.length ≤ c0) (hm : xs.length ≤ 8796093022208) (hi : i < xs.length)
    (hmem : T.net_member_string.f xs (i : Int) = some (s, true)) :
    Calls Try.prog 9 #[.agg #[.slice A0 xs.length c0, .slice A1 n1 c1], .bool true, .int .i64 (i : Int)] w fun e w' => ∃ v, e = .returned (.tuple #[.string s, .agg #[v, .slice A1 n1 c1], .bool true]) ∧ Kd.R Kd.string 9 w' w.heap.size (fun _ => True) v (xs.take i ++ xs.drop (i + 1)) ∧ Below w.heap.size w w' := by
  have hmc : ∀ V, Below w.heap.size w V → Calls Try.prog 17 #[.slice A0 xs.length c0, .int .i64 (i : Int)] V fun e w' => e = .returned (.tuple #[.string s, .bool true]) ∧ Drawn0 V w' := fun V hV =>
    T.net_member_string.calls A0 c0 xs (i : Int) s true V (Kd.C_below hr hV) hcap hmem
  have hrow : ∀ V, Calls Try.prog 18 #[.agg #[.slice A0 xs.length c0, .slice A1 n1 c1], .bool true] V fun e w' => e = .returned (.slice A0 xs.length c0) ∧ Below V.heap.size V w' := fun V => net_row_calls A0 xs.length c0 A1 n1 c1 true V
  have HT3 := Lib.hid (TBox.start w (.slice A0 xs.length c0) (.slice A1 n1 c1) (.int .i64 (i : Int))).draw
  have HR := Lib.hid hr; have HMEM := Lib.hid hmc; have HROW := Lib.hid hrow
  clear hr hmc hrow hmem
  go_enter Try.func9, Try.ntmps9
  go_wp2_with fail
  refine start_ (n := 10) (S := fun w' => w'.cell? ⟨w.heap.size, 0, none⟩ = some (.slice A0 xs.length c0) ∧ w'.cell? ⟨w.heap.size, 1, none⟩ = some (.slice A1 n1 c1) ∧ w'.cell? ⟨w.heap.size + 1, 0, none⟩ = some (.int .i64 (i : Int))) (ds := []) #[false, false, false, false, false, false, false, false, false, false] (by kernel_rfl) rfl rfl ⟨HT3.out.n.cells.1, HT3.out.n.cells.2.1, HT3.out.icell⟩ (fun hHeld => ?_)
  refine pure_ (i := 1) (N := some 13) (v := ?_) (a' := ?_) #[false, true, false, false, false, false, false, false, false, false] rfl rfl (by kernel_rfl) (fun _ _ _ h => h) (Or.inl ⟨by rfl, ?_⟩) ?_ ?_
  rotate_left
  · intro w'
    go_simp
    with_reducible rfl
  rotate_left
  · simp only [Act.put, List.setIfInBounds_toArray, List.set_cons_zero, List.set_cons_succ, i64_w, i32_w]
    rfl
  refine take_ (i := 0) (N := some 12) (v := ?_) (a' := ?_) #[true, true, false, false, false, false, false, false, false, false] rfl rfl (by kernel_rfl) (fun _ _ _ h => h) (Or.inl ⟨by rfl, ?_⟩) hHeld ?_ ?_
  rotate_left
  · rintro w' ⟨s0, s1, s2⟩
    go_simp
    with_reducible rfl
  rotate_left
  · simp only [Act.put, List.setIfInBounds_toArray, List.set_cons_zero, List.set_cons_succ, i64_w, i32_w]
    rfl
  refine take_ (i := 3) (N := some 15) (v := ?_) (a' := ?_) #[true, true, false, true, false, false, false, false, false, false] rfl rfl (by kernel_rfl) (fun _ _ _ h => h) (Or.inl ⟨by rfl, ?_⟩) hHeld ?_ ?_
  rotate_left
  · rintro w' ⟨s0, s1, s2⟩
    go_simp
    with_reducible rfl
  rotate_left
  · simp only [Act.put, List.setIfInBounds_toArray, List.set_cons_zero, List.set_cons_succ, i64_w, i32_w]
    rfl
  refine one_ (i := 2) (N := some 14) #[true, true, true, true, false, false, false, false, false, false] rfl rfl (by kernel_rfl) (by decide) (fun K hK => ?_)
  refine goes_ Try.func18 (by kernel_rfl) rfl #[.agg #[.slice A0 xs.length c0, .slice A1 n1 c1], .bool true] (by rfl) rfl rfl (by simp only [List.map_toArray, List.map_cons, List.map_nil]; rfl) ?_
  with_reducible refine (HROW.out _).mono ?_
  rintro e w4 ⟨rfl, hb⟩
  refine ⟨_, rfl, ?_⟩
  have HT4 := Lib.hid (HT3.out.step hb)
  clear hb
  refine hK.out _ _ ⟨HT4.out.n.cells.1, HT4.out.n.cells.2.1, HT4.out.icell⟩ (fun hHeld => ?_)
  clear hK K
  refine norm_ (a' := ?_) ?_ ?_
  rotate_left
  · show Act.put _ (some 14) _ = _
    simp only [Act.put, List.setIfInBounds_toArray, List.set_cons_zero, List.set_cons_succ, i64_w, i32_w]
    rfl
  refine one_ (i := 4) (N := some 16) #[true, true, true, true, true, false, false, false, false, false] rfl rfl (by kernel_rfl) (by decide) (fun K hK => ?_)
  refine goes_ Try.func17 (by kernel_rfl) rfl #[.slice A0 xs.length c0, .int .i64 (i : Int)] (by rfl) rfl rfl (by simp only [List.map_toArray, List.map_cons, List.map_nil]; rfl) ?_
  with_reducible refine ((HMEM.out _ HT4.out.below)).mono ?_
  rintro e w5 ⟨rfl, hd⟩
  refine ⟨_, rfl, ?_⟩
  have HT5 := Lib.hid (HT4.out.drawn hd)
  clear hd
  refine hK.out _ _ ⟨HT5.out.n.cells.1, HT5.out.n.cells.2.1, HT5.out.icell⟩ (fun hHeld => ?_)
  clear hK K
  refine norm_ (a' := ?_) ?_ ?_
  rotate_left
  · show Act.put _ (some 16) _ = _
    simp only [Act.put, List.setIfInBounds_toArray, List.set_cons_zero, List.set_cons_succ, i64_w, i32_w]
    rfl
  refine pure_ (i := 5) (N := some 11) (v := ?_) (a' := ?_) #[true, true, true, true, true, true, false, false, false, false] rfl rfl (by kernel_rfl) (fun _ _ _ h => h) (Or.inl ⟨by rfl, ?_⟩) ?_ ?_
  rotate_left
  · intro w'
    go_simp
    with_reducible rfl
  rotate_left
  · simp only [Act.put, List.setIfInBounds_toArray, List.set_cons_zero, List.set_cons_succ, i64_w, i32_w]
    rfl
  refine pure_ (i := 6) (N := some 17) (v := ?_) (a' := ?_) #[true, true, true, true, true, true, true, false, false, false] rfl rfl (by kernel_rfl) (fun _ _ _ h => h) (Or.inl ⟨by rfl, ?_⟩) ?_ ?_
  rotate_left
  · intro w'
    go_simp
    with_reducible rfl
  rotate_left
  · simp only [Act.put, List.setIfInBounds_toArray, List.set_cons_zero, List.set_cons_succ, i64_w, i32_w]
    rfl
  refine pure_ (i := 7) (N := some 18) (v := ?_) (a' := ?_) #[true, true, true, true, true, true, true, true, false, false] rfl rfl (by kernel_rfl) (fun _ _ _ h => h) (Or.inl ⟨by rfl, ?_⟩) ?_ ?_
  rotate_left
  · intro w'
    go_simp
    with_reducible rfl
  rotate_left
  · simp only [Act.put, List.setIfInBounds_toArray, List.set_cons_zero, List.set_cons_succ, i64_w, i32_w]
    rfl
  refine pure_ (i := 8) (N := some 9) (v := ?_) (a' := ?_) #[true, true, true, true, true, true, true, true, true, false] rfl rfl (by kernel_rfl) (fun _ _ _ h => h) (Or.inl ⟨by rfl, ?_⟩) ?_ ?_
  rotate_left
  · intro w'
    go_simp
    with_reducible rfl
  rotate_left
  · simp only [Act.put, List.setIfInBounds_toArray, List.set_cons_zero, List.set_cons_succ, i64_w, i32_w]
    rfl
  refine pure_ (i := 9) (N := some 10) (v := ?_) (a' := ?_) #[true, true, true, true, true, true, true, true, true, true] rfl rfl (by kernel_rfl) (fun _ _ _ h => h) (Or.inl ⟨by rfl, ?_⟩) ?_ ?_
  rotate_left
  · intro w'
    go_simp
    with_reducible rfl
  rotate_left
  · simp only [Act.put, List.setIfInBounds_toArray, List.set_cons_zero, List.set_cons_succ, i64_w, i32_w]
    rfl
  refine done_ (by kernel_rfl) ?_
  have HTC := Lib.hid (turned_up A0 c0 A1 n1 c1 20 #[.pointer (some ⟨w.heap.size + 1, 0, none⟩)] xs (xs.take i ++ xs.drop (i + 1)) w5 (Kd.C_below HR.out HT5.out.below) (by omega) (enters_of Try.func20 (by kernel_rfl) rfl) (take1_turns _ i xs w5 HT5.out.i (by omega) hi))
  obtain ⟨q0, q1, _, _⟩ := HT5.out.n.cells
  go_wp2_with fail
  refine HTC.out.mono ?_
  rintro e w6 ⟨v, rfl, hR, hb⟩
  obtain ⟨A, c, rfl⟩ := Kd.R_slice hR
  have HT6 := Lib.hid (HT5.out.step hb)
  have HR6 := Lib.hid hR
  have h5 := HT5.out.sz
  obtain ⟨x0, x1, x2, x3⟩ := HT6.out.r.cells
  clear hR hb q0 q1
  go_wp2_with fail
  refine bodyPost_ret (v := .tuple #[.string s, .agg #[.slice A (xs.take i ++ xs.drop (i + 1)).length c, .slice A1 n1 c1], .bool true]) (by simp [results, Try.results9, go_sem, x0, x1]) rfl ⟨.slice A (xs.take i ++ xs.drop (i + 1)).length c, by first | rfl | (simp; done), ?_, ?_⟩
  · exact Kd.R_mono (Kd.R_lower (Kd.R_far (Kd.R_far (Kd.R_bound HR6.out) (fun k hk => by have := hk.2.1; show k ≠ w.heap.size + 2; omega) _) (fun k hk => by have := hk.2.1; show k ≠ w.heap.size + 2; omega) _) (by omega)) (fun _ _ => trivial)
  · exact (HT6.out.below.setCell (p := ⟨w.heap.size + 2, 0, none⟩) (show w.heap.size ≤ w.heap.size + 2 by omega) _).setCell (p := ⟨w.heap.size + 2, 1, none⟩) (show w.heap.size ≤ w.heap.size + 2 by omega) _
set_option maxRecDepth 100000 in
set_option maxHeartbeats 4000000 in
theorem take_in_down (A0 : Option Addr) (n0 c0 : Nat) (A1 : Option Addr) (c1 : Nat) (i : Nat) (s : ByteArray) (xs : List ByteArray) (w : World) (hr : Kd.C Kd.string w A1 xs.length xs) (hcap : xs.length ≤ c1) (hm : xs.length ≤ 8796093022208) (hi : i < xs.length)
    (hmem : T.net_member_string.f xs (i : Int) = some (s, true)) :
    Calls Try.prog 9 #[.agg #[.slice A0 n0 c0, .slice A1 xs.length c1], .bool false, .int .i64 (i : Int)] w fun e w' => ∃ v, e = .returned (.tuple #[.string s, .agg #[.slice A0 n0 c0, v], .bool true]) ∧ Kd.R Kd.string 9 w' w.heap.size (fun _ => True) v (xs.take i ++ xs.drop (i + 1)) ∧ Below w.heap.size w w' := by
  have hmc : ∀ V, Below w.heap.size w V → Calls Try.prog 17 #[.slice A1 xs.length c1, .int .i64 (i : Int)] V fun e w' => e = .returned (.tuple #[.string s, .bool true]) ∧ Drawn0 V w' := fun V hV =>
    T.net_member_string.calls A1 c1 xs (i : Int) s true V (Kd.C_below hr hV) hcap hmem
  have hrow : ∀ V, Calls Try.prog 18 #[.agg #[.slice A0 n0 c0, .slice A1 xs.length c1], .bool false] V fun e w' => e = .returned (.slice A1 xs.length c1) ∧ Below V.heap.size V w' := fun V => net_row_calls A0 n0 c0 A1 xs.length c1 false V
  have HT3 := Lib.hid (TBox.start w (.slice A0 n0 c0) (.slice A1 xs.length c1) (.int .i64 (i : Int))).draw
  have HR := Lib.hid hr; have HMEM := Lib.hid hmc; have HROW := Lib.hid hrow
  clear hr hmc hrow hmem
  go_enter Try.func9, Try.ntmps9
  go_wp2_with fail
  refine start_ (n := 10) (S := fun w' => w'.cell? ⟨w.heap.size, 0, none⟩ = some (.slice A0 n0 c0) ∧ w'.cell? ⟨w.heap.size, 1, none⟩ = some (.slice A1 xs.length c1) ∧ w'.cell? ⟨w.heap.size + 1, 0, none⟩ = some (.int .i64 (i : Int))) (ds := []) #[false, false, false, false, false, false, false, false, false, false] (by kernel_rfl) rfl rfl ⟨HT3.out.n.cells.1, HT3.out.n.cells.2.1, HT3.out.icell⟩ (fun hHeld => ?_)
  refine pure_ (i := 1) (N := some 13) (v := ?_) (a' := ?_) #[false, true, false, false, false, false, false, false, false, false] rfl rfl (by kernel_rfl) (fun _ _ _ h => h) (Or.inl ⟨by rfl, ?_⟩) ?_ ?_
  rotate_left
  · intro w'
    go_simp
    with_reducible rfl
  rotate_left
  · simp only [Act.put, List.setIfInBounds_toArray, List.set_cons_zero, List.set_cons_succ, i64_w, i32_w]
    rfl
  refine take_ (i := 0) (N := some 12) (v := ?_) (a' := ?_) #[true, true, false, false, false, false, false, false, false, false] rfl rfl (by kernel_rfl) (fun _ _ _ h => h) (Or.inl ⟨by rfl, ?_⟩) hHeld ?_ ?_
  rotate_left
  · rintro w' ⟨s0, s1, s2⟩
    go_simp
    with_reducible rfl
  rotate_left
  · simp only [Act.put, List.setIfInBounds_toArray, List.set_cons_zero, List.set_cons_succ, i64_w, i32_w]
    rfl
  refine take_ (i := 3) (N := some 15) (v := ?_) (a' := ?_) #[true, true, false, true, false, false, false, false, false, false] rfl rfl (by kernel_rfl) (fun _ _ _ h => h) (Or.inl ⟨by rfl, ?_⟩) hHeld ?_ ?_
  rotate_left
  · rintro w' ⟨s0, s1, s2⟩
    go_simp
    with_reducible rfl
  rotate_left
  · simp only [Act.put, List.setIfInBounds_toArray, List.set_cons_zero, List.set_cons_succ, i64_w, i32_w]
    rfl
  refine one_ (i := 2) (N := some 14) #[true, true, true, true, false, false, false, false, false, false] rfl rfl (by kernel_rfl) (by decide) (fun K hK => ?_)
  refine goes_ Try.func18 (by kernel_rfl) rfl #[.agg #[.slice A0 n0 c0, .slice A1 xs.length c1], .bool false] (by rfl) rfl rfl (by simp only [List.map_toArray, List.map_cons, List.map_nil]; rfl) ?_
  with_reducible refine (HROW.out _).mono ?_
  rintro e w4 ⟨rfl, hb⟩
  refine ⟨_, rfl, ?_⟩
  have HT4 := Lib.hid (HT3.out.step hb)
  clear hb
  refine hK.out _ _ ⟨HT4.out.n.cells.1, HT4.out.n.cells.2.1, HT4.out.icell⟩ (fun hHeld => ?_)
  clear hK K
  refine norm_ (a' := ?_) ?_ ?_
  rotate_left
  · show Act.put _ (some 14) _ = _
    simp only [Act.put, List.setIfInBounds_toArray, List.set_cons_zero, List.set_cons_succ, i64_w, i32_w]
    rfl
  refine one_ (i := 4) (N := some 16) #[true, true, true, true, true, false, false, false, false, false] rfl rfl (by kernel_rfl) (by decide) (fun K hK => ?_)
  refine goes_ Try.func17 (by kernel_rfl) rfl #[.slice A1 xs.length c1, .int .i64 (i : Int)] (by rfl) rfl rfl (by simp only [List.map_toArray, List.map_cons, List.map_nil]; rfl) ?_
  with_reducible refine ((HMEM.out _ HT4.out.below)).mono ?_
  rintro e w5 ⟨rfl, hd⟩
  refine ⟨_, rfl, ?_⟩
  have HT5 := Lib.hid (HT4.out.drawn hd)
  clear hd
  refine hK.out _ _ ⟨HT5.out.n.cells.1, HT5.out.n.cells.2.1, HT5.out.icell⟩ (fun hHeld => ?_)
  clear hK K
  refine norm_ (a' := ?_) ?_ ?_
  rotate_left
  · show Act.put _ (some 16) _ = _
    simp only [Act.put, List.setIfInBounds_toArray, List.set_cons_zero, List.set_cons_succ, i64_w, i32_w]
    rfl
  refine pure_ (i := 5) (N := some 11) (v := ?_) (a' := ?_) #[true, true, true, true, true, true, false, false, false, false] rfl rfl (by kernel_rfl) (fun _ _ _ h => h) (Or.inl ⟨by rfl, ?_⟩) ?_ ?_
  rotate_left
  · intro w'
    go_simp
    with_reducible rfl
  rotate_left
  · simp only [Act.put, List.setIfInBounds_toArray, List.set_cons_zero, List.set_cons_succ, i64_w, i32_w]
    rfl
  refine pure_ (i := 6) (N := some 17) (v := ?_) (a' := ?_) #[true, true, true, true, true, true, true, false, false, false] rfl rfl (by kernel_rfl) (fun _ _ _ h => h) (Or.inl ⟨by rfl, ?_⟩) ?_ ?_
  rotate_left
  · intro w'
    go_simp
    with_reducible rfl
  rotate_left
  · simp only [Act.put, List.setIfInBounds_toArray, List.set_cons_zero, List.set_cons_succ, i64_w, i32_w]
    rfl
  refine pure_ (i := 7) (N := some 18) (v := ?_) (a' := ?_) #[true, true, true, true, true, true, true, true, false, false] rfl rfl (by kernel_rfl) (fun _ _ _ h => h) (Or.inl ⟨by rfl, ?_⟩) ?_ ?_
  rotate_left
  · intro w'
    go_simp
    with_reducible rfl
  rotate_left
  · simp only [Act.put, List.setIfInBounds_toArray, List.set_cons_zero, List.set_cons_succ, i64_w, i32_w]
    rfl
  refine pure_ (i := 8) (N := some 9) (v := ?_) (a' := ?_) #[true, true, true, true, true, true, true, true, true, false] rfl rfl (by kernel_rfl) (fun _ _ _ h => h) (Or.inl ⟨by rfl, ?_⟩) ?_ ?_
  rotate_left
  · intro w'
    go_simp
    with_reducible rfl
  rotate_left
  · simp only [Act.put, List.setIfInBounds_toArray, List.set_cons_zero, List.set_cons_succ, i64_w, i32_w]
    rfl
  refine pure_ (i := 9) (N := some 10) (v := ?_) (a' := ?_) #[true, true, true, true, true, true, true, true, true, true] rfl rfl (by kernel_rfl) (fun _ _ _ h => h) (Or.inl ⟨by rfl, ?_⟩) ?_ ?_
  rotate_left
  · intro w'
    go_simp
    with_reducible rfl
  rotate_left
  · simp only [Act.put, List.setIfInBounds_toArray, List.set_cons_zero, List.set_cons_succ, i64_w, i32_w]
    rfl
  refine done_ (by kernel_rfl) ?_
  have HTC := Lib.hid (turned_down A0 n0 c0 A1 c1 20 #[.pointer (some ⟨w.heap.size + 1, 0, none⟩)] xs (xs.take i ++ xs.drop (i + 1)) w5 (Kd.C_below HR.out HT5.out.below) (by omega) (enters_of Try.func20 (by kernel_rfl) rfl) (take1_turns _ i xs w5 HT5.out.i (by omega) hi))
  obtain ⟨q0, q1, _, _⟩ := HT5.out.n.cells
  go_wp2_with fail
  refine HTC.out.mono ?_
  rintro e w6 ⟨v, rfl, hR, hb⟩
  obtain ⟨A, c, rfl⟩ := Kd.R_slice hR
  have HT6 := Lib.hid (HT5.out.step hb)
  have HR6 := Lib.hid hR
  have h5 := HT5.out.sz
  obtain ⟨x0, x1, x2, x3⟩ := HT6.out.r.cells
  clear hR hb q0 q1
  go_wp2_with fail
  refine bodyPost_ret (v := .tuple #[.string s, .agg #[.slice A0 n0 c0, .slice A (xs.take i ++ xs.drop (i + 1)).length c], .bool true]) (by simp [results, Try.results9, go_sem, x0, x1]) rfl ⟨.slice A (xs.take i ++ xs.drop (i + 1)).length c, by first | rfl | (simp; done), ?_, ?_⟩
  · exact Kd.R_mono (Kd.R_lower (Kd.R_far (Kd.R_far (Kd.R_bound HR6.out) (fun k hk => by have := hk.2.1; show k ≠ w.heap.size + 2; omega) _) (fun k hk => by have := hk.2.1; show k ≠ w.heap.size + 2; omega) _) (by omega)) (fun _ _ => trivial)
  · exact (HT6.out.below.setCell (p := ⟨w.heap.size + 2, 0, none⟩) (show w.heap.size ≤ w.heap.size + 2 by omega) _).setCell (p := ⟨w.heap.size + 2, 1, none⟩) (show w.heap.size ≤ w.heap.size + 2 by omega) _
set_option maxRecDepth 100000 in
set_option maxHeartbeats 4000000 in
theorem take_out_up (A0 : Option Addr) (c0 : Nat) (A1 : Option Addr) (n1 c1 : Nat) (i : Int) (s : ByteArray) (xs : List ByteArray) (w : World) (hr : Kd.C Kd.string w A0 xs.length xs) (hcap : xs.length ≤ c0) 
    (hmem : T.net_member_string.f xs i = some (s, false)) :
    Calls Try.prog 9 #[.agg #[.slice A0 xs.length c0, .slice A1 n1 c1], .bool true, .int .i64 i] w fun e w' => e = .returned (.tuple #[.string ⟨#[]⟩, .agg #[.slice A0 xs.length c0, .slice A1 n1 c1], .bool false]) ∧ Below w.heap.size w w' := by
  have hmc : ∀ V, Below w.heap.size w V → Calls Try.prog 17 #[.slice A0 xs.length c0, .int .i64 i] V fun e w' => e = .returned (.tuple #[.string s, .bool false]) ∧ Drawn0 V w' := fun V hV =>
    T.net_member_string.calls A0 c0 xs i s false V (Kd.C_below hr hV) hcap hmem
  have hrow : ∀ V, Calls Try.prog 18 #[.agg #[.slice A0 xs.length c0, .slice A1 n1 c1], .bool true] V fun e w' => e = .returned (.slice A0 xs.length c0) ∧ Below V.heap.size V w' := fun V => net_row_calls A0 xs.length c0 A1 n1 c1 true V
  have HT3 := Lib.hid (TBox.start w (.slice A0 xs.length c0) (.slice A1 n1 c1) (.int .i64 i)).draw
  have HR := Lib.hid hr; have HMEM := Lib.hid hmc; have HROW := Lib.hid hrow
  clear hr hmc hrow hmem
  go_enter Try.func9, Try.ntmps9
  go_wp2_with fail
  refine start_ (n := 10) (S := fun w' => w'.cell? ⟨w.heap.size, 0, none⟩ = some (.slice A0 xs.length c0) ∧ w'.cell? ⟨w.heap.size, 1, none⟩ = some (.slice A1 n1 c1) ∧ w'.cell? ⟨w.heap.size + 1, 0, none⟩ = some (.int .i64 i)) (ds := []) #[false, false, false, false, false, false, false, false, false, false] (by kernel_rfl) rfl rfl ⟨HT3.out.n.cells.1, HT3.out.n.cells.2.1, HT3.out.icell⟩ (fun hHeld => ?_)
  refine pure_ (i := 1) (N := some 13) (v := ?_) (a' := ?_) #[false, true, false, false, false, false, false, false, false, false] rfl rfl (by kernel_rfl) (fun _ _ _ h => h) (Or.inl ⟨by rfl, ?_⟩) ?_ ?_
  rotate_left
  · intro w'
    go_simp
    with_reducible rfl
  rotate_left
  · simp only [Act.put, List.setIfInBounds_toArray, List.set_cons_zero, List.set_cons_succ, i64_w, i32_w]
    rfl
  refine take_ (i := 0) (N := some 12) (v := ?_) (a' := ?_) #[true, true, false, false, false, false, false, false, false, false] rfl rfl (by kernel_rfl) (fun _ _ _ h => h) (Or.inl ⟨by rfl, ?_⟩) hHeld ?_ ?_
  rotate_left
  · rintro w' ⟨s0, s1, s2⟩
    go_simp
    with_reducible rfl
  rotate_left
  · simp only [Act.put, List.setIfInBounds_toArray, List.set_cons_zero, List.set_cons_succ, i64_w, i32_w]
    rfl
  refine take_ (i := 3) (N := some 15) (v := ?_) (a' := ?_) #[true, true, false, true, false, false, false, false, false, false] rfl rfl (by kernel_rfl) (fun _ _ _ h => h) (Or.inl ⟨by rfl, ?_⟩) hHeld ?_ ?_
  rotate_left
  · rintro w' ⟨s0, s1, s2⟩
    go_simp
    with_reducible rfl
  rotate_left
  · simp only [Act.put, List.setIfInBounds_toArray, List.set_cons_zero, List.set_cons_succ, i64_w, i32_w]
    rfl
  refine one_ (i := 2) (N := some 14) #[true, true, true, true, false, false, false, false, false, false] rfl rfl (by kernel_rfl) (by decide) (fun K hK => ?_)
  refine goes_ Try.func18 (by kernel_rfl) rfl #[.agg #[.slice A0 xs.length c0, .slice A1 n1 c1], .bool true] (by rfl) rfl rfl (by simp only [List.map_toArray, List.map_cons, List.map_nil]; rfl) ?_
  with_reducible refine (HROW.out _).mono ?_
  rintro e w4 ⟨rfl, hb⟩
  refine ⟨_, rfl, ?_⟩
  have HT4 := Lib.hid (HT3.out.step hb)
  clear hb
  refine hK.out _ _ ⟨HT4.out.n.cells.1, HT4.out.n.cells.2.1, HT4.out.icell⟩ (fun hHeld => ?_)
  clear hK K
  refine norm_ (a' := ?_) ?_ ?_
  rotate_left
  · show Act.put _ (some 14) _ = _
    simp only [Act.put, List.setIfInBounds_toArray, List.set_cons_zero, List.set_cons_succ, i64_w, i32_w]
    rfl
  refine one_ (i := 4) (N := some 16) #[true, true, true, true, true, false, false, false, false, false] rfl rfl (by kernel_rfl) (by decide) (fun K hK => ?_)
  refine goes_ Try.func17 (by kernel_rfl) rfl #[.slice A0 xs.length c0, .int .i64 i] (by rfl) rfl rfl (by simp only [List.map_toArray, List.map_cons, List.map_nil]; rfl) ?_
  with_reducible refine ((HMEM.out _ HT4.out.below)).mono ?_
  rintro e w5 ⟨rfl, hd⟩
  refine ⟨_, rfl, ?_⟩
  have HT5 := Lib.hid (HT4.out.drawn hd)
  clear hd
  refine hK.out _ _ ⟨HT5.out.n.cells.1, HT5.out.n.cells.2.1, HT5.out.icell⟩ (fun hHeld => ?_)
  clear hK K
  refine norm_ (a' := ?_) ?_ ?_
  rotate_left
  · show Act.put _ (some 16) _ = _
    simp only [Act.put, List.setIfInBounds_toArray, List.set_cons_zero, List.set_cons_succ, i64_w, i32_w]
    rfl
  refine pure_ (i := 5) (N := some 11) (v := ?_) (a' := ?_) #[true, true, true, true, true, true, false, false, false, false] rfl rfl (by kernel_rfl) (fun _ _ _ h => h) (Or.inl ⟨by rfl, ?_⟩) ?_ ?_
  rotate_left
  · intro w'
    go_simp
    with_reducible rfl
  rotate_left
  · simp only [Act.put, List.setIfInBounds_toArray, List.set_cons_zero, List.set_cons_succ, i64_w, i32_w]
    rfl
  refine pure_ (i := 6) (N := some 17) (v := ?_) (a' := ?_) #[true, true, true, true, true, true, true, false, false, false] rfl rfl (by kernel_rfl) (fun _ _ _ h => h) (Or.inl ⟨by rfl, ?_⟩) ?_ ?_
  rotate_left
  · intro w'
    go_simp
    with_reducible rfl
  rotate_left
  · simp only [Act.put, List.setIfInBounds_toArray, List.set_cons_zero, List.set_cons_succ, i64_w, i32_w]
    rfl
  refine pure_ (i := 7) (N := some 18) (v := ?_) (a' := ?_) #[true, true, true, true, true, true, true, true, false, false] rfl rfl (by kernel_rfl) (fun _ _ _ h => h) (Or.inl ⟨by rfl, ?_⟩) ?_ ?_
  rotate_left
  · intro w'
    go_simp
    with_reducible rfl
  rotate_left
  · simp only [Act.put, List.setIfInBounds_toArray, List.set_cons_zero, List.set_cons_succ, i64_w, i32_w]
    rfl
  refine pure_ (i := 8) (N := some 9) (v := ?_) (a' := ?_) #[true, true, true, true, true, true, true, true, true, false] rfl rfl (by kernel_rfl) (fun _ _ _ h => h) (Or.inl ⟨by rfl, ?_⟩) ?_ ?_
  rotate_left
  · intro w'
    go_simp
    with_reducible rfl
  rotate_left
  · simp only [Act.put, List.setIfInBounds_toArray, List.set_cons_zero, List.set_cons_succ, i64_w, i32_w]
    rfl
  refine pure_ (i := 9) (N := some 10) (v := ?_) (a' := ?_) #[true, true, true, true, true, true, true, true, true, true] rfl rfl (by kernel_rfl) (fun _ _ _ h => h) (Or.inl ⟨by rfl, ?_⟩) ?_ ?_
  rotate_left
  · intro w'
    go_simp
    with_reducible rfl
  rotate_left
  · simp only [Act.put, List.setIfInBounds_toArray, List.set_cons_zero, List.set_cons_succ, i64_w, i32_w]
    rfl
  refine done_ (by kernel_rfl) ?_
  obtain ⟨q0, q1, _, _⟩ := HT5.out.n.cells
  obtain ⟨x0, x1, x2, x3⟩ := HT5.out.r.cells
  go_wp2_with fail
  go_region
  all_goals
    try go_wp2_with fail
    refine bodyPost_ret (v := .tuple #[.string ⟨#[]⟩, .agg #[.slice A0 xs.length c0, .slice A1 n1 c1], .bool false]) (by simp [results, Try.results9, go_sem, x0, x1]) rfl ⟨rfl, ?_⟩
    repeat (first | exact HT5.out.below | refine below_drew ?_ | refine Below.setCell (p := ⟨w.heap.size + 1 + 1, 0, none⟩) ?_ (show w.heap.size ≤ w.heap.size + 1 + 1 by omega) _ | refine Below.setCell (p := ⟨w.heap.size + 1 + 1, 1, none⟩) ?_ (show w.heap.size ≤ w.heap.size + 1 + 1 by omega) _)
set_option maxRecDepth 100000 in
set_option maxHeartbeats 4000000 in
theorem take_out_down (A0 : Option Addr) (n0 c0 : Nat) (A1 : Option Addr) (c1 : Nat) (i : Int) (s : ByteArray) (xs : List ByteArray) (w : World) (hr : Kd.C Kd.string w A1 xs.length xs) (hcap : xs.length ≤ c1) 
    (hmem : T.net_member_string.f xs i = some (s, false)) :
    Calls Try.prog 9 #[.agg #[.slice A0 n0 c0, .slice A1 xs.length c1], .bool false, .int .i64 i] w fun e w' => e = .returned (.tuple #[.string ⟨#[]⟩, .agg #[.slice A0 n0 c0, .slice A1 xs.length c1], .bool false]) ∧ Below w.heap.size w w' := by
  have hmc : ∀ V, Below w.heap.size w V → Calls Try.prog 17 #[.slice A1 xs.length c1, .int .i64 i] V fun e w' => e = .returned (.tuple #[.string s, .bool false]) ∧ Drawn0 V w' := fun V hV =>
    T.net_member_string.calls A1 c1 xs i s false V (Kd.C_below hr hV) hcap hmem
  have hrow : ∀ V, Calls Try.prog 18 #[.agg #[.slice A0 n0 c0, .slice A1 xs.length c1], .bool false] V fun e w' => e = .returned (.slice A1 xs.length c1) ∧ Below V.heap.size V w' := fun V => net_row_calls A0 n0 c0 A1 xs.length c1 false V
  have HT3 := Lib.hid (TBox.start w (.slice A0 n0 c0) (.slice A1 xs.length c1) (.int .i64 i)).draw
  have HR := Lib.hid hr; have HMEM := Lib.hid hmc; have HROW := Lib.hid hrow
  clear hr hmc hrow hmem
  go_enter Try.func9, Try.ntmps9
  go_wp2_with fail
  refine start_ (n := 10) (S := fun w' => w'.cell? ⟨w.heap.size, 0, none⟩ = some (.slice A0 n0 c0) ∧ w'.cell? ⟨w.heap.size, 1, none⟩ = some (.slice A1 xs.length c1) ∧ w'.cell? ⟨w.heap.size + 1, 0, none⟩ = some (.int .i64 i)) (ds := []) #[false, false, false, false, false, false, false, false, false, false] (by kernel_rfl) rfl rfl ⟨HT3.out.n.cells.1, HT3.out.n.cells.2.1, HT3.out.icell⟩ (fun hHeld => ?_)
  refine pure_ (i := 1) (N := some 13) (v := ?_) (a' := ?_) #[false, true, false, false, false, false, false, false, false, false] rfl rfl (by kernel_rfl) (fun _ _ _ h => h) (Or.inl ⟨by rfl, ?_⟩) ?_ ?_
  rotate_left
  · intro w'
    go_simp
    with_reducible rfl
  rotate_left
  · simp only [Act.put, List.setIfInBounds_toArray, List.set_cons_zero, List.set_cons_succ, i64_w, i32_w]
    rfl
  refine take_ (i := 0) (N := some 12) (v := ?_) (a' := ?_) #[true, true, false, false, false, false, false, false, false, false] rfl rfl (by kernel_rfl) (fun _ _ _ h => h) (Or.inl ⟨by rfl, ?_⟩) hHeld ?_ ?_
  rotate_left
  · rintro w' ⟨s0, s1, s2⟩
    go_simp
    with_reducible rfl
  rotate_left
  · simp only [Act.put, List.setIfInBounds_toArray, List.set_cons_zero, List.set_cons_succ, i64_w, i32_w]
    rfl
  refine take_ (i := 3) (N := some 15) (v := ?_) (a' := ?_) #[true, true, false, true, false, false, false, false, false, false] rfl rfl (by kernel_rfl) (fun _ _ _ h => h) (Or.inl ⟨by rfl, ?_⟩) hHeld ?_ ?_
  rotate_left
  · rintro w' ⟨s0, s1, s2⟩
    go_simp
    with_reducible rfl
  rotate_left
  · simp only [Act.put, List.setIfInBounds_toArray, List.set_cons_zero, List.set_cons_succ, i64_w, i32_w]
    rfl
  refine one_ (i := 2) (N := some 14) #[true, true, true, true, false, false, false, false, false, false] rfl rfl (by kernel_rfl) (by decide) (fun K hK => ?_)
  refine goes_ Try.func18 (by kernel_rfl) rfl #[.agg #[.slice A0 n0 c0, .slice A1 xs.length c1], .bool false] (by rfl) rfl rfl (by simp only [List.map_toArray, List.map_cons, List.map_nil]; rfl) ?_
  with_reducible refine (HROW.out _).mono ?_
  rintro e w4 ⟨rfl, hb⟩
  refine ⟨_, rfl, ?_⟩
  have HT4 := Lib.hid (HT3.out.step hb)
  clear hb
  refine hK.out _ _ ⟨HT4.out.n.cells.1, HT4.out.n.cells.2.1, HT4.out.icell⟩ (fun hHeld => ?_)
  clear hK K
  refine norm_ (a' := ?_) ?_ ?_
  rotate_left
  · show Act.put _ (some 14) _ = _
    simp only [Act.put, List.setIfInBounds_toArray, List.set_cons_zero, List.set_cons_succ, i64_w, i32_w]
    rfl
  refine one_ (i := 4) (N := some 16) #[true, true, true, true, true, false, false, false, false, false] rfl rfl (by kernel_rfl) (by decide) (fun K hK => ?_)
  refine goes_ Try.func17 (by kernel_rfl) rfl #[.slice A1 xs.length c1, .int .i64 i] (by rfl) rfl rfl (by simp only [List.map_toArray, List.map_cons, List.map_nil]; rfl) ?_
  with_reducible refine ((HMEM.out _ HT4.out.below)).mono ?_
  rintro e w5 ⟨rfl, hd⟩
  refine ⟨_, rfl, ?_⟩
  have HT5 := Lib.hid (HT4.out.drawn hd)
  clear hd
  refine hK.out _ _ ⟨HT5.out.n.cells.1, HT5.out.n.cells.2.1, HT5.out.icell⟩ (fun hHeld => ?_)
  clear hK K
  refine norm_ (a' := ?_) ?_ ?_
  rotate_left
  · show Act.put _ (some 16) _ = _
    simp only [Act.put, List.setIfInBounds_toArray, List.set_cons_zero, List.set_cons_succ, i64_w, i32_w]
    rfl
  refine pure_ (i := 5) (N := some 11) (v := ?_) (a' := ?_) #[true, true, true, true, true, true, false, false, false, false] rfl rfl (by kernel_rfl) (fun _ _ _ h => h) (Or.inl ⟨by rfl, ?_⟩) ?_ ?_
  rotate_left
  · intro w'
    go_simp
    with_reducible rfl
  rotate_left
  · simp only [Act.put, List.setIfInBounds_toArray, List.set_cons_zero, List.set_cons_succ, i64_w, i32_w]
    rfl
  refine pure_ (i := 6) (N := some 17) (v := ?_) (a' := ?_) #[true, true, true, true, true, true, true, false, false, false] rfl rfl (by kernel_rfl) (fun _ _ _ h => h) (Or.inl ⟨by rfl, ?_⟩) ?_ ?_
  rotate_left
  · intro w'
    go_simp
    with_reducible rfl
  rotate_left
  · simp only [Act.put, List.setIfInBounds_toArray, List.set_cons_zero, List.set_cons_succ, i64_w, i32_w]
    rfl
  refine pure_ (i := 7) (N := some 18) (v := ?_) (a' := ?_) #[true, true, true, true, true, true, true, true, false, false] rfl rfl (by kernel_rfl) (fun _ _ _ h => h) (Or.inl ⟨by rfl, ?_⟩) ?_ ?_
  rotate_left
  · intro w'
    go_simp
    with_reducible rfl
  rotate_left
  · simp only [Act.put, List.setIfInBounds_toArray, List.set_cons_zero, List.set_cons_succ, i64_w, i32_w]
    rfl
  refine pure_ (i := 8) (N := some 9) (v := ?_) (a' := ?_) #[true, true, true, true, true, true, true, true, true, false] rfl rfl (by kernel_rfl) (fun _ _ _ h => h) (Or.inl ⟨by rfl, ?_⟩) ?_ ?_
  rotate_left
  · intro w'
    go_simp
    with_reducible rfl
  rotate_left
  · simp only [Act.put, List.setIfInBounds_toArray, List.set_cons_zero, List.set_cons_succ, i64_w, i32_w]
    rfl
  refine pure_ (i := 9) (N := some 10) (v := ?_) (a' := ?_) #[true, true, true, true, true, true, true, true, true, true] rfl rfl (by kernel_rfl) (fun _ _ _ h => h) (Or.inl ⟨by rfl, ?_⟩) ?_ ?_
  rotate_left
  · intro w'
    go_simp
    with_reducible rfl
  rotate_left
  · simp only [Act.put, List.setIfInBounds_toArray, List.set_cons_zero, List.set_cons_succ, i64_w, i32_w]
    rfl
  refine done_ (by kernel_rfl) ?_
  obtain ⟨q0, q1, _, _⟩ := HT5.out.n.cells
  obtain ⟨x0, x1, x2, x3⟩ := HT5.out.r.cells
  go_wp2_with fail
  go_region
  all_goals
    try go_wp2_with fail
    refine bodyPost_ret (v := .tuple #[.string ⟨#[]⟩, .agg #[.slice A0 n0 c0, .slice A1 xs.length c1], .bool false]) (by simp [results, Try.results9, go_sem, x0, x1]) rfl ⟨rfl, ?_⟩
    repeat (first | exact HT5.out.below | refine below_drew ?_ | refine Below.setCell (p := ⟨w.heap.size + 1 + 1, 0, none⟩) ?_ (show w.heap.size ≤ w.heap.size + 1 + 1 by omega) _ | refine Below.setCell (p := ⟨w.heap.size + 1 + 1, 1, none⟩) ?_ (show w.heap.size ≤ w.heap.size + 1 + 1 by omega) _)
def takeR (l0 l1 : List ByteArray) (up : Bool) (i : Int) : ByteArray × List ByteArray × List ByteArray × Bool :=
  if 0 ≤ i ∧ i < ((if up then l0 else l1).length : Int) then (rdOf ByteArray.empty (if up then l0 else l1) i, if up then l0.take i.toNat ++ l0.drop (i.toNat + 1) else l0, if up then l1 else l1.take i.toNat ++ l1.drop (i.toNat + 1), true)
  else (⟨#[]⟩, l0, l1, false)
def net_Take.f (l0_0 l0_1 : List ByteArray) (a1 : Bool) (a2 : Int) : Option (ByteArray × List ByteArray × List ByteArray × Bool) := if l0_0.length ≤ 8796093022208 ∧ l0_1.length ≤ 8796093022208 then some (takeR l0_0 l0_1 a1 a2) else none
theorem net_Take.calls (P0_0_ : Nat → Prop) (A0_0 : Option Addr) (c0_0 : Nat) (l0_0 : List ByteArray) (P0_1_ : Nat → Prop) (A0_1 : Option Addr) (c0_1 : Nat) (l0_1 : List ByteArray) (a1 : Bool) (a2 : Int) (r1 : ByteArray) (r2 r3 : List ByteArray) (r4 : Bool) (w : World) (hs0_0 : Kd.V Kd.string 9 w w.heap.size (fun k_ => P0_0_ k_) (.slice A0_0 l0_0.length c0_0) l0_0) (hs0_1 : Kd.V Kd.string 9 w w.heap.size (fun k_ => P0_1_ k_) (.slice A0_1 l0_1.length c0_1) l0_1) (h : net_Take.f l0_0 l0_1 a1 a2 = some (r1, r2, r3, r4)) :
    Calls Try.prog 9 #[.agg #[.slice A0_0 l0_0.length c0_0, .slice A0_1 l0_1.length c0_1], .bool a1, .int .i64 a2] w fun e w' => ∃ v0_ v1_ : Value, e = .returned (.tuple #[.string r1, .agg #[v0_, v1_], .bool r4]) ∧ Kd.V Kd.string 9 w' w.heap.size (fun k_ => ((P0_0_ k_ ∨ P0_1_ k_) ∨ w.heap.size ≤ k_)) v0_ r2 ∧ Kd.V Kd.string 9 w' w.heap.size (fun k_ => ((P0_0_ k_ ∨ P0_1_ k_) ∨ w.heap.size ≤ k_)) v1_ r3 ∧ Below w.heap.size w w' := by
  have stay : ∀ (rs : ByteArray) (rb : Bool) e w', (e = Ending.returned (.tuple #[.string rs, .agg #[.slice A0_0 l0_0.length c0_0, .slice A0_1 l0_1.length c0_1], .bool rb]) ∧ Below w.heap.size w w') → ∃ v0_ v1_ : Value, e = .returned (.tuple #[.string rs, .agg #[v0_, v1_], .bool rb]) ∧ Kd.V Kd.string 9 w' w.heap.size (fun k_ => ((P0_0_ k_ ∨ P0_1_ k_) ∨ w.heap.size ≤ k_)) v0_ l0_0 ∧ Kd.V Kd.string 9 w' w.heap.size (fun k_ => ((P0_0_ k_ ∨ P0_1_ k_) ∨ w.heap.size ≤ k_)) v1_ l0_1 ∧ Below w.heap.size w w' := fun rs rb e w' he =>
    ⟨_, _, he.1, Kd.V_mono (Kd.V_below hs0_0 he.2) (fun _ hk => .inl (.inl hk)), Kd.V_mono (Kd.V_below hs0_1 he.2) (fun _ hk => .inl (.inr hk)), he.2⟩
  have fresh : ∀ (w' : World) (A : Option Addr) (c : Nat) (ys : List ByteArray), Kd.R Kd.string 9 w' w.heap.size (fun _ => True) (.slice A ys.length c) ys → Kd.V Kd.string 9 w' w.heap.size (fun k_ => ((P0_0_ k_ ∨ P0_1_ k_) ∨ w.heap.size ≤ k_)) (.slice A ys.length c) ys := fun w' A c ys hR =>
    Kd.V_mk (Kd.R_reads' hR).2.1 (Kd.R_F (Kd.R_mono (Kd.R_bound hR) (fun k hk => .inr hk.2.1)))
  have hr0 := Kd.V_reads' hs0_0
  have hr1 := Kd.V_reads' hs0_1
  unfold net_Take.f at h
  split at h
  · rename_i hh
    have h2 := Option.some.inj h
    clear h
    have mem : ∀ xs : List ByteArray, (0 ≤ a2 ∧ a2 < (xs.length : Int) → T.net_member_string.f xs a2 = some (rdOf ByteArray.empty xs a2, true)) ∧ (¬ (0 ≤ a2 ∧ a2 < (xs.length : Int)) → T.net_member_string.f xs a2 = some (⟨#[]⟩, false)) := fun xs => ⟨fun hi => by
      unfold T.net_member_string.f; rw [if_neg (by omega), if_neg (by omega), if_pos hi.1, if_pos hi.2], fun hi => by
      unfold T.net_member_string.f
      by_cases a : a2 < 0
      · rw [if_pos a]
      · rw [if_neg a, if_pos (by omega)]⟩
    unfold takeR at h2
    cases a1
    · by_cases hi : 0 ≤ a2 ∧ a2 < (l0_1.length : Int)
      · have hi' : 0 ≤ a2 ∧ a2 < ((if false = true then l0_0 else l0_1).length : Int) := hi
        rw [if_pos hi'] at h2
        simp only [Prod.mk.injEq] at h2
        obtain ⟨rfl, rfl, rfl, rfl⟩ := h2
        obtain ⟨i, rfl⟩ := Int.eq_ofNat_of_zero_le hi.1
        refine (take_in_down A0_0 _ c0_0 A0_1 c0_1 i _ l0_1 w hr1.2.2 hr1.2.1 hh.2 (by omega) ((mem l0_1).1 hi)).mono ?_
        rintro e w' ⟨v, rfl, hR, hb⟩
        obtain ⟨A, c, rfl⟩ := Kd.R_slice hR
        exact ⟨_, _, rfl, Kd.V_mono (Kd.V_below hs0_0 hb) (fun _ hk => .inl (.inl hk)), fresh _ _ _ _ hR, hb⟩
      · have hi' : ¬ (0 ≤ a2 ∧ a2 < ((if false = true then l0_0 else l0_1).length : Int)) := hi
        rw [if_neg hi'] at h2
        simp only [Prod.mk.injEq] at h2
        obtain ⟨rfl, rfl, rfl, rfl⟩ := h2
        exact (take_out_down A0_0 _ c0_0 A0_1 c0_1 a2 _ l0_1 w hr1.2.2 hr1.2.1 ((mem l0_1).2 hi)).mono (stay _ _)
    · by_cases hi : 0 ≤ a2 ∧ a2 < (l0_0.length : Int)
      · have hi' : 0 ≤ a2 ∧ a2 < ((if true = true then l0_0 else l0_1).length : Int) := hi
        rw [if_pos hi'] at h2
        simp only [Prod.mk.injEq] at h2
        obtain ⟨rfl, rfl, rfl, rfl⟩ := h2
        obtain ⟨i, rfl⟩ := Int.eq_ofNat_of_zero_le hi.1
        refine (take_in_up A0_0 c0_0 A0_1 _ c0_1 i _ l0_0 w hr0.2.2 hr0.2.1 hh.1 (by omega) ((mem l0_0).1 hi)).mono ?_
        rintro e w' ⟨v, rfl, hR, hb⟩
        obtain ⟨A, c, rfl⟩ := Kd.R_slice hR
        exact ⟨_, _, rfl, fresh _ _ _ _ hR, Kd.V_mono (Kd.V_below hs0_1 hb) (fun _ hk => .inl (.inr hk)), hb⟩
      · have hi' : ¬ (0 ≤ a2 ∧ a2 < ((if true = true then l0_0 else l0_1).length : Int)) := hi
        rw [if_neg hi'] at h2
        simp only [Prod.mk.injEq] at h2
        obtain ⟨rfl, rfl, rfl, rfl⟩ := h2
        exact (take_out_up A0_0 c0_0 A0_1 _ c0_1 a2 _ l0_0 w hr0.2.2 hr0.2.1 ((mem l0_0).2 hi)).mono (stay _ _)
  · cases h
end Go.Proofs.Ytcefnaacnilojaa.Q
