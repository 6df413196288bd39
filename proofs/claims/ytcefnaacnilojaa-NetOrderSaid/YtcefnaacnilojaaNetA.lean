/- Layer 19, walked: a net with a row turned. -/
import Derived.Test.YtcefnaacnilojaaShelf
import Derived.Test.YtcefnaacnilojaaMath
import Derived.Test.YtcefnaacnilojaaProg
import Derived.Test.YtcefnaacnilojaaBase
import Derived.Test.YtcefnaacnilojaaWLast
import Derived.Test.YtcefnaacnilojaaWMore
import Derived.Laws.IdiomCopy
import Derived.Shelf.Abstract
import Derived.WalkKit
import Derived.Maps.AppendAt
import Derived.Lib.Hide
import Derived.Outline
set_option linter.unusedVariables false
set_option linter.unusedSimpArgs false
namespace Go.Proofs.Ytcefnaacnilojaa.Q
open Go.RowKit Go.Shelf Go.Proofs.YtcefnaacnilojaaW.PrintWords Go.Proofs.YtcefnaacnilojaaW.PrintLast Go.Proofs.YtcefnaacnilojaaW.PrintMore

theorem info_str : (Try.prog.info? 9).map (fun i => (i.zero, i.size, i.bytes)) = some (some (.string ⟨#[]⟩), 1, 16) := by kernel_rfl
theorem info_str1 : (Try.prog.info? 9).map (·.size) = some 1 := by kernel_rfl
set_option maxHeartbeats 1000000 in
theorem net_row_calls (A0 : Option Addr) (n0 c0 : Nat) (A1 : Option Addr) (n1 c1 : Nat) (up : Bool) (w : World) :
    Calls Try.prog 18 #[.agg #[.slice A0 n0 c0, .slice A1 n1 c1], .bool up] w fun e w' => e = .returned (if up then .slice A0 n0 c0 else .slice A1 n1 c1) ∧ Below w.heap.size w w' := by
  cases up
  all_goals
    go_enter Try.func18, Try.ntmps18
    go_wp2_with fail
    go_ret
    exact ⟨rfl, (Below.refl _ w).alloc (Nat.le_refl _) _⟩
/-- A made row, over which a row of texts is laid. -/
theorem copy_strs (xs : List ByteArray) (A : Option Addr) (c R : Nat) (W : World) (hR : W.heap[R]? = some (.cells (madeCells #[.string ⟨#[]⟩] xs.length) 9 (0, 0))) (hr : Kd.C Kd.string W A xs.length xs) :
    ∃ W', (Builtin.copy_ #[22, 22] 3 #[.slice (some ⟨R, 0, none⟩) xs.length xs.length, .slice A xs.length c]).run Try.prog W = .ok (.int .i64 xs.length) W' ∧ W'.heap[R]? = some (.cells (xs.map Value.string).toArray 9 (0, 0)) ∧
      W'.heap.size = W.heap.size ∧ ∀ B, B ≤ R → Below B W W' := by
  by_cases h0 : xs.length = 0
  · obtain rfl : xs = [] := List.length_eq_zero_iff.1 h0
    refine ⟨W, run_copy_none (P := Try.prog) W _ _ _ 9 _ _ _ _ _ _ Try.underlying22 info_str1 rfl, ?_, rfl, fun B _ => Below.refl _ _⟩
    rw [hR]; congr 2
    apply Array.toList_inj.1
    exact List.eq_nil_of_length_eq_zero (by simp [size_madeCells])
  · obtain ⟨ad, rfl, _⟩ := Kd.at_string hr 0 (by omega) (by omega)
    have h := run_copy_cells (P := Try.prog) W 22 22 3 9 R 0 xs.length xs.length ad xs.length c (xs.map Value.string) Try.underlying22 info_str1 (by simp)
      (fun j v hj => by
        rw [List.getElem?_map] at hj
        cases hjj : xs[j]? with
        | none => rw [hjj] at hj; cases hj
        | some x =>
          rw [hjj] at hj
          obtain rfl : Value.string x = v := by simpa using hj
          obtain ⟨hl, hx⟩ := List.getElem?_eq_some_iff.1 hjj
          obtain ⟨ad', he, hc⟩ := Kd.at_string hr (j : Int) (by omega) (by omega)
          obtain rfl : ad = ad' := Option.some.inj he
          rw [Int.toNat_natCast] at hc
          rw [hc, rdOf, Int.toNat_natCast, List.getD_eq_getElem?_getD, hjj]; rfl)
      (fun j hj => by rw [blk_cell hR, Array.getElem?_eq_getElem (by rw [size_madeCells]; simpa using hj)]; rfl)
      (fun j hj => blk_frozen hR _) (fun v hv => by obtain ⟨x, _, rfl⟩ := List.mem_map.1 hv; rfl)
    rw [List.length_map] at h
    have hs := setCells_same R (xs.map Value.string) 0 W
    refine ⟨_, h, ?_, hs.2.2.2, fun B hB => ⟨hs.1, hs.2.1, hs.2.2.1, by rw [hs.2.2.2]; exact Nat.le_refl _, fun k hk => setCells_far _ _ _ (by omega)⟩⟩
    obtain ⟨cur, h1, h2, h3⟩ := setCells_row (xs.map Value.string) 0 W _ hR (by rw [size_madeCells]; simp)
    rw [h1]
    congr 2
    apply Array.toList_inj.1
    rw [h3, List.take_zero, List.nil_append, List.drop_of_length_le (by simp [size_madeCells]), List.append_nil]
/-- A net in a box. -/
def Box2 (W : World) (b : Nat) (x y : Value) : Prop := W.heap[b]? = some (.cells #[x, y] 24 (0, 0))
theorem Box2.cells {W : World} {b : Nat} {x y : Value} (h : Box2 W b x y) : W.cell? ⟨b, 0, none⟩ = some x ∧ W.cell? ⟨b, 1, none⟩ = some y ∧ W.frozen? ⟨b, 0, none⟩ = false ∧ W.frozen? ⟨b, 1, none⟩ = false :=
  ⟨by rw [blk_cell h]; rfl, by rw [blk_cell h]; rfl, blk_frozen h _, blk_frozen h _⟩
theorem Box2.below {W V : World} {b B : Nat} {x y : Value} (h : Box2 W b x y) (hb : Below B W V) (hB : b < B) : Box2 V b x y := (hb.block b hB).trans h
/-- What turns a row: from its first texts to others, in the row's block and in new ones. -/
def Turns (g : FuncId) (lb : Array Value) (w : World) (xs ys : List ByteArray) : Prop := ∀ (W : World) (g0 : Nat), Below w.heap.size w W → w.heap.size ≤ g0 → W.heap[g0]? = some (.cells (xs.map Value.string).toArray 9 (0, 0)) →
  Calls Try.prog g (#[.slice (some ⟨g0, 0, none⟩) xs.length xs.length] ++ lb) W fun e W' => ∃ v, e = .returned v ∧ Kd.R Kd.string 9 W' g0 (fun k => g0 ≤ k) v ys ∧ Below g0 W W'
set_option maxRecDepth 100000 in
set_option maxHeartbeats 4000000 in
theorem turned_up (A0 : Option Addr) (c0 : Nat) (A1 : Option Addr) (n1 c1 : Nat) (g : FuncId) (lb : Array Value) (xs ys : List ByteArray) (w : World) (hr : Kd.C Kd.string w A0 xs.length xs) (hm : xs.length ≤ 8796093022208)
    (eg : ∀ args W, (callFunc g args).run Try.prog W = .ok (.enter g args) W) (hT : Turns g lb w xs ys) :
    Calls Try.prog 19 #[.agg #[.slice A0 xs.length c0, .slice A1 n1 c1], .bool true, .func (.func g) #[] lb] w fun e w' => ∃ v, e = .returned (.agg #[v, .slice A1 n1 c1]) ∧ Kd.R Kd.string 9 w' w.heap.size (fun _ => True) v ys ∧ Below w.heap.size w w' := by
  have hmk := print_make_of (P := Try.prog) 22 9 (.string ⟨#[]⟩) 16 Try.underlying22 info_str rfl (by decide) xs.length (by omega)
  obtain ⟨W2, hW2⟩ : ∃ W2, W2 = (w.alloc (.cells #[.slice A0 xs.length c0, .slice A1 n1 c1] 24)).alloc (.cells #[.slice none 0 0, .slice none 0 0] 24) := ⟨_, rfl⟩
  have hB2 : Below w.heap.size w W2 := by rw [hW2]; exact ((Below.refl _ w).alloc (Nat.le_refl _) _).alloc (by rw [World.size_alloc]; omega) _
  have z2 : W2.heap.size = w.heap.size + 2 := by rw [hW2, World.size_alloc, World.size_alloc]
  have hn2 : Box2 W2 w.heap.size (.slice A0 xs.length c0) (.slice A1 n1 c1) := by
    rw [hW2]; exact (heap_alloc_old _ _ (by rw [World.size_alloc]; omega)).trans (heap_alloc_new _ _)
  have hx2 : Box2 W2 (w.heap.size + 1) (.slice none 0 0) (.slice none 0 0) := by
    have h := heap_alloc_new (w.alloc (.cells #[.slice A0 xs.length c0, .slice A1 n1 c1] 24)) (.cells #[.slice none 0 0, .slice none 0 0] 24)
    rw [World.size_alloc] at h
    rw [hW2]; exact h
  have HI := Lib.hid (net_row_calls A0 xs.length c0 A1 n1 c1 true W2)
  have HR := Lib.hid hr; have HT := Lib.hid hT; have HB2 := Lib.hid hB2; have HN2 := Lib.hid hn2; have HX2 := Lib.hid hx2; have HZ2 := Lib.hid z2
  rw [hW2] at HI
  have HW2 := Lib.hid hW2
  clear hr hT hB2 hn2 hx2 z2 hW2
  go_enter Try.func19, Try.ntmps19
  go_wp2_with fail
  refine HI.out.mono ?_
  rw [← HW2.out]
  rintro e w3 ⟨he, hb3⟩
  obtain rfl : e = .returned (.slice A0 xs.length c0) := he
  have z3 : w.heap.size + 2 ≤ w3.heap.size := by have := hb3.size; have := HZ2.out; omega
  obtain ⟨W4, hW4⟩ : ∃ W4, W4 = w3.alloc (.cells (madeCells #[.string ⟨#[]⟩] xs.length) 9) := ⟨_, rfl⟩
  have z4 : W4.heap.size = w3.heap.size + 1 := by rw [hW4, World.size_alloc]
  have hb4 : Below w3.heap.size w3 W4 := by rw [hW4]; exact (Below.refl _ w3).alloc (Nat.le_refl _) _
  have hB4 : Below w.heap.size w W4 := (HB2.out.trans (hb3.mono (by have := HZ2.out; omega))).trans (hb4.mono (by omega))
  have hn4 := (HN2.out.below hb3 (by have := HZ2.out; omega)).below hb4 (by omega)
  have hx4 := (HX2.out.below hb3 (by have := HZ2.out; omega)).below hb4 (by omega)
  have hrow4 : W4.heap[w3.heap.size]? = some (.cells (madeCells #[.string ⟨#[]⟩] xs.length) 9 (0, 0)) := by rw [hW4]; exact heap_alloc_new _ _
  obtain ⟨q0, q1, _, _⟩ := hn4.cells
  rw [hW4] at q0 q1
  have HI2 := Lib.hid (net_row_calls A0 xs.length c0 A1 n1 c1 true W4)
  have HN4 := Lib.hid hn4; have HX4 := Lib.hid hx4; have HB4 := Lib.hid hB4; have HROW4 := Lib.hid hrow4; have HZ4 := Lib.hid z4; have HZ3 := Lib.hid z3
  rw [hW4] at HI2
  have HW4 := Lib.hid hW4
  clear hb3 hb4 hn4 hx4 hB4 hrow4 z4 z3 hW4
  go_wp2_with fail
  refine HI2.out.mono ?_
  rw [← HW4.out]
  rintro e w5 ⟨he, hb5⟩
  obtain rfl : e = .returned (.slice A0 xs.length c0) := he
  have z5 := hb5.size
  have h4 := HZ4.out
  have h3 := HZ3.out
  obtain ⟨W6, hcp, hrow6, z6, hb6⟩ := copy_strs xs A0 c0 w3.heap.size w5 ((hb5.block _ (by omega)).trans HROW4.out) (Kd.C_below HR.out (HB4.out.trans (hb5.mono (by omega))))
  have hB6 : Below w.heap.size w W6 := (HB4.out.trans (hb5.mono (by omega))).trans (hb6 _ (by omega))
  have hn6 := (HN4.out.below hb5 (by omega)).below (hb6 _ (Nat.le_refl _)) (by omega)
  have hx6 := (HX4.out.below hb5 (by omega)).below (hb6 _ (Nat.le_refl _)) (by omega)
  have HCL := Lib.hid (HT.out W6 w3.heap.size hB6 (by omega) hrow6)
  have HN6 := Lib.hid hn6; have HX6 := Lib.hid hx6; have HB6 := Lib.hid hB6; have HZ6 := Lib.hid (show w3.heap.size < W6.heap.size by omega)
  clear hb5 z5 h4 h3 hrow6 hb6 hB6 hn6 hx6 z6 q0 q1
  go_wp2_with fail
  go_at_fn g
  refine HCL.out.mono ?_
  rintro e w7 ⟨v, rfl, hR7, hb7⟩
  obtain ⟨A, c, rfl⟩ := Kd.R_slice hR7
  have h3 := HZ3.out
  have hn7 := HN6.out.below hb7 (by omega)
  have hx7 := HX6.out.below hb7 (by omega)
  have z7 := hb7.size
  have HB7 := Lib.hid (HB6.out.trans (hb7.mono (by omega)))
  have hs := HZ3.out
  have HR7 := Lib.hid hR7
  obtain ⟨p0, p1, p2, p3⟩ := hn7.cells
  have hn8 : Box2 (w7.setCell ⟨w.heap.size, 0, none⟩ (.slice A ys.length c)) w.heap.size (.slice A ys.length c) (.slice A1 n1 c1) := blk_set hn7 0 _
  have hx8 : Box2 (w7.setCell ⟨w.heap.size, 0, none⟩ (.slice A ys.length c)) (w.heap.size + 1) (.slice none 0 0) (.slice none 0 0) := (Below.heap_setCell w7 ⟨w.heap.size, 0, none⟩ _ (w.heap.size + 1) (by show w.heap.size + 1 ≠ w.heap.size; omega)).trans hx7
  obtain ⟨r0, r1, _, _⟩ := hn8.cells
  obtain ⟨x0, x1, x2, x3⟩ := hx8.cells
  clear hR7 hb7 hn7 hx7 hn8 hx8 z7 h3 hs
  go_wp2_with fail
  refine bodyPost_ret (v := .agg #[.slice A ys.length c, .slice A1 n1 c1]) (by simp [results, Try.results19, go_sem, x0, x1]) rfl ⟨_, rfl, ?_, ?_⟩
  · have h3 := HZ3.out
    exact Kd.R_mono (Kd.R_lower (Kd.R_far (Kd.R_far (Kd.R_far HR7.out (fun k hk => by show k ≠ w.heap.size; have : w3.heap.size ≤ k := hk; omega) _) (fun k hk => by show k ≠ w.heap.size + 1; have : w3.heap.size ≤ k := hk; omega) _) (fun k hk => by show k ≠ w.heap.size + 1; have : w3.heap.size ≤ k := hk; omega) _) (by omega)) (fun _ _ => trivial)
  · exact ((HB7.out.setCell (p := ⟨w.heap.size, 0, none⟩) (Nat.le_refl _) _).setCell (p := ⟨w.heap.size + 1, 0, none⟩) (show w.heap.size ≤ w.heap.size + 1 by omega) _).setCell (p := ⟨w.heap.size + 1, 1, none⟩) (show w.heap.size ≤ w.heap.size + 1 by omega) _
set_option maxRecDepth 100000 in
set_option maxHeartbeats 4000000 in
theorem turned_down (A0 : Option Addr) (n0 c0 : Nat) (A1 : Option Addr) (c1 : Nat) (g : FuncId) (lb : Array Value) (xs ys : List ByteArray) (w : World) (hr : Kd.C Kd.string w A1 xs.length xs) (hm : xs.length ≤ 8796093022208)
    (eg : ∀ args W, (callFunc g args).run Try.prog W = .ok (.enter g args) W) (hT : Turns g lb w xs ys) :
    Calls Try.prog 19 #[.agg #[.slice A0 n0 c0, .slice A1 xs.length c1], .bool false, .func (.func g) #[] lb] w fun e w' => ∃ v, e = .returned (.agg #[.slice A0 n0 c0, v]) ∧ Kd.R Kd.string 9 w' w.heap.size (fun _ => True) v ys ∧ Below w.heap.size w w' := by
  have hmk := print_make_of (P := Try.prog) 22 9 (.string ⟨#[]⟩) 16 Try.underlying22 info_str rfl (by decide) xs.length (by omega)
  obtain ⟨W2, hW2⟩ : ∃ W2, W2 = (w.alloc (.cells #[.slice A0 n0 c0, .slice A1 xs.length c1] 24)).alloc (.cells #[.slice none 0 0, .slice none 0 0] 24) := ⟨_, rfl⟩
  have hB2 : Below w.heap.size w W2 := by rw [hW2]; exact ((Below.refl _ w).alloc (Nat.le_refl _) _).alloc (by rw [World.size_alloc]; omega) _
  have z2 : W2.heap.size = w.heap.size + 2 := by rw [hW2, World.size_alloc, World.size_alloc]
  have hn2 : Box2 W2 w.heap.size (.slice A0 n0 c0) (.slice A1 xs.length c1) := by
    rw [hW2]; exact (heap_alloc_old _ _ (by rw [World.size_alloc]; omega)).trans (heap_alloc_new _ _)
  have hx2 : Box2 W2 (w.heap.size + 1) (.slice none 0 0) (.slice none 0 0) := by
    have h := heap_alloc_new (w.alloc (.cells #[.slice A0 n0 c0, .slice A1 xs.length c1] 24)) (.cells #[.slice none 0 0, .slice none 0 0] 24)
    rw [World.size_alloc] at h
    rw [hW2]; exact h
  have HI := Lib.hid (net_row_calls A0 n0 c0 A1 xs.length c1 false W2)
  have HR := Lib.hid hr; have HT := Lib.hid hT; have HB2 := Lib.hid hB2; have HN2 := Lib.hid hn2; have HX2 := Lib.hid hx2; have HZ2 := Lib.hid z2
  rw [hW2] at HI
  have HW2 := Lib.hid hW2
  clear hr hT hB2 hn2 hx2 z2 hW2
  go_enter Try.func19, Try.ntmps19
  go_wp2_with fail
  refine HI.out.mono ?_
  rw [← HW2.out]
  rintro e w3 ⟨he, hb3⟩
  obtain rfl : e = .returned (.slice A1 xs.length c1) := he
  have z3 : w.heap.size + 2 ≤ w3.heap.size := by have := hb3.size; have := HZ2.out; omega
  obtain ⟨W4, hW4⟩ : ∃ W4, W4 = w3.alloc (.cells (madeCells #[.string ⟨#[]⟩] xs.length) 9) := ⟨_, rfl⟩
  have z4 : W4.heap.size = w3.heap.size + 1 := by rw [hW4, World.size_alloc]
  have hb4 : Below w3.heap.size w3 W4 := by rw [hW4]; exact (Below.refl _ w3).alloc (Nat.le_refl _) _
  have hB4 : Below w.heap.size w W4 := (HB2.out.trans (hb3.mono (by have := HZ2.out; omega))).trans (hb4.mono (by omega))
  have hn4 := (HN2.out.below hb3 (by have := HZ2.out; omega)).below hb4 (by omega)
  have hx4 := (HX2.out.below hb3 (by have := HZ2.out; omega)).below hb4 (by omega)
  have hrow4 : W4.heap[w3.heap.size]? = some (.cells (madeCells #[.string ⟨#[]⟩] xs.length) 9 (0, 0)) := by rw [hW4]; exact heap_alloc_new _ _
  obtain ⟨q0, q1, _, _⟩ := hn4.cells
  rw [hW4] at q0 q1
  have HI2 := Lib.hid (net_row_calls A0 n0 c0 A1 xs.length c1 false W4)
  have HN4 := Lib.hid hn4; have HX4 := Lib.hid hx4; have HB4 := Lib.hid hB4; have HROW4 := Lib.hid hrow4; have HZ4 := Lib.hid z4; have HZ3 := Lib.hid z3
  rw [hW4] at HI2
  have HW4 := Lib.hid hW4
  clear hb3 hb4 hn4 hx4 hB4 hrow4 z4 z3 hW4
  go_wp2_with fail
  refine HI2.out.mono ?_
  rw [← HW4.out]
  rintro e w5 ⟨he, hb5⟩
  obtain rfl : e = .returned (.slice A1 xs.length c1) := he
  have z5 := hb5.size
  have h4 := HZ4.out
  have h3 := HZ3.out
  obtain ⟨W6, hcp, hrow6, z6, hb6⟩ := copy_strs xs A1 c1 w3.heap.size w5 ((hb5.block _ (by omega)).trans HROW4.out) (Kd.C_below HR.out (HB4.out.trans (hb5.mono (by omega))))
  have hB6 : Below w.heap.size w W6 := (HB4.out.trans (hb5.mono (by omega))).trans (hb6 _ (by omega))
  have hn6 := (HN4.out.below hb5 (by omega)).below (hb6 _ (Nat.le_refl _)) (by omega)
  have hx6 := (HX4.out.below hb5 (by omega)).below (hb6 _ (Nat.le_refl _)) (by omega)
  have HCL := Lib.hid (HT.out W6 w3.heap.size hB6 (by omega) hrow6)
  have HN6 := Lib.hid hn6; have HX6 := Lib.hid hx6; have HB6 := Lib.hid hB6; have HZ6 := Lib.hid (show w3.heap.size < W6.heap.size by omega)
  clear hb5 z5 h4 h3 hrow6 hb6 hB6 hn6 hx6 z6 q0 q1
  go_wp2_with fail
  go_at_fn g
  refine HCL.out.mono ?_
  rintro e w7 ⟨v, rfl, hR7, hb7⟩
  obtain ⟨A, c, rfl⟩ := Kd.R_slice hR7
  have h3 := HZ3.out
  have hn7 := HN6.out.below hb7 (by omega)
  have hx7 := HX6.out.below hb7 (by omega)
  have z7 := hb7.size
  have HB7 := Lib.hid (HB6.out.trans (hb7.mono (by omega)))
  have hs := HZ3.out
  have HR7 := Lib.hid hR7
  obtain ⟨p0, p1, p2, p3⟩ := hn7.cells
  have hn8 : Box2 (w7.setCell ⟨w.heap.size, 1, none⟩ (.slice A ys.length c)) w.heap.size (.slice A0 n0 c0) (.slice A ys.length c) := blk_set hn7 1 _
  have hx8 : Box2 (w7.setCell ⟨w.heap.size, 1, none⟩ (.slice A ys.length c)) (w.heap.size + 1) (.slice none 0 0) (.slice none 0 0) := (Below.heap_setCell w7 ⟨w.heap.size, 1, none⟩ _ (w.heap.size + 1) (by show w.heap.size + 1 ≠ w.heap.size; omega)).trans hx7
  obtain ⟨r0, r1, _, _⟩ := hn8.cells
  obtain ⟨x0, x1, x2, x3⟩ := hx8.cells
  clear hR7 hb7 hn7 hx7 hn8 hx8 z7 h3 hs
  go_wp2_with fail
  refine bodyPost_ret (v := .agg #[.slice A0 n0 c0, .slice A ys.length c]) (by simp [results, Try.results19, go_sem, x0, x1]) rfl ⟨_, rfl, ?_, ?_⟩
  · have h3 := HZ3.out
    exact Kd.R_mono (Kd.R_lower (Kd.R_far (Kd.R_far (Kd.R_far HR7.out (fun k hk => by show k ≠ w.heap.size; have : w3.heap.size ≤ k := hk; omega) _) (fun k hk => by show k ≠ w.heap.size + 1; have : w3.heap.size ≤ k := hk; omega) _) (fun k hk => by show k ≠ w.heap.size + 1; have : w3.heap.size ≤ k := hk; omega) _) (by omega)) (fun _ _ => trivial)
  · exact ((HB7.out.setCell (p := ⟨w.heap.size, 1, none⟩) (Nat.le_refl _) _).setCell (p := ⟨w.heap.size + 1, 0, none⟩) (show w.heap.size ≤ w.heap.size + 1 by omega) _).setCell (p := ⟨w.heap.size + 1, 1, none⟩) (show w.heap.size ≤ w.heap.size + 1 by omega) _
end Go.Proofs.Ytcefnaacnilojaa.Q
