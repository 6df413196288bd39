/- Layer 19, walked: a text sent. -/
import Derived.Test.YtcefnaacnilojaaNetA
set_option linter.unusedVariables false
set_option linter.unusedSimpArgs false
namespace Go.Proofs.Ytcefnaacnilojaa.Q
open Go.RowKit Go.Shelf Go.Proofs.YtcefnaacnilojaaW.PrintWords Go.Proofs.YtcefnaacnilojaaW.PrintLast Go.Proofs.YtcefnaacnilojaaW.PrintMore

/-- A row of texts that fills its block is a row of its own. -/
theorem own_strs {W : World} {g0 base : Nat} (xs : List ByteArray) (hb : base ≤ g0) (hm : xs.length ≤ 8796093022208) (h : W.heap[g0]? = some (.cells (xs.map Value.string).toArray 9 (0, 0))) :
    W.ownsRow base 9 1 (.slice (some ⟨g0, 0, none⟩) xs.length xs.length) xs.length (encs Value.string xs) :=
  ⟨by simp [encs], .inr ⟨_, xs.length, _, rfl, hb, h, Nat.le_refl _, by unfold maxLen; omega, by simp, by simp [encs]; exact List.take_of_length_le (by simp)⟩⟩
set_option maxRecDepth 100000 in
set_option maxHeartbeats 1000000 in
theorem send1_turns (bs : Nat) (s : ByteArray) (xs : List ByteArray) (w : World) (hb : w.heap[bs]? = some (.cells #[.string s] 9 (0, 0))) (hm : xs.length ≤ 100000000) : Turns 24 #[.pointer (some ⟨bs, 0, none⟩)] w xs (xs ++ [s]) := by
  intro W g0 hB hg hrow
  have hc : W.cell? ⟨bs, 0, none⟩ = some (.string s) := by rw [blk_cell ((hB.block _ (blk_lt hb)).trans hb)]; rfl
  have HO := Lib.hid (show Kd.R Kd.string 9 W g0 (fun k => g0 ≤ k) (.slice (some ⟨g0, 0, none⟩) xs.length xs.length) xs from Kd.R_of_own (own_strs xs (Nat.le_refl _) (by omega) hrow) (fun k hk => by
    have : g0 = k := by simpa [Value.ownBlock] using hk
    show g0 ≤ k; omega))
  have hlt := blk_lt hrow
  clear hrow hB hb
  go_enter Try.func24, Try.ntmps24
  go_wp2_with ((with_reducible refine gate_builtin (b := .append) (xs := #[.tmp 4, .tmp 6]) rfl ?_); at_builtin; refine Kd.R_append Kd.string (w0 := W) g0 rfl (.tmp 4) (.tmp 6) 22 9 (.string ⟨#[]⟩) 16 rfl Try.underlying22 info_str rfl (by decide) (by omega) (.slice (some ⟨g0, 0, none⟩) xs.length xs.length) xs s [.string s] (fun k => g0 ≤ k) (fun _ => False) rfl rfl ?aP (fun _ hk => hk.elim) ?aF ?aO ?aB ?aS ?aL ?_; (case aP => exact rfl); (case aB => exact Below.refl _ _); (case aF => exact (fun k hk => by show g0 ≤ k; omega)); (case aO => exact HO.out); (case aS => omega); (case aL => omega); intro v w2 ho hb hg hat; obtain ⟨A, c, rfl⟩ := Kd.R_slice ho; have HO2 := Lib.hid ho; have HB2 := Lib.hid hb; clear ho hb hg hat)
  go_ret
  exact ⟨_, rfl, (by have h := HO2.out; rw [List.length_append] at h; exact h), HB2.out⟩
/-! Send -/
set_option maxRecDepth 100000 in
set_option maxHeartbeats 4000000 in
theorem send_up (A0 : Option Addr) (c0 : Nat) (A1 : Option Addr) (n1 c1 : Nat) (s : ByteArray) (xs : List ByteArray) (w : World) (hr : Kd.C Kd.string w A0 xs.length xs) (hm : xs.length < 64) :
    Calls Try.prog 15 #[.agg #[.slice A0 xs.length c0, .slice A1 n1 c1], .bool true, .string s] w fun e w' => ∃ v, e = .returned (.agg #[v, .slice A1 n1 c1]) ∧ Kd.R Kd.string 9 w' w.heap.size (fun _ => True) v (xs ++ [s]) ∧ Below w.heap.size w w' := by
  have hd : decide (64 ≤ xs.length) = false := decide_eq_false (by omega)
  have hdz : decide ((64 : Int) ≤ (xs.length : Int)) = false := decide_eq_false (by omega)
  obtain ⟨W3, hW3⟩ : ∃ W3, W3 = ((w.alloc (.cells #[.slice A0 xs.length c0, .slice A1 n1 c1] 24)).alloc (.cells #[.string s] 9)).alloc (.cells #[.slice none 0 0, .slice none 0 0] 24) := ⟨_, rfl⟩
  have hB3 : Below w.heap.size w W3 := by rw [hW3]; exact (((Below.refl _ w).alloc (Nat.le_refl _) _).alloc (by rw [World.size_alloc]; omega) _).alloc (by rw [World.size_alloc, World.size_alloc]; omega) _
  have z3 : W3.heap.size = w.heap.size + 3 := by rw [hW3, World.size_alloc, World.size_alloc, World.size_alloc]
  have hn3 : Box2 W3 w.heap.size (.slice A0 xs.length c0) (.slice A1 n1 c1) := by
    rw [hW3]; exact (heap_alloc_old _ _ (by rw [World.size_alloc, World.size_alloc]; omega)).trans ((heap_alloc_old _ _ (by rw [World.size_alloc]; omega)).trans (heap_alloc_new _ _))
  have hs3 : W3.heap[w.heap.size + 1]? = some (.cells #[.string s] 9 (0, 0)) := by
    have h := heap_alloc_new (w.alloc (.cells #[.slice A0 xs.length c0, .slice A1 n1 c1] 24)) (.cells #[.string s] 9)
    rw [World.size_alloc] at h
    rw [hW3]; exact (heap_alloc_old _ _ (by rw [World.size_alloc, World.size_alloc]; omega)).trans h
  have hx3 : Box2 W3 (w.heap.size + 2) (.slice none 0 0) (.slice none 0 0) := by
    have h := heap_alloc_new ((w.alloc (.cells #[.slice A0 xs.length c0, .slice A1 n1 c1] 24)).alloc (.cells #[.string s] 9)) (.cells #[.slice none 0 0, .slice none 0 0] 24)
    rw [World.size_alloc, World.size_alloc] at h
    rw [hW3]; exact h
  have HI := Lib.hid (net_row_calls A0 xs.length c0 A1 n1 c1 true W3)
  have HR := Lib.hid hr; have HB3 := Lib.hid hB3; have HN3 := Lib.hid hn3; have HX3 := Lib.hid hx3; have HS3 := Lib.hid hs3; have HZ3 := Lib.hid z3
  rw [hW3] at HI
  have HW3 := Lib.hid hW3
  clear hr hB3 hn3 hx3 hs3 z3 hW3
  go_enter Try.func15, Try.ntmps15
  go_wp2_with fail
  refine HI.out.mono ?_
  rw [← HW3.out]
  rintro e w4 ⟨he, hb4⟩
  obtain rfl : e = .returned (.slice A0 xs.length c0) := he
  have h3 := HZ3.out
  have z4 := hb4.size
  have hB4 := HB3.out.trans (hb4.mono (by omega))
  have hn4 := HN3.out.below hb4 (by omega)
  have hx4 := HX3.out.below hb4 (by omega)
  have hs4 := (hb4.block _ (blk_lt HS3.out)).trans HS3.out
  obtain ⟨q0, q1, _, _⟩ := hn4.cells
  have HTC := Lib.hid (turned_up A0 c0 A1 n1 c1 24 #[.pointer (some ⟨w.heap.size + 1, 0, none⟩)] xs (xs ++ [s]) w4 (Kd.C_below HR.out hB4) (by omega) (enters_of Try.func24 (by kernel_rfl) rfl) (send1_turns _ s xs w4 hs4 (by omega)))
  have HX4 := Lib.hid hx4; have HB4 := Lib.hid hB4; have HZ4 := Lib.hid (show w.heap.size + 3 ≤ w4.heap.size by omega)
  clear hb4 h3 z4 hB4 hn4 hx4 hs4
  go_wp2_with fail
  refine HTC.out.mono ?_
  rintro e w5 ⟨v, rfl, hR, hb⟩
  obtain ⟨A, c, rfl⟩ := Kd.R_slice hR
  have h4 := HZ4.out
  obtain ⟨x0, x1, x2, x3⟩ := (HX4.out.below hb (by omega)).cells
  have HR5 := Lib.hid hR; have HB5 := Lib.hid (HB4.out.trans (hb.mono (by omega)))
  clear hR hb h4
  go_wp2_with fail
  refine bodyPost_ret (v := .agg #[.slice A (xs ++ [s]).length c, .slice A1 n1 c1]) (by simp [results, Try.results15, go_sem, x0, x1]) rfl ⟨.slice A (xs ++ [s]).length c, by first | rfl | (simp; done), ?_, ?_⟩
  · have h4 := HZ4.out
    exact Kd.R_mono (Kd.R_lower (Kd.R_far (Kd.R_far (Kd.R_bound HR5.out) (fun k hk => by have := hk.2.1; show k ≠ w.heap.size + 2; omega) _) (fun k hk => by have := hk.2.1; show k ≠ w.heap.size + 2; omega) _) (by omega)) (fun _ _ => trivial)
  · exact (HB5.out.setCell (p := ⟨w.heap.size + 2, 0, none⟩) (show w.heap.size ≤ w.heap.size + 2 by omega) _).setCell (p := ⟨w.heap.size + 2, 1, none⟩) (show w.heap.size ≤ w.heap.size + 2 by omega) _
set_option maxRecDepth 100000 in
set_option maxHeartbeats 4000000 in
theorem send_down (A0 : Option Addr) (n0 c0 : Nat) (A1 : Option Addr) (c1 : Nat) (s : ByteArray) (xs : List ByteArray) (w : World) (hr : Kd.C Kd.string w A1 xs.length xs) (hm : xs.length < 64) :
    Calls Try.prog 15 #[.agg #[.slice A0 n0 c0, .slice A1 xs.length c1], .bool false, .string s] w fun e w' => ∃ v, e = .returned (.agg #[.slice A0 n0 c0, v]) ∧ Kd.R Kd.string 9 w' w.heap.size (fun _ => True) v (xs ++ [s]) ∧ Below w.heap.size w w' := by
  have hd : decide (64 ≤ xs.length) = false := decide_eq_false (by omega)
  have hdz : decide ((64 : Int) ≤ (xs.length : Int)) = false := decide_eq_false (by omega)
  obtain ⟨W3, hW3⟩ : ∃ W3, W3 = ((w.alloc (.cells #[.slice A0 n0 c0, .slice A1 xs.length c1] 24)).alloc (.cells #[.string s] 9)).alloc (.cells #[.slice none 0 0, .slice none 0 0] 24) := ⟨_, rfl⟩
  have hB3 : Below w.heap.size w W3 := by rw [hW3]; exact (((Below.refl _ w).alloc (Nat.le_refl _) _).alloc (by rw [World.size_alloc]; omega) _).alloc (by rw [World.size_alloc, World.size_alloc]; omega) _
  have z3 : W3.heap.size = w.heap.size + 3 := by rw [hW3, World.size_alloc, World.size_alloc, World.size_alloc]
  have hn3 : Box2 W3 w.heap.size (.slice A0 n0 c0) (.slice A1 xs.length c1) := by
    rw [hW3]; exact (heap_alloc_old _ _ (by rw [World.size_alloc, World.size_alloc]; omega)).trans ((heap_alloc_old _ _ (by rw [World.size_alloc]; omega)).trans (heap_alloc_new _ _))
  have hs3 : W3.heap[w.heap.size + 1]? = some (.cells #[.string s] 9 (0, 0)) := by
    have h := heap_alloc_new (w.alloc (.cells #[.slice A0 n0 c0, .slice A1 xs.length c1] 24)) (.cells #[.string s] 9)
    rw [World.size_alloc] at h
    rw [hW3]; exact (heap_alloc_old _ _ (by rw [World.size_alloc, World.size_alloc]; omega)).trans h
  have hx3 : Box2 W3 (w.heap.size + 2) (.slice none 0 0) (.slice none 0 0) := by
    have h := heap_alloc_new ((w.alloc (.cells #[.slice A0 n0 c0, .slice A1 xs.length c1] 24)).alloc (.cells #[.string s] 9)) (.cells #[.slice none 0 0, .slice none 0 0] 24)
    rw [World.size_alloc, World.size_alloc] at h
    rw [hW3]; exact h
  have HI := Lib.hid (net_row_calls A0 n0 c0 A1 xs.length c1 false W3)
  have HR := Lib.hid hr; have HB3 := Lib.hid hB3; have HN3 := Lib.hid hn3; have HX3 := Lib.hid hx3; have HS3 := Lib.hid hs3; have HZ3 := Lib.hid z3
  rw [hW3] at HI
  have HW3 := Lib.hid hW3
  clear hr hB3 hn3 hx3 hs3 z3 hW3
  go_enter Try.func15, Try.ntmps15
  go_wp2_with fail
  refine HI.out.mono ?_
  rw [← HW3.out]
  rintro e w4 ⟨he, hb4⟩
  obtain rfl : e = .returned (.slice A1 xs.length c1) := he
  have h3 := HZ3.out
  have z4 := hb4.size
  have hB4 := HB3.out.trans (hb4.mono (by omega))
  have hn4 := HN3.out.below hb4 (by omega)
  have hx4 := HX3.out.below hb4 (by omega)
  have hs4 := (hb4.block _ (blk_lt HS3.out)).trans HS3.out
  obtain ⟨q0, q1, _, _⟩ := hn4.cells
  have HTC := Lib.hid (turned_down A0 n0 c0 A1 c1 24 #[.pointer (some ⟨w.heap.size + 1, 0, none⟩)] xs (xs ++ [s]) w4 (Kd.C_below HR.out hB4) (by omega) (enters_of Try.func24 (by kernel_rfl) rfl) (send1_turns _ s xs w4 hs4 (by omega)))
  have HX4 := Lib.hid hx4; have HB4 := Lib.hid hB4; have HZ4 := Lib.hid (show w.heap.size + 3 ≤ w4.heap.size by omega)
  clear hb4 h3 z4 hB4 hn4 hx4 hs4
  go_wp2_with fail
  refine HTC.out.mono ?_
  rintro e w5 ⟨v, rfl, hR, hb⟩
  obtain ⟨A, c, rfl⟩ := Kd.R_slice hR
  have h4 := HZ4.out
  obtain ⟨x0, x1, x2, x3⟩ := (HX4.out.below hb (by omega)).cells
  have HR5 := Lib.hid hR; have HB5 := Lib.hid (HB4.out.trans (hb.mono (by omega)))
  clear hR hb h4
  go_wp2_with fail
  refine bodyPost_ret (v := .agg #[.slice A0 n0 c0, .slice A (xs ++ [s]).length c]) (by simp [results, Try.results15, go_sem, x0, x1]) rfl ⟨.slice A (xs ++ [s]).length c, by first | rfl | (simp; done), ?_, ?_⟩
  · have h4 := HZ4.out
    exact Kd.R_mono (Kd.R_lower (Kd.R_far (Kd.R_far (Kd.R_bound HR5.out) (fun k hk => by have := hk.2.1; show k ≠ w.heap.size + 2; omega) _) (fun k hk => by have := hk.2.1; show k ≠ w.heap.size + 2; omega) _) (by omega)) (fun _ _ => trivial)
  · exact (HB5.out.setCell (p := ⟨w.heap.size + 2, 0, none⟩) (show w.heap.size ≤ w.heap.size + 2 by omega) _).setCell (p := ⟨w.heap.size + 2, 1, none⟩) (show w.heap.size ≤ w.heap.size + 2 by omega) _
set_option maxRecDepth 100000 in
set_option maxHeartbeats 4000000 in
theorem send_full_up (A0 : Option Addr) (n0 c0 : Nat) (A1 : Option Addr) (n1 c1 : Nat) (s : ByteArray) (w : World) (hm : 64 ≤ n0) :
    Calls Try.prog 15 #[.agg #[.slice A0 n0 c0, .slice A1 n1 c1], .bool true, .string s] w fun e w' => e = .returned (.agg #[.slice A0 n0 c0, .slice A1 n1 c1]) ∧ Below w.heap.size w w' := by
  obtain ⟨W3, hW3⟩ : ∃ W3, W3 = ((w.alloc (.cells #[.slice A0 n0 c0, .slice A1 n1 c1] 24)).alloc (.cells #[.string s] 9)).alloc (.cells #[.slice none 0 0, .slice none 0 0] 24) := ⟨_, rfl⟩
  have hB3 : Below w.heap.size w W3 := by rw [hW3]; exact (((Below.refl _ w).alloc (Nat.le_refl _) _).alloc (by rw [World.size_alloc]; omega) _).alloc (by rw [World.size_alloc, World.size_alloc]; omega) _
  have z3 : W3.heap.size = w.heap.size + 3 := by rw [hW3, World.size_alloc, World.size_alloc, World.size_alloc]
  have hn3 : Box2 W3 w.heap.size (.slice A0 n0 c0) (.slice A1 n1 c1) := by
    rw [hW3]; exact (heap_alloc_old _ _ (by rw [World.size_alloc, World.size_alloc]; omega)).trans ((heap_alloc_old _ _ (by rw [World.size_alloc]; omega)).trans (heap_alloc_new _ _))
  have hx3 : Box2 W3 (w.heap.size + 2) (.slice none 0 0) (.slice none 0 0) := by
    have h := heap_alloc_new ((w.alloc (.cells #[.slice A0 n0 c0, .slice A1 n1 c1] 24)).alloc (.cells #[.string s] 9)) (.cells #[.slice none 0 0, .slice none 0 0] 24)
    rw [World.size_alloc, World.size_alloc] at h
    rw [hW3]; exact h
  have HB3 := Lib.hid hB3; have HN3 := Lib.hid hn3; have HX3 := Lib.hid hx3; have HZ3 := Lib.hid z3
  have hd : decide (64 ≤ n0) = true := decide_eq_true hm
  have hdz : decide ((64 : Int) ≤ (n0 : Int)) = true := decide_eq_true (by omega)
  have HI := Lib.hid (net_row_calls A0 n0 c0 A1 n1 c1 true W3)
  rw [hW3] at HI
  have HW3 := Lib.hid hW3
  clear hB3 hn3 hx3 z3 hW3
  go_enter Try.func15, Try.ntmps15
  go_wp2_with fail
  refine HI.out.mono ?_
  rw [← HW3.out]
  rintro e w4 ⟨he, hb4⟩
  obtain rfl : e = .returned (.slice A0 n0 c0) := he
  have h3 := HZ3.out
  have z4 := hb4.size
  have HB4 := Lib.hid (HB3.out.trans (hb4.mono (by omega)))
  have hn4 := HN3.out.below hb4 (by omega)
  obtain ⟨q0, q1, _, _⟩ := hn4.cells
  obtain ⟨x0, x1, x2, x3⟩ := (HX3.out.below hb4 (by omega)).cells
  clear hb4 h3 z4 hn4
  go_wp2_with fail
  refine bodyPost_ret (v := .agg #[.slice A0 n0 c0, .slice A1 n1 c1]) (by simp [results, Try.results15, go_sem, x0, x1]) rfl ⟨rfl, ?_⟩
  exact (HB4.out.setCell (p := ⟨w.heap.size + 2, 0, none⟩) (show w.heap.size ≤ w.heap.size + 2 by omega) _).setCell (p := ⟨w.heap.size + 2, 1, none⟩) (show w.heap.size ≤ w.heap.size + 2 by omega) _
set_option maxRecDepth 100000 in
set_option maxHeartbeats 4000000 in
theorem send_full_down (A0 : Option Addr) (n0 c0 : Nat) (A1 : Option Addr) (n1 c1 : Nat) (s : ByteArray) (w : World) (hm : 64 ≤ n1) :
    Calls Try.prog 15 #[.agg #[.slice A0 n0 c0, .slice A1 n1 c1], .bool false, .string s] w fun e w' => e = .returned (.agg #[.slice A0 n0 c0, .slice A1 n1 c1]) ∧ Below w.heap.size w w' := by
  obtain ⟨W3, hW3⟩ : ∃ W3, W3 = ((w.alloc (.cells #[.slice A0 n0 c0, .slice A1 n1 c1] 24)).alloc (.cells #[.string s] 9)).alloc (.cells #[.slice none 0 0, .slice none 0 0] 24) := ⟨_, rfl⟩
  have hB3 : Below w.heap.size w W3 := by rw [hW3]; exact (((Below.refl _ w).alloc (Nat.le_refl _) _).alloc (by rw [World.size_alloc]; omega) _).alloc (by rw [World.size_alloc, World.size_alloc]; omega) _
  have z3 : W3.heap.size = w.heap.size + 3 := by rw [hW3, World.size_alloc, World.size_alloc, World.size_alloc]
  have hn3 : Box2 W3 w.heap.size (.slice A0 n0 c0) (.slice A1 n1 c1) := by
    rw [hW3]; exact (heap_alloc_old _ _ (by rw [World.size_alloc, World.size_alloc]; omega)).trans ((heap_alloc_old _ _ (by rw [World.size_alloc]; omega)).trans (heap_alloc_new _ _))
  have hx3 : Box2 W3 (w.heap.size + 2) (.slice none 0 0) (.slice none 0 0) := by
    have h := heap_alloc_new ((w.alloc (.cells #[.slice A0 n0 c0, .slice A1 n1 c1] 24)).alloc (.cells #[.string s] 9)) (.cells #[.slice none 0 0, .slice none 0 0] 24)
    rw [World.size_alloc, World.size_alloc] at h
    rw [hW3]; exact h
  have HB3 := Lib.hid hB3; have HN3 := Lib.hid hn3; have HX3 := Lib.hid hx3; have HZ3 := Lib.hid z3
  have hd : decide (64 ≤ n1) = true := decide_eq_true hm
  have hdz : decide ((64 : Int) ≤ (n1 : Int)) = true := decide_eq_true (by omega)
  have HI := Lib.hid (net_row_calls A0 n0 c0 A1 n1 c1 false W3)
  rw [hW3] at HI
  have HW3 := Lib.hid hW3
  clear hB3 hn3 hx3 z3 hW3
  go_enter Try.func15, Try.ntmps15
  go_wp2_with fail
  refine HI.out.mono ?_
  rw [← HW3.out]
  rintro e w4 ⟨he, hb4⟩
  obtain rfl : e = .returned (.slice A1 n1 c1) := he
  have h3 := HZ3.out
  have z4 := hb4.size
  have HB4 := Lib.hid (HB3.out.trans (hb4.mono (by omega)))
  have hn4 := HN3.out.below hb4 (by omega)
  obtain ⟨q0, q1, _, _⟩ := hn4.cells
  obtain ⟨x0, x1, x2, x3⟩ := (HX3.out.below hb4 (by omega)).cells
  clear hb4 h3 z4 hn4
  go_wp2_with fail
  refine bodyPost_ret (v := .agg #[.slice A0 n0 c0, .slice A1 n1 c1]) (by simp [results, Try.results15, go_sem, x0, x1]) rfl ⟨rfl, ?_⟩
  exact (HB4.out.setCell (p := ⟨w.heap.size + 2, 0, none⟩) (show w.heap.size ≤ w.heap.size + 2 by omega) _).setCell (p := ⟨w.heap.size + 2, 1, none⟩) (show w.heap.size ≤ w.heap.size + 2 by omega) _
def net_Send.f (l0_0 l0_1 : List ByteArray) (a1 : Bool) (a2 : ByteArray) : Option (List ByteArray × List ByteArray) :=
  if a1 = true then if 64 ≤ l0_0.length then some (l0_0, l0_1) else some (l0_0 ++ [a2], l0_1) else if 64 ≤ l0_1.length then some (l0_0, l0_1) else some (l0_0, l0_1 ++ [a2])
theorem net_Send.calls (P0_0_ : Nat → Prop) (A0_0 : Option Addr) (c0_0 : Nat) (l0_0 : List ByteArray) (P0_1_ : Nat → Prop) (A0_1 : Option Addr) (c0_1 : Nat) (l0_1 : List ByteArray) (a1 : Bool) (a2 : ByteArray) (r1 r2 : List ByteArray) (w : World) (hs0_0 : Kd.V Kd.string 9 w w.heap.size (fun k_ => P0_0_ k_) (.slice A0_0 l0_0.length c0_0) l0_0) (hs0_1 : Kd.V Kd.string 9 w w.heap.size (fun k_ => P0_1_ k_) (.slice A0_1 l0_1.length c0_1) l0_1) (h : net_Send.f l0_0 l0_1 a1 a2 = some (r1, r2)) :
    Calls Try.prog 15 #[.agg #[.slice A0_0 l0_0.length c0_0, .slice A0_1 l0_1.length c0_1], .bool a1, .string a2] w fun e w' => ∃ v0_ v1_ : Value, e = .returned (.agg #[v0_, v1_]) ∧ Kd.V Kd.string 9 w' w.heap.size (fun k_ => ((P0_0_ k_ ∨ P0_1_ k_) ∨ w.heap.size ≤ k_)) v0_ r1 ∧ Kd.V Kd.string 9 w' w.heap.size (fun k_ => ((P0_0_ k_ ∨ P0_1_ k_) ∨ w.heap.size ≤ k_)) v1_ r2 ∧ Below w.heap.size w w' := by
  have stay : ∀ e w', (e = Ending.returned (.agg #[.slice A0_0 l0_0.length c0_0, .slice A0_1 l0_1.length c0_1]) ∧ Below w.heap.size w w') → ∃ v0_ v1_ : Value, e = .returned (.agg #[v0_, v1_]) ∧ Kd.V Kd.string 9 w' w.heap.size (fun k_ => ((P0_0_ k_ ∨ P0_1_ k_) ∨ w.heap.size ≤ k_)) v0_ l0_0 ∧ Kd.V Kd.string 9 w' w.heap.size (fun k_ => ((P0_0_ k_ ∨ P0_1_ k_) ∨ w.heap.size ≤ k_)) v1_ l0_1 ∧ Below w.heap.size w w' := fun e w' he =>
    ⟨_, _, he.1, Kd.V_mono (Kd.V_below hs0_0 he.2) (fun _ hk => .inl (.inl hk)), Kd.V_mono (Kd.V_below hs0_1 he.2) (fun _ hk => .inl (.inr hk)), he.2⟩
  have fresh : ∀ (w' : World) (A : Option Addr) (c : Nat) (ys : List ByteArray), Kd.R Kd.string 9 w' w.heap.size (fun _ => True) (.slice A ys.length c) ys → Kd.V Kd.string 9 w' w.heap.size (fun k_ => ((P0_0_ k_ ∨ P0_1_ k_) ∨ w.heap.size ≤ k_)) (.slice A ys.length c) ys := fun w' A c ys hR =>
    Kd.V_mk (Kd.R_reads' hR).2.1 (Kd.R_F (Kd.R_mono (Kd.R_bound hR) (fun k hk => .inr hk.2.1)))
  have hr0 := Kd.V_reads' hs0_0
  have hr1 := Kd.V_reads' hs0_1
  unfold net_Send.f at h
  cases a1
  · rw [if_neg (by simp)] at h
    by_cases hl : 64 ≤ l0_1.length
    · rw [if_pos hl] at h
      have h2 := Option.some.inj h
      simp only [Prod.mk.injEq] at h2
      obtain ⟨rfl, rfl⟩ := h2
      exact (send_full_down _ _ _ _ _ _ _ _ hl).mono stay
    · rw [if_neg hl] at h
      have h2 := Option.some.inj h
      simp only [Prod.mk.injEq] at h2
      obtain ⟨rfl, rfl⟩ := h2
      refine (send_down A0_0 _ c0_0 A0_1 c0_1 a2 l0_1 w hr1.2.2 (by omega)).mono ?_
      rintro e w' ⟨v, rfl, hR, hb⟩
      obtain ⟨A, c, rfl⟩ := Kd.R_slice hR
      exact ⟨_, _, rfl, Kd.V_mono (Kd.V_below hs0_0 hb) (fun _ hk => .inl (.inl hk)), fresh _ _ _ _ hR, hb⟩
  · rw [if_pos rfl] at h
    by_cases hl : 64 ≤ l0_0.length
    · rw [if_pos hl] at h
      have h2 := Option.some.inj h
      simp only [Prod.mk.injEq] at h2
      obtain ⟨rfl, rfl⟩ := h2
      exact (send_full_up _ _ _ _ _ _ _ _ hl).mono stay
    · rw [if_neg hl] at h
      have h2 := Option.some.inj h
      simp only [Prod.mk.injEq] at h2
      obtain ⟨rfl, rfl⟩ := h2
      refine (send_up A0_0 c0_0 A0_1 _ c0_1 a2 l0_0 w hr0.2.2 (by omega)).mono ?_
      rintro e w' ⟨v, rfl, hR, hb⟩
      obtain ⟨A, c, rfl⟩ := Kd.R_slice hR
      exact ⟨_, _, rfl, fresh _ _ _ _ hR, Kd.V_mono (Kd.V_below hs0_1 hb) (fun _ hk => .inl (.inr hk)), hb⟩
end Go.Proofs.Ytcefnaacnilojaa.Q
