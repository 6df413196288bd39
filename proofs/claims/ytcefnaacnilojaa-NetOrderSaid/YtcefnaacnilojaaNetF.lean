/- Layer 19, walked: a text doubled (written by net/netf.py). -/
import Derived.Test.YtcefnaacnilojaaNetE
set_option linter.unusedVariables false
set_option linter.unusedSimpArgs false
namespace Go.Proofs.Ytcefnaacnilojaa.Q
open Go.RowKit Go.Shelf Go.Proofs.YtcefnaacnilojaaW.PrintWords Go.Proofs.YtcefnaacnilojaaW.PrintLast Go.Proofs.YtcefnaacnilojaaW.PrintMore Math

set_option maxRecDepth 100000 in
set_option maxHeartbeats 4000000 in
theorem twice_out_up (A0 : Option Addr) (c0 : Nat) (A1 : Option Addr) (n1 c1 : Nat) (i : Int) (s : ByteArray) (xs : List ByteArray) (w : World) (hr : Kd.C Kd.string w A0 xs.length xs) (hcap : xs.length ≤ c0) 
    (hmem : T.net_member_string.f xs i = some (s, false)) :
    Calls Try.prog 13 #[.agg #[.slice A0 xs.length c0, .slice A1 n1 c1], .bool true, .int .i64 i] w fun e w' => e = .returned (.tuple #[.agg #[.slice A0 xs.length c0, .slice A1 n1 c1], .bool false]) ∧ Below w.heap.size w w' := by
  have hmc : ∀ V, Below w.heap.size w V → Calls Try.prog 17 #[.slice A0 xs.length c0, .int .i64 i] V fun e w' => e = .returned (.tuple #[.string s, .bool false]) ∧ Drawn0 V w' := fun V hV =>
    T.net_member_string.calls A0 c0 xs i s false V (Kd.C_below hr hV) hcap hmem
  have hrow : ∀ V, Calls Try.prog 18 #[.agg #[.slice A0 xs.length c0, .slice A1 n1 c1], .bool true] V fun e w' => e = .returned (.slice A0 xs.length c0) ∧ Below V.heap.size V w' := fun V => net_row_calls A0 xs.length c0 A1 n1 c1 true V
  obtain ⟨W2, hW2⟩ : ∃ W2, W2 = (w.alloc (.cells #[.slice A0 xs.length c0, .slice A1 n1 c1] 24)).alloc (.cells #[.slice none 0 0, .slice none 0 0] 24) := ⟨_, rfl⟩
  have hB2 : Below w.heap.size w W2 := by rw [hW2]; exact ((Below.refl _ w).alloc (Nat.le_refl _) _).alloc (by rw [World.size_alloc]; omega) _
  have z2 : W2.heap.size = w.heap.size + 2 := by rw [hW2, World.size_alloc, World.size_alloc]
  have hn2 : Box2 W2 w.heap.size (.slice A0 xs.length c0) (.slice A1 n1 c1) := by
    rw [hW2]; exact (heap_alloc_old _ _ (by rw [World.size_alloc]; omega)).trans (heap_alloc_new _ _)
  have hx2 : Box2 W2 (w.heap.size + 1) (.slice none 0 0) (.slice none 0 0) := by
    have h := heap_alloc_new (w.alloc (.cells #[.slice A0 xs.length c0, .slice A1 n1 c1] 24)) (.cells #[.slice none 0 0, .slice none 0 0] 24)
    rw [World.size_alloc] at h
    rw [hW2]; exact h
  have HI := Lib.hid (hrow W2)
  have HR := Lib.hid hr; have HMEM := Lib.hid hmc; have HROW := Lib.hid hrow; have HB2 := Lib.hid hB2; have HN2 := Lib.hid hn2; have HX2 := Lib.hid hx2; have HZ2 := Lib.hid z2
  rw [hW2] at HI
  have HW2 := Lib.hid hW2
  clear hr hmc hrow hB2 hn2 hx2 z2 hW2 hmem
  go_enter Try.func13, Try.ntmps13
  go_wp2_with fail
  refine HI.out.mono ?_
  rw [← HW2.out]
  rintro e w3 ⟨rfl, hb3⟩
  have h2 := HZ2.out
  have HB3 := Lib.hid (HB2.out.trans (hb3.mono (by omega)))
  have HN3 := Lib.hid (HN2.out.below hb3 (by omega)); have HX3 := Lib.hid (HX2.out.below hb3 (by omega)); have HZ3 := Lib.hid (show w.heap.size + 2 ≤ w3.heap.size by have := hb3.size; omega)
  clear hb3 h2
  go_wp2_with fail
  refine (HMEM.out _ HB3.out).mono ?_
  rintro e w4 ⟨rfl, q, rfl⟩
  have HB4 := Lib.hid (pw_below_drewN HB3.out q)
  obtain ⟨q0, q1, _, _⟩ := (show Box2 (w3.drewN q) w.heap.size _ _ from HN3.out).cells
  obtain ⟨x0, x1, x2, x3⟩ := (show Box2 (w3.drewN q) (w.heap.size + 1) _ _ from HX3.out).cells
  have HN4 : Hid (Box2 (w3.drewN q) w.heap.size (.slice A0 xs.length c0) (.slice A1 n1 c1)) := Lib.hid HN3.out
  have HX4 : Hid (Box2 (w3.drewN q) (w.heap.size + 1) (.slice none 0 0) (.slice none 0 0)) := Lib.hid HX3.out
  have HZ4 : Hid (w.heap.size + 2 ≤ (w3.drewN q).heap.size) := Lib.hid HZ3.out
  generalize w3.drewN q = w4 at *
  go_wp2_with fail
  refine bodyPost_ret (v := .tuple #[.agg #[.slice A0 xs.length c0, .slice A1 n1 c1], .bool false]) (by simp [results, Try.results13, go_sem, x0, x1]) rfl ⟨rfl, ?_⟩
  exact (HB4.out.setCell (p := ⟨w.heap.size + 1, 0, none⟩) (show w.heap.size ≤ w.heap.size + 1 by omega) _).setCell (p := ⟨w.heap.size + 1, 1, none⟩) (show w.heap.size ≤ w.heap.size + 1 by omega) _
set_option maxRecDepth 100000 in
set_option maxHeartbeats 4000000 in
theorem twice_out_down (A0 : Option Addr) (n0 c0 : Nat) (A1 : Option Addr) (c1 : Nat) (i : Int) (s : ByteArray) (xs : List ByteArray) (w : World) (hr : Kd.C Kd.string w A1 xs.length xs) (hcap : xs.length ≤ c1) 
    (hmem : T.net_member_string.f xs i = some (s, false)) :
    Calls Try.prog 13 #[.agg #[.slice A0 n0 c0, .slice A1 xs.length c1], .bool false, .int .i64 i] w fun e w' => e = .returned (.tuple #[.agg #[.slice A0 n0 c0, .slice A1 xs.length c1], .bool false]) ∧ Below w.heap.size w w' := by
  have hmc : ∀ V, Below w.heap.size w V → Calls Try.prog 17 #[.slice A1 xs.length c1, .int .i64 i] V fun e w' => e = .returned (.tuple #[.string s, .bool false]) ∧ Drawn0 V w' := fun V hV =>
    T.net_member_string.calls A1 c1 xs i s false V (Kd.C_below hr hV) hcap hmem
  have hrow : ∀ V, Calls Try.prog 18 #[.agg #[.slice A0 n0 c0, .slice A1 xs.length c1], .bool false] V fun e w' => e = .returned (.slice A1 xs.length c1) ∧ Below V.heap.size V w' := fun V => net_row_calls A0 n0 c0 A1 xs.length c1 false V
  obtain ⟨W2, hW2⟩ : ∃ W2, W2 = (w.alloc (.cells #[.slice A0 n0 c0, .slice A1 xs.length c1] 24)).alloc (.cells #[.slice none 0 0, .slice none 0 0] 24) := ⟨_, rfl⟩
  have hB2 : Below w.heap.size w W2 := by rw [hW2]; exact ((Below.refl _ w).alloc (Nat.le_refl _) _).alloc (by rw [World.size_alloc]; omega) _
  have z2 : W2.heap.size = w.heap.size + 2 := by rw [hW2, World.size_alloc, World.size_alloc]
  have hn2 : Box2 W2 w.heap.size (.slice A0 n0 c0) (.slice A1 xs.length c1) := by
    rw [hW2]; exact (heap_alloc_old _ _ (by rw [World.size_alloc]; omega)).trans (heap_alloc_new _ _)
  have hx2 : Box2 W2 (w.heap.size + 1) (.slice none 0 0) (.slice none 0 0) := by
    have h := heap_alloc_new (w.alloc (.cells #[.slice A0 n0 c0, .slice A1 xs.length c1] 24)) (.cells #[.slice none 0 0, .slice none 0 0] 24)
    rw [World.size_alloc] at h
    rw [hW2]; exact h
  have HI := Lib.hid (hrow W2)
  have HR := Lib.hid hr; have HMEM := Lib.hid hmc; have HROW := Lib.hid hrow; have HB2 := Lib.hid hB2; have HN2 := Lib.hid hn2; have HX2 := Lib.hid hx2; have HZ2 := Lib.hid z2
  rw [hW2] at HI
  have HW2 := Lib.hid hW2
  clear hr hmc hrow hB2 hn2 hx2 z2 hW2 hmem
  go_enter Try.func13, Try.ntmps13
  go_wp2_with fail
  refine HI.out.mono ?_
  rw [← HW2.out]
  rintro e w3 ⟨rfl, hb3⟩
  have h2 := HZ2.out
  have HB3 := Lib.hid (HB2.out.trans (hb3.mono (by omega)))
  have HN3 := Lib.hid (HN2.out.below hb3 (by omega)); have HX3 := Lib.hid (HX2.out.below hb3 (by omega)); have HZ3 := Lib.hid (show w.heap.size + 2 ≤ w3.heap.size by have := hb3.size; omega)
  clear hb3 h2
  go_wp2_with fail
  refine (HMEM.out _ HB3.out).mono ?_
  rintro e w4 ⟨rfl, q, rfl⟩
  have HB4 := Lib.hid (pw_below_drewN HB3.out q)
  obtain ⟨q0, q1, _, _⟩ := (show Box2 (w3.drewN q) w.heap.size _ _ from HN3.out).cells
  obtain ⟨x0, x1, x2, x3⟩ := (show Box2 (w3.drewN q) (w.heap.size + 1) _ _ from HX3.out).cells
  have HN4 : Hid (Box2 (w3.drewN q) w.heap.size (.slice A0 n0 c0) (.slice A1 xs.length c1)) := Lib.hid HN3.out
  have HX4 : Hid (Box2 (w3.drewN q) (w.heap.size + 1) (.slice none 0 0) (.slice none 0 0)) := Lib.hid HX3.out
  have HZ4 : Hid (w.heap.size + 2 ≤ (w3.drewN q).heap.size) := Lib.hid HZ3.out
  generalize w3.drewN q = w4 at *
  go_wp2_with fail
  refine bodyPost_ret (v := .tuple #[.agg #[.slice A0 n0 c0, .slice A1 xs.length c1], .bool false]) (by simp [results, Try.results13, go_sem, x0, x1]) rfl ⟨rfl, ?_⟩
  exact (HB4.out.setCell (p := ⟨w.heap.size + 1, 0, none⟩) (show w.heap.size ≤ w.heap.size + 1 by omega) _).setCell (p := ⟨w.heap.size + 1, 1, none⟩) (show w.heap.size ≤ w.heap.size + 1 by omega) _
set_option maxRecDepth 100000 in
set_option maxHeartbeats 4000000 in
theorem twice_full_up (A0 : Option Addr) (c0 : Nat) (A1 : Option Addr) (n1 c1 : Nat) (i : Int) (s : ByteArray) (xs : List ByteArray) (w : World) (hr : Kd.C Kd.string w A0 xs.length xs) (hcap : xs.length ≤ c0) (hm : 64 ≤ xs.length)
    (hmem : T.net_member_string.f xs i = some (s, true)) :
    Calls Try.prog 13 #[.agg #[.slice A0 xs.length c0, .slice A1 n1 c1], .bool true, .int .i64 i] w fun e w' => e = .returned (.tuple #[.agg #[.slice A0 xs.length c0, .slice A1 n1 c1], .bool false]) ∧ Below w.heap.size w w' := by
  have hd : decide (64 ≤ xs.length) = true := decide_eq_true (by omega)
  have hdz : decide ((64 : Int) ≤ (xs.length : Int)) = true := decide_eq_true (by omega)
  have hmc : ∀ V, Below w.heap.size w V → Calls Try.prog 17 #[.slice A0 xs.length c0, .int .i64 i] V fun e w' => e = .returned (.tuple #[.string s, .bool true]) ∧ Drawn0 V w' := fun V hV =>
    T.net_member_string.calls A0 c0 xs i s true V (Kd.C_below hr hV) hcap hmem
  have hrow : ∀ V, Calls Try.prog 18 #[.agg #[.slice A0 xs.length c0, .slice A1 n1 c1], .bool true] V fun e w' => e = .returned (.slice A0 xs.length c0) ∧ Below V.heap.size V w' := fun V => net_row_calls A0 xs.length c0 A1 n1 c1 true V
  obtain ⟨W2, hW2⟩ : ∃ W2, W2 = (w.alloc (.cells #[.slice A0 xs.length c0, .slice A1 n1 c1] 24)).alloc (.cells #[.slice none 0 0, .slice none 0 0] 24) := ⟨_, rfl⟩
  have hB2 : Below w.heap.size w W2 := by rw [hW2]; exact ((Below.refl _ w).alloc (Nat.le_refl _) _).alloc (by rw [World.size_alloc]; omega) _
  have z2 : W2.heap.size = w.heap.size + 2 := by rw [hW2, World.size_alloc, World.size_alloc]
  have hn2 : Box2 W2 w.heap.size (.slice A0 xs.length c0) (.slice A1 n1 c1) := by
    rw [hW2]; exact (heap_alloc_old _ _ (by rw [World.size_alloc]; omega)).trans (heap_alloc_new _ _)
  have hx2 : Box2 W2 (w.heap.size + 1) (.slice none 0 0) (.slice none 0 0) := by
    have h := heap_alloc_new (w.alloc (.cells #[.slice A0 xs.length c0, .slice A1 n1 c1] 24)) (.cells #[.slice none 0 0, .slice none 0 0] 24)
    rw [World.size_alloc] at h
    rw [hW2]; exact h
  have HI := Lib.hid (hrow W2)
  have HR := Lib.hid hr; have HMEM := Lib.hid hmc; have HROW := Lib.hid hrow; have HB2 := Lib.hid hB2; have HN2 := Lib.hid hn2; have HX2 := Lib.hid hx2; have HZ2 := Lib.hid z2
  rw [hW2] at HI
  have HW2 := Lib.hid hW2
  clear hr hmc hrow hB2 hn2 hx2 z2 hW2 hmem
  go_enter Try.func13, Try.ntmps13
  go_wp2_with fail
  refine HI.out.mono ?_
  rw [← HW2.out]
  rintro e w3 ⟨rfl, hb3⟩
  have h2 := HZ2.out
  have HB3 := Lib.hid (HB2.out.trans (hb3.mono (by omega)))
  have HN3 := Lib.hid (HN2.out.below hb3 (by omega)); have HX3 := Lib.hid (HX2.out.below hb3 (by omega)); have HZ3 := Lib.hid (show w.heap.size + 2 ≤ w3.heap.size by have := hb3.size; omega)
  clear hb3 h2
  go_wp2_with fail
  refine (HMEM.out _ HB3.out).mono ?_
  rintro e w4 ⟨rfl, q, rfl⟩
  have HB4 := Lib.hid (pw_below_drewN HB3.out q)
  obtain ⟨q0, q1, _, _⟩ := (show Box2 (w3.drewN q) w.heap.size _ _ from HN3.out).cells
  obtain ⟨x0, x1, x2, x3⟩ := (show Box2 (w3.drewN q) (w.heap.size + 1) _ _ from HX3.out).cells
  have HN4 : Hid (Box2 (w3.drewN q) w.heap.size (.slice A0 xs.length c0) (.slice A1 n1 c1)) := Lib.hid HN3.out
  have HX4 : Hid (Box2 (w3.drewN q) (w.heap.size + 1) (.slice none 0 0) (.slice none 0 0)) := Lib.hid HX3.out
  have HZ4 : Hid (w.heap.size + 2 ≤ (w3.drewN q).heap.size) := Lib.hid HZ3.out
  generalize w3.drewN q = w4 at *
  go_wp2_with fail
  refine (HROW.out _).mono ?_
  rintro e w5 ⟨rfl, hb5⟩
  have h4 := HZ4.out
  have HB5 := Lib.hid (HB4.out.trans (hb5.mono (by omega)))
  have HN5 := Lib.hid (HN4.out.below hb5 (by omega)); have HX5 := Lib.hid (HX4.out.below hb5 (by omega)); have HZ5 := Lib.hid (show w.heap.size + 2 ≤ w5.heap.size by have := hb5.size; omega)
  clear hb5 h4 q0 q1 x0 x1 x2 x3
  obtain ⟨q0, q1, _, _⟩ := HN5.out.cells
  obtain ⟨x0, x1, x2, x3⟩ := HX5.out.cells
  go_wp2_with fail
  refine bodyPost_ret (v := .tuple #[.agg #[.slice A0 xs.length c0, .slice A1 n1 c1], .bool false]) (by simp [results, Try.results13, go_sem, x0, x1]) rfl ⟨rfl, ?_⟩
  exact (HB5.out.setCell (p := ⟨w.heap.size + 1, 0, none⟩) (show w.heap.size ≤ w.heap.size + 1 by omega) _).setCell (p := ⟨w.heap.size + 1, 1, none⟩) (show w.heap.size ≤ w.heap.size + 1 by omega) _
set_option maxRecDepth 100000 in
set_option maxHeartbeats 4000000 in
theorem twice_full_down (A0 : Option Addr) (n0 c0 : Nat) (A1 : Option Addr) (c1 : Nat) (i : Int) (s : ByteArray) (xs : List ByteArray) (w : World) (hr : Kd.C Kd.string w A1 xs.length xs) (hcap : xs.length ≤ c1) (hm : 64 ≤ xs.length)
    (hmem : T.net_member_string.f xs i = some (s, true)) :
    Calls Try.prog 13 #[.agg #[.slice A0 n0 c0, .slice A1 xs.length c1], .bool false, .int .i64 i] w fun e w' => e = .returned (.tuple #[.agg #[.slice A0 n0 c0, .slice A1 xs.length c1], .bool false]) ∧ Below w.heap.size w w' := by
  have hd : decide (64 ≤ xs.length) = true := decide_eq_true (by omega)
  have hdz : decide ((64 : Int) ≤ (xs.length : Int)) = true := decide_eq_true (by omega)
  have hmc : ∀ V, Below w.heap.size w V → Calls Try.prog 17 #[.slice A1 xs.length c1, .int .i64 i] V fun e w' => e = .returned (.tuple #[.string s, .bool true]) ∧ Drawn0 V w' := fun V hV =>
    T.net_member_string.calls A1 c1 xs i s true V (Kd.C_below hr hV) hcap hmem
  have hrow : ∀ V, Calls Try.prog 18 #[.agg #[.slice A0 n0 c0, .slice A1 xs.length c1], .bool false] V fun e w' => e = .returned (.slice A1 xs.length c1) ∧ Below V.heap.size V w' := fun V => net_row_calls A0 n0 c0 A1 xs.length c1 false V
  obtain ⟨W2, hW2⟩ : ∃ W2, W2 = (w.alloc (.cells #[.slice A0 n0 c0, .slice A1 xs.length c1] 24)).alloc (.cells #[.slice none 0 0, .slice none 0 0] 24) := ⟨_, rfl⟩
  have hB2 : Below w.heap.size w W2 := by rw [hW2]; exact ((Below.refl _ w).alloc (Nat.le_refl _) _).alloc (by rw [World.size_alloc]; omega) _
  have z2 : W2.heap.size = w.heap.size + 2 := by rw [hW2, World.size_alloc, World.size_alloc]
  have hn2 : Box2 W2 w.heap.size (.slice A0 n0 c0) (.slice A1 xs.length c1) := by
    rw [hW2]; exact (heap_alloc_old _ _ (by rw [World.size_alloc]; omega)).trans (heap_alloc_new _ _)
  have hx2 : Box2 W2 (w.heap.size + 1) (.slice none 0 0) (.slice none 0 0) := by
    have h := heap_alloc_new (w.alloc (.cells #[.slice A0 n0 c0, .slice A1 xs.length c1] 24)) (.cells #[.slice none 0 0, .slice none 0 0] 24)
    rw [World.size_alloc] at h
    rw [hW2]; exact h
  have HI := Lib.hid (hrow W2)
  have HR := Lib.hid hr; have HMEM := Lib.hid hmc; have HROW := Lib.hid hrow; have HB2 := Lib.hid hB2; have HN2 := Lib.hid hn2; have HX2 := Lib.hid hx2; have HZ2 := Lib.hid z2
  rw [hW2] at HI
  have HW2 := Lib.hid hW2
  clear hr hmc hrow hB2 hn2 hx2 z2 hW2 hmem
  go_enter Try.func13, Try.ntmps13
  go_wp2_with fail
  refine HI.out.mono ?_
  rw [← HW2.out]
  rintro e w3 ⟨rfl, hb3⟩
  have h2 := HZ2.out
  have HB3 := Lib.hid (HB2.out.trans (hb3.mono (by omega)))
  have HN3 := Lib.hid (HN2.out.below hb3 (by omega)); have HX3 := Lib.hid (HX2.out.below hb3 (by omega)); have HZ3 := Lib.hid (show w.heap.size + 2 ≤ w3.heap.size by have := hb3.size; omega)
  clear hb3 h2
  go_wp2_with fail
  refine (HMEM.out _ HB3.out).mono ?_
  rintro e w4 ⟨rfl, q, rfl⟩
  have HB4 := Lib.hid (pw_below_drewN HB3.out q)
  obtain ⟨q0, q1, _, _⟩ := (show Box2 (w3.drewN q) w.heap.size _ _ from HN3.out).cells
  obtain ⟨x0, x1, x2, x3⟩ := (show Box2 (w3.drewN q) (w.heap.size + 1) _ _ from HX3.out).cells
  have HN4 : Hid (Box2 (w3.drewN q) w.heap.size (.slice A0 n0 c0) (.slice A1 xs.length c1)) := Lib.hid HN3.out
  have HX4 : Hid (Box2 (w3.drewN q) (w.heap.size + 1) (.slice none 0 0) (.slice none 0 0)) := Lib.hid HX3.out
  have HZ4 : Hid (w.heap.size + 2 ≤ (w3.drewN q).heap.size) := Lib.hid HZ3.out
  generalize w3.drewN q = w4 at *
  go_wp2_with fail
  refine (HROW.out _).mono ?_
  rintro e w5 ⟨rfl, hb5⟩
  have h4 := HZ4.out
  have HB5 := Lib.hid (HB4.out.trans (hb5.mono (by omega)))
  have HN5 := Lib.hid (HN4.out.below hb5 (by omega)); have HX5 := Lib.hid (HX4.out.below hb5 (by omega)); have HZ5 := Lib.hid (show w.heap.size + 2 ≤ w5.heap.size by have := hb5.size; omega)
  clear hb5 h4 q0 q1 x0 x1 x2 x3
  obtain ⟨q0, q1, _, _⟩ := HN5.out.cells
  obtain ⟨x0, x1, x2, x3⟩ := HX5.out.cells
  go_wp2_with fail
  refine bodyPost_ret (v := .tuple #[.agg #[.slice A0 n0 c0, .slice A1 xs.length c1], .bool false]) (by simp [results, Try.results13, go_sem, x0, x1]) rfl ⟨rfl, ?_⟩
  exact (HB5.out.setCell (p := ⟨w.heap.size + 1, 0, none⟩) (show w.heap.size ≤ w.heap.size + 1 by omega) _).setCell (p := ⟨w.heap.size + 1, 1, none⟩) (show w.heap.size ≤ w.heap.size + 1 by omega) _
set_option maxRecDepth 100000 in
set_option maxHeartbeats 4000000 in
theorem twice_in_up (A0 : Option Addr) (c0 : Nat) (A1 : Option Addr) (n1 c1 : Nat) (i : Int) (s : ByteArray) (xs : List ByteArray) (w : World) (hr : Kd.C Kd.string w A0 xs.length xs) (hcap : xs.length ≤ c0) (hm : xs.length < 64)
    (hmem : T.net_member_string.f xs i = some (s, true)) :
    Calls Try.prog 13 #[.agg #[.slice A0 xs.length c0, .slice A1 n1 c1], .bool true, .int .i64 i] w fun e w' => ∃ v, e = .returned (.tuple #[.agg #[v, .slice A1 n1 c1], .bool true]) ∧ Kd.R Kd.string 9 w' w.heap.size (fun _ => True) v (xs ++ [s]) ∧ Below w.heap.size w w' := by
  have hd : decide (64 ≤ xs.length) = false := decide_eq_false (by omega)
  have hdz : decide ((64 : Int) ≤ (xs.length : Int)) = false := decide_eq_false (by omega)
  have hmc : ∀ V, Below w.heap.size w V → Calls Try.prog 17 #[.slice A0 xs.length c0, .int .i64 i] V fun e w' => e = .returned (.tuple #[.string s, .bool true]) ∧ Drawn0 V w' := fun V hV =>
    T.net_member_string.calls A0 c0 xs i s true V (Kd.C_below hr hV) hcap hmem
  have hrow : ∀ V, Calls Try.prog 18 #[.agg #[.slice A0 xs.length c0, .slice A1 n1 c1], .bool true] V fun e w' => e = .returned (.slice A0 xs.length c0) ∧ Below V.heap.size V w' := fun V => net_row_calls A0 xs.length c0 A1 n1 c1 true V
  obtain ⟨W2, hW2⟩ : ∃ W2, W2 = (w.alloc (.cells #[.slice A0 xs.length c0, .slice A1 n1 c1] 24)).alloc (.cells #[.slice none 0 0, .slice none 0 0] 24) := ⟨_, rfl⟩
  have hB2 : Below w.heap.size w W2 := by rw [hW2]; exact ((Below.refl _ w).alloc (Nat.le_refl _) _).alloc (by rw [World.size_alloc]; omega) _
  have z2 : W2.heap.size = w.heap.size + 2 := by rw [hW2, World.size_alloc, World.size_alloc]
  have hn2 : Box2 W2 w.heap.size (.slice A0 xs.length c0) (.slice A1 n1 c1) := by
    rw [hW2]; exact (heap_alloc_old _ _ (by rw [World.size_alloc]; omega)).trans (heap_alloc_new _ _)
  have hx2 : Box2 W2 (w.heap.size + 1) (.slice none 0 0) (.slice none 0 0) := by
    have h := heap_alloc_new (w.alloc (.cells #[.slice A0 xs.length c0, .slice A1 n1 c1] 24)) (.cells #[.slice none 0 0, .slice none 0 0] 24)
    rw [World.size_alloc] at h
    rw [hW2]; exact h
  have HI := Lib.hid (hrow W2)
  have HR := Lib.hid hr; have HMEM := Lib.hid hmc; have HROW := Lib.hid hrow; have HB2 := Lib.hid hB2; have HN2 := Lib.hid hn2; have HX2 := Lib.hid hx2; have HZ2 := Lib.hid z2
  rw [hW2] at HI
  have HW2 := Lib.hid hW2
  clear hr hmc hrow hB2 hn2 hx2 z2 hW2 hmem
  go_enter Try.func13, Try.ntmps13
  go_wp2_with fail
  refine HI.out.mono ?_
  rw [← HW2.out]
  rintro e w3 ⟨rfl, hb3⟩
  have h2 := HZ2.out
  have HB3 := Lib.hid (HB2.out.trans (hb3.mono (by omega)))
  have HN3 := Lib.hid (HN2.out.below hb3 (by omega)); have HX3 := Lib.hid (HX2.out.below hb3 (by omega)); have HZ3 := Lib.hid (show w.heap.size + 2 ≤ w3.heap.size by have := hb3.size; omega)
  clear hb3 h2
  go_wp2_with fail
  refine (HMEM.out _ HB3.out).mono ?_
  rintro e w4 ⟨rfl, q, rfl⟩
  have HB4 := Lib.hid (pw_below_drewN HB3.out q)
  obtain ⟨q0, q1, _, _⟩ := (show Box2 (w3.drewN q) w.heap.size _ _ from HN3.out).cells
  obtain ⟨x0, x1, x2, x3⟩ := (show Box2 (w3.drewN q) (w.heap.size + 1) _ _ from HX3.out).cells
  have HN4 : Hid (Box2 (w3.drewN q) w.heap.size (.slice A0 xs.length c0) (.slice A1 n1 c1)) := Lib.hid HN3.out
  have HX4 : Hid (Box2 (w3.drewN q) (w.heap.size + 1) (.slice none 0 0) (.slice none 0 0)) := Lib.hid HX3.out
  have HZ4 : Hid (w.heap.size + 2 ≤ (w3.drewN q).heap.size) := Lib.hid HZ3.out
  generalize w3.drewN q = w4 at *
  go_wp2_with fail
  refine (HROW.out _).mono ?_
  rintro e w5 ⟨rfl, hb5⟩
  have h4 := HZ4.out
  have HB5 := Lib.hid (HB4.out.trans (hb5.mono (by omega)))
  have HN5 := Lib.hid (HN4.out.below hb5 (by omega)); have HX5 := Lib.hid (HX4.out.below hb5 (by omega)); have HZ5 := Lib.hid (show w.heap.size + 2 ≤ w5.heap.size by have := hb5.size; omega)
  clear hb5 h4 q0 q1 x0 x1 x2 x3
  obtain ⟨q0, q1, _, _⟩ := HN5.out.cells
  obtain ⟨x0, x1, x2, x3⟩ := HX5.out.cells
  go_wp2_with fail
  refine (send_up A0 c0 A1 n1 c1 s xs w5 (Kd.C_below HR.out HB5.out) (by omega)).mono ?_
  rintro e w6 ⟨v, rfl, hR, hb6⟩
  obtain ⟨A, c, rfl⟩ := Kd.R_slice hR
  have h5 := HZ5.out
  have HB6 := Lib.hid (HB5.out.trans (hb6.mono (by omega)))
  have HX6 := Lib.hid (HX5.out.below hb6 (by omega))
  have HR6 := Lib.hid hR
  clear hR hb6 q0 q1 x0 x1 x2 x3
  obtain ⟨x0, x1, x2, x3⟩ := HX6.out.cells
  go_wp2_with fail
  refine bodyPost_ret (v := .tuple #[.agg #[.slice A (xs ++ [s]).length c, .slice A1 n1 c1], .bool true]) (by simp [results, Try.results13, go_sem, x0, x1]) rfl ⟨.slice A (xs ++ [s]).length c, by first | rfl | (simp; done), ?_, ?_⟩
  · exact Kd.R_mono (Kd.R_lower (Kd.R_far (Kd.R_far (Kd.R_bound HR6.out) (fun k hk => by have := hk.2.1; show k ≠ w.heap.size + 1; omega) _) (fun k hk => by have := hk.2.1; show k ≠ w.heap.size + 1; omega) _) (by omega)) (fun _ _ => trivial)
  · exact (HB6.out.setCell (p := ⟨w.heap.size + 1, 0, none⟩) (show w.heap.size ≤ w.heap.size + 1 by omega) _).setCell (p := ⟨w.heap.size + 1, 1, none⟩) (show w.heap.size ≤ w.heap.size + 1 by omega) _
set_option maxRecDepth 100000 in
set_option maxHeartbeats 4000000 in
theorem twice_in_down (A0 : Option Addr) (n0 c0 : Nat) (A1 : Option Addr) (c1 : Nat) (i : Int) (s : ByteArray) (xs : List ByteArray) (w : World) (hr : Kd.C Kd.string w A1 xs.length xs) (hcap : xs.length ≤ c1) (hm : xs.length < 64)
    (hmem : T.net_member_string.f xs i = some (s, true)) :
    Calls Try.prog 13 #[.agg #[.slice A0 n0 c0, .slice A1 xs.length c1], .bool false, .int .i64 i] w fun e w' => ∃ v, e = .returned (.tuple #[.agg #[.slice A0 n0 c0, v], .bool true]) ∧ Kd.R Kd.string 9 w' w.heap.size (fun _ => True) v (xs ++ [s]) ∧ Below w.heap.size w w' := by
  have hd : decide (64 ≤ xs.length) = false := decide_eq_false (by omega)
  have hdz : decide ((64 : Int) ≤ (xs.length : Int)) = false := decide_eq_false (by omega)
  have hmc : ∀ V, Below w.heap.size w V → Calls Try.prog 17 #[.slice A1 xs.length c1, .int .i64 i] V fun e w' => e = .returned (.tuple #[.string s, .bool true]) ∧ Drawn0 V w' := fun V hV =>
    T.net_member_string.calls A1 c1 xs i s true V (Kd.C_below hr hV) hcap hmem
  have hrow : ∀ V, Calls Try.prog 18 #[.agg #[.slice A0 n0 c0, .slice A1 xs.length c1], .bool false] V fun e w' => e = .returned (.slice A1 xs.length c1) ∧ Below V.heap.size V w' := fun V => net_row_calls A0 n0 c0 A1 xs.length c1 false V
  obtain ⟨W2, hW2⟩ : ∃ W2, W2 = (w.alloc (.cells #[.slice A0 n0 c0, .slice A1 xs.length c1] 24)).alloc (.cells #[.slice none 0 0, .slice none 0 0] 24) := ⟨_, rfl⟩
  have hB2 : Below w.heap.size w W2 := by rw [hW2]; exact ((Below.refl _ w).alloc (Nat.le_refl _) _).alloc (by rw [World.size_alloc]; omega) _
  have z2 : W2.heap.size = w.heap.size + 2 := by rw [hW2, World.size_alloc, World.size_alloc]
  have hn2 : Box2 W2 w.heap.size (.slice A0 n0 c0) (.slice A1 xs.length c1) := by
    rw [hW2]; exact (heap_alloc_old _ _ (by rw [World.size_alloc]; omega)).trans (heap_alloc_new _ _)
  have hx2 : Box2 W2 (w.heap.size + 1) (.slice none 0 0) (.slice none 0 0) := by
    have h := heap_alloc_new (w.alloc (.cells #[.slice A0 n0 c0, .slice A1 xs.length c1] 24)) (.cells #[.slice none 0 0, .slice none 0 0] 24)
    rw [World.size_alloc] at h
    rw [hW2]; exact h
  have HI := Lib.hid (hrow W2)
  have HR := Lib.hid hr; have HMEM := Lib.hid hmc; have HROW := Lib.hid hrow; have HB2 := Lib.hid hB2; have HN2 := Lib.hid hn2; have HX2 := Lib.hid hx2; have HZ2 := Lib.hid z2
  rw [hW2] at HI
  have HW2 := Lib.hid hW2
  clear hr hmc hrow hB2 hn2 hx2 z2 hW2 hmem
  go_enter Try.func13, Try.ntmps13
  go_wp2_with fail
  refine HI.out.mono ?_
  rw [← HW2.out]
  rintro e w3 ⟨rfl, hb3⟩
  have h2 := HZ2.out
  have HB3 := Lib.hid (HB2.out.trans (hb3.mono (by omega)))
  have HN3 := Lib.hid (HN2.out.below hb3 (by omega)); have HX3 := Lib.hid (HX2.out.below hb3 (by omega)); have HZ3 := Lib.hid (show w.heap.size + 2 ≤ w3.heap.size by have := hb3.size; omega)
  clear hb3 h2
  go_wp2_with fail
  refine (HMEM.out _ HB3.out).mono ?_
  rintro e w4 ⟨rfl, q, rfl⟩
  have HB4 := Lib.hid (pw_below_drewN HB3.out q)
  obtain ⟨q0, q1, _, _⟩ := (show Box2 (w3.drewN q) w.heap.size _ _ from HN3.out).cells
  obtain ⟨x0, x1, x2, x3⟩ := (show Box2 (w3.drewN q) (w.heap.size + 1) _ _ from HX3.out).cells
  have HN4 : Hid (Box2 (w3.drewN q) w.heap.size (.slice A0 n0 c0) (.slice A1 xs.length c1)) := Lib.hid HN3.out
  have HX4 : Hid (Box2 (w3.drewN q) (w.heap.size + 1) (.slice none 0 0) (.slice none 0 0)) := Lib.hid HX3.out
  have HZ4 : Hid (w.heap.size + 2 ≤ (w3.drewN q).heap.size) := Lib.hid HZ3.out
  generalize w3.drewN q = w4 at *
  go_wp2_with fail
  refine (HROW.out _).mono ?_
  rintro e w5 ⟨rfl, hb5⟩
  have h4 := HZ4.out
  have HB5 := Lib.hid (HB4.out.trans (hb5.mono (by omega)))
  have HN5 := Lib.hid (HN4.out.below hb5 (by omega)); have HX5 := Lib.hid (HX4.out.below hb5 (by omega)); have HZ5 := Lib.hid (show w.heap.size + 2 ≤ w5.heap.size by have := hb5.size; omega)
  clear hb5 h4 q0 q1 x0 x1 x2 x3
  obtain ⟨q0, q1, _, _⟩ := HN5.out.cells
  obtain ⟨x0, x1, x2, x3⟩ := HX5.out.cells
  go_wp2_with fail
  refine (send_down A0 n0 c0 A1 c1 s xs w5 (Kd.C_below HR.out HB5.out) (by omega)).mono ?_
  rintro e w6 ⟨v, rfl, hR, hb6⟩
  obtain ⟨A, c, rfl⟩ := Kd.R_slice hR
  have h5 := HZ5.out
  have HB6 := Lib.hid (HB5.out.trans (hb6.mono (by omega)))
  have HX6 := Lib.hid (HX5.out.below hb6 (by omega))
  have HR6 := Lib.hid hR
  clear hR hb6 q0 q1 x0 x1 x2 x3
  obtain ⟨x0, x1, x2, x3⟩ := HX6.out.cells
  go_wp2_with fail
  refine bodyPost_ret (v := .tuple #[.agg #[.slice A0 n0 c0, .slice A (xs ++ [s]).length c], .bool true]) (by simp [results, Try.results13, go_sem, x0, x1]) rfl ⟨.slice A (xs ++ [s]).length c, by first | rfl | (simp; done), ?_, ?_⟩
  · exact Kd.R_mono (Kd.R_lower (Kd.R_far (Kd.R_far (Kd.R_bound HR6.out) (fun k hk => by have := hk.2.1; show k ≠ w.heap.size + 1; omega) _) (fun k hk => by have := hk.2.1; show k ≠ w.heap.size + 1; omega) _) (by omega)) (fun _ _ => trivial)
  · exact (HB6.out.setCell (p := ⟨w.heap.size + 1, 0, none⟩) (show w.heap.size ≤ w.heap.size + 1 by omega) _).setCell (p := ⟨w.heap.size + 1, 1, none⟩) (show w.heap.size ≤ w.heap.size + 1 by omega) _
/-- What Twice answers. -/
def twiceR (l0 l1 : List ByteArray) (up : Bool) (i : Int) : List ByteArray × List ByteArray × Bool :=
  if 0 ≤ i ∧ i < ((if up = true then l0 else l1).length : Int) ∧ (if up = true then l0 else l1).length < 64 then
    (if up = true then l0 ++ [rdOf ByteArray.empty l0 i] else l0, if up = true then l1 else l1 ++ [rdOf ByteArray.empty l1 i], true)
  else (l0, l1, false)
def net_Twice.f (l0_0 l0_1 : List ByteArray) (a1 : Bool) (a2 : Int) : Option (List ByteArray × List ByteArray × Bool) := some (twiceR l0_0 l0_1 a1 a2)
theorem net_Twice.calls (P0_0_ : Nat → Prop) (A0_0 : Option Addr) (c0_0 : Nat) (l0_0 : List ByteArray) (P0_1_ : Nat → Prop) (A0_1 : Option Addr) (c0_1 : Nat) (l0_1 : List ByteArray) (a1 : Bool) (a2 : Int) (r1 r2 : List ByteArray) (r3 : Bool) (w : World) (hs0_0 : Kd.V Kd.string 9 w w.heap.size (fun k_ => P0_0_ k_) (.slice A0_0 l0_0.length c0_0) l0_0) (hs0_1 : Kd.V Kd.string 9 w w.heap.size (fun k_ => P0_1_ k_) (.slice A0_1 l0_1.length c0_1) l0_1) (h : net_Twice.f l0_0 l0_1 a1 a2 = some (r1, r2, r3)) :
    Calls Try.prog 13 #[.agg #[.slice A0_0 l0_0.length c0_0, .slice A0_1 l0_1.length c0_1], .bool a1, .int .i64 a2] w fun e w' => ∃ v0_ v1_ : Value, e = .returned (.tuple #[.agg #[v0_, v1_], .bool r3]) ∧ Kd.V Kd.string 9 w' w.heap.size (fun k_ => ((P0_0_ k_ ∨ P0_1_ k_) ∨ w.heap.size ≤ k_)) v0_ r1 ∧ Kd.V Kd.string 9 w' w.heap.size (fun k_ => ((P0_0_ k_ ∨ P0_1_ k_) ∨ w.heap.size ≤ k_)) v1_ r2 ∧ Below w.heap.size w w' := by
  have stay : ∀ e w', (e = Ending.returned (.tuple #[.agg #[.slice A0_0 l0_0.length c0_0, .slice A0_1 l0_1.length c0_1], .bool false]) ∧ Below w.heap.size w w') → ∃ v0_ v1_ : Value, e = .returned (.tuple #[.agg #[v0_, v1_], .bool false]) ∧ Kd.V Kd.string 9 w' w.heap.size (fun k_ => ((P0_0_ k_ ∨ P0_1_ k_) ∨ w.heap.size ≤ k_)) v0_ l0_0 ∧ Kd.V Kd.string 9 w' w.heap.size (fun k_ => ((P0_0_ k_ ∨ P0_1_ k_) ∨ w.heap.size ≤ k_)) v1_ l0_1 ∧ Below w.heap.size w w' := fun e w' he =>
    ⟨_, _, he.1, Kd.V_mono (Kd.V_below hs0_0 he.2) (fun _ hk => .inl (.inl hk)), Kd.V_mono (Kd.V_below hs0_1 he.2) (fun _ hk => .inl (.inr hk)), he.2⟩
  have fresh : ∀ (w' : World) (A : Option Addr) (c : Nat) (ys : List ByteArray), Kd.R Kd.string 9 w' w.heap.size (fun _ => True) (.slice A ys.length c) ys → Kd.V Kd.string 9 w' w.heap.size (fun k_ => ((P0_0_ k_ ∨ P0_1_ k_) ∨ w.heap.size ≤ k_)) (.slice A ys.length c) ys := fun w' A c ys hR =>
    Kd.V_mk (Kd.R_reads' hR).2.1 (Kd.R_F (Kd.R_mono (Kd.R_bound hR) (fun k hk => .inr hk.2.1)))
  have hr0 := Kd.V_reads' hs0_0
  have hr1 := Kd.V_reads' hs0_1
  have mem : ∀ (xs : List ByteArray) (a2 : Int), (0 ≤ a2 ∧ a2 < (xs.length : Int) → T.net_member_string.f xs a2 = some (rdOf ByteArray.empty xs a2, true)) ∧ (¬ (0 ≤ a2 ∧ a2 < (xs.length : Int)) → T.net_member_string.f xs a2 = some (⟨#[]⟩, false)) := fun xs a2 => ⟨fun hi => by
      unfold T.net_member_string.f; rw [if_neg (by omega), if_neg (by omega), if_pos hi.1, if_pos hi.2], fun hi => by
      unfold T.net_member_string.f
      by_cases a : a2 < 0
      · rw [if_pos a]
      · rw [if_neg a, if_pos (by omega)]⟩
  unfold net_Twice.f at h
  have h2 := Option.some.inj h
  clear h
  unfold twiceR at h2
  cases a1
  · by_cases hi : 0 ≤ a2 ∧ a2 < (l0_1.length : Int)
    · by_cases hl : l0_1.length < 64
      · have hk : 0 ≤ a2 ∧ a2 < ((if false = true then l0_0 else l0_1).length : Int) ∧ (if false = true then l0_0 else l0_1).length < 64 := ⟨hi.1, hi.2, hl⟩
        rw [if_pos hk] at h2
        simp only [Bool.false_eq_true, if_false, if_true, Prod.mk.injEq] at h2
        obtain ⟨rfl, rfl, rfl⟩ := h2
        refine (twice_in_down A0_0 _ c0_0 A0_1 c0_1 a2 _ l0_1 w hr1.2.2 hr1.2.1 hl ((mem l0_1 a2).1 hi)).mono ?_
        rintro e w' ⟨v, rfl, hR, hb⟩
        obtain ⟨A, c, rfl⟩ := Kd.R_slice hR
        exact ⟨_, _, rfl, Kd.V_mono (Kd.V_below hs0_0 hb) (fun _ hk => .inl (.inl hk)), fresh _ _ _ _ hR, hb⟩
      · have hk : ¬ (0 ≤ a2 ∧ a2 < ((if false = true then l0_0 else l0_1).length : Int) ∧ (if false = true then l0_0 else l0_1).length < 64) := fun hq => hl hq.2.2
        rw [if_neg hk] at h2
        simp only [Prod.mk.injEq] at h2
        obtain ⟨rfl, rfl, rfl⟩ := h2
        exact (twice_full_down A0_0 _ c0_0 A0_1 c0_1 a2 _ l0_1 w hr1.2.2 hr1.2.1 (by omega) ((mem l0_1 a2).1 hi)).mono stay
    · have hk : ¬ (0 ≤ a2 ∧ a2 < ((if false = true then l0_0 else l0_1).length : Int) ∧ (if false = true then l0_0 else l0_1).length < 64) := fun hq => hi ⟨hq.1, hq.2.1⟩
      rw [if_neg hk] at h2
      simp only [Prod.mk.injEq] at h2
      obtain ⟨rfl, rfl, rfl⟩ := h2
      exact (twice_out_down A0_0 _ c0_0 A0_1 c0_1 a2 _ l0_1 w hr1.2.2 hr1.2.1 ((mem l0_1 a2).2 hi)).mono stay
  · by_cases hi : 0 ≤ a2 ∧ a2 < (l0_0.length : Int)
    · by_cases hl : l0_0.length < 64
      · have hk : 0 ≤ a2 ∧ a2 < ((if true = true then l0_0 else l0_1).length : Int) ∧ (if true = true then l0_0 else l0_1).length < 64 := ⟨hi.1, hi.2, hl⟩
        rw [if_pos hk] at h2
        simp only [Bool.false_eq_true, if_false, if_true, Prod.mk.injEq] at h2
        obtain ⟨rfl, rfl, rfl⟩ := h2
        refine (twice_in_up A0_0 c0_0 A0_1 _ c0_1 a2 _ l0_0 w hr0.2.2 hr0.2.1 hl ((mem l0_0 a2).1 hi)).mono ?_
        rintro e w' ⟨v, rfl, hR, hb⟩
        obtain ⟨A, c, rfl⟩ := Kd.R_slice hR
        exact ⟨_, _, rfl, fresh _ _ _ _ hR, Kd.V_mono (Kd.V_below hs0_1 hb) (fun _ hk => .inl (.inr hk)), hb⟩
      · have hk : ¬ (0 ≤ a2 ∧ a2 < ((if true = true then l0_0 else l0_1).length : Int) ∧ (if true = true then l0_0 else l0_1).length < 64) := fun hq => hl hq.2.2
        rw [if_neg hk] at h2
        simp only [Prod.mk.injEq] at h2
        obtain ⟨rfl, rfl, rfl⟩ := h2
        exact (twice_full_up A0_0 c0_0 A0_1 _ c0_1 a2 _ l0_0 w hr0.2.2 hr0.2.1 (by omega) ((mem l0_0 a2).1 hi)).mono stay
    · have hk : ¬ (0 ≤ a2 ∧ a2 < ((if true = true then l0_0 else l0_1).length : Int) ∧ (if true = true then l0_0 else l0_1).length < 64) := fun hq => hi ⟨hq.1, hq.2.1⟩
      rw [if_neg hk] at h2
      simp only [Prod.mk.injEq] at h2
      obtain ⟨rfl, rfl, rfl⟩ := h2
      exact (twice_out_up A0_0 c0_0 A0_1 _ c0_1 a2 _ l0_0 w hr0.2.2 hr0.2.1 ((mem l0_0 a2).2 hi)).mono stay
end Go.Proofs.Ytcefnaacnilojaa.Q
