/- Layer 4, walked: the document's example. -/
import Derived.Test.YtoknncbdfdgfjaaDiskD
set_option linter.unusedVariables false
set_option linter.unusedSimpArgs false
namespace Go.Proofs.Ytoknncbdfdgfjaa.Q
open Go.RowKit Go.Shelf Go.Proofs.YtoknncbdfdgfjaaW.PrintWords Go.Proofs.YtoknncbdfdgfjaaW.PrintLast Go.Proofs.YtoknncbdfdgfjaaW.PrintMore

def hiS : ByteArray := ⟨#[104, 105]⟩
/-- A row of one text. -/
theorem one_row {w : World} {base : Nat} {ok : Nat → Prop} {v : Value} {s : ByteArray} (h : Kd.R Kd.string 9 w base ok v [s]) : ∃ g c, v = .slice (some ⟨g, 0, none⟩) 1 c ∧ w.cell? ⟨g, 0, none⟩ = some (.string s) ∧ base ≤ g ∧ g < w.heap.size := by
  obtain ⟨A, c, rfl⟩ := Kd.R_slice h
  have hb := Kd.R_bound h
  have hl := Kd.R_lt h
  obtain ⟨_, _, hC⟩ := Kd.R_reads' h
  have ho := Kd.own_of_R h
  rcases ho.2 with ⟨h1, h2⟩ | ⟨g, cap, cur, h1, h2, h3, h4, h5, h6, h7⟩
  · cases h2
  · refine ⟨g, cap, h1, ?_, h2, blk_lt h3⟩
    rw [blk_cell h3]
    have : cur.toList[0]? = some (.string s) := by
      have h8 := congrArg (·[0]?) h7
      simp only [List.getElem?_take] at h8
      simpa [encs] using h8
    simpa using this
/-- A variable of three cells. -/
def Box3 (W : World) (b : Nat) (x y z : Value) : Prop := W.heap[b]? = some (.cells #[x, y, z] 25 (0, 0))
theorem Box3.cells {W : World} {b : Nat} {x y z : Value} (h : Box3 W b x y z) : W.cell? ⟨b, 0, none⟩ = some x ∧ W.cell? ⟨b, 1, none⟩ = some y ∧ W.cell? ⟨b, 2, none⟩ = some z ∧ W.frozen? ⟨b, 0, none⟩ = false ∧ W.frozen? ⟨b, 1, none⟩ = false ∧ W.frozen? ⟨b, 2, none⟩ = false :=
  ⟨by rw [blk_cell h]; rfl, by rw [blk_cell h]; rfl, by rw [blk_cell h]; rfl, blk_frozen h 0, blk_frozen h 1, blk_frozen h 2⟩
theorem Box3.below {W V : World} {b : Nat} {x y z : Value} (h : Box3 W b x y z) (hb : Below W.heap.size W V) : Box3 V b x y z := (hb.block b (blk_lt h)).trans h
theorem Box3.put {W : World} {b : Nat} {x y z : Value} (h : Box3 W b x y z) (x' y' z' : Value) : Box3 (((W.setCell ⟨b, 0, none⟩ x').setCell ⟨b, 1, none⟩ y').setCell ⟨b, 2, none⟩ z') b x' y' z' :=
  blk_set (blk_set (blk_set h 0 x') 1 y') 2 z'
theorem Box3.new (W : World) (x y z : Value) : Box3 (W.alloc (.cells #[x, y, z] 25)) W.heap.size x y z := heap_alloc_new W _
theorem below_put3 {B b : Nat} {w W : World} (h : Below B w W) (hB : B ≤ b) (x y z : Value) : Below B w (((W.setCell ⟨b, 0, none⟩ x).setCell ⟨b, 1, none⟩ y).setCell ⟨b, 2, none⟩ z) :=
  ((h.setCell (p := ⟨b, 0, none⟩) hB _).setCell (p := ⟨b, 1, none⟩) hB _).setCell (p := ⟨b, 2, none⟩) hB _
theorem V_of_R {α : Type} {d : Kd α} {e : Nat} {w : World} {base base' n c : Nat} {ok : Nat → Prop} {A : Option Addr} {xs : List α} (h : d.R e w base ok (.slice A n c) xs) (hn : n = xs.length) : Kd.V d e w base' (fun _ => True) (.slice A n c) xs := by
  subst hn
  exact Kd.V_mk (Kd.R_reads' h).2.1 (Kd.R_F (Kd.R_mono h (fun _ _ => trivial)))
theorem V_put3 {α : Type} {d : Kd α} {e : Nat} {w : World} {base b : Nat} {ok : Nat → Prop} {v : Value} {xs : List α} (h : Kd.V d e w base ok v xs) (hok : ∀ k, ok k → k ≠ b) (x y z : Value) : Kd.V d e (((w.setCell ⟨b, 0, none⟩ x).setCell ⟨b, 1, none⟩ y).setCell ⟨b, 2, none⟩ z) base ok v xs :=
  Kd.V_far (Kd.V_far (Kd.V_far h hok x) hok y) hok z
theorem V_lt {α : Type} {d : Kd α} {e : Nat} {w : World} {base : Nat} {ok : Nat → Prop} {v : Value} {xs : List α} (h : Kd.V d e w base ok v xs) : Kd.V d e w base (fun k => k < w.heap.size) v xs := Kd.V_mono (Kd.V_bound h) (fun _ hk => hk.2)
theorem C_put3 {α : Type} {d : Kd α} (hd : Kd.Heap d) {w W : World} {A : Option Addr} {n : Nat} {xs : List α} (h : d.C w A n xs) {b : Nat} (hb : w.heap.size ≤ b) (hW : ∀ k, k < w.heap.size → W.heap[k]? = w.heap[k]?) : d.C W A n xs :=
  Kd.F_now (Kd.F_step (Kd.C_F hd h) (fun k hk _ => hW k hk))
def disk_Flush.f (l0_0 : List ByteArray) (l0_1 : List S31) (a0_2 : Bool) : Option (List ByteArray × List S31 × Bool × Int) := if a0_2 = true then some (l0_0, l0_1, a0_2, 19) else if DiskOk l0_0 l0_1 then some (doneL l0_0 l0_1 fun _ => true, [], false, 0) else none
set_option maxRecDepth 100000 in
set_option maxHeartbeats 1000000 in
theorem flush_off (A0 : Option Addr) (c0 n0 : Nat) (A1 : Option Addr) (c1 n1 : Nat) (w : World) :
    Calls Try.prog 14 #[.agg #[.slice A0 n0 c0, .slice A1 n1 c1, .bool true]] w fun e w' => e = .returned (.tuple #[.agg #[.slice A0 n0 c0, .slice A1 n1 c1, .bool true], .int .i64 19]) ∧ Below w.heap.size w w' := by
  go_enter Try.func14, Try.ntmps14
  go_wp2_with fail
  refine bodyPost_ret (v := .tuple #[.agg #[.slice A0 n0 c0, .slice A1 n1 c1, .bool true], .int .i64 19]) (by simp [results, Try.results14, go_sem]) rfl ⟨rfl, ?_⟩
  exact ((Below.refl _ w).alloc (Nat.le_refl _) _).alloc (by rw [World.size_alloc]; omega) _
set_option maxRecDepth 100000 in
set_option maxHeartbeats 1000000 in
theorem flush_on (A0 : Option Addr) (c0 : Nat) (l0 : List ByteArray) (A1 : Option Addr) (c1 : Nat) (l1 : List S31) (w : World) (h0 : Kd.C Kd.string w A0 l0.length l0) (g0 : l0.length ≤ c0) (h1 : Kd.C k31 w A1 l1.length l1) (g1 : l1.length ≤ c1) (hok : DiskOk l0 l1) :
    Calls Try.prog 14 #[.agg #[.slice A0 l0.length c0, .slice A1 l1.length c1, .bool false]] w fun e w' => ∃ v, e = .returned (.tuple #[.agg #[v, .slice none 0 0, .bool false], .int .i64 0]) ∧ Kd.R Kd.string 9 w' w.heap.size (fun _ => True) v (doneL l0 l1 fun _ => true) ∧ Below w.heap.size w w' := by
  obtain ⟨W2, hW2⟩ : ∃ W2, W2 = (w.alloc (.cells #[.slice A0 l0.length c0, .slice A1 l1.length c1, .bool false] 25)).alloc (.cells #[.slice none 0 0, .slice none 0 0, .bool false] 25) := ⟨_, rfl⟩
  have hB2 : Below w.heap.size w W2 := by rw [hW2]; exact ((Below.refl _ w).alloc (Nat.le_refl _) _).alloc (by rw [World.size_alloc]; omega) _
  have hx2 : Box3 W2 (w.heap.size + 1) (.slice none 0 0) (.slice none 0 0) (.bool false) := by
    have h := heap_alloc_new (w.alloc (.cells #[.slice A0 l0.length c0, .slice A1 l1.length c1, .bool false] 25)) (.cells #[.slice none 0 0, .slice none 0 0, .bool false] 25)
    rw [World.size_alloc] at h
    rw [hW2]; exact h
  have hi := disk_Image.calls A0 c0 l0 A1 c1 l1 false _ W2 (Kd.C_below h0 hB2) g0 (Kd.C_below h1 hB2) g1 (show disk_Image.f l0 l1 false = some (doneL l0 l1 fun _ => true) by unfold disk_Image.f; rw [if_pos hok])
  have HI := Lib.hid hi; have HB2 := Lib.hid hB2; have HX2 := Lib.hid hx2
  rw [hW2] at HI
  have HW2 := Lib.hid hW2
  clear hi hB2 hx2 hW2 h0 h1
  go_enter Try.func14, Try.ntmps14
  go_wp2_with fail
  refine HI.out.mono ?_
  rw [← HW2.out]
  rintro e w3 ⟨v, rfl, hR, hb⟩
  obtain ⟨A, c, rfl⟩ := Kd.R_slice hR
  obtain ⟨q0, q1, q2, f0, f1, f2⟩ := (HX2.out.below hb).cells
  have hz := blk_lt (HX2.out.below hb)
  have hzz := blk_lt HX2.out
  have HR := Lib.hid (Kd.R_lower hR (show w.heap.size + 1 + 1 ≤ _ by omega)); have HB := Lib.hid (HB2.out.trans (hb.mono HB2.out.size))
  clear hR hb
  go_wp2_with fail
  refine bodyPost_ret (v := .tuple #[.agg #[.slice A (doneL l0 l1 fun _ => true).length c, .slice none 0 0, .bool false], .int .i64 0]) (by simp [results, Try.results14, go_sem, q0, q1, q2]) rfl ⟨_, rfl, ?_, ?_⟩
  · exact Kd.R_mono (Kd.R_lower (Kd.R_far (Kd.R_far (Kd.R_far (Kd.R_bound HR.out) (fun k hk => by have := hk.2.1; show k ≠ w.heap.size + 1; omega) _) (fun k hk => by have := hk.2.1; show k ≠ w.heap.size + 1; omega) _) (fun k hk => by have := hk.2.1; show k ≠ w.heap.size + 1; omega) _) (by omega)) (fun _ _ => trivial)
  · exact below_put3 HB.out (by omega) _ _ _
theorem disk_Flush.calls (P0_0_ : Nat → Prop) (A0_0 : Option Addr) (c0_0 : Nat) (l0_0 : List ByteArray) (P0_1_ : Nat → Prop) (A0_1 : Option Addr) (c0_1 : Nat) (l0_1 : List S31) (a0_2 : Bool) (r1 : List ByteArray) (r2 : List S31) (r3 : Bool) (r4 : Int) (w : World) (hs0_0 : Kd.V Kd.string 9 w w.heap.size (fun k_ => P0_0_ k_) (.slice A0_0 l0_0.length c0_0) l0_0) (hs0_1 : Kd.V k31 31 w w.heap.size (fun k_ => P0_1_ k_) (.slice A0_1 l0_1.length c0_1) l0_1) (h : disk_Flush.f l0_0 l0_1 a0_2 = some (r1, r2, r3, r4)) :
    Calls Try.prog 14 #[.agg #[.slice A0_0 l0_0.length c0_0, .slice A0_1 l0_1.length c0_1, .bool a0_2]] w fun e w' => ∃ v0_ v1_ : Value, e = .returned (.tuple #[.agg #[v0_, v1_, .bool r3], .int .i64 r4]) ∧ Kd.V Kd.string 9 w' w.heap.size (fun k_ => ((P0_0_ k_ ∨ P0_1_ k_) ∨ w.heap.size ≤ k_)) v0_ r1 ∧ Kd.V k31 31 w' w.heap.size (fun k_ => ((P0_0_ k_ ∨ P0_1_ k_) ∨ w.heap.size ≤ k_)) v1_ r2 ∧ Below w.heap.size w w' := by
  unfold disk_Flush.f at h
  by_cases hoff : a0_2 = true
  · rw [if_pos hoff] at h
    have h2 := Option.some.inj h
    simp only [Prod.mk.injEq] at h2
    obtain ⟨rfl, rfl, rfl, rfl⟩ := h2
    subst hoff
    refine (flush_off _ _ _ _ _ _ _).mono ?_
    rintro e w' ⟨rfl, hb⟩
    exact ⟨_, _, rfl, Kd.V_mono (Kd.V_below hs0_0 hb) (fun _ hk => .inl (.inl hk)), Kd.V_mono (Kd.V_below hs0_1 hb) (fun _ hk => .inl (.inr hk)), hb⟩
  · rw [if_neg hoff] at h
    obtain rfl : a0_2 = false := by simpa using hoff
    split at h
    · rename_i hok
      have h2 := Option.some.inj h
      simp only [Prod.mk.injEq] at h2
      obtain ⟨rfl, rfl, rfl, rfl⟩ := h2
      have hr0 := Kd.V_reads' hs0_0
      have hr1 := Kd.V_reads' hs0_1
      refine (flush_on A0_0 c0_0 l0_0 A0_1 c0_1 l0_1 w hr0.2.2 hr0.2.1 hr1.2.2 hr1.2.1 hok).mono ?_
      rintro e w' ⟨v, rfl, hR, hb⟩
      obtain ⟨A, c, rfl⟩ := Kd.R_slice hR
      exact ⟨_, _, rfl, Kd.V_mk (Kd.R_reads' hR).2.1 (Kd.R_F (Kd.R_mono (Kd.R_bound hR) (fun k hk => .inr hk.2.1))), Kd.V_nil _ _ _ _ _, hb⟩
    · cases h
theorem crash_none : disk_Crash.f [zeroS] [⟨0, fillS hiS⟩] false [] = some ([zeroS], [], false) := by
  unfold disk_Crash.f
  rw [if_pos ⟨by simp, by simp, by simp, by simp⟩]
  rfl
theorem crash_all : disk_Crash.f [zeroS] [⟨0, fillS hiS⟩] false [true] = some ([fillS hiS], [], false) := by
  unfold disk_Crash.f
  rw [if_pos ⟨by simp, by simp, by simp, by simp⟩]
  rfl
theorem write_hi : disk_Write.f [zeroS] [] false 0 hiS = some ([zeroS], [⟨0, fillS hiS⟩], false, 0) := by
  unfold disk_Write.f
  rw [if_pos (by simp)]
  rfl
theorem zeroS_size : zeroS.size = 64 := by decide +kernel
theorem fill_size : (fillS hiS).size = 64 := by decide +kernel
def copyholdlaw04_shown.f : Option Bool := some true
set_option maxRecDepth 100000 in
set_option maxHeartbeats 2000000 in
theorem copyholdlaw04_shown.calls (r : Bool) (w : World) (h : copyholdlaw04_shown.f = some r) : Calls Try.prog 9 #[] w fun e w' => e = .returned (.bool r) ∧ Below w.heap.size w w' := by
  obtain rfl := Option.some.inj h
  clear h
  go_enter Try.func9, Try.ntmps9
  go_wp2_with fail
  refine (disk_New.calls 1 _ _ _ _ w (show disk_New.f 1 = some ([zeroS], [], false, 0) from rfl)).mono ?_
  rintro e w1 ⟨v0, v1, rfl, hR0, hR1, hb1⟩
  obtain ⟨g0, c0, rfl, hg0, hg0b, hg0l⟩ := one_row hR0
  obtain ⟨A1, c1, rfl⟩ := Kd.R_slice hR1
  have HR0 := Lib.hid hR0; have HR1 := Lib.hid hR1; have HB1 := Lib.hid hb1
  have hz1 := hb1.size
  clear hR0 hR1 hb1
  go_wp2_with fail
  have hx1 := Box3.new w1 (.slice (some ⟨g0, 0, none⟩) 1 c0) (.slice A1 0 c1) (.bool false)
  refine (disk_Write.calls (fun k => k < w1.heap.size) (some ⟨g0, 0, none⟩) c0 [zeroS] (fun k => k < w1.heap.size) A1 c1 [] false 0 hiS _ _ _ _ _ (Kd.V_alloc (V_lt (V_of_R (base' := w1.heap.size + 1) HR0.out rfl)) _) (Kd.V_alloc (V_lt (V_of_R (base' := w1.heap.size + 1) HR1.out rfl)) _) write_hi).mono ?_
  rintro e w2 ⟨u0, u1, rfl, hV0, hV1, hb2⟩
  have HX1 := Lib.hid (hx1.below hb2)
  obtain ⟨A0, d0, rfl⟩ := Kd.V_slice hV0
  obtain ⟨A2, d2, rfl⟩ := Kd.V_slice hV1
  have HV0 := Lib.hid hV0; have HV1 := Lib.hid hV1; have HB2 := Lib.hid hb2
  have hz2 := hb2.size
  obtain ⟨q0, q1, q2, f0, f1, f2⟩ := HX1.out.cells
  clear hV0 hV1 hb2 hx1
  have hok : ∀ k, ((k < w1.heap.size ∨ k < w1.heap.size) ∨ (w1.alloc (.cells #[.slice (some ⟨g0, 0, none⟩) 1 c0, .slice A1 0 c1, .bool false] 25)).heap.size ≤ k) → k ≠ w1.heap.size := by
    intro k hk; rw [World.size_alloc] at hk; omega
  obtain ⟨W3, hW3⟩ : ∃ W3, W3 = (((w2.setCell ⟨w1.heap.size, 0, none⟩ (.slice A0 1 d0)).setCell ⟨w1.heap.size, 1, none⟩ (.slice A2 1 d2)).setCell ⟨w1.heap.size, 2, none⟩ (.bool false)) := ⟨_, rfl⟩
  have k0 : Kd.C Kd.string W3 A0 1 [zeroS] := by rw [hW3]; exact (Kd.V_reads' (V_put3 HV0.out hok _ _ _)).2.2
  have k1 : Kd.C k31 W3 A2 1 [⟨0, fillS hiS⟩] := by rw [hW3]; exact (Kd.V_reads' (V_put3 HV1.out hok _ _ _)).2.2
  have x3 : Box3 W3 w1.heap.size (.slice A0 1 d0) (.slice A2 1 d2) (.bool false) := by rw [hW3]; exact HX1.out.put _ _ _
  have l0 : 1 ≤ d0 := (Kd.V_at HV0.out).2.1
  have l1 : 1 ≤ d2 := (Kd.V_at HV1.out).2.1
  have B3 : Below w.heap.size w W3 := by
    rw [hW3]
    exact below_put3 ((HB1.out.alloc HB1.out.size _).trans (HB2.out.mono (by rw [World.size_alloc]; omega))) (by omega) _ _ _
  have hc1 := disk_Crash.calls A0 d0 [zeroS] A2 d2 [⟨0, fillS hiS⟩] false none 0 [] _ _ _ W3 k0 l0 k1 l1 (Kd.C_nil _ _) (Nat.le_refl _) crash_none
  have HC1 := Lib.hid hc1; have K0 := Lib.hid k0; have K1 := Lib.hid k1; have X3 := Lib.hid x3; have HB3 := Lib.hid B3
  rw [hW3] at HC1
  have HW3 := Lib.hid hW3
  clear hc1 k0 k1 x3 B3 hW3 hok
  go_wp2_with fail
  refine HC1.out.mono ?_
  rw [← HW3.out]
  rintro e w4 ⟨v2, v3, rfl, hR2, hR3, hb4⟩
  obtain ⟨g4, c4, rfl, h4a, h4b, h4l⟩ := one_row hR2
  obtain ⟨A5, c5, rfl⟩ := Kd.R_slice hR3
  have HX4 := Lib.hid (X3.out.below hb4)
  have HB4 := Lib.hid (HB3.out.trans (hb4.mono HB3.out.size))
  have hbb := hb4
  have k0 := Kd.C_below K0.out hb4
  have k1 := Kd.C_below K1.out hb4
  obtain ⟨p0, p1, p2, _, _, _⟩ := HX4.out.cells
  have hz4 : w1.heap.size < w4.heap.size := blk_lt HX4.out
  have HH4 := Lib.hid h4a
  clear hR2 hR3 hb4 hbb q0 q1 q2 f0 f1 f2 h4a
  have J0 := Lib.hid k0; have J1 := Lib.hid k1
  clear k0 k1
  -- the second crash
  obtain ⟨W5, hW5⟩ : ∃ W5, W5 = (w4.alloc (.cells #[.slice (some ⟨g4, 0, none⟩) 1 c4, .slice A5 0 c5, .bool false] 25)).alloc (.cells #[.bool true] 4) := ⟨_, rfl⟩
  have b5 : Below w4.heap.size w4 W5 := by rw [hW5]; exact ((Below.refl _ _).alloc (Nat.le_refl _) _).alloc (by rw [World.size_alloc]; omega) _
  have n5 : W5.heap[w4.heap.size + 1]? = some (.cells #[.bool true] 4 (0, 0)) := by
    have h := heap_alloc_new (w4.alloc (.cells #[.slice (some ⟨g4, 0, none⟩) 1 c4, .slice A5 0 c5, .bool false] 25)) (.cells #[.bool true] 4)
    rw [World.size_alloc] at h
    rw [hW5]; exact h
  have x5 : Box3 W5 w4.heap.size (.slice (some ⟨g4, 0, none⟩) 1 c4) (.slice A5 0 c5) (.bool false) := by
    rw [hW5]; exact (heap_alloc_old _ _ (by rw [World.size_alloc]; omega)).trans (heap_alloc_new _ _)
  have m0 : W5.cell? ⟨g4, 0, none⟩ = some (.string zeroS) := (b5.cell (p := ⟨g4, 0, none⟩) h4l).trans HH4.out
  have ml : g4 < W5.heap.size := Nat.lt_of_lt_of_le h4l b5.size
  have k2 : Kd.C Kd.bool W5 (some ⟨w4.heap.size + 1, 0, none⟩) 1 [true] := ⟨rfl, by decide, fun _ => ⟨_, rfl, fun j p hj => by
    match j, hj with
    | 0, hj =>
      obtain rfl := Option.some.inj hj
      refine ⟨[.bool true], rfl, rfl, fun i u hi => ?_⟩
      match i, hi with
      | 0, hi => obtain rfl := Option.some.inj hi; exact (blk_cell n5 0).trans rfl⟩⟩
  have hc2 := disk_Crash.calls A0 d0 [zeroS] A2 d2 [⟨0, fillS hiS⟩] false (some ⟨w4.heap.size + 1, 0, none⟩) 1 [true] _ _ _ W5 (Kd.C_below J0.out b5) l0 (Kd.C_below J1.out b5) l1 k2 (Nat.le_refl _) crash_all
  have HC2 := Lib.hid hc2; have HB5 := Lib.hid (HB4.out.trans (b5.mono (by omega))); have HM0 := Lib.hid m0; have HX5 := Lib.hid x5
  rw [hW5] at HC2
  have HW5 := Lib.hid hW5
  clear hc2 b5 n5 k2 hW5 m0 x5
  go_wp2_with fail
  refine HC2.out.mono ?_
  rw [← HW5.out]
  rintro e w6 ⟨v2, v3, rfl, hR2, hR3, hb6⟩
  obtain ⟨g6, c6, rfl, h6a, h6b, h6l⟩ := one_row hR2
  obtain ⟨A7, c7, rfl⟩ := Kd.R_slice hR3
  have x6 := HX5.out.below hb6
  obtain ⟨y0, y1, y2, _, _, _⟩ := x6.cells
  have m0 := (hb6.cell (p := ⟨g4, 0, none⟩) ml).trans HM0.out
  have ml6 : g4 < w6.heap.size := Nat.lt_of_lt_of_le ml hb6.size
  have yl : w4.heap.size < w6.heap.size := blk_lt x6
  have HB6 := Lib.hid (HB5.out.trans (hb6.mono HB5.out.size))
  clear hR2 hR3 hb6 x6 p0 p1 p2
  have e1 := zeroS_size
  have e2 := fill_size
  go_wp2_with fail
  go_ret
  rw [show (((fillS hiS).extract 0 2).toList == [104, 105]) = true by decide +kernel]
  exact ⟨rfl, HB6.out.alloc HB6.out.size _⟩
end Go.Proofs.Ytoknncbdfdgfjaa.Q
